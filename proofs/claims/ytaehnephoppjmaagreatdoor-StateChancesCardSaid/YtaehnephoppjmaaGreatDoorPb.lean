/- Plain laws: gates, runs; all ways that a run can go. -/
import Derived.Test.YtaehnephoppjmaaGreatDoorPa
import Derived.Test.YtaehnephoppjmaaGreatDoorWc
import Derived.Test.YtaehnephoppjmaaGreatDoorGa
set_option linter.all false
section
section
namespace Go.Ql
theorem pow63 {q:Int} (h:0≤q∧q≤62):IntKind.i64.wrap ((1:Int)*(2:Int)^Min.min (Int.toNat q) (64:Nat))=((2^q.toNat:Nat):Int):=by
 rw [Nat.min_eq_left (by omega),Int.one_mul]
 have h1:(2:Nat)^q.toNat≤2^62:=Nat.pow_le_pow_right (by omega) (by omega)
 have h2:((2^q.toNat:Nat):Int)=(2:Int)^q.toNat:=by simp
 have h3:(2:Nat)^62=4611686018427387904:=by decide
 rw [h3] at h1
 rw [←h2,jh (by have:=Int.natCast_nonneg (2^q.toNat);omega)]
theorem Ht {x:Nat} {q:Int} (hx:x<2^63) (hq:0≤q∧q<64):W.kH (x:Int) q=some (if bt q x=true then 1 else 0):=by
 unfold W.kH
 have h1:Int.fdiv (x:Int) ((2:Int)^Min.min (Int.toNat q) (64:Nat))=((x / 2^q.toNat:Nat):Int):=by
  rw [Nat.min_eq_left (by omega),Int.fdiv_eq_ediv_of_nonneg _ (by have:(0:Int)≤((2^q.toNat:Nat):Int):=Int.natCast_nonneg _;simpa using this)]
  norm_cast
 have h2:=HL (a:=x / 2^q.toNat) (b:=1) (Nat.lt_of_le_of_lt (Nat.div_le_self _ _) hx) (by decide)
 rw [show ((1:Nat):Int)=1 from rfl] at h2
 rw [jr (by simpa using hq.1),ja,h1,h2]
 have h3:x / 2^q.toNat &&& 1=x / 2^q.toNat % 2:=Nat.and_one_is_mod _
 have h4:bt q x=decide (x / 2^q.toNat % 2=1):=by
  unfold bt
  rw [Nat.testBit,Nat.shiftRight_eq_div_pow,Nat.and_comm 1,h3]
  have:x / 2^q.toNat % 2=0∨x / 2^q.toNat % 2=1:=by omega
  rcases this with h | h<;>rw [h]<;>rfl
 rw [h3,h4]
 have:x / 2^q.toNat % 2=0∨x / 2^q.toNat % 2=1:=by omega
 rcases this with h | h<;>rw [h]<;>rfl
def Qs (l:List Int):Prop:=∀q∈l,0≤q∧q<62
theorem ones_iff {l:List Int} {x:Nat}:onesB l x=true ↔ ∀j,j<l.length→bt (l.getD j 0) x=true:=by
 unfold onesB
 rw [List.all_eq_true]
 constructor
 ·intro h j hj
  have e:l.getD j 0=l[j]:=by simp [hj]
  rw [e];exact h _ (List.getElem_mem hj)
 ·intro h q hq
  obtain ⟨j,hj,e⟩:=List.mem_iff_getElem.1 hq
  have:=h j hj
  have e2:l.getD j 0=l[j]:=by simp [hj]
  rw [e2,e] at this
  exact this
theorem qs_at {l:List Int} (h:Qs l) {j:Nat} (hj:j<l.length):0≤l.getD j 0∧l.getD j 0<62:=by
 have e:l.getD j 0=l[j]:=by simp [hj]
 rw [e];exact h _ (List.getElem_mem hj)
theorem allOne_ok {x:Nat} {l:List Int} (hx:x<2^63) (hl:Qs l) (hn:l.length<2^62):W.JY (x:Int) l=some (onesB l x):=by
 obtain ⟨y,h1,h2⟩:=Jo (f:=fun s:Int↦W.JY.cc_ (x:Int) l s some) l.length
  (fun i s=>s=(i:Int) ∧ ∀j,j<i→bt (l.getD j 0) x=true)
  (fun y=>(∃i,y=.inl i∧onesB l x=false)∨(∃i,y=.inr i∧onesB l x=true))
  (by
   rintro i s hi ⟨rfl,h2⟩
   have hq:=qs_at hl hi
   simp only [W.JY.cc_]
   rw [ju (by omega),Jf i rfl hi,ja,Ht hx (by omega),ja]
   by_cases hb:bt (l.getD i 0) x=true
   ·rw [if_pos hb,jG (by decide),jh (by omega)]
    refine .inl ⟨_,rfl,by omega,fun j hj=>?_⟩
    by_cases e:j=i
    ·rw [e];exact hb
    ·exact h2 j (by omega)
   ·rw [if_neg hb,Ja (by decide)]
    exact .inr ⟨_,rfl,.inl ⟨_,rfl,by
     rw [←Bool.not_eq_true]
     exact fun h=>hb (ones_iff.1 h i hi)⟩⟩)
  (by
   rintro s ⟨rfl,h2⟩
   simp only [W.JY.cc_]
   rw [js (by omega)]
   exact ⟨_,rfl,.inr ⟨_,rfl,ones_iff.2 h2⟩⟩)
  (s:=(0:Int)) ⟨rfl,fun j hj=>by omega⟩
 unfold W.JY
 rw [h1,ja]
 rcases h2 with ⟨i,rfl,h3⟩ | ⟨i,rfl,h3⟩
 ·rw [JL,h3]
 ·rw [ke,h3]
def condK (bits:List Int) (o:GOp):Bool:=o.2.2.2.2.2.all fun c=>(decide (c≤0)||bits.getD (c-1).toNat 0==1)&&(decide (0≤c)||bits.getD (-c-1).toNat 0==0)
theorem cond_ok {o:GOp} {bits:List Int} (hn:o.2.2.2.2.2.length<2^62) (hb:bits.length<2^62) (hc:∀c∈o.2.2.2.2.2,c≠0∧c≤bits.length ∧ -c≤bits.length):W.jJ o bits=some (condK bits o):=by
 obtain ⟨o0,o1,o2,o3,o4,l⟩:=o
 simp only at *
 obtain ⟨y,h1,h2⟩:=Jo (f:=fun s:Int↦W.jJ.cc_ bits s l some) l.length
  (fun i s=>s=(i:Int) ∧ ∀j,j<i→((decide (l.getD j 0≤0)||bits.getD (l.getD j 0-1).toNat 0==1)&&(decide (0≤l.getD j 0)||bits.getD (-l.getD j 0-1).toNat 0==0))=true)
  (fun y=>(∃i,y=.inl i∧condK bits (o0,o1,o2,o3,o4,l)=false)∨(∃i,y=.inr i∧condK bits (o0,o1,o2,o3,o4,l)=true))
  (by
   rintro i s hi ⟨rfl,h2⟩
   have hm:l.getD i 0∈l:=by
    have e:l.getD i 0=l[i]:=by simp [hi]
    rw [e];exact List.getElem_mem hi
   obtain ⟨c0,c1,c2⟩:=hc _ hm
   have hbad:((decide (l.getD i 0≤0)||bits.getD (l.getD i 0-1).toNat 0==1)&&(decide (0≤l.getD i 0)||bits.getD (-l.getD i 0-1).toNat 0==0))=false→condK bits (o0,o1,o2,o3,o4,l)=false:=fun hf=>by
    rw [←Bool.not_eq_true]
    intro ht
    unfold condK at ht
    rw [List.all_eq_true] at ht
    have:=ht _ hm
    rw [hf] at this
    cases this
   have hgo:((decide (l.getD i 0≤0)||bits.getD (l.getD i 0-1).toNat 0==1)&&(decide (0≤l.getD i 0)||bits.getD (-l.getD i 0-1).toNat 0==0))=true → ∀j,j<i+1→((decide (l.getD j 0≤0)||bits.getD (l.getD j 0-1).toNat 0==1)&&(decide (0≤l.getD j 0)||bits.getD (-l.getD j 0-1).toNat 0==0))=true:=fun ht j hj=>by
    by_cases e:j=i
    ·rw [e];exact ht
    ·exact h2 j (by omega)
   simp only [W.jJ.cc_,W.jJ.c4,W.jJ.c6]
   rw [ju (by omega),Jf i rfl hi,ja]
   simp only [ja]
   generalize l.getD i 0=c at *
   by_cases hp:c>0
   ·rw [ju hp,jh (by omega),Jf (c-1).toNat (by omega) (by omega),ja,ja]
    have e2:decide (0≤c)=true:=decide_eq_true (by omega)
    have e1:decide (c≤0)=false:=decide_eq_false (by omega)
    rw [e1,e2] at hbad hgo
    by_cases hv:bits.getD (c-1).toNat 0=1
    ·rw [jG (by rw [hv];rfl)]
     rw [js (by omega),ja,br_ff,jh (by omega)]
     exact .inl ⟨_,rfl,by omega,hgo (by rw [hv];rfl)⟩
    ·rw [Ja (bne_iff_ne.2 hv)]
     exact .inr ⟨_,rfl,.inl ⟨_,rfl,hbad (by rw [beq_false_of_ne hv];rfl)⟩⟩
   ·rw [js hp,ja,br_ff,ju (by omega),jh (x:=0-c) (by omega),jh (by omega),Int.zero_sub,Jf (-c-1).toNat (by omega) (by omega),ja,ja]
    have e2:decide (0≤c)=false:=decide_eq_false (by omega)
    have e1:decide (c≤0)=true:=decide_eq_true (by omega)
    rw [e1,e2] at hbad hgo
    by_cases hv:bits.getD (-c-1).toNat 0=0
    ·rw [jG (by rw [hv];rfl),jh (by omega)]
     exact .inl ⟨_,rfl,by omega,hgo (by rw [hv];rfl)⟩
    ·rw [Ja (bne_iff_ne.2 hv)]
     exact .inr ⟨_,rfl,.inl ⟨_,rfl,hbad (by rw [beq_false_of_ne hv];rfl)⟩⟩)
  (by
   rintro s ⟨rfl,h2⟩
   simp only [W.jJ.cc_]
   rw [js (by omega)]
   refine ⟨_,rfl,.inr ⟨_,rfl,?_⟩⟩
   unfold condK
   rw [List.all_eq_true]
   intro c hcm
   obtain ⟨j,hj,e⟩:=List.mem_iff_getElem.1 hcm
   have:=h2 j hj
   have e2:l.getD j 0=l[j]:=by simp [hj]
   rw [e2,e] at this
   exact this)
  (s:=(0:Int)) ⟨rfl,fun j hj=>by omega⟩
 unfold W.jJ
 rw [h1,ja]
 rcases h2 with ⟨i,rfl,h3⟩ | ⟨i,rfl,h3⟩
 ·rw [JL,h3]
 ·rw [ke,h3]
theorem rhalf_ok {a:NumT} {k:K} {L E:Nat} (h:Num 10000 a k L E) (hL:L+L+E+E<70000) (hE:E≤10000) :
 ∃r,W.kn a=some r∧Num 10000 r (K.half k) (L+L+E+E+1) (E+1):=by
 obtain ⟨t,t1,t2⟩:=rturn_ok h (by omega) 2
 obtain ⟨u,u1,u2⟩:=rturn_ok h (by omega) 6
 obtain ⟨⟨c,ae⟩,s1,s2⟩:=rsub_ok t2 u2 (by omega) (by omega)
 obtain ⟨v,e,h1,h2,h3,h4,h5,h6⟩:=s2.has
 simp only at h1 h2
 subst h2
 have hk:K.half k=K.sm (1 / 2) (kv v e):=by rw [h4];rfl
 unfold W.kn W.kn.c1
 rw [t1,ja,u1,ja,s1,ja]
 simp only [bx_in,bx_at,ja]
 rw [VF h1,ja]
 by_cases hz:Vk v
 ·rw [ju hz]
  refine ⟨_,rfl,?_⟩
  have e0:K.half k=kv v e:=by
   rw [hk,(YA (e:=e)).1 hz]
   apply K.eq_of<;>simp only [K.sm,K.zero]<;>grind
  rw [e0]
  exact Num.mk' h1 rfl h3 rfl (h5.mono (by omega)) (by omega)
 ·rw [js hz,jh (by omega),show (e:Int)+1=((e+1:Nat):Int) by omega]
  simp only [List.set_cons_zero,bx_at,ja]
  obtain ⟨r,r1,r2⟩:=rleast_ok h1 h5 (by omega) (e+1) (by omega)
  rw [r1,ja]
  refine ⟨r,rfl,?_⟩
  obtain ⟨w,f,q1,q2,q3,q4,q5,q6⟩:=r2.has
  refine ⟨w,f,q1,q2,q3,?_,q5.mono (by omega),by omega⟩
  rw [q4,kv_half1,hk]
end Go.Ql
end
section
namespace Go.Ql
def z0:NumT:=(List.replicate 8 d0,(0:Int))
structure Amps (l:List NumT) (N:Nat) (v:KV) (t:Nat):Prop where
 len:l.length=N
 at_:∀x,x<N→Num 10000 (l.getD x z0) (v x) (2*t+1) t
 fit:∀x,x<N→FitsK (v x) (2*t+1) t
def cut (i:Nat) (v:KV):KV:=fun x=>if x<i then v x else K.zero
theorem gate_fits {o:GOp} {w:KV} {L t:Nat} (h:∀x,FitsK (w x) L t) (y:Nat):FitsK (gateK o w y) (L+2) (t+1):=by
 have h1:=fun x=>((h x).up 1).mono (show L+1≤L+2 by omega)
 have h2:=fun x=>(h x).half
 unfold gateK
 split
 ·exact h1 y
 ·split
  ·exact (h1 y).turn _
  ·split
   ·split
    ·exact (h1 y).turn _
    ·exact h1 y
   ·split
    ·exact h1 _
    ·split
     ·exact (h2 _).add (h2 y).neg
     ·exact (h2 _).add (h2 y)
theorem UN {o:GOp} {w w':KV} {y:Nat} (h1:w y=w' y) (h2:w (fl o.2.2.2.1 y)=w' (fl o.2.2.2.1 y)):gateK o w y=gateK o w' y:=by
 simp only [gateK,h1,h2]
theorem Hw {o:GOp} {w:KV} {y:Nat} (h:onesB o.2.2.1 y=false):gateK o w y=w y:=by
 unfold gateK
 rw [if_pos h]
theorem gate_turn {o:GOp} {w:KV} {y:Nat} (h:onesB o.2.2.1 y=true) (hk:o.1=1∨(o.1=4∧bt o.2.2.2.1 y=true)):gateK o w y=K.turn (w y) o.2.1.toNat:=by
 unfold gateK
 rw [if_neg (by simp [h])]
 rcases hk with hk | ⟨hk,hb⟩
 ·rw [if_pos hk]
 ·rw [if_neg (by omega),if_pos hk,if_pos hb]
theorem gate_stay {o:GOp} {w:KV} {y:Nat} (h:onesB o.2.2.1 y=true) (hk:o.1=4) (hb:¬bt o.2.2.2.1 y=true):gateK o w y=w y:=by
 unfold gateK
 rw [if_neg (by simp [h]),if_neg (by omega),if_pos hk,if_neg hb]
theorem Hf {o:GOp} {w:KV} {y:Nat} (h:onesB o.2.2.1 y=true) (hk:o.1=2):gateK o w y=w (fl o.2.2.2.1 y):=by
 unfold gateK
 rw [if_neg (by simp [h]),if_neg (by omega),if_neg (by omega),if_pos hk]
theorem UM {o:GOp} {w:KV} {y:Nat} (h:onesB o.2.2.1 y=true) (hk:o.1≠1∧o.1≠2∧o.1≠4) :
 gateK o w y=K.add (K.half (w (fl o.2.2.2.1 y))) (if bt o.2.2.2.1 y=true then K.neg (K.half (w y)) else K.half (w y)):=by
 unfold gateK
 rw [if_neg (by simp [h]),if_neg hk.1,if_neg hk.2.2,if_neg hk.2.1]
theorem gate_locP {o:GOp} {w w':KV} {y:Nat} (h1:w y=w' y) (hk:onesB o.2.2.1 y=false∨o.1=1∨o.1=4):gateK o w y=gateK o w' y:=by
 unfold gateK
 split
 ·exact h1
 ·split
  ·rw [h1]
  ·split
   ·rw [h1]
   ·rename_i a b c
    rcases hk with hk | hk | hk
    ·exact absurd hk a
    ·exact absurd hk b
    ·exact absurd hk c
theorem rzero_num {a:NumT} {k:K} {L E:Nat} (h:Num 10000 a k L E):∃b,W.Je a=some b∧(b=true↔k=K.zero):=by
 obtain ⟨c,ae⟩:=a
 obtain ⟨v,e,h1,h2,h3,h4,h5,h6⟩:=h.has
 refine ⟨_,VF h1 ae,?_⟩
 rw [decide_eq_true_iff,YA (e:=e),h4]
theorem idxN {l:List NumT} {i:Nat} (h:i<l.length):idx l (i:Int)=some (l.getD i z0):=by
 rw [Hg]
 simp [h]
theorem kU {l:List NumT} {j y:Nat} {r:NumT} (h:j<l.length):(l.set j r).getD y z0=if y=j then r else l.getD y z0:=by
 by_cases e:y=j
 ·subst e;simp [h]
 ·rw [if_neg e]
  simp [List.getD,List.getElem?_set_ne (Ne.symm e)]
theorem fl_lt {q:Int} {i n:Nat} (hq:0≤q∧q<n) (hi:i<2^n):fl q i<2^n:=
 Nat.xor_lt_two_pow hi (Nat.pow_lt_pow_right (by decide) (by omega))
theorem fl_ne (q:Int) (x:Nat):fl q x≠x:=fun h=>by
 have h1:=Hj q x
 rw [h] at h1
 cases hb:bt q x<;>rw [hb] at h1<;>cases h1
theorem turn_toNat (x:K) {k:Int} (h:0≤k):K.turn x (k % 16).toNat=K.turn x k.toNat:=by
 rw [←K.turn_mod x k.toNat]
 congr 1
 omega
theorem Hu (i:Nat) (v:KV):cut i v i=K.zero:=if_neg (Nat.lt_irrefl _)
theorem Uy (i:Nat) (v:KV):cut (i+1) v i=v i:=if_pos (Nat.lt_succ_self _)
theorem VG {i y:Nat} (v:KV) (h:y≠i):cut (i+1) v y=cut i v y:=by
 unfold cut
 by_cases h1:y<i
 ·rw [if_pos h1,if_pos (by omega)]
 ·rw [if_neg h1,if_neg (by omega)]
structure Ok1 (o:GOp) (n:Nat):Prop where
 q:0≤o.2.2.2.1∧o.2.2.2.1<n
 k:0≤o.2.1
 qs:Qs o.2.2.1
 len:o.2.2.1.length<2^62
 out:o.2.2.2.1∉o.2.2.1
theorem Ok1.ones {o:GOp} {n:Nat} (h:Ok1 o n) (x:Nat):onesB o.2.2.1 (fl o.2.2.2.1 x)=onesB o.2.2.1 x:=
 ones_other (fun q hq=>(h.qs q hq).1) h.q.1 h.out x
theorem gate_step {l out:List NumT} {v:KV} {o:GOp} {i n t:Nat} (hv:Amps l (2^n) v t) (ho:Ok1 o n) (hn:n≤20) (hi:i<2^n) (ht:t≤9000)
 (h0:out.length=2^n) (h1:∀y,y<2^n→Num 10000 (out.getD y z0) (gateK o (cut i v) y) (2*t+3) (t+1)) :
 ∃out',W.jF.cL_ l (i:Int) o.1 o.2.1 o.2.2.1 o.2.2.2.1 out some=some out'∧out'.length=2^n ∧ ∀y,y<2^n→Num 10000 (out'.getD y z0) (gateK o (cut (i+1) v) y) (2*t+3) (t+1):=by
 have hN:2^n≤2^20:=Nat.pow_le_pow_right (by decide) hn
 have hlen:=hv.len
 have hni:=hv.at_ i hi
 have hq:=ho.q
 have hfi:=fl_lt hq hi
 have hfits:∀y,FitsK (gateK o (cut (i+1) v) y) (2*t+3) (t+1):=gate_fits (L:=2*t+1) (t:=t) (fun x=>by
  unfold cut
  split
  ·exact hv.fit x (by omega)
  ·exact FitsK.zero _ _)
 have hx63:i<2^63:=by omega
 have hxor:ibits BinOp.xor IntKind.i64 (i:Int) (IntKind.i64.wrap ((1:Int)*(2:Int)^Min.min (Int.toNat o.2.2.2.1) (64:Nat)))=((fl o.2.2.2.1 i:Nat):Int):=by
  have hp:2^o.2.2.2.1.toNat<2^63:=Nat.pow_lt_pow_right (by decide) (by omega)
  rw [pow63 (by omega),ixori64 hx63 hp]
  rfl
 have keep:∀(j:Nat) (r:NumT),j<2^n→Num 10000 r (gateK o (cut (i+1) v) j) (2*t+3) (t+1)→(∀y,y<2^n→y≠j→gateK o (cut (i+1) v) y=gateK o (cut i v) y) →
  (out.set j r).length=2^n ∧ ∀y,y<2^n→Num 10000 ((out.set j r).getD y z0) (gateK o (cut (i+1) v) y) (2*t+3) (t+1):=by
  intro j r hj hr hk
  refine ⟨by rw [List.length_set];exact h0,fun y hy=>?_⟩
  rw [kU (by omega)]
  by_cases e:y=j
  ·rw [if_pos e,e];exact hr
  ·rw [if_neg e,hk y hy e];exact h1 y hy
 have here:∀(k:Prop),(onesB o.2.2.1 i=false∨o.1=1∨o.1=4) → ∀y,y≠i→gateK o (cut (i+1) v) y=gateK o (cut i v) y:=by
  intro _ hk y hy
  by_cases e:fl o.2.2.2.1 y=i
  ·refine gate_locP (VG v hy) ?_
   rcases hk with hk | hk
   ·left
    rw [←ho.ones,e];exact hk
   ·exact .inr hk
  ·exact UN (VG v hy) (VG v e)
 obtain ⟨b,b1,b2⟩:=rzero_num hni
 unfold W.jF.cL_
 rw [idxN (by omega),ja,b1,ja]
 by_cases hz:v i=K.zero
 ·rw [Ja (b2.2 hz)]
  refine ⟨out,rfl,h0,fun y hy=>?_⟩
  have e:cut (i+1) v=cut i v:=by
   funext x
   by_cases e:x=i
   ·rw [e,Uy,Hu,hz]
   ·exact VG v e
  rw [e]
  exact h1 y hy
 ·rw [jG (by cases hb:b;rfl;exact absurd (b2.1 hb) hz),allOne_ok hx63 ho.qs ho.len,ja]
  have hid:=h1 i hi
  by_cases hon:onesB o.2.2.1 i=true
  ·rw [hon,show (!true)=false from rfl,br_ff,jr (by simpa using hq.1),ja]
   unfold W.jF.c9
   by_cases hk1:o.1=1∨(o.1=4∧bt o.2.2.2.1 i=true)
   ·have hc:(br (o.1==(1:Int)) (some true) (br (o.1==(4:Int)) (bnd (W.kH (i:Int) o.2.2.2.1) fun y=>some (y==(1:Int))) (some false)))=some true:=by
     rcases hk1 with e | ⟨e,e2⟩
     ·rw [e];rfl
     ·rw [e,jG (by decide),Ja (by decide),Ht hx63 (by omega),ja,if_pos e2];rfl
    rw [hc,ja,br_tt]
    unfold W.jF.c10
    obtain ⟨r,r1,r2⟩:=rturn_ok hni (by omega) o.2.1
    rw [idxN (by omega),ja,r1,ja,Vo (by omega),ja,idxN (by omega),ja,ja]
    refine ⟨_,rfl,keep i r hi (Num.fit (k:=gateK o (cut (i+1) v) i) (L:=2*t+1) (E:=t) ?_ (hfits i)) (fun y _ hy=>here True (.inr (by omega)) y hy)⟩
    ·rw [gate_turn hon hk1,Uy,←turn_toNat _ ho.k]
     exact r2
   ·have hc:(br (o.1==(1:Int)) (some true) (br (o.1==(4:Int)) (bnd (W.kH (i:Int) o.2.2.2.1) fun y=>some (y==(1:Int))) (some false)))=some false:=by
     by_cases e:o.1=4
     ·have e2:¬bt o.2.2.2.1 i=true:=fun e2=>hk1 (.inr ⟨e,e2⟩)
      rw [e,jG (by decide),Ja (by decide),Ht hx63 (by omega),ja,if_neg e2];rfl
     ·rw [jG (by simpa using fun e2=>hk1 (.inl e2)),jG (by simpa using e)]
    rw [hc,ja,br_ff]
    by_cases hk4:o.1=4
    ·have hb4:¬bt o.2.2.2.1 i=true:=fun e2=>hk1 (.inr ⟨hk4,e2⟩)
     rw [Ja (by simpa using hk4),ja,Vo (by omega),ja,idxN (by omega),ja]
     refine ⟨_,rfl,keep i _ hi (Num.fit (k:=gateK o (cut (i+1) v) i) (L:=2*t+1) (E:=t) ?_ (hfits i)) (fun y _ hy=>here True (.inr (by omega)) y hy)⟩
     rw [gate_stay hon hk4 hb4,Uy]
     exact hni
    ·rw [jG (by simpa using hk4)]
     by_cases hk2:o.1=2
     ·rw [Ja (by simpa using hk2),hxor,ja,Vo (by omega),ja,idxN (by omega),ja]
      have hof:onesB o.2.2.1 (fl o.2.2.2.1 i)=true:=by rw [ho.ones];exact hon
      refine ⟨_,rfl,keep (fl o.2.2.2.1 i) _ hfi (Num.fit (k:=gateK o (cut (i+1) v) (fl o.2.2.2.1 i)) (L:=2*t+1) (E:=t) ?_ (hfits _)) (fun y _ hy=>?_)⟩
      ·rw [Hf hof hk2,fl_fl,Uy]
       exact hni
      ·have e:fl o.2.2.2.1 y≠i:=fun e=>hy (by rw [←e,fl_fl])
       by_cases hoy:onesB o.2.2.1 y=true
       ·rw [Hf hoy hk2,Hf hoy hk2,VG v e]
       ·have hoy':onesB o.2.2.1 y=false:=by simpa using hoy
        rw [Hw hoy',Hw hoy']
        refine VG v (fun e2=>hoy (e2▸hon))
     ·rw [jG (by simpa using hk2),hxor,ja]
      have hk3:o.1≠1∧o.1≠2∧o.1≠4:=⟨fun e=>hk1 (.inl e),hk2,hk4⟩
      obtain ⟨r,r1,r2⟩:=rhalf_ok hni (by omega) (by omega)
      have rf:=(hv.fit i hi).half
      have r3:=r2.fit rf
      have hof:onesB o.2.2.1 (fl o.2.2.2.1 i)=true:=by rw [ho.ones];exact hon
      obtain ⟨s,s1,s2⟩:=HN (h1 _ hfi) r3 (by omega) (by omega)
      have hne:=fl_ne o.2.2.2.1 i
      
      have e1:K.add (gateK o (cut i v) (fl o.2.2.2.1 i)) (K.half (v i))=gateK o (cut (i+1) v) (fl o.2.2.2.1 i):=by
       rw [UM hof hk3,UM hof hk3,fl_fl,Hu,Uy,VG v hne,K.half_zero,K.zero_add,K.add_comm]
      rw [e1] at s2
      have s3:=s2.fit (hfits _)
      obtain ⟨m,m1,m2⟩:∃m,W.jF.cQ_ (i:Int) o.2.2.2.1 [r] some=some [m]∧Num 10000 m (if bt o.2.2.2.1 i=true then K.neg (K.half (v i)) else K.half (v i)) (2*t+2) (t+1):=by
       unfold W.jF.cQ_
       rw [Ht hx63 (by omega),ja]
       by_cases hb:bt o.2.2.2.1 i=true
       ·obtain ⟨m,m1,m2⟩:=rneg_ok r3 (by omega)
        rw [if_pos hb,Ja (by decide),if_pos hb]
        simp only [bx_at,ja]
        rw [m1]
        exact ⟨m,rfl,m2⟩
       ·rw [if_neg hb,jG (by decide),if_neg hb]
        exact ⟨r,rfl,r3⟩
      obtain ⟨u,u1,u2⟩:=HN hid m2 (by omega) (by omega)
      have e2:K.add (gateK o (cut i v) i) (if bt o.2.2.2.1 i=true then K.neg (K.half (v i)) else K.half (v i))=gateK o (cut (i+1) v) i:=by
       rw [UM hon hk3,UM hon hk3,Hu,Uy,VG v hne,K.half_zero]
       have e0:(if bt o.2.2.2.1 i=true then K.neg K.zero else K.zero)=K.zero:=by
        split
        ·rw [←K.turn_eight,K.turn_zero]
        ·rfl
       rw [e0,K.add_zero]
      rw [e2] at u2
      have u3:=u2.fit (hfits _)
      unfold W.jF.c16 W.jF.c19
      simp only [bx_at,ja]
      rw [r1]
      simp only [ja,bx_at]
      rw [Vo (by omega),ja,idxN (by omega),ja,s1]
      simp only [ja]
      rw [m1]
      simp only [ja,bx_at]
      have hsl:(out.set (fl o.2.2.2.1 i) s).length=2^n:=by rw [List.length_set];exact h0
      have hso:(out.set (fl o.2.2.2.1 i) s).getD i z0=out.getD i z0:=by rw [kU (by omega),if_neg (Ne.symm hne)]
      rw [Int.toNat_natCast,Vo (by omega),ja,idxN (by omega),ja,hso,u1]
      simp only [ja]
      refine ⟨_,rfl,by rw [List.length_set];exact hsl,fun y hy=>?_⟩
      rw [Int.toNat_natCast,kU (by omega)]
      by_cases ei:y=i
      ·rw [if_pos ei,ei];exact u3
      ·rw [if_neg ei,kU (by omega)]
       by_cases ef:y=fl o.2.2.2.1 i
       ·rw [if_pos ef,ef];exact s3
       ·rw [if_neg ef,UN (w':=cut i v) (VG v ei) (VG v (fun e=>ef (by rw [←e,fl_fl])))]
        exact h1 y hy
  ·have hoff:onesB o.2.2.1 i=false:=by simpa using hon
   rw [hoff,show (!false)=true from rfl,br_tt]
   unfold W.jF.c7
   have e0:gateK o (cut i v) i=K.zero:=by rw [Hw hoff,Hu]
   rw [e0] at hid
   obtain ⟨s,s1,s2⟩:=HN hid hni (by omega) (by omega)
   rw [Vo (by omega),ja,idxN (by omega),ja,idxN (by omega),ja,s1]
   simp only [ja]
   have e1:gateK o (cut (i+1) v) i=K.add K.zero (v i):=by rw [Hw hoff,Uy,K.zero_add]
   refine ⟨_,rfl,keep i s hi (e1▸s2.fit (e1▸hfits i)) (fun y _ hy=>here True (.inl hoff) y hy)⟩
theorem gate_walk {l:List NumT} {v:KV} {o:GOp} {n t:Nat} (hv:Amps l (2^n) v t) (ho:Ok1 o n) (hn:n≤20) (ht:t≤9000) :
 ∃r,W.jF l o=some r∧Amps r (2^n) (gateK o v) (t+1):=by
 have hN:2^n≤2^20:=Nat.pow_le_pow_right (by decide) hn
 have hlen:=hv.len
 obtain ⟨y,q1,r,q2,q3,q4⟩:=Jo (f:=fun s:Int×List NumT↦W.jF.ca_ l (Prod.fst s) o.1 o.2.1 o.2.2.1 o.2.2.2.1 (Prod.snd s) some) (2^n)
  (fun i s=>s.1=(i:Int)∧s.2.length=2^n ∧ ∀y,y<2^n→Num 10000 (s.2.getD y z0) (gateK o (cut i v) y) (2*t+3) (t+1))
  (fun y=>∃r,y=(((2^n:Nat):Int),r)∧r.length=2^n ∧ ∀y,y<2^n→Num 10000 (r.getD y z0) (gateK o (cut (2^n) v) y) (2*t+3) (t+1))
  (by
   rintro i ⟨s,out⟩ hi ⟨p1,p2,p3⟩
   simp only at p1 p2 p3
   subst p1
   left
   obtain ⟨r,r1,r2,r3⟩:=gate_step hv ho hn hi ht p2 p3
   refine ⟨(((i+1:Nat):Int),r),?_,rfl,r2,r3⟩
   simp only [W.jF.ca_]
   rw [ju (by omega),r1,ja,jh (by omega)]
   rfl)
  (by
   rintro ⟨s,out⟩ ⟨p1,p2,p3⟩
   simp only at p1 p2 p3
   subst p1
   refine ⟨_,?_,out,rfl,p2,p3⟩
   simp only [W.jF.ca_]
   rw [js (by omega)])
  (s:=((0:Int),List.replicate (2^n) z0)) ⟨rfl,by simp,fun y hy=>by
   have e1:(List.replicate (2^n) z0).getD y z0=z0:=by
    rw [List.getD,List.getElem?_replicate]
    split<;>rfl
   have e2:gateK o (cut 0 v) y=K.zero:=by
    have h:∀x,cut 0 v x=K.zero:=fun x=>if_neg (by omega)
    have hneg:K.neg K.zero=K.zero:=by rw [←K.turn_eight,K.turn_zero]
    simp only [gateK,h,K.turn_zero,K.half_zero,hneg]
    split
    ·rfl
    ·split
     ·rfl
     ·split
      ·split<;>rfl
      ·split
       ·rfl
       ·split<;>exact K.add_zero _
   rw [e1,e2]
   exact num_zero⟩
 subst q2
 unfold W.jF
 rw [jr (by simp;omega),ja,Int.toNat_natCast,hlen]
 rw [show (List.replicate (2^n) ((List.replicate 8 (false,([]:List Int))),(0:Int)))=List.replicate (2^n) z0 from rfl,q1,ja]
 have hcut:∀y,y<2^n→gateK o (cut (2^n) v) y=gateK o v y:=fun y hy=>UN (if_pos hy) (if_pos (fl_lt ho.q hy))
 refine ⟨r,rfl,q3,fun y hy=>?_,fun y hy=>?_⟩
 ·rw [←hcut y hy]
  exact q4 y hy
 ·rw [←hcut y hy]
  exact gate_fits (L:=2*t+1) (t:=t) (fun x=>by
   unfold cut
   split
   ·exact hv.fit x (by assumption)
   ·exact FitsK.zero _ _) y
end Go.Ql
end
section
namespace Go.Ql
def outK (q:Int) (b:Int) (v:KV):KV:=fun x=>if bt q x=decide (b=1) then v x else K.zero
abbrev SK:=KV×List Int×Nat
def meetK (o:GOp) (b:Int) (s:SK):SK:=
 (if o.1≠5∧b=1 then xK [] o.2.2.2.1 (outK o.2.2.2.1 b s.1) else outK o.2.2.2.1 b s.1,if o.1=5 then s.2.1.set o.2.2.2.2.1.toNat b else s.2.1,s.2.2+1)
def playK (tape:List Int):Nat→List GOp→SK→(Int×Nat)⊕SK
 | _,[],s=>.inr s
 | i,o::l,s=>
   if condK s.2.1 o=false then playK tape (i+1) l s
   else if o.1<5 then playK tape (i+1) l (gateK o s.1,s.2.1,s.2.2)
   else if s.2.2=tape.length then .inl (19,i)
   else if tape.getD s.2.2 0≠0∧tape.getD s.2.2 0≠1 then .inl (20,i)
   else playK tape (i+1) l (meetK o (tape.getD s.2.2 0) s)
theorem Amps.up {l:List NumT} {N t:Nat} {v:KV} (h:Amps l N v t):Amps l N v (t+1):=by
 have hf:∀x,x<N→FitsK (v x) (2*(t+1)+1) (t+1):=fun x hx=>((h.fit x hx).up 1).mono (by omega)
 exact ⟨h.len,fun x hx=>(h.at_ x hx).fit (hf x hx),hf⟩
theorem num_zero' (L E:Nat):Num 10000 z0 K.zero L E:=num_zero
theorem repl_at (N y:Nat):(List.replicate N z0).getD y z0=z0:=by
 rw [List.getD,List.getElem?_replicate]
 split<;>rfl
theorem outcome_walk {l:List NumT} {v:KV} {n t:Nat} {q b:Int} (hv:Amps l (2^n) v t) (hn:n≤20) (hq:0≤q∧q<62) (hb:b=0∨b=1) :
 ∃r,W.Ju l q b=some r∧Amps r (2^n) (outK q b v) t:=by
 have hN:2^n≤2^20:=Nat.pow_le_pow_right (by decide) hn
 have hlen:=hv.len
 obtain ⟨y,q1,r,q2,q3,q4⟩:=Jo (f:=fun s:Int×List NumT↦W.Ju.ca_ l q b (Prod.fst s) (Prod.snd s) some) (2^n)
  (fun i s=>s.1=(i:Int)∧s.2.length=2^n ∧ ∀y,y<2^n→Num 10000 (s.2.getD y z0) (cut i (outK q b v) y) (2*t+1) t)
  (fun y=>∃r,y=(((2^n:Nat):Int),r)∧r.length=2^n ∧ ∀y,y<2^n→Num 10000 (r.getD y z0) (cut (2^n) (outK q b v) y) (2*t+1) t)
  (by
   rintro i ⟨s,out⟩ hi ⟨p1,p2,p3⟩
   simp only at p1 p2 p3
   subst p1
   left
   obtain ⟨r,r1,r2,r3⟩:∃r,W.Ju.cj_ l q b (i:Int) out some=some r∧r.length=2^n ∧ ∀y,y<2^n→Num 10000 (r.getD y z0) (cut (i+1) (outK q b v) y) (2*t+1) t:=by
    unfold W.Ju.cj_
    rw [Ht (by omega) (by omega),ja]
    by_cases e:bt q i=decide (b=1)
    ·have hbb:((if bt q i=true then 1 else 0:Int)==b)=true:=by
      rw [e];rcases hb with rfl | rfl<;>decide
     rw [Ja hbb,idxN (by omega),ja,Vo (by omega),ja,idxN (by omega),ja]
     refine ⟨_,rfl,by rw [List.length_set];exact p2,fun y hy=>?_⟩
     rw [Int.toNat_natCast,kU (by omega)]
     by_cases ey:y=i
     ·rw [if_pos ey,ey,Uy]
      unfold outK
      rw [if_pos e]
      exact hv.at_ i hi
     ·rw [if_neg ey,VG _ ey]
      exact p3 y hy
    ·have hbb:((if bt q i=true then 1 else 0:Int)==b)=false:=by
      rcases hb with rfl | rfl<;>cases hx:bt q i<;>rw [hx] at e<;>first | rfl | exact absurd rfl e
     rw [jG hbb]
     refine ⟨_,rfl,p2,fun y hy=>?_⟩
     by_cases ey:y=i
     ·have:=p3 y hy
      rw [ey,Uy]
      rw [ey,Hu] at this
      unfold outK
      rw [if_neg e]
      exact this
     ·rw [VG _ ey]
      exact p3 y hy
   refine ⟨(((i+1:Nat):Int),r),?_,rfl,r2,r3⟩
   simp only [W.Ju.ca_]
   rw [ju (by omega),r1,ja,jh (by omega)]
   rfl)
  (by
   rintro ⟨s,out⟩ ⟨p1,p2,p3⟩
   simp only at p1 p2 p3
   subst p1
   refine ⟨_,?_,out,rfl,p2,p3⟩
   simp only [W.Ju.ca_]
   rw [js (by omega)])
  (s:=((0:Int),List.replicate (2^n) z0)) ⟨rfl,by simp,fun y hy=>by
   rw [repl_at,show cut 0 (outK q b v) y=K.zero from if_neg (by omega)]
   exact num_zero' _ _⟩
 subst q2
 unfold W.Ju
 rw [jr (by simp;omega),ja,Int.toNat_natCast,hlen]
 rw [show (List.replicate (2^n) ((List.replicate 8 (false,([]:List Int))),(0:Int)))=List.replicate (2^n) z0 from rfl,q1,ja]
 have hcut:∀y,y<2^n→cut (2^n) (outK q b v) y=outK q b v y:=fun y hy=>if_pos hy
 refine ⟨r,rfl,q3,fun y hy=>?_,fun y hy=>?_⟩
 ·rw [←hcut y hy]
  exact q4 y hy
 ·unfold outK
  split
  ·exact hv.fit y hy
  ·exact FitsK.zero _ _
def kq (i:Nat):KV:=fun x=>if x=i then K.one else K.zero
theorem one_kv:kv (Vg 1) 0=K.one:=by
 apply K.eq_of<;>simp [kv,Vg,hp,K.one]
theorem basis_walk {n i:Nat} (hn:n≤20) (hi:i<2^n):∃r,W.Vw (n:Int) (i:Int)=some r∧Amps r (2^n) (kq i) 0:=by
 have hN:2^n≤2^20:=Nat.pow_le_pow_right (by decide) hn
 have hN0:0<2^n:=Nat.pow_pos (by decide)
 obtain ⟨z,z1,z2,z3⟩:=zof_ok (n:=1) (by decide)
 have hp:=pow63 (q:=(n:Int)) (by omega)
 rw [Int.toNat_natCast] at hp
 unfold W.Vw W.VJ
 rw [jr (by simp),ja]
 simp only [Int.toNat_natCast] at hp ⊢
 simp only [hp,Int.toNat_natCast]
 rw [jr (by rw [Bool.and_eq_true,Bool.and_eq_true,Bool.and_eq_true,decide_eq_true_iff,decide_eq_true_iff,decide_eq_true_iff,decide_eq_true_iff];omega),ja,z1,ja,
  show idx (List.replicate 8 (false,([]:List (Ty.den (Ty.int IntKind.i64))))) (0:Int)=some d0 from rfl]
 simp only [ja]
 rw [show (List.replicate (2^n) ((List.replicate 8 (false,([]:List (Ty.den (Ty.int IntKind.i64))))),(0:Int)))=List.replicate (2^n) z0 from rfl,Vo (by simpa using hi),ja,idxN (by simpa using hi),ja]
 have hbd:Bd (Vg 1) 1:=single_bd (by decide)
 have h1:FitsK K.one (2*0+1) 0:=⟨Vg 1,one_kv,hbd⟩
 refine ⟨_,rfl,by simp,fun y hy=>?_,fun y hy=>?_⟩
 ·rw [kU (by simpa using hi),repl_at]
  unfold kq
  by_cases e:y=i
  ·rw [if_pos e,if_pos e]
   exact Num.mk' (e:=0) (single_reps z2) rfl (.inl rfl) one_kv hbd (Nat.le_refl _)
  ·rw [if_neg e,if_neg e]
   exact num_zero' _ _
 ·unfold kq
  split
  ·exact h1
  ·exact FitsK.zero _ _
structure OkP (o:GOp) (n bn:Nat):Prop where
 gate:Ok1 o n
 ifs:o.2.2.2.2.2.length<2^62
 cond:∀c∈o.2.2.2.2.2,c≠0∧c≤(bn:Int) ∧ -c≤(bn:Int)
 bit:o.1=5→0≤o.2.2.2.2.1∧o.2.2.2.2.1<(bn:Int)
theorem ok1_x {o:GOp} {n:Nat} (h:Ok1 o n):Ok1 (2,0,[],o.2.2.2.1,0,[]) n:=⟨h.q,by simp,fun _ h=>by simp at h,by simp,by simp⟩
theorem play_walk {n bn:Nat} {ops:List GOp} {tape:List Int} {i0:Nat} (hn:n≤20) (hbn:bn<2^40) (hl:ops.length≤8000) (ht:tape.length<2^62) (hi:i0<2^n) (hops:∀o∈ops,OkP o n bn)
 (hck:W.jX ((n:Int),(bn:Int),ops)=some ((0:Int),(0:Int))) :
 (∀x,playK tape 0 ops (kq i0,List.replicate bn 0,0)=.inl x→W.jR ((n:Int),(bn:Int),ops) (i0:Int) tape=some ([],[],(0:Int),x.1,(x.2:Int))) ∧
 (∀s,playK tape 0 ops (kq i0,List.replicate bn 0,0)=.inr s → ∃l,W.jR ((n:Int),(bn:Int),ops) (i0:Int) tape=some (l,s.2.1,(s.2.2:Int),(0:Int),(0:Int))∧Amps l (2^n) s.1 ops.length):=by
 have hN:2^n≤2^20:=Nat.pow_le_pow_right (by decide) hn
 obtain ⟨l0,b1,b2⟩:=basis_walk hn hi
 obtain ⟨R,hR⟩:∃R,playK tape 0 ops (kq i0,List.replicate bn 0,0)=R:=⟨_,rfl⟩
 obtain ⟨y,y1,y2⟩:=Jo (f:=fun s:List NumT×Int×Int×List Int↦W.jR.cp_ tape (Prod.fst s) (Prod.fst (Prod.snd s)) (Prod.fst (Prod.snd (Prod.snd s))) ops (Prod.snd (Prod.snd (Prod.snd s))) some) ops.length
  (fun i s=>∃v bits used,s.2.1=(used:Nat)∧s.2.2.1=(i:Int)∧s.2.2.2=bits∧Amps s.1 (2^n) v i∧bits.length=bn∧used≤tape.length∧playK tape i (ops.drop i) (v,bits,used)=R)
  (fun y=>(∃u:List NumT×Int×Int×Int×Int×List Int,∃x:Int×Nat,y=.inl u∧R=.inl x∧u.2.2.2.1=x.1∧u.2.2.2.2.1=(x.2:Int)) ∨
   (∃u:List NumT×Int×Int×List Int,∃s:SK,y=.inr u∧R=.inr s∧u.2.1=(s.2.2:Int)∧u.2.2.2=s.2.1∧Amps u.1 (2^n) s.1 ops.length))
  (by
   rintro i ⟨l,us,i',bs⟩ hi ⟨v,bits,used,p1,p2,p3,p4,p5,p6,p7⟩
   simp only at p1 p2 p3 p4
   subst p1
   subst p2
   subst p3
   have hm:ops[i]∈ops:=List.getElem_mem hi
   have hd:ops.drop i=ops[i]::ops.drop (i+1):=List.drop_eq_getElem_cons hi
   rw [hd] at p7
   simp only [playK] at p7
   obtain ⟨o,ho⟩:∃o,ops[i]=o:=⟨_,rfl⟩
   rw [ho] at hm p7
   have hk:=hops o hm
   have hidx:idx ops (i:Int)=some o:=by rw [Vy hi,ho]
   have hcond:=cond_ok (o:=o) (bits:=bs) hk.ifs (by rw [p5];omega) (by rw [p5];exact hk.cond)
   simp only [W.jR.cp_,W.jR.cv_]
   rw [ju (by omega),hidx,ja,show (o.1,o.2.1,o.2.2.1,o.2.2.2.1,o.2.2.2.2.1,o.2.2.2.2.2)=o from rfl,hcond,ja]
   have hw:IntKind.i64.wrap ((i:Int)+1)=((i+1:Nat):Int):=by rw [jh (by omega)];omega
   by_cases hc:condK bs o=false
   ·rw [if_pos hc] at p7
    rw [hc,show (!false)=true from rfl,br_tt,ja,JL,hw]
    exact .inl ⟨_,rfl,v,bs,used,rfl,rfl,rfl,p4.up,p5,p6,p7⟩
   ·rw [if_neg hc] at p7
    have hc':condK bs o=true:=by simpa using hc
    rw [hc',show (!true)=false from rfl,br_ff]
    by_cases h5:o.1<5
    ·rw [if_pos h5] at p7
     obtain ⟨r,r1,r2⟩:=gate_walk p4 hk.gate hn (by omega)
     rw [ju h5,r1,ja,ja,JL,hw]
     exact .inl ⟨_,rfl,_,bs,used,rfl,rfl,rfl,r2,p5,p6,p7⟩
    ·rw [if_neg h5] at p7
     rw [js h5]
     by_cases hu:used=tape.length
     ·rw [if_pos hu] at p7
      rw [Ja (by simp [hu]),show W.kf (19:Int) (i:Int)=some (19,(i:Int)) from rfl,ja,ja,ke]
      exact .inr ⟨_,rfl,.inl ⟨_,_,rfl,p7.symm,rfl,rfl⟩⟩
     ·rw [if_neg hu] at p7
      rw [jG (beq_false_of_ne (by omega)),Jf used rfl (by omega),ja]
      unfold W.jR.c19
      obtain ⟨b,hb⟩:∃b,tape.getD used 0=b:=⟨_,rfl⟩
      rw [hb] at p7 ⊢
      by_cases hbad:b≠0∧b≠1
      ·rw [if_pos hbad] at p7
       rw [Ja (by simpa using hbad.1),ja,Ja (by simpa using hbad.2),show W.kf (20:Int) (i:Int)=some (20,(i:Int)) from rfl,ja,ja,ke]
       exact .inr ⟨_,rfl,.inl ⟨_,_,rfl,p7.symm,rfl,rfl⟩⟩
      ·rw [if_neg hbad] at p7
       have hb01:b=0∨b=1:=by omega
       have hc19:(br (b !=(0:Int)) (some (b !=(1:Int))) (some false))=some false:=by rcases hb01 with rfl | rfl<;>rfl
       rw [hc19,ja,br_ff]
       have hq:=hk.gate.q
       obtain ⟨r,r1,r2⟩:=outcome_walk (q:=o.2.2.2.1) p4 hn (by omega) hb01
       rw [r1,ja,jh (x:=(used:Int)+1) (by omega),show (used:Int)+1=((used+1:Nat):Int) by omega]
       unfold meetK at p7
       simp only at p7
       by_cases hm5:o.1=5
       ·have hbit:=hk.bit hm5
        rw [if_neg (fun h=>h.1 hm5),if_pos hm5] at p7
        rw [Ja (by simpa using hm5),kY hbit.1 (by rw [p5];exact hbit.2),ja,Jf o.2.2.2.2.1.toNat (by omega) (by rw [p5];omega),ja,ja,JL,hw]
        exact .inl ⟨_,rfl,_,_,used+1,rfl,rfl,rfl,r2.up,by rw [List.length_set];exact p5,by omega,p7⟩
       ·rw [if_neg hm5] at p7
        rw [jG (by simpa using hm5)]
        by_cases hb1:b=1
        ·rw [if_pos ⟨hm5,hb1⟩,←HU [] 0 o.2.2.2.1 0 []] at p7
         obtain ⟨s,s1,s2⟩:=gate_walk r2 (ok1_x hk.gate) hn (by omega)
         rw [Ja (by simpa using hb1),s1,ja,ja,JL,hw]
         exact .inl ⟨_,rfl,_,bs,used+1,rfl,rfl,rfl,s2,p5,by omega,p7⟩
        ·rw [if_neg (fun h=>hb1 h.2)] at p7
         rw [jG (by simpa using hb1),ja,JL,hw]
         exact .inl ⟨_,rfl,_,bs,used+1,rfl,rfl,rfl,r2.up,p5,by omega,p7⟩)
  (by
   rintro ⟨l,us,i',bs⟩ ⟨v,bits,used,p1,p2,p3,p4,p5,p6,p7⟩
   simp only at p1 p2 p3 p4
   subst p1
   subst p2
   subst p3
   rw [List.drop_length] at p7
   simp only [W.jR.cp_]
   rw [js (by omega)]
   exact ⟨_,rfl,.inr ⟨_,_,rfl,p7.symm,rfl,rfl,p4⟩⟩)
  (s:=(l0,(0:Int),(0:Int),List.replicate bn 0)) ⟨kq i0,List.replicate bn 0,0,rfl,rfl,rfl,b2,by simp,Nat.zero_le _,hR⟩
 have hp:=pow63 (q:=(n:Int)) (by omega)
 have hrun:W.jR ((n:Int),(bn:Int),ops) (i0:Int) tape=sel y (fun u=>some ([],[],(0:Int),Prod.fst (Prod.snd (Prod.snd (Prod.snd u))),Prod.fst (Prod.snd (Prod.snd (Prod.snd (Prod.snd u))))))
  (fun v=>some (Prod.fst v,Prod.snd (Prod.snd (Prod.snd v)),Prod.fst (Prod.snd v),(0:Int),(0:Int))):=by
  unfold W.jR W.jR.c4
  simp only
  rw [hck,ja,jG (by decide),js (by omega),jr (by simp),ja,hp,Int.toNat_natCast,decide_eq_false (by omega),ja,br_ff,b1,ja,
   jr (by rw [Bool.and_eq_true,Bool.and_eq_true,Bool.and_eq_true,decide_eq_true_iff,decide_eq_true_iff,decide_eq_true_iff,decide_eq_true_iff];omega),ja,Int.toNat_natCast,y1,ja]
 rw [hR]
 rcases y2 with ⟨u,x,rfl,e,e1,e2⟩ | ⟨u,s,rfl,e,e1,e2,e3⟩
 ·subst e
  refine ⟨fun x' hx=>?_,fun s hs=>(by cases hs)⟩
  cases hx
  rw [hrun,JL,e1,e2]
 ·subst e
  refine ⟨fun x' hx=>(by cases hx),fun s' hs=>?_⟩
  cases hs
  rw [hrun,ke,e1,e2]
  exact ⟨_,rfl,e3⟩
end Go.Ql
end
end

section
set_option maxRecDepth 100000
namespace Go.Ql
theorem Bd.add1 {v w:Nat→Int} {L:Nat} (h:Bd v L) (g:Bd w L):Bd (fun i=>v i+w i) (L+1):=fun i hi=>by
 have h1:=h i hi
 have h2:=g i hi
 rw [Nat.pow_succ]
 have:=Int.natAbs_add_le (v i) (w i)
 simp only
 omega
theorem nadd_t {a b:List Dg×Int} {k l:K} {L M E F:Nat} (h:Num 4294967296 a k L E) (g:Num 4294967296 b l M F) (hs:L+M+2*(E+F)<79000) :
 ∃r,W.jC a b=some r∧Num 4294967296 r (K.add k l) (Max.max (L+F) (M+E)+1) (Max.max E F):=by
 obtain ⟨c,ae⟩:=a
 obtain ⟨d,be⟩:=b
 obtain ⟨v,e,h1,h2,h3,h4,h5,h6⟩:=h.has
 obtain ⟨w,f,g1,g2,g3,g4,g5,g6⟩:=g.has
 simp only at h2 g2
 subst h2
 subst g2
 obtain ⟨x,y,g',q1,q2,q3⟩:=add_align (L:=L) (M:=M) (e:=e) (f:=f) h1 g1 h5 g5 (by omega)
 have b1:=(h5.up (Max.max e f-e)).mono (show L+(Max.max e f-e)≤Max.max (L+F) (M+E) by omega)
 have b2:=(g5.up (Max.max e f-f)).mono (show M+(Max.max e f-f)≤Max.max (L+F) (M+E) by omega)
 obtain ⟨r,r1,r2⟩:=add_loop (L:=Max.max (L+F) (M+E)) q2 q3 b1 b2 (by omega) ((Max.max e f:Nat):Int) g'
 obtain ⟨z,z1,z2⟩:=least_ok (L:=Max.max (L+F) (M+E)+1) r2 (b1.add1 b2) ((Max.max e f:Nat):Int) (by omega)
 unfold W.jC
 rw [q1,ja,r1,ja]
 simp only [show ∀z:List Dg×Int,inR (List.length [z]) (0:Int)=some () from fun _=>rfl,show ∀z:List Dg×Int,idx [z] (0:Int)=some z from fun _=>rfl,ja]
 rw [z1,ja]
 refine ⟨z,rfl,?_⟩
 obtain ⟨u,m,u1,u2,u3,u4,u5,u6⟩:=z2.has
 refine Num.mk' u1 u2 u3 ?_ (u5.mono (by omega)) (by omega)
 rw [u4,kvz_nat,←kv_add,←h4,←g4]
 have e1:=kv_up v e (Max.max e f-e)
 have e2:=kv_up w f (Max.max e f-f)
 rw [show e+(Max.max e f-e)=Max.max e f by omega] at e1
 rw [show f+(Max.max e f-f)=Max.max e f by omega] at e2
 rw [e1,e2]
theorem nsub_t {a b:List Dg×Int} {k l:K} {L M E F:Nat} (h:Num 4294967296 a k L E) (g:Num 4294967296 b l M F) (hs:L+M+2*(E+F)<79000) :
 ∃r,W.Jv a b=some r∧Num 4294967296 r (K.sub k l) (Max.max (L+F) (M+E)+1) (Max.max E F):=by
 obtain ⟨n,n1,n2⟩:=nneg_ok g (by omega)
 obtain ⟨r,r1,r2⟩:=nadd_t h n2 hs
 refine ⟨r,?_,r2⟩
 unfold W.Jv W.Jv.c1
 refine kM (x:=[r]) ?_ rfl
 exact kM n1 (kM r1 rfl)
theorem nhalf_t {a:NumT} {k:K} {L E:Nat} (h:Num 4294967296 a k L E) (hL:L+L+2*(E+E)<79000) :
 ∃r,W.Jn a=some r∧Num 4294967296 r (K.half k) (L+E+1) (E+1):=by
 obtain ⟨t,t1,t2⟩:=nturn_ok h (by omega) 2 (by decide)
 obtain ⟨u,u1,u2⟩:=nturn_ok h (by omega) 6 (by decide)
 obtain ⟨⟨c,ae⟩,s1,s2⟩:=nsub_t t2 u2 (by omega)
 obtain ⟨v,e,h1,h2,h3,h4,h5,h6⟩:=s2.has
 simp only at h1 h2
 subst h2
 have t1':W.jz a (2:Int)=some t:=t1
 have u1':W.jz a (6:Int)=some u:=u1
 obtain ⟨r,r1,r2⟩:=least_ok h1 h5 ((e+1:Nat):Int) (by omega)
 refine ⟨r,?_,?_⟩
 ·unfold W.Jn W.Jn.c1
  rw [t1',ja,u1',ja,s1,ja,ja]
  simp only [bx_in,bx_at,ja]
  rw [jh (by omega),show (e:Int)+1=((e+1:Nat):Int) by omega,r1]
  rfl
 ·obtain ⟨w',f',q1,q2,q3,q4,q5,q6⟩:=r2.has
  refine ⟨w',f',q1,q2,q3,?_,q5.mono (by omega),by omega⟩
  rw [q4,kvz_nat,kv_half1,h4]
  rfl
theorem nzero_ok {a:NumT} {k:K} {L E:Nat} (h:Num 4294967296 a k L E):∃t,W.jU a=some t∧(t=true↔k=K.zero):=by
 obtain ⟨c,ae⟩:=a
 obtain ⟨v,e,h1,h2,h3,h4,h5,h6⟩:=h.has
 simp only at h1 h2
 subst h2
 obtain ⟨x,x1,x2⟩:=Jo (f:=fun s:Int↦W.jU.cc_ c s some) 8
  (fun i s=>s=(i:Int) ∧ ∀j,j<i→v j=0)
  (fun x=>(∃i,x=.inl i ∧ ∃j,j<8∧v j≠0)∨(∃i,x=.inr i ∧ ∀j,j<8→v j=0))
  (by
   rintro i s hi ⟨rfl,p2⟩
   simp only [W.jU.cc_]
   rw [ju (by omega),h1.idx hi,ja,show (((c.getD i d0).1,(c.getD i d0).2):Dg)=c.getD i d0 from rfl,sign_ok (h1.at_ i hi),ja]
   by_cases e2:v i=0
   ·rw [jG (by simp [sgn,e2]),jh (by omega)]
    refine .inl ⟨_,rfl,by omega,fun j hj=>?_⟩
    by_cases e3:j=i
    ·rw [e3];exact e2
    ·exact p2 j (by omega)
   ·have hsg:(sgn (v i) !=0)=true:=by
     simp only [sgn,bne_iff_ne,ne_eq]
     split<;>(try split)<;>omega
    rw [Ja hsg]
    exact .inr ⟨_,rfl,.inl ⟨_,rfl,i,hi,e2⟩⟩)
  (by
   rintro s ⟨rfl,p2⟩
   simp only [W.jU.cc_]
   rw [js (by omega)]
   exact ⟨_,rfl,.inr ⟨_,rfl,p2⟩⟩)
  (s:=(0:Int)) ⟨rfl,fun j hj=>by omega⟩
 unfold W.jU
 rw [x1,ja]
 rcases x2 with ⟨i,rfl,j,j1,j2⟩ | ⟨i,rfl,hall⟩
 ·refine ⟨false,rfl,?_⟩
  constructor
  ·intro h;cases h
  ·intro hk
   exact absurd (YA.2 (h4.trans hk) j j1) j2
 ·exact ⟨true,rfl,fun _=>h4.symm.trans (YA.1 hall),fun _=>rfl⟩
theorem and15i (k:Int) (h:-9223372036854775808≤k∧k≤9223372036854775807):ibits .and .i64 k 15=((k % 16).toNat:Int):=by
 show IntKind.i64.wrap (((BitVec.ofInt 64 k &&& BitVec.ofInt 64 15).toNat:Nat):Int)=_
 rw [BitVec.toNat_and,BitVec.toNat_ofInt,BitVec.toNat_ofInt,show ((15:Int) % ((2^64:Nat):Int)).toNat=2^4-1 by decide,Nat.and_two_pow_sub_one_eq_mod,show (k % ((2^64:Nat):Int)).toNat % 2^4=(k % 16).toNat by omega,jh (by omega)]
theorem nturn_i {a:List Dg×Int} {x:K} {L E:Nat} (h:Num 4294967296 a x L E) (hL:L<80000) (k:Int) (hk:-9223372036854775808≤k∧k≤9223372036854775807) :
 ∃r,W.jz a k=some r∧Num 4294967296 r (K.turn x (k % 16).toNat) L E:=by
 obtain ⟨r,h1,h2⟩:=nturn_ok h hL (k % 16).toNat (by omega)
 refine ⟨r,?_,h2⟩
 rw [←h1]
 unfold W.jz
 rw [and15i k hk,and15 _ (by omega),show (k % 16).toNat % 16=(k % 16).toNat by omega]
theorem none_ok:∃r,W.Vf=some r∧Num 4294967296 r K.one 1 0:=by
 obtain ⟨p,p1,p2,_⟩:=of_ok (n:=1) (by decide)
 refine ⟨((List.replicate 8 d0).set 0 p,(0:Int)),?_,?_⟩
 ·unfold W.Vf
  rw [p1,ja]
 ·refine Num.mk' (Reps.zero.set (by decide) p2) (e:=0) rfl (.inl rfl) ?_ ?_ (Nat.le_refl _)
  ·simp [kv,K.one,hp]
  ·intro i _
   show Int.natAbs (if i=0 then 1 else 0)<2^1
   split<;>decide
theorem root_ok (k:Int) (hk:-9223372036854775808≤k∧k≤9223372036854775807):∃r,W.YC k=some r∧Num 4294967296 r (K.turn K.one (k % 16).toNat) 1 0:=by
 obtain ⟨o,o1,o2⟩:=none_ok
 obtain ⟨r,r1,r2⟩:=nturn_i o2 (by decide) k hk
 refine ⟨r,?_,r2⟩
 unfold W.YC
 rw [o1,ja,r1,ja]
end Go.Ql
end

section
namespace Go.Ql
def maskN (l:List Int):Nat:=l.foldl (fun m q=>m ||| 2^q.toNat) 0
theorem maskN_snoc (l:List Int) (q:Int):maskN (l++[q])=maskN l ||| 2^q.toNat:=by simp [maskN]
theorem foldl_bit (l:List Int) (m j:Nat):(l.foldl (fun m q=>m ||| 2^q.toNat) m).testBit j=(m.testBit j||l.any fun q=>decide (q.toNat=j)):=by
 induction l generalizing m with
 | nil=>simp
 | cons q l ih=>
   rw [List.foldl_cons,ih,Nat.testBit_or,Nat.testBit_two_pow,List.any_cons,Bool.or_assoc]
theorem maskN_bit (l:List Int) (j:Nat):(maskN l).testBit j=l.any fun q=>decide (q.toNat=j):=by
 unfold maskN
 rw [foldl_bit,Nat.zero_testBit,Bool.false_or]
theorem maskN_lt {l:List Int} (h:Qs l):maskN l<2^62:=by
 refine Nat.lt_pow_two_of_testBit _ fun j hj=>?_
 rw [maskN_bit,←Bool.not_eq_true,List.any_eq_true]
 rintro ⟨q,hq,e⟩
 have:=h q hq
 have:=of_decide_eq_true e
 omega
theorem mask_ok {l:List Int} (h:Qs l) (hn:l.length<2^62):W.JM l=some ((maskN l:Nat):Int):=by
 obtain ⟨y,h1,h2⟩:=Jo (f:=fun s:Int×Int↦W.JM.ca_ (Prod.fst s) l (↑(List.length l):Int) (Prod.snd s) some) l.length
  (fun i s=>s.1=((maskN (l.take i):Nat):Int)∧s.2=(i:Int))
  (fun y=>y.1=((maskN l:Nat):Int))
  (by
   rintro i ⟨m,s⟩ hi ⟨p1,p2⟩
   simp only at p1 p2
   subst p1
   subst p2
   have hq:=qs_at h hi
   have e1:l.take (i+1)=l.take i++[l.getD i 0]:=by
    rw [List.take_succ_eq_append_getElem hi]
    simp [hi]
   have hs:Qs (l.take i):=fun q hq=>h q (List.mem_of_mem_take hq)
   have hm:=maskN_lt hs
   have hp:2^(l.getD i 0).toNat<2^63:=Nat.pow_lt_pow_right (by decide) (by omega)
   left
   refine ⟨(((maskN (l.take (i+1)):Nat):Int),((i+1:Nat):Int)),?_,rfl,rfl⟩
   simp only [W.JM.ca_]
   rw [ju (by omega),Jf i rfl hi,ja,jr (by simpa using hq.1),ja,pow63 (by omega),iori64 (by omega) hp,jh (by omega),e1,maskN_snoc]
   rfl)
  (by
   rintro ⟨m,s⟩ ⟨p1,p2⟩
   simp only at p1 p2
   subst p1
   subst p2
   refine ⟨(((maskN l:Nat):Int),(l.length:Int)),?_,rfl⟩
   simp only [W.JM.ca_]
   rw [js (by omega),List.take_length])
  (s:=((0:Int),(0:Int))) ⟨rfl,rfl⟩
 unfold W.JM
 rw [h1,ja,h2]
theorem and_eq_iff (x m:Nat):x &&& m=m ↔ ∀j,m.testBit j=true→x.testBit j=true:=by
 constructor
 ·intro h j hj
  rw [←h,Nat.testBit_and] at hj
  exact (Bool.and_eq_true _ _▸hj).1
 ·intro h
  refine Nat.eq_of_testBit_eq fun j=>?_
  rw [Nat.testBit_and]
  cases hj:m.testBit j with
  | false=>simp
  | true=>rw [h j hj];rfl
theorem mask_ones {l:List Int} {q:Int} {x:Nat}:x &&& (maskN l ||| 2^q.toNat)=maskN l ||| 2^q.toNat↔(bt q x=true∧onesB l x=true):=by
 rw [and_eq_iff]
 constructor
 ·intro h
  refine ⟨h q.toNat (by rw [Nat.testBit_or,Nat.testBit_two_pow];simp),?_⟩
  unfold onesB
  rw [List.all_eq_true]
  intro p hp
  refine h p.toNat ?_
  rw [Nat.testBit_or,maskN_bit,Bool.or_eq_true]
  exact .inl (List.any_eq_true.2 ⟨p,hp,decide_eq_true rfl⟩)
 ·rintro ⟨h1,h2⟩ j hj
  rw [Nat.testBit_or,maskN_bit,Nat.testBit_two_pow,Bool.or_eq_true] at hj
  rcases hj with hj | hj
  ·obtain ⟨p,hp,e⟩:=List.any_eq_true.1 hj
   rw [←of_decide_eq_true e]
   exact List.all_eq_true.1 h2 p hp
  ·rw [←of_decide_eq_true hj]
   exact h1
theorem onesF_ok {m:Nat} (hm:m<2^63):∀(j i:Nat),i+j<2^63 →
 (∀x∈W.onesF (m:Int) j (i:Int),∃z:Nat,x=(z:Int)∧i≤z∧z<i+j∧z &&& m=m) ∧
 (∀z:Nat,i≤z→z<i+j→z &&& m=m→(z:Int)∈W.onesF (m:Int) j (i:Int))∧(W.onesF (m:Int) j (i:Int)).Nodup
 | 0,i,_=>⟨fun x hx=>(by simp [W.onesF] at hx),fun z h1 h2=>by omega,by simp [W.onesF]⟩
 | j+1,i,h=>by
   obtain ⟨h1,h2,h3⟩:=onesF_ok hm j (i+1) (by omega)
   have e:W.onesF (m:Int) (j+1) (i:Int)=(if i &&& m=m then [(i:Int)] else [])++W.onesF (m:Int) j (((i+1:Nat)):Int):=by
    rw [W.onesF,HL (by omega) hm]
    congr 1
    by_cases hc:i &&& m=m
    ·rw [if_pos hc,if_pos (by omega)]
    ·rw [if_neg hc,if_neg (by omega)]
   rw [e]
   refine ⟨fun x hx=>?_,fun z hz1 hz2 hz3=>?_,?_⟩
   ·rw [List.mem_append] at hx
    rcases hx with hx | hx
    ·by_cases hc:i &&& m=m
     ·rw [if_pos hc] at hx
      exact ⟨i,by simpa using hx,by omega,by omega,hc⟩
     ·rw [if_neg hc] at hx
      simp at hx
    ·obtain ⟨z,z1,z2,z3,z4⟩:=h1 x hx
     exact ⟨z,z1,by omega,by omega,z4⟩
   ·rw [List.mem_append]
    by_cases ez:z=i
    ·left
     subst ez
     rw [if_pos hz3]
     simp
    ·exact .inr (h2 z (by omega) (by omega) hz3)
   ·by_cases hc:i &&& m=m
    ·rw [if_pos hc,List.singleton_append,List.nodup_cons]
     refine ⟨fun hx=>?_,h3⟩
     obtain ⟨z,z1,z2,_⟩:=h1 _ hx
     omega
    ·rw [if_neg hc]
     exact h3
theorem iter_seq {α S R:Type} {f:List α×S→Option ((List α×S)⊕R)} (P:List α→S→Prop) (Q:R→Prop)
 (step:∀x r s,P (x::r) s → ∃s',f (x::r,s)=some (.inl (r,s'))∧P r s') (done:∀s,P [] s → ∃y,f ([],s)=some (.inr y)∧Q y) :
 ∀(l:List α) (s:S),P l s → ∃y,iter f (l,s)=some y∧Q y
 | [],s,h=>by
   obtain ⟨y,h1,h2⟩:=done s h
   exact ⟨y,YF h1,h2⟩
 | x::r,s,h=>by
   obtain ⟨s',h1,h2⟩:=step x r s h
   obtain ⟨y,h3,h4⟩:=iter_seq P Q step done r s' h2
   exact ⟨y,UO h1 h3,h4⟩
structure AmpP (l:List NumT) (N:Nat) (v:KV) (t:Nat):Prop where
 len:l.length=N
 at_:∀x,x<N→Num 4294967296 (l.getD x z0) (v x) (2*t+1) t
 fit:∀x,x<N→FitsK (v x) (2*t+1) t
theorem AmpP.up {l:List NumT} {N t:Nat} {v:KV} (h:AmpP l N v t):AmpP l N v (t+1):=by
 have hf:∀x,x<N→FitsK (v x) (2*(t+1)+1) (t+1):=fun x hx=>((h.fit x hx).up 1).mono (by omega)
 exact ⟨h.len,fun x hx=>(h.at_ x hx).fit (hf x hx),hf⟩
theorem AmpP.mono {l:List NumT} {N t u:Nat} {v:KV} (h:AmpP l N v t) (hu:t≤u):AmpP l N v u:=by
 obtain ⟨d,rfl⟩:=Nat.exists_eq_add_of_le hu
 clear hu
 induction d with
 | zero=>exact h
 | succ d ih=>exact ih.up
theorem AmpP.congr {l:List NumT} {N t:Nat} {v w:KV} (h:AmpP l N v t) (e:∀x,x<N→v x=w x):AmpP l N w t:=
 ⟨h.len,fun x hx=>e x hx▸h.at_ x hx,fun x hx=>e x hx▸h.fit x hx⟩
theorem pairs_loop {f:List Int×List NumT→Option ((List Int×List NumT)⊕List NumT)} {v:KV} {o:GOp} {n t:Nat} {l:List NumT} (hv:AmpP l (2^n) v t) (ho:Ok1 o n) (hn:n≤20)
 (hnil:∀s,f ([],s)=some (.inr s))
 (hstep:∀(x:Nat) r s,x<2^n→bt o.2.2.2.1 x=true→onesB o.2.2.1 x=true→s.length=2^n→Num 4294967296 (s.getD x z0) (v x) (2*t+1) t→Num 4294967296 (s.getD (fl o.2.2.2.1 x) z0) (v (fl o.2.2.2.1 x)) (2*t+1) t →
  ∃s',f ((x:Int)::r,s)=some (.inl (r,s'))∧s'.length=2^n∧Num 4294967296 (s'.getD x z0) (gateK o v x) (2*t+3) (t+1) ∧
   Num 4294967296 (s'.getD (fl o.2.2.2.1 x) z0) (gateK o v (fl o.2.2.2.1 x)) (2*t+3) (t+1) ∧ ∀y,y≠x→y≠fl o.2.2.2.1 x→s'.getD y z0=s.getD y z0) :
 ∃r,iter f (W.onesL (((2^n:Nat):Int),((maskN o.2.2.1 ||| 2^o.2.2.2.1.toNat:Nat):Int)),l)=some r∧AmpP r (2^n) (gateK o v) (t+1):=by
 have hN:2^n≤2^20:=Nat.pow_le_pow_right (by decide) hn
 have hq:=ho.q
 have hm:maskN o.2.2.1 ||| 2^o.2.2.2.1.toNat<2^63:=Nat.or_lt_two_pow (Nat.lt_trans (maskN_lt ho.qs) (by decide)) (Nat.pow_lt_pow_right (by decide) (by omega))
 obtain ⟨m1,m2,m3⟩:=onesF_ok hm (2^n) 0 (by omega)
 have hL:W.onesL (((2^n:Nat):Int),((maskN o.2.2.1 ||| 2^o.2.2.2.1.toNat:Nat):Int))=W.onesF ((maskN o.2.2.1 ||| 2^o.2.2.2.1.toNat:Nat):Int) (2^n) ((0:Nat):Int):=by
  unfold W.onesL
  simp only [Int.toNat_natCast]
  rfl
 rw [hL]
 generalize W.onesF ((maskN o.2.2.1 ||| 2^o.2.2.2.1.toNat:Nat):Int) (2^n) ((0:Nat):Int)=L at m1 m2 m3
 have hf3:∀x,x<2^n→FitsK (gateK o v x) (2*t+3) (t+1):=fun x hx=>by
  have hc:gateK o (cut (2^n) v) x=gateK o v x:=UN (if_pos hx) (if_pos (fl_lt hq hx))
  rw [←hc]
  exact gate_fits (L:=2*t+1) (t:=t) (fun x=>by
   unfold cut
   split
   ·exact hv.fit x (by assumption)
   ·exact FitsK.zero _ _) x
 obtain ⟨r,r1,r2⟩:=iter_seq (f:=f)
  (fun rem s=>rem.Nodup∧(∀x∈rem,x∈L)∧s.length=2^n ∧
   ∀y:Nat,y<2^n→((((y:Int)∈rem∨((fl o.2.2.2.1 y:Nat):Int)∈rem)→Num 4294967296 (s.getD y z0) (v y) (2*t+1) t) ∧
    (¬((y:Int)∈rem∨((fl o.2.2.2.1 y:Nat):Int)∈rem)→Num 4294967296 (s.getD y z0) (gateK o v y) (2*t+3) (t+1))))
  (fun r=>r.length=2^n ∧ ∀y,y<2^n→Num 4294967296 (r.getD y z0) (gateK o v y) (2*t+3) (t+1))
  (by
   rintro x rem s ⟨p1,p2,p3,p4⟩
   obtain ⟨x,rfl,_,x1,x2⟩:=m1 x (p2 x (by simp))
   rw [mask_ones] at x2
   have hx:x<2^n:=by omega
   have hfx:=fl_lt hq hx
   obtain ⟨q1,q2⟩:=List.nodup_cons.1 p1
   have hbf:∀z:Nat,(z:Int)∈L→bt o.2.2.2.1 z=true:=fun z hz=>by
    obtain ⟨z',e,_,_,z2⟩:=m1 _ hz
    have:z'=z:=by omega
    rw [mask_ones] at z2
    exact this▸z2.1
   have hnf:((fl o.2.2.2.1 x:Nat):Int)∉rem:=fun hz=>by
    have:=hbf _ (p2 _ (List.mem_cons_of_mem _ hz))
    rw [Hj,x2.1] at this
    cases this
   obtain ⟨s',s1,s2,s3,s4,s5⟩:=hstep x rem s hx x2.1 x2.2 p3 ((p4 x hx).1 (.inl (by simp))) ((p4 _ hfx).1 (.inr (by rw [fl_fl];simp)))
   refine ⟨s',s1,q2,fun z hz=>p2 z (List.mem_cons_of_mem _ hz),s2,fun y hy=>?_⟩
   by_cases e1:y=x
   ·subst e1
    refine ⟨fun hh=>?_,fun _=>s3⟩
    rcases hh with hh | hh
    ·exact absurd hh q1
    ·exact absurd hh hnf
   ·by_cases e2:y=fl o.2.2.2.1 x
    ·subst e2
     refine ⟨fun hh=>?_,fun _=>s4⟩
     rw [fl_fl] at hh
     rcases hh with hh | hh
     ·exact absurd hh hnf
     ·exact absurd hh q1
    ·rw [s5 y e1 e2]
     have e3:((y:Int)∈(x:Int)::rem∨((fl o.2.2.2.1 y:Nat):Int)∈(x:Int)::rem)↔((y:Int)∈rem∨((fl o.2.2.2.1 y:Nat):Int)∈rem):=by
      rw [List.mem_cons,List.mem_cons]
      constructor
      ·rintro ((h | h) | (h | h))
       ·exact absurd (by omega) e1
       ·exact .inl h
       ·refine absurd ?_ e2
        have:fl o.2.2.2.1 y=x:=by omega
        rw [←this,fl_fl]
       ·exact .inr h
      ·rintro (h | h)
       ·exact .inl (.inr h)
       ·exact .inr (.inr h)
     have:=p4 y hy
     rw [e3] at this
     exact this)
  (by
   rintro s ⟨p1,p2,p3,p4⟩
   exact ⟨s,hnil s,p3,fun y hy=>(p4 y hy).2 (by simp)⟩)
  L l ⟨m3,fun _ h=>h,hv.len,fun y hy=>⟨fun _=>hv.at_ y hy,fun hno=>by
   have e:gateK o v y=v y:=by
    refine Hw ?_
    rw [←Bool.not_eq_true]
    intro hon
    by_cases hb:bt o.2.2.2.1 y=true
    ·exact hno (.inl (m2 y (Nat.zero_le _) (by omega) (mask_ones.2 ⟨hb,hon⟩)))
    ·refine hno (.inr (m2 _ (Nat.zero_le _) (by have:=fl_lt hq hy;omega) (mask_ones.2 ⟨?_,by rw [ho.ones];exact hon⟩)))
     rw [Hj]
     simpa using hb
   rw [e]
   have:=hf3 y hy
   rw [e] at this
   exact (hv.at_ y hy).fit this⟩⟩
 refine ⟨r,r1,r2.1,fun y hy=>?_,fun y hy=>?_⟩
 ·exact r2.2 y hy
 ·exact hf3 y hy
end Go.Ql
end

section
namespace Go.Ql
theorem Vv {α:Type} (l:List α):part 0 (l.length:Int) l=l:=by
 unfold part
 simp
theorem okR {x N:Nat} (h:x<N):okIf (decide ((0:Int)≤(x:Int))&&decide ((x:Int)<(N:Int)))=some ():=
 jr (by rw [Bool.and_eq_true,decide_eq_true_iff,decide_eq_true_iff];omega)
theorem idxP {l:List NumT} {x:Nat} (h:x<l.length):idx l ((0:Int)+(x:Int))=some (l.getD x z0):=by
 rw [Int.zero_add];exact idxN h
theorem setP (l:List NumT) (x:Nat) (r:NumT):List.set l (Int.toNat ((0:Int)+(x:Int))) r=l.set x r:=by
 rw [Int.zero_add,Int.toNat_natCast]
theorem apply_walk {l:List NumT} {v:KV} {o:GOp} {n t:Nat} (hv:AmpP l (2^n) v t) (ho:Ok1 o n) (hn:n≤20) (ht:t≤8900) (hk:o.1=1∨o.1=2∨o.1=3∨o.1=4) (hk1:o.1=1→o.2.2.1=[]) (hk2:o.2.1≤9223372036854775807) :
 ∃r,W.jd (0:Int) ((2^n:Nat):Int) o l=some (r,())∧AmpP r (2^n) (gateK o v) (t+1):=by
 have hN:2^n≤2^20:=Nat.pow_le_pow_right (by decide) hn
 have hlen:=hv.len
 have hq:=ho.q
 have hk0:=ho.k
 have hm0:=maskN_lt ho.qs
 have hp0:2^o.2.2.2.1.toNat<2^62:=Nat.pow_lt_pow_right (by decide) (by omega)
 have hmask:=mask_ok ho.qs ho.len
 have hor:ibits BinOp.or IntKind.i64 ((maskN o.2.2.1:Nat):Int) (IntKind.i64.wrap ((1:Int)*(2:Int)^Min.min (Int.toNat o.2.2.2.1) (64:Nat)))=((maskN o.2.2.1 ||| 2^o.2.2.2.1.toNat:Nat):Int):=by
  rw [pow63 (by omega),iori64 (by omega) (by omega)]
 have hxor:∀x:Nat,x<2^n→ibits BinOp.xor IntKind.i64 (x:Int) (IntKind.i64.wrap ((1:Int)*(2:Int)^Min.min (Int.toNat o.2.2.2.1) (64:Nat)))=((fl o.2.2.2.1 x:Nat):Int):=fun x hx=>by
  rw [pow63 (by omega),ixori64 (by omega) (by omega)]
  rfl
 have hf3:∀x,x<2^n→FitsK (gateK o v x) (2*t+3) (t+1):=fun x hx=>by
  have hc:gateK o (cut (2^n) v) x=gateK o v x:=UN (if_pos hx) (if_pos (fl_lt hq hx))
  rw [←hc]
  exact gate_fits (L:=2*t+1) (t:=t) (fun x=>by
   unfold cut
   split
   ·exact hv.fit x (by assumption)
   ·exact FitsK.zero _ _) x
 have hturn:∀{a:NumT} {x:Nat},Num 4294967296 a (v x) (2*t+1) t → ∃r,W.jz a o.2.1=some r∧Num 4294967296 r (K.turn (v x) o.2.1.toNat) (2*t+1) t:=fun {a x} ha=>by
  obtain ⟨r,r1,r2⟩:=nturn_i ha (by omega) o.2.1 (by omega)
  rw [turn_toNat _ hk0] at r2
  exact ⟨r,r1,r2⟩
 unfold W.jd W.jd.c1
 rw [hmask,ja,jr (by simpa using hq.1),ja,ja]
 rcases hk with hk | hk | hk | hk
 ·
  have hnil:=hk1 hk
  obtain ⟨y,q1,r,q2,q3,q4⟩:=Jo (f:=fun s:Int×List NumT↦W.jd.cf_ (↑(List.length (part (0:Int) ((2^n:Nat):Int) l)):Int) (Prod.fst s) (0:Int) ((2^n:Nat):Int) (Prod.fst (Prod.snd o)) (Prod.snd s) some) (2^n)
   (fun i s=>s.1=(i:Int)∧s.2.length=2^n ∧ ∀y,y<2^n→(y<i→Num 4294967296 (s.2.getD y z0) (gateK o v y) (2*t+3) (t+1))∧(¬y<i→Num 4294967296 (s.2.getD y z0) (v y) (2*t+1) t))
   (fun y=>∃r,y=(((2^n:Nat):Int),r)∧r.length=2^n ∧ ∀y,y<2^n→Num 4294967296 (r.getD y z0) (gateK o v y) (2*t+3) (t+1))
   (by
    rintro i ⟨s,out⟩ hi ⟨p1,p2,p3⟩
    simp only at p1 p2 p3
    subst p1
    left
    obtain ⟨r,r1,r2⟩:=hturn ((p3 i hi).2 (Nat.lt_irrefl _))
    refine ⟨(((i+1:Nat):Int),out.set i r),?_,rfl,by simpa using p2,fun y hy=>?_⟩
    ·simp only [W.jd.cf_,W.jd.c7]
     rw [←hlen,Vv,hlen,ju (by omega),okR hi,ja,idxP (by omega),ja,r1,ja,ja,ja,ja,setP,jh (by omega)]
     rfl
    ·simp only
     rw [kU (by omega)]
     by_cases e:y=i
     ·subst e
      refine ⟨fun _=>?_,fun h=>absurd (Nat.lt_succ_self _) h⟩
      rw [if_pos rfl]
      refine Num.fit (L:=2*t+1) (E:=t) ?_ (hf3 y hy)
      rw [gate_turn (by rw [hnil];rfl) (.inl hk)]
      exact r2
     ·rw [if_neg e]
      exact ⟨fun h=>(p3 y hy).1 (by omega),fun h=>(p3 y hy).2 (by omega)⟩)
   (by
    rintro ⟨s,out⟩ ⟨p1,p2,p3⟩
    simp only at p1 p2 p3
    subst p1
    refine ⟨_,?_,out,rfl,p2,fun y hy=>(p3 y hy).1 hy⟩
    simp only [W.jd.cf_]
    rw [←hlen,Vv,js (by omega)])
   (s:=((0:Int),l)) ⟨rfl,hlen,fun y hy=>⟨fun h=>by omega,fun _=>hv.at_ y hy⟩⟩
  subst q2
  rw [Ja (by simpa using hk),q1,ja]
  exact ⟨r,rfl,q3,q4,hf3⟩
 ·
  rw [jG (by rw [hk];rfl),jG (by rw [hk];rfl),Ja (by simpa using hk),hor]
  unfold W.Jh
  rw [ja]
  obtain ⟨r,r1,r2⟩:=pairs_loop (f:=fun s↦W.jd.cB_ (Prod.fst s) (0:Int) ((2^n:Nat):Int) (IntKind.i64.wrap ((1:Int)*(2:Int)^Min.min (Int.toNat (Prod.fst (Prod.snd (Prod.snd (Prod.snd o))))) (64:Nat))) (Prod.snd s) some) hv ho hn (fun s=>rfl)
   (by
    intro x r s hx hb hon hs hx1 hx2
    have hfx:=fl_lt hq hx
    have hne:=fl_ne o.2.2.2.1 x
    refine ⟨(s.set x (s.getD (fl o.2.2.2.1 x) z0)).set (fl o.2.2.2.1 x) (s.getD x z0),?_,by simpa using hs,?_,?_,fun y h1 h2=>?_⟩
    ·simp only [W.jd.cB_,W.jd.c16]
     rw [jG (by rfl),show idx ((x:Int)::r) (0:Int)=some (x:Int) from rfl,ja,hxor x hx,okR hfx,ja,idxP (by omega),ja,okR hx,ja,idxP (by omega),ja,ja,ja,ja,setP,setP,idxP (by rw [List.length_set];omega),ja,ja]
     rfl
    ·rw [kU (by rw [List.length_set];omega),if_neg (Ne.symm hne),kU (by omega),if_pos rfl]
     refine Num.fit (L:=2*t+1) (E:=t) ?_ (hf3 x hx)
     rw [Hf hon hk]
     exact hx2
    ·rw [kU (by rw [List.length_set];omega),if_pos rfl]
     refine Num.fit (L:=2*t+1) (E:=t) ?_ (hf3 _ hfx)
     rw [Hf (by rw [ho.ones];exact hon) hk,fl_fl]
     exact hx1
    ·rw [kU (by rw [List.length_set];omega),if_neg h2,kU (by omega),if_neg h1])
  refine ⟨r,?_,r2⟩
  rw [show SeqC.L W.ones_sc=W.onesL from rfl,r1,ja]
 ·
  rw [jG (by rw [hk];rfl),jG (by rw [hk];rfl),jG (by rw [hk];rfl),Ja (by simpa using hk),hor]
  unfold W.Jh
  rw [ja]
  have hk3:o.1≠1∧o.1≠2∧o.1≠4:=by omega
  obtain ⟨r,r1,r2⟩:=pairs_loop (f:=fun s↦W.jd.cw_ (Prod.fst s) (0:Int) ((2^n:Nat):Int) (IntKind.i64.wrap ((1:Int)*(2:Int)^Min.min (Int.toNat (Prod.fst (Prod.snd (Prod.snd (Prod.snd o))))) (64:Nat))) (Prod.snd s) some) hv ho hn (fun s=>rfl)
   (by
    intro x r s hx hb hon hs hx1 hx2
    have hfx:=fl_lt hq hx
    have hne:=fl_ne o.2.2.2.1 x
    have hbf:¬bt o.2.2.2.1 (fl o.2.2.2.1 x)=true:=by rw [Hj,hb];decide
    have e1:gateK o v x=K.half (K.sub (v (fl o.2.2.2.1 x)) (v x)):=by
     rw [UM hon hk3,if_pos hb,K.sub,K.half_add,K.half_neg]
    have e2:gateK o v (fl o.2.2.2.1 x)=K.half (K.add (v (fl o.2.2.2.1 x)) (v x)):=by
     rw [UM (by rw [ho.ones];exact hon) hk3,if_neg hbf,fl_fl,K.half_add,K.add_comm]
    obtain ⟨za,za1,za2⟩:=nzero_ok hx2
    obtain ⟨zb,zb1,zb2⟩:=nzero_ok hx1
    have hc20:W.jd.c20 (x:Int) (0:Int) ((2^n:Nat):Int) (IntKind.i64.wrap ((1:Int)*(2:Int)^Min.min (Int.toNat (Prod.fst (Prod.snd (Prod.snd (Prod.snd o))))) (64:Nat))) s some=some ([s.getD (fl o.2.2.2.1 x) z0],[s.getD x z0]):=by
     unfold W.jd.c20
     rw [hxor x hx,okR hfx,ja,idxP (by omega),ja,okR hx,ja,idxP (by omega),ja]
    have hc21:W.jd.c21 [s.getD (fl o.2.2.2.1 x) z0] [s.getD x z0] some=some (za&&zb):=by
     unfold W.jd.c21
     rw [bx_at,ja,za1,ja,bx_at,ja,zb1]
     cases za<;>rfl
    by_cases hz:(za&&zb)=true
    ·rw [Bool.and_eq_true] at hz
     have hv1:=za2.1 hz.1
     have hv2:=zb2.1 hz.2
     have eg1:gateK o v x=v x:=by rw [e1,hv1,hv2,K.sub_self,K.half_zero]
     have eg2:gateK o v (fl o.2.2.2.1 x)=v (fl o.2.2.2.1 x):=by rw [e2,hv1,hv2,K.add_zero,K.half_zero]
     refine ⟨s,?_,hs,?_,?_,fun _ _ _=>rfl⟩
     ·simp only [W.jd.cw_]
      rw [jG (by rfl),show idx ((x:Int)::r) (0:Int)=some (x:Int) from rfl,ja,hc20,ja,hc21,ja,Ja (by rw [hz.1,hz.2];rfl)]
      rfl
     ·have:=hf3 x hx
      rw [eg1] at this ⊢
      exact hx1.fit this
     ·have:=hf3 _ hfx
      rw [eg2] at this ⊢
      exact hx2.fit this
    ·have hz':(za&&zb)=false:=by simpa using hz
     have f1:=hv.fit x hx
     have f2:=hv.fit _ hfx
     obtain ⟨a,a1,a2⟩:=nadd_t hx2 hx1 (by omega)
     have a3:=a2.fit (f2.add f1)
     obtain ⟨b,b1,b2⟩:=nhalf_t a3 (by omega)
     obtain ⟨c,c1,c2⟩:=nsub_t hx2 hx1 (by omega)
     have c3:=c2.fit (f2.add f1.neg)
     obtain ⟨d,d1,d2⟩:=nhalf_t c3 (by omega)
     refine ⟨(s.set (fl o.2.2.2.1 x) b).set x d,?_,by simpa using hs,?_,?_,fun y h1 h2=>?_⟩
     ·simp only [W.jd.cw_,W.jd.c22]
      rw [jG (by rfl),show idx ((x:Int)::r) (0:Int)=some (x:Int) from rfl,ja,hc20,ja,hc21,ja,jG hz',bx_at,ja,bx_at,ja,a1,ja,b1,ja,ja,ja,c1,ja,d1,ja,hxor x hx,okR hfx,ja,idxP (by omega),ja,okR hx,ja,setP,idxP (by rw [List.length_set];omega),ja,setP,ja]
      rfl
     ·rw [kU (by rw [List.length_set];omega),if_pos rfl]
      have:=hf3 x hx
      rw [e1] at this ⊢
      exact d2.fit this
     ·rw [kU (by rw [List.length_set];omega),if_neg hne,kU (by omega),if_pos rfl]
      have:=hf3 _ hfx
      rw [e2] at this ⊢
      exact b2.fit this
     ·rw [kU (by rw [List.length_set];omega),if_neg h1,kU (by omega),if_neg h2])
  refine ⟨r,?_,r2⟩
  rw [show SeqC.L W.ones_sc=W.onesL from rfl,r1,ja]
 ·
  rw [jG (by rw [hk];rfl),Ja (by simpa using hk),hor]
  unfold W.Jh
  rw [ja]
  obtain ⟨r,r1,r2⟩:=pairs_loop (f:=fun s↦W.jd.cA_ (Prod.fst s) (0:Int) ((2^n:Nat):Int) (Prod.fst (Prod.snd o)) (Prod.snd s) some) hv ho hn (fun s=>rfl)
   (by
    intro x r s hx hb hon hs hx1 hx2
    have hfx:=fl_lt hq hx
    have hne:=fl_ne o.2.2.2.1 x
    have hbf:¬bt o.2.2.2.1 (fl o.2.2.2.1 x)=true:=by rw [Hj,hb];decide
    obtain ⟨a,a1,a2⟩:=hturn hx1
    refine ⟨s.set x a,?_,by simpa using hs,?_,?_,fun y h1 h2=>?_⟩
    ·simp only [W.jd.cA_,W.jd.c12]
     rw [jG (by rfl),show idx ((x:Int)::r) (0:Int)=some (x:Int) from rfl,ja,okR hx,ja,idxP (by omega),ja,a1,ja,ja,ja,setP,ja]
     rfl
    ·rw [kU (by omega),if_pos rfl]
     refine Num.fit (L:=2*t+1) (E:=t) ?_ (hf3 x hx)
     rw [gate_turn hon (.inr ⟨hk,hb⟩)]
     exact a2
    ·rw [kU (by omega),if_neg hne]
     have:=hf3 _ hfx
     rw [gate_stay (by rw [ho.ones];exact hon) hk hbf] at this ⊢
     exact hx2.fit this
    ·rw [kU (by omega),if_neg h1])
  refine ⟨r,?_,r2⟩
  rw [show SeqC.L W.ones_sc=W.onesL from rfl,r1,ja]
end Go.Ql
end

section
namespace Go.Ql
structure OkS (o:GOp) (n bn:Nat):Prop where
 p:OkP o n bn
 kind:1≤o.1∧o.1≤6
 ph:o.1=1→o.2.2.1=[]
 k15:o.2.1≤15
theorem oks_good {o:Op} {n bn:Nat} (h:GoodOp o (n:Int) (bn:Int)) (hw:WOp o) (hn:n≤12):OkS o n bn:=by
 have h1:=ctlBad_zero.mp h.ctls
 have hl:=hw.1
 refine ⟨⟨⟨h.q,h.k.1,fun q hq=>?_,by omega,fun hm=>(h1.1 _ hm).2.2.1 rfl⟩,by have:=h.ifs;omega,fun c hc=>?_,fun h5=>?_⟩,h.kind,fun hk=>?_,h.k.2⟩
 ·have:=h1.1 q hq;omega
 ·have hcond:=h.cond
  unfold ifBad at hcond
  have:¬(c=0∨(bn:Int)<c∨c < -(bn:Int)):=fun hh=>hcond ⟨c,hc,hh⟩
  omega
 ·rcases h.bit with hb | hb
  ·exact hb.2
  ·exact absurd h5 hb.1
 ·rcases h.ctl with e | e
  ·exact e
  ·omega
def B01 (bits:List Int):Prop:=∀j,bits.getD j 0=0∨bits.getD j 0=1
theorem B01.zero (n:Nat):B01 (List.replicate n 0):=fun j=>by
 left
 rw [List.getD,List.getElem?_replicate]
 split<;>rfl
theorem B01.set {bits:List Int} (h:B01 bits) (i:Nat) {b:Int} (hb:b=0∨b=1):B01 (bits.set i b):=fun j=>by
 rw [List.getD,List.getElem?_set]
 by_cases e:i=j
 ·rw [if_pos e]
  split
  ·exact hb
  ·exact .inl rfl
 ·rw [if_neg e];exact h j
theorem holds_ok {o:GOp} {bits:List Int} {q b u a:Int} {ops:List GOp} {l:List NumT} (hn:o.2.2.2.2.2.length<2^62) (hb:bits.length<2^62) (hc:∀c∈o.2.2.2.2.2,c≠0∧c≤bits.length ∧ -c≤bits.length) (h01:B01 bits) :
 W.jB o q b ops u a l bits=some (condK bits o,q,b,ops,u,a,l,bits,()):=by
 obtain ⟨o0,o1,o2,o3,o4,cl⟩:=o
 simp only at *
 obtain ⟨y,h1,h2⟩:=Jo (f:=fun s:Int↦W.jB.cc_ cl (↑(List.length cl):Int) s bits some) cl.length
  (fun i s=>s=(i:Int) ∧ ∀j,j<i→((decide (cl.getD j 0≤0)||bits.getD (cl.getD j 0-1).toNat 0==1)&&(decide (0≤cl.getD j 0)||bits.getD (-cl.getD j 0-1).toNat 0==0))=true)
  (fun y=>(∃i,y=.inl i∧condK bits (o0,o1,o2,o3,o4,cl)=false)∨(∃i,y=.inr i∧condK bits (o0,o1,o2,o3,o4,cl)=true))
  (by
   rintro i s hi ⟨rfl,h2⟩
   have hm:cl.getD i 0∈cl:=by
    have e:cl.getD i 0=cl[i]:=by simp [hi]
    rw [e];exact List.getElem_mem hi
   obtain ⟨c0,c1,c2⟩:=hc _ hm
   have hbad:((decide (cl.getD i 0≤0)||bits.getD (cl.getD i 0-1).toNat 0==1)&&(decide (0≤cl.getD i 0)||bits.getD (-cl.getD i 0-1).toNat 0==0))=false→condK bits (o0,o1,o2,o3,o4,cl)=false:=fun hf=>by
    rw [←Bool.not_eq_true]
    intro ht
    unfold condK at ht
    rw [List.all_eq_true] at ht
    have:=ht _ hm
    rw [hf] at this
    cases this
   have hgo:((decide (cl.getD i 0≤0)||bits.getD (cl.getD i 0-1).toNat 0==1)&&(decide (0≤cl.getD i 0)||bits.getD (-cl.getD i 0-1).toNat 0==0))=true → ∀j,j<i+1→((decide (cl.getD j 0≤0)||bits.getD (cl.getD j 0-1).toNat 0==1)&&(decide (0≤cl.getD j 0)||bits.getD (-cl.getD j 0-1).toNat 0==0))=true:=fun ht j hj=>by
    by_cases e:j=i
    ·rw [e];exact ht
    ·exact h2 j (by omega)
   simp only [W.jB.cc_,W.jB.c4]
   rw [ju (by omega),Jf i rfl hi,ja]
   generalize cl.getD i 0=c at *
   by_cases hp:c>0
   ·rw [ju hp,jh (by omega),kY (by omega) (by omega),ja,Jf (c-1).toNat (by omega) (by omega),ja]
    have e2:decide (0≤c)=true:=decide_eq_true (by omega)
    have e1:decide (c≤0)=false:=decide_eq_false (by omega)
    rw [e1,e2] at hbad hgo
    rcases h01 (c-1).toNat with hv | hv
    ·rw [Ja (by rw [hv];rfl),ja,Ja rfl]
     exact .inr ⟨_,rfl,.inl ⟨_,rfl,hbad (by rw [hv];rfl)⟩⟩
    ·rw [jG (by rw [hv];rfl),js (by omega),ja,jG rfl,jh (by omega)]
     exact .inl ⟨_,rfl,by omega,hgo (by rw [hv];rfl)⟩
   ·rw [js hp,ju (by omega),jh (x:=0-c) (by omega),jh (by omega),Int.zero_sub,kY (by omega) (by omega),ja,Jf (-c-1).toNat (by omega) (by omega),ja]
    have e2:decide (0≤c)=false:=decide_eq_false (by omega)
    have e1:decide (c≤0)=true:=decide_eq_true (by omega)
    rw [e1,e2] at hbad hgo
    rcases h01 (-c-1).toNat with hv | hv
    ·rw [ja,jG (by rw [hv];rfl),jh (by omega)]
     exact .inl ⟨_,rfl,by omega,hgo (by rw [hv];rfl)⟩
    ·rw [ja,Ja (by rw [hv];rfl)]
     exact .inr ⟨_,rfl,.inl ⟨_,rfl,hbad (by rw [hv];rfl)⟩⟩)
  (by
   rintro s ⟨rfl,h2⟩
   refine ⟨.inr (cl.length:Int),?_,.inr ⟨_,rfl,?_⟩⟩
   ·simp only [W.jB.cc_]
    rw [js (by omega)]
   ·unfold condK
    rw [List.all_eq_true]
    intro c hc
    obtain ⟨j,hj,rfl⟩:=List.mem_iff_getElem.1 hc
    have:=h2 j hj
    rw [show cl.getD j 0=cl[j] by simp [hj]] at this
    exact this)
  (s:=(0:Int)) ⟨rfl,fun j hj=>absurd hj (Nat.not_lt_zero _)⟩
 unfold W.jB
 refine kM h1 ?_
 rcases h2 with ⟨i,rfl,e⟩ | ⟨i,rfl,e⟩
 ·rw [JL,e]
 ·rw [ke,e]
theorem bit_val {x:Nat} {q:Int} (hx:x<2^63) (hq:0≤q∧q<64):ibits BinOp.and IntKind.i64 (Int.fdiv (x:Int) ((2:Int)^Min.min (Int.toNat q) (64:Nat))) (1:Int)=if bt q x=true then 1 else 0:=by
 have h1:Int.fdiv (x:Int) ((2:Int)^Min.min (Int.toNat q) (64:Nat))=((x / 2^q.toNat:Nat):Int):=by
  rw [Nat.min_eq_left (by omega),Int.fdiv_eq_ediv_of_nonneg _ (by have:(0:Int)≤((2^q.toNat:Nat):Int):=Int.natCast_nonneg _;simpa using this)]
  norm_cast
 have h2:=HL (a:=x / 2^q.toNat) (b:=1) (Nat.lt_of_le_of_lt (Nat.div_le_self _ _) hx) (by decide)
 rw [show ((1:Nat):Int)=1 from rfl] at h2
 rw [h1,h2]
 have h3:x / 2^q.toNat &&& 1=x / 2^q.toNat % 2:=Nat.and_one_is_mod _
 have h4:bt q x=decide (x / 2^q.toNat % 2=1):=by
  unfold bt
  rw [Nat.testBit,Nat.shiftRight_eq_div_pow,Nat.and_comm 1,h3]
  have:x / 2^q.toNat % 2=0∨x / 2^q.toNat % 2=1:=by omega
  rcases this with h | h<;>rw [h]<;>rfl
 rw [h3,h4]
 have:x / 2^q.toNat % 2=0∨x / 2^q.toNat % 2=1:=by omega
 rcases this with h | h<;>rw [h]<;>rfl
theorem keep_walk {l:List NumT} {v:KV} {n t:Nat} {q b:Int} (hv:AmpP l (2^n) v t) (hn:n≤20) (hq:0≤q∧q<62) (hb:b=0∨b=1) :
 ∃r,W.jy (0:Int) ((2^n:Nat):Int) q b l=some (r,())∧AmpP r (2^n) (outK q b v) t:=by
 have hN:2^n≤2^20:=Nat.pow_le_pow_right (by decide) hn
 have hlen:=hv.len
 obtain ⟨y,q1,r,q2,q3,q4⟩:=Jo (f:=fun s:Int×List NumT↦W.jy.cd_ (0:Int) ((2^n:Nat):Int) q b (↑(List.length (part (0:Int) ((2^n:Nat):Int) l)):Int) (Prod.fst s) (Prod.snd s) some) (2^n)
  (fun i s=>s.1=(i:Int)∧s.2.length=2^n ∧ ∀y,y<2^n→Num 4294967296 (s.2.getD y z0) (if y<i then outK q b v y else v y) (2*t+1) t)
  (fun y=>∃r,y=(((2^n:Nat):Int),r)∧r.length=2^n ∧ ∀y,y<2^n→Num 4294967296 (r.getD y z0) (outK q b v y) (2*t+1) t)
  (by
   rintro i ⟨s,out⟩ hi ⟨p1,p2,p3⟩
   simp only at p1 p2 p3
   subst p1
   left
   obtain ⟨r,r1,r2,r3⟩:∃r,W.jy.cx_ (0:Int) ((2^n:Nat):Int) q b (i:Int) out some=some r∧r.length=2^n ∧ ∀y,y<2^n→Num 4294967296 (r.getD y z0) (if y<i+1 then outK q b v y else v y) (2*t+1) t:=by
    unfold W.jy.cx_
    rw [jr (by simpa using hq.1),ja,bit_val (by omega) (by omega)]
    by_cases e:bt q i=decide (b=1)
    ·have hbb:((if bt q i=true then 1 else 0:Int) !=b)=false:=by
      rw [e];rcases hb with rfl | rfl<;>decide
     rw [jG hbb]
     refine ⟨_,rfl,p2,fun y hy=>?_⟩
     by_cases ey:y=i
     ·subst ey
      have:=p3 y hy
      rw [if_neg (Nat.lt_irrefl _)] at this
      rw [if_pos (Nat.lt_succ_self _)]
      unfold outK
      rw [if_pos e]
      exact this
     ·have:=p3 y hy
      by_cases hyi:y<i
      ·rw [if_pos hyi] at this
       rw [if_pos (by omega)]
       exact this
      ·rw [if_neg hyi] at this
       rw [if_neg (by omega)]
       exact this
    ·have hbb:((if bt q i=true then 1 else 0:Int) !=b)=true:=by
      rcases hb with rfl | rfl<;>cases hx:bt q i<;>rw [hx] at e<;>first | rfl | exact absurd rfl e
     rw [Ja hbb,okR hi,ja,idxP (by omega),ja,setP]
     refine ⟨_,rfl,by simpa using p2,fun y hy=>?_⟩
     rw [kU (by omega)]
     by_cases ey:y=i
     ·subst ey
      rw [if_pos rfl,if_pos (Nat.lt_succ_self _)]
      unfold outK
      rw [if_neg e]
      exact num_zero
     ·rw [if_neg ey]
      have:=p3 y hy
      by_cases hyi:y<i
      ·rw [if_pos hyi] at this
       rw [if_pos (by omega)]
       exact this
      ·rw [if_neg hyi] at this
       rw [if_neg (by omega)]
       exact this
   refine ⟨(((i+1:Nat):Int),r),?_,rfl,r2,r3⟩
   simp only [W.jy.cd_]
   rw [←hlen,Vv,hlen,ju (by omega),r1,ja,jh (by omega)]
   rfl)
  (by
   rintro ⟨s,out⟩ ⟨p1,p2,p3⟩
   simp only at p1 p2 p3
   subst p1
   refine ⟨_,?_,out,rfl,p2,fun y hy=>?_⟩
   ·simp only [W.jy.cd_]
    rw [←hlen,Vv,js (by omega)]
   ·have:=p3 y hy
    rw [if_pos hy] at this
    exact this)
  (s:=((0:Int),l)) ⟨rfl,hlen,fun y hy=>by rw [if_neg (Nat.not_lt_zero _)];exact hv.at_ y hy⟩
 subst q2
 unfold W.jy
 rw [q1,ja]
 refine ⟨r,rfl,q3,q4,fun y hy=>?_⟩
 unfold outK
 split
 ·exact hv.fit y hy
 ·exact FitsK.zero _ _
theorem pbasis_walk {n i:Nat} (hn:n≤20) (hi:i<2^n):∃r,W.kj (n:Int) (i:Int)=some (r,())∧AmpP r (2^n) (kq i) 0:=by
 have hN:2^n≤2^20:=Nat.pow_le_pow_right (by decide) hn
 obtain ⟨z,z1,z2⟩:=root_ok 0 (by decide)
 have hp:=pow63 (q:=(n:Int)) (by omega)
 rw [Int.toNat_natCast] at hp
 unfold W.kj
 rw [jr (by simp),ja]
 simp only [Int.toNat_natCast] at hp ⊢
 simp only [hp,Int.toNat_natCast]
 rw [jr (by rw [Bool.and_eq_true,Bool.and_eq_true,Bool.and_eq_true,decide_eq_true_iff,decide_eq_true_iff,decide_eq_true_iff,decide_eq_true_iff];omega),ja,z1,ja]
 rw [show (List.replicate (2^n) (List.replicate (8:Nat) (false,([]:List (Ty.den (Ty.int IntKind.u32)))),(0:Int)))=List.replicate (2^n) z0 from rfl,Vo (by simpa using hi),ja,idxN (by simpa using hi),ja]
 have h1:FitsK K.one (2*0+1) 0:=⟨Vg 1,one_kv,single_bd (by decide)⟩
 refine ⟨_,rfl,by simp,fun y hy=>?_,fun y hy=>?_⟩
 ·rw [kU (by simpa using hi),repl_at]
  unfold kq
  by_cases e:y=i
  ·rw [if_pos e,if_pos e]
   exact z2
  ·rw [if_neg e,if_neg e]
   exact num_zero
 ·unfold kq
  split
  ·exact h1
  ·exact FitsK.zero _ _
end Go.Ql
end

section
namespace Go.Ql
theorem onward_walk {n bn:Nat} {ops:List GOp} {tape:List Int} {q b u:Int} {us:Nat} {bits:List Int} (hn:n≤12) (hbn:bn<2^40) (hl:ops.length≤8000) (hops:∀o∈ops,OkS o n bn) (hb:bits.length=bn) (h01:B01 bits)
 {i:Nat} {l:List NumT} {v:KV} (hv:AmpP l (2^n) v i) (hi:i≤ops.length) :
 ∃(c:Bool) (j:Nat) (l':List NumT) (v':KV),W.jg q b ops u (i:Int) l bits=some (c,q,b,ops,u,(j:Int),l',bits,())∧AmpP l' (2^n) v' j∧i≤j∧j≤ops.length ∧
  playK tape i (ops.drop i) (v,bits,us)=playK tape j (ops.drop j) (v',bits,us)∧(c=false→j=ops.length)∧(c=true → ∃h:j<ops.length,condK bits ops[j]=true ∧ ¬ops[j].1<5):=by
 obtain ⟨y,y1,y2⟩:=Jw (f:=fun s:Int×Int×List GOp×Int×Int×List NumT×List Int↦W.jg.cd_ (Prod.fst s) (Prod.fst (Prod.snd s)) (Prod.fst (Prod.snd (Prod.snd s))) (Prod.fst (Prod.snd (Prod.snd (Prod.snd s)))) (Prod.fst (Prod.snd (Prod.snd (Prod.snd (Prod.snd s))))) (Prod.fst (Prod.snd (Prod.snd (Prod.snd (Prod.snd (Prod.snd s)))))) (Prod.snd (Prod.snd (Prod.snd (Prod.snd (Prod.snd (Prod.snd s)))))) some)
  (J:=fun s=>∃(j:Nat) (l':List NumT) (v':KV),s=(q,b,ops,u,(j:Int),l',bits)∧AmpP l' (2^n) v' j∧i≤j∧j≤ops.length∧playK tape i (ops.drop i) (v,bits,us)=playK tape j (ops.drop j) (v',bits,us))
  (Q:=fun y=>∃(j:Nat) (l':List NumT) (v':KV),AmpP l' (2^n) v' j∧i≤j∧j≤ops.length∧playK tape i (ops.drop i) (v,bits,us)=playK tape j (ops.drop j) (v',bits,us) ∧
   ((y=.inl (q,b,ops,u,(j:Int),l',bits) ∧ ∃h:j<ops.length,condK bits ops[j]=true ∧ ¬ops[j].1<5)∨(y=.inr (q,b,ops,u,(j:Int),l',bits)∧j=ops.length)))
  (fun s=>ops.length-s.2.2.2.2.1.toNat)
  (by
   rintro s ⟨j,l',v',rfl,p1,p2,p3,p4⟩
   simp only [W.jg.cd_,W.jg.c1,ja]
   by_cases hj:j<ops.length
   ·have hd:ops.drop j=ops[j]::ops.drop (j+1):=List.drop_eq_getElem_cons hj
    have hm:ops[j]∈ops:=List.getElem_mem hj
    have hk:=hops _ hm
    have hidx:idx ops (j:Int)=some ops[j]:=Vy hj
    have hcond:=holds_ok (o:=ops[j]) (bits:=bits) (q:=q) (b:=b) (u:=u) (a:=(j:Int)) (ops:=ops) (l:=l') hk.p.ifs (by rw [hb];omega) (by rw [hb];exact hk.p.cond) h01
    rw [ju (by omega)]
    unfold W.jg.cK_ W.jg.c3
    rw [hidx,ja,ja,show (ops[j].1,ops[j].2.1,ops[j].2.2.1,ops[j].2.2.2.1,ops[j].2.2.2.2.1,ops[j].2.2.2.2.2)=ops[j] from rfl,hcond,ja]
    have p4':=p4
    rw [hd] at p4
    simp only [playK] at p4
    have hw:IntKind.i64.wrap ((j:Int)+1)=((j+1:Nat):Int):=by rw [jh (by omega)];omega
    by_cases hc:condK bits ops[j]=false
    ·rw [if_pos hc] at p4
     rw [hc,show (!false)=true from rfl,br_tt,ja,JL]
     simp only
     rw [hw]
     exact .inr ⟨_,rfl,⟨j+1,l',v',rfl,p1.up,by omega,hj,p4⟩,by simp only [Int.toNat_natCast];omega⟩
    ·rw [if_neg hc] at p4
     have hc':condK bits ops[j]=true:=by simpa using hc
     rw [hc',show (!true)=false from rfl,br_ff]
     unfold W.jg.c5
     by_cases h5:ops[j].1<5
     ·rw [if_pos h5] at p4
      obtain ⟨r,r1,r2⟩:=apply_walk p1 hk.p.gate (by omega) (by omega) (by have:=hk.kind;omega) hk.ph (by have:=hk.k15;omega)
      have hlen:=p1.len
      unfold W.jg.c7
      rw [jG (beq_false_of_ne (by omega)),beq_false_of_ne (show ops[j].1≠(6:Int) by omega),ja,br_ff,show (ops[j].1,ops[j].2.1,ops[j].2.2.1,ops[j].2.2.2.1,ops[j].2.2.2.2.1,ops[j].2.2.2.2.2)=ops[j] from rfl]
      simp only
      rw [hlen,r1,ja,ja,ja,JL]
      simp only
      rw [hw]
      exact .inr ⟨_,rfl,⟨j+1,r,_,rfl,r2,by omega,hj,p4⟩,by simp only [Int.toNat_natCast];omega⟩
     ·have h56:ops[j].1=5∨ops[j].1=6:=by have:=hk.kind;omega
      have hbr:br (ops[j].1==(5:Int)) (some true) (some (ops[j].1==(6:Int)))=some true:=by
       rcases h56 with e | e<;>rw [e]<;>rfl
      rw [hbr,ja,br_tt,ja,ke]
      exact .inl ⟨_,rfl,j,l',v',p1,p2,p3,p4',.inl ⟨rfl,hj,hc',h5⟩⟩
   ·rw [js (by omega)]
    exact .inl ⟨_,rfl,j,l',v',p1,p2,p3,p4,.inr ⟨rfl,by omega⟩⟩)
  (s:=(q,b,ops,u,(i:Int),l,bits)) ⟨i,l,v,rfl,hv,Nat.le_refl _,hi,rfl⟩
 obtain ⟨j,l',v',q1,q2,q3,q4,q5⟩:=y2
 unfold W.jg
 rw [y1,ja]
 rcases q5 with ⟨rfl,q5⟩ | ⟨rfl,q5⟩
 ·refine ⟨true,j,l',v',?_,q1,q2,q3,q4,fun h=>(by cases h),fun _=>q5⟩
  rw [JL]
 ·refine ⟨false,j,l',v',?_,q1,q2,q3,q4,fun _=>q5,fun h=>(by cases h)⟩
  rw [ke]
theorem meet_walk {n bn:Nat} {ops:List GOp} {q b x:Int} {us:Nat} {bits:List Int} (hn:n≤12) (hl:ops.length≤8000) (hb:bits.length=bn) {i:Nat} {l:List NumT} {v:KV} (hv:AmpP l (2^n) v i) (hi:i<ops.length)
 (ho:OkS ops[i] n bn) (h5:¬ops[i].1<5) (hx:x=0∨x=1) (hu:us<2^62) :
 ∃l',W.jm x q b ops (us:Int) (i:Int) l bits=some (q,b,ops,((us+1:Nat):Int),((i+1:Nat):Int),l',(meetK ops[i] x (v,bits,us)).2.1,())∧AmpP l' (2^n) (meetK ops[i] x (v,bits,us)).1 (i+1)∧(meetK ops[i] x (v,bits,us)).2.2=us+1∧(meetK ops[i] x (v,bits,us)).2.1.length=bn:=by
 have hq:=ho.p.gate.q
 have hidx:idx ops (i:Int)=some ops[i]:=Vy hi
 obtain ⟨r,r1,r2⟩:=keep_walk (q:=ops[i].2.2.2.1) (b:=x) hv (by omega) (by omega) hx
 have hlr:=r2.len
 have hw:IntKind.i64.wrap ((i:Int)+1)=((i+1:Nat):Int):=by rw [jh (by omega)];omega
 have hw2:IntKind.i64.wrap ((us:Int)+1)=((us+1:Nat):Int):=by rw [jh (by omega)];omega
 unfold W.jm W.jm.c0
 rw [hidx,ja,ja]
 unfold W.jm.c1
 simp only
 rw [hv.len,r1,ja,ja,hw,hw2]
 unfold W.jm.cS_
 by_cases hm5:ops[i].1=5
 ·have hbit:=ho.p.bit hm5
  unfold W.jm.c3
  rw [Ja (by simpa using hm5),kY hbit.1 (by rw [hb];exact hbit.2),ja,Jf ops[i].2.2.2.2.1.toNat (by omega) (by rw [hb];omega),ja,ja,ja]
  unfold meetK
  rw [if_neg (fun h=>h.1 hm5),if_pos hm5]
  exact ⟨r,rfl,r2.up,rfl,by rw [List.length_set];exact hb⟩
 ·rw [jG (by simpa using hm5)]
  unfold meetK
  simp only
  rw [if_neg hm5]
  by_cases hb1:x=1
  ·rw [Ja (by simpa using hb1),if_pos ⟨hm5,hb1⟩,←HU [] 0 ops[i].2.2.2.1 0 []]
   obtain ⟨s,s1,s2⟩:=apply_walk r2 (ok1_x ho.p.gate) (by omega) (by omega) (.inr (.inl rfl)) (fun h=>rfl) (by show (0:Int)≤9223372036854775807;decide)
   unfold W.jm.c5
   rw [hlr,s1,ja,ja,ja]
   exact ⟨s,rfl,s2,trivial,hb⟩
  ·rw [jG (by simpa using hb1),ja,if_neg (fun h=>hb1 h.2)]
   exact ⟨r,rfl,r2.up,trivial,hb⟩
theorem meet_01 {o:GOp} {x:Int} {s:SK} (h:B01 s.2.1) (hx:x=0∨x=1):B01 (meetK o x s).2.1:=by
 unfold meetK
 simp only
 split
 ·exact h.set _ hx
 ·exact h
theorem played_good {n bn:Nat} {ops:List GOp} {tape:List Int} {i0:Nat} (hn:n≤12) (hbn:bn<2^40) (hl:ops.length≤8000) (ht:tape.length<2^62) (hi:i0<2^n) (hops:∀o∈ops,OkS o n bn)
 (hck:W.jL ((n:Int),(bn:Int),ops)=some ((0:Int),(0:Int))) :
 (∀x,playK tape 0 ops (kq i0,List.replicate bn 0,0)=.inl x→x.1≠0∧W.ji ((n:Int),(bn:Int),ops) (i0:Int) tape=some (.inr ((),(x.1,(x.2:Int)),()))) ∧
 (∀s,playK tape 0 ops (kq i0,List.replicate bn 0,0)=.inr s → ∃l,W.ji ((n:Int),(bn:Int),ops) (i0:Int) tape=some (.inl (((0:Int),(0:Int)),(n:Int),(bn:Int),ops,(s.2.2:Int),(ops.length:Int),l,s.2.1,()))∧AmpP l (2^n) s.1 ops.length):=by
 have hN:2^n≤2^20:=Nat.pow_le_pow_right (by decide) (by omega)
 obtain ⟨l0,b1,b2⟩:=pbasis_walk (show n≤20 by omega) hi
 obtain ⟨R,hR⟩:∃R,playK tape 0 ops (kq i0,List.replicate bn 0,0)=R:=⟨_,rfl⟩
 obtain ⟨y,y1,y2⟩:=Jw (f:=fun s:Int×Int×List GOp×Int×Int×List NumT×List Int↦W.ji.cb_ tape (Prod.fst s) (Prod.fst (Prod.snd s)) (Prod.fst (Prod.snd (Prod.snd s))) (Prod.fst (Prod.snd (Prod.snd (Prod.snd s)))) (Prod.fst (Prod.snd (Prod.snd (Prod.snd (Prod.snd s))))) (Prod.fst (Prod.snd (Prod.snd (Prod.snd (Prod.snd (Prod.snd s)))))) (Prod.snd (Prod.snd (Prod.snd (Prod.snd (Prod.snd (Prod.snd s)))))) some)
  (J:=fun s=>∃(j us:Nat) (l:List NumT) (v:KV) (bits:List Int),s=((n:Int),(bn:Int),ops,(us:Int),(j:Int),l,bits)∧AmpP l (2^n) v j∧j≤ops.length∧bits.length=bn∧B01 bits∧us≤tape.length∧playK tape j (ops.drop j) (v,bits,us)=R)
  (Q:=fun y=>(∃u:Int×Int×Int×Int×List GOp×Int×Int×List NumT×List Int,∃x:Int×Nat,y=.inl u∧R=.inl x∧u.1=x.1∧u.2.1=(x.2:Int)∧x.1≠0) ∨
   (∃(s:SK) (l:List NumT),R=.inr s∧y=.inr ((n:Int),(bn:Int),ops,(s.2.2:Int),(ops.length:Int),l,s.2.1)∧AmpP l (2^n) s.1 ops.length))
  (fun s=>ops.length-s.2.2.2.2.1.toNat)
  (by
   rintro s ⟨j,us,l,v,bits,rfl,p1,p2,p3,p4,p5,p6⟩
   obtain ⟨c,k,l',v',o1,o2,o3,o4,o5,o6,o7⟩:=onward_walk (tape:=tape) (us:=us) (q:=(n:Int)) (b:=(bn:Int)) (u:=(us:Int)) hn hbn hl hops p3 p4 p1 p2
   rw [p6] at o5
   simp only [W.ji.cb_]
   rw [o1,ja]
   cases c with
   | false=>
     have hk:=o6 rfl
     subst hk
     rw [List.drop_length] at o5
     simp only [playK] at o5
     rw [br_ff]
     exact .inl ⟨_,rfl,.inr ⟨_,l',o5,rfl,o2⟩⟩
   | true=>
     obtain ⟨hk,hc,h5⟩:=o7 rfl
     have hm:ops[k]∈ops:=List.getElem_mem hk
     rw [List.drop_eq_getElem_cons hk] at o5
     simp only [playK] at o5
     rw [if_neg (by rw [hc];decide),if_neg h5] at o5
     rw [br_tt]
     dsimp only
     by_cases hu:us=tape.length
     ·rw [if_pos hu] at o5
      rw [Ja (by simp [hu]),show W.JX (19:Int) (k:Int)=some (19,(k:Int)) from rfl,ja]
      exact .inl ⟨_,rfl,.inl ⟨_,_,rfl,o5,rfl,rfl,(by first | (show (19:Int)≠0;decide) | (show (20:Int)≠0;decide))⟩⟩
     ·rw [if_neg hu] at o5
      rw [jG (beq_false_of_ne (by omega)),Jf us rfl (by omega),ja]
      unfold W.ji.c8
      obtain ⟨b,hb⟩:∃b,tape.getD us 0=b:=⟨_,rfl⟩
      rw [hb] at o5 ⊢
      by_cases hbad:b≠0∧b≠1
      ·rw [if_pos hbad] at o5
       rw [Ja (by simpa using hbad.1),ja,Ja (by simpa using hbad.2),show W.JX (20:Int) (k:Int)=some (20,(k:Int)) from rfl,ja]
       exact .inl ⟨_,rfl,.inl ⟨_,_,rfl,o5,rfl,rfl,(by first | (show (19:Int)≠0;decide) | (show (20:Int)≠0;decide))⟩⟩
      ·rw [if_neg hbad] at o5
       have hb01:b=0∨b=1:=by omega
       have hc19:(br (b !=(0:Int)) (some (b !=(1:Int))) (some false))=some false:=by rcases hb01 with rfl | rfl<;>rfl
       rw [hc19,ja,br_ff]
       obtain ⟨m,m1,m2,m3,m4⟩:=meet_walk (q:=(n:Int)) (b:=(bn:Int)) (us:=us) hn hl p3 o2 hk (hops _ hm) h5 hb01 (by omega)
       rw [m1,ja]
       refine .inr ⟨_,rfl,⟨k+1,us+1,m,_,_,rfl,m2,hk,m4,meet_01 p4 hb01,by omega,?_⟩,by simp only [Int.toNat_natCast];omega⟩
       rw [o5,←m3])
  (s:=((n:Int),(bn:Int),ops,(0:Int),(0:Int),l0,List.replicate bn 0)) ⟨0,0,l0,kq i0,List.replicate bn 0,rfl,b2,Nat.zero_le _,by simp,B01.zero _,Nat.zero_le _,hR⟩
 have hp:=pow63 (q:=(n:Int)) (by omega)
 have hbeg:W.jv ((n:Int),(bn:Int),ops) (i0:Int)=some (.inl (((0:Int),(0:Int)),(n:Int),(bn:Int),ops,(0:Int),(0:Int),l0,List.replicate bn 0,())):=by
  unfold W.jv W.jv.c4 W.jv.c6
  simp only
  rw [hck,ja,jG (by decide),js (by omega),jr (by simp),ja,hp,Int.toNat_natCast,decide_eq_false (by omega),ja,br_ff,b1,ja,
   jr (by rw [Bool.and_eq_true,Bool.and_eq_true,Bool.and_eq_true,decide_eq_true_iff,decide_eq_true_iff,decide_eq_true_iff,decide_eq_true_iff];omega),ja,ja,Int.toNat_natCast]
 have hrun:W.ji ((n:Int),(bn:Int),ops) (i0:Int) tape=sel y (fun u_1=>some (Sum.inr ((),(Prod.fst u_1,Prod.fst (Prod.snd u_1)),())))
  (fun v_1=>some (Sum.inl (((0:Int),(0:Int)),Prod.fst v_1,Prod.fst (Prod.snd v_1),Prod.fst (Prod.snd (Prod.snd v_1)),Prod.fst (Prod.snd (Prod.snd (Prod.snd v_1))),Prod.fst (Prod.snd (Prod.snd (Prod.snd (Prod.snd v_1)))),Prod.fst (Prod.snd (Prod.snd (Prod.snd (Prod.snd (Prod.snd v_1))))),Prod.snd (Prod.snd (Prod.snd (Prod.snd (Prod.snd (Prod.snd v_1))))),()))):=by
  unfold W.ji
  simp only
  rw [hbeg,ja,JL,jG (by rfl),y1,ja]
 rw [hR]
 rcases y2 with ⟨u,x,rfl,e,e1,e2,e3⟩ | ⟨s,l,e,rfl,e1⟩
 ·subst e
  refine ⟨fun x' hx=>?_,fun s hs=>(by cases hs)⟩
  cases hx
  rw [hrun,JL,e1,e2]
  exact ⟨e3,rfl⟩
 ·subst e
  refine ⟨fun x' hx=>(by cases hx),fun s' hs=>?_⟩
  cases hs
  rw [hrun,ke]
  exact ⟨l,rfl,e1⟩
end Go.Ql
end

section
namespace Go.Ql
def TxtsK (v:KV) (N:Nat) (T:List (List UInt8)):Prop:=T.length=N ∧ ∀x,x<N→KTxt (v x) (T.getD x [])
theorem TxtsK.one {v:KV} {N:Nat} {T U:List (List UInt8)} (h:TxtsK v N T) (g:TxtsK v N U):T=U:=by
 refine List.ext_getElem (h.1.trans g.1.symm) fun x h1 h2=>?_
 have a:=h.2 x (h.1▸h1)
 have b:=g.2 x (h.1▸h1)
 rw [show T.getD x []=T[x] by simp [h1]] at a
 rw [show U.getD x []=U[x] by simp [h2]] at b
 exact KTxt.one a b
theorem texts_walk {l:List NumT} {v:KV} {n t:Nat} (hv:AmpP l (2^n) v t) (hn:n≤20) (ht:t≤9000):∃T,W.jH (0:Int) ((2^n:Nat):Int) l=some (T,l,())∧TxtsK v (2^n) T:=by
 have hN:2^n≤2^20:=Nat.pow_le_pow_right (by decide) hn
 have hlen:=hv.len
 obtain ⟨y,q1,r,q2,q3,q4⟩:=Jo (f:=fun s:Int×List (List UInt8)↦W.jH.ca_ (0:Int) ((2^n:Nat):Int) (↑(List.length (part (0:Int) ((2^n:Nat):Int) l)):Int) (Prod.fst s) (Prod.snd s) l some) (2^n)
  (fun i s=>s.1=(i:Int)∧s.2.length=2^n ∧ ∀x,x<i→KTxt (v x) (s.2.getD x []))
  (fun y=>∃r,y=(((2^n:Nat):Int),r)∧r.length=2^n ∧ ∀x,x<2^n→KTxt (v x) (r.getD x []))
  (by
   rintro i ⟨s,out⟩ hi ⟨p1,p2,p3⟩
   simp only at p1 p2 p3
   subst p1
   left
   obtain ⟨r,r1,r2⟩:=ntext_ok (hv.at_ i hi) (by omega) (by omega)
   refine ⟨(((i+1:Nat):Int),out.set i r),?_,rfl,by simpa using p2,fun x hx=>?_⟩
   ·simp only [W.jH.ca_]
    rw [←hlen,Vv,hlen,ju (by omega),okR hi,ja,idxP (by omega),ja,r1,ja,Vo (by omega),ja,Vy (by omega),ja,Int.toNat_natCast,jh (by omega)]
    rfl
   ·simp only
    by_cases e:x=i
    ·subst e
     rw [List.getD,List.getElem?_set_self (by omega)]
     exact r2
    ·rw [List.getD,List.getElem?_set_ne (Ne.symm e)]
     exact p3 x (by omega))
  (by
   rintro ⟨s,out⟩ ⟨p1,p2,p3⟩
   simp only at p1 p2 p3
   subst p1
   refine ⟨_,?_,out,rfl,p2,p3⟩
   simp only [W.jH.ca_]
   rw [←hlen,Vv,js (by omega)])
  (s:=((0:Int),List.replicate (2^n) [])) ⟨rfl,by simp,fun x hx=>by omega⟩
 subst q2
 have hpl:part (0:Int) ((2^n:Nat):Int) l=l:=by rw [←hlen,Vv]
 unfold W.jH
 rw [hpl] at q1 ⊢
 rw [hlen] at q1 ⊢
 rw [jr (by rw [Bool.and_eq_true,Bool.and_eq_true,Bool.and_eq_true,decide_eq_true_iff,decide_eq_true_iff,decide_eq_true_iff,decide_eq_true_iff];omega),ja,Int.toNat_natCast,q1,ja]
 exact ⟨r,rfl,q3,q4⟩
def normK (v:KV):Nat→K
 | 0=>K.zero
 | n+1=>K.add (normK v n) (K.mul (v n) (K.conj (v n)))
theorem FitsK.norm {k:K} {L t:Nat} (h:FitsK k L t):FitsK (K.mul k (K.conj k)) (L+L+8) (t+t):=by
 obtain ⟨w,rfl,hb⟩:=h
 exact ⟨rows w (cv w) 8,by rw [←kv_mul,kv_conj],Ho hb (cv_bd hb) 8 (Nat.le_refl _)⟩
theorem norm_fits {v:KV} {N t:Nat} (h:∀x,x<N→FitsK (v x) (2*t+1) t):∀i,i≤N→FitsK (normK v i) (4*t+10+i) (t+t)
 | 0,_=>FitsK.zero _ _
 | i+1,hi=>by
   have h1:=norm_fits h i (by omega)
   have h2:=((h i (by omega)).norm).mono (show 2*t+1+(2*t+1)+8≤4*t+10+i by omega)
   exact h1.add h2
theorem norm_nought {k:K} (h:k=K.zero):K.mul k (K.conj k)=K.zero:=by rw [h,K.zero_mul]
theorem pnorm_walk {l:List NumT} {v:KV} {n t:Nat} (hv:AmpP l (2^n) v t) (hn:n≤12) (ht:t≤4096) :
 ∃r,W.jl (0:Int) ((2^n:Nat):Int) l=some (r,l,())∧Num 4294967296 r (normK v (2^n)) (4*t+10+2^n) (t+t):=by
 have hN:2^n≤2^12:=Nat.pow_le_pow_right (by decide) hn
 have hlen:=hv.len
 have hpl:part (0:Int) ((2^n:Nat):Int) l=l:=by rw [←hlen,Vv]
 obtain ⟨y,q1,r,q2,q3⟩:=Jo (f:=fun s:Int×List NumT↦W.jl.ca_ (0:Int) ((2^n:Nat):Int) (↑(List.length (part (0:Int) ((2^n:Nat):Int) l)):Int) (Prod.fst s) (Prod.snd s) l some) (2^n)
  (fun i s=>s.1=(i:Int) ∧ ∃r,s.2=[r]∧Num 4294967296 r (normK v i) (4*t+10+i) (t+t))
  (fun y=>∃r,y=(((2^n:Nat):Int),[r])∧Num 4294967296 r (normK v (2^n)) (4*t+10+2^n) (t+t))
  (by
   rintro i ⟨s,out⟩ hi ⟨p1,r,p2,p3⟩
   simp only at p1 p2
   subst p1
   subst p2
   left
   have ha:=hv.at_ i hi
   obtain ⟨z,z1,z2⟩:=nzero_ok ha
   have hfit:=norm_fits hv.fit (i+1) (by omega)
   obtain ⟨r',r1,r2⟩:∃r',W.jl.ch_ (0:Int) ((2^n:Nat):Int) (i:Int) [r] l some=some [r']∧Num 4294967296 r' (normK v (i+1)) (4*t+10+(i+1)) (t+t):=by
    unfold W.jl.ch_
    rw [okR hi,ja,idxP (by omega),ja,z1,ja]
    cases hz:z with
    | true=>
      have e:=z2.1 hz
      rw [show (!true)=false from rfl,br_ff]
      refine ⟨r,rfl,Num.fit (L:=4*t+10+i) (E:=t+t) ?_ hfit⟩
      rw [normK,norm_nought e,K.add_zero]
      exact p3
    | false=>
      rw [show (!false)=true from rfl,br_tt]
      unfold W.jl.c6
      obtain ⟨m,m1,m2⟩:=nnorm_ok ha (by omega)
      obtain ⟨a,a1,a2⟩:=nadd_t p3 m2 (by omega)
      rw [bx_at,ja,bx_at,ja,m1,ja,a1,ja,ja,ja]
      exact ⟨a,rfl,a2.fit hfit⟩
   refine ⟨(((i+1:Nat):Int),[r']),?_,rfl,r',rfl,r2⟩
   simp only [W.jl.ca_]
   rw [hpl,hlen,ju (by omega),r1,ja,jh (by omega)]
   rfl)
  (by
   rintro ⟨s,out⟩ ⟨p1,r,p2,p3⟩
   simp only at p1 p2
   subst p1
   subst p2
   refine ⟨_,?_,r,rfl,p3⟩
   simp only [W.jl.ca_]
   rw [hpl,hlen,js (by omega)])
  (s:=((0:Int),[z0])) ⟨rfl,z0,rfl,num_zero⟩
 subst q2
 unfold W.jl
 rw [show [(List.replicate (8:Nat) (false,([]:List Int)),(0:Int))]=[z0] from rfl,q1,ja]
 simp only
 rw [bx_at,ja]
 exact ⟨r,rfl,q3⟩
theorem rnorm_walk {l:List NumT} {v:KV} {n t:Nat} (hv:Amps l (2^n) v t) (hn:n≤12) (ht:t≤4096) :
 ∃r,W.JH l=some r∧Num 10000 r (normK v (2^n)) (4*t+10+2^n) (t+t):=by
 have hN:2^n≤2^12:=Nat.pow_le_pow_right (by decide) hn
 have hlen:=hv.len
 obtain ⟨y,q1,r,q2,q3⟩:=Jo (f:=fun s:Int×List NumT↦W.JH.ca_ l (Prod.fst s) (Prod.snd s) some) (2^n)
  (fun i s=>s.1=(i:Int) ∧ ∃r,s.2=[r]∧Num 10000 r (normK v i) (4*t+10+i) (t+t))
  (fun y=>∃r,y=(((2^n:Nat):Int),[r])∧Num 10000 r (normK v (2^n)) (4*t+10+2^n) (t+t))
  (by
   rintro i ⟨s,out⟩ hi ⟨p1,r,p2,p3⟩
   simp only at p1 p2
   subst p1
   subst p2
   left
   have ha:=hv.at_ i hi
   obtain ⟨z,z1,z2⟩:=rzero_num ha
   have hfit:=norm_fits hv.fit (i+1) (by omega)
   obtain ⟨r',r1,r2⟩:∃r',W.JH.cj_ l (i:Int) [r] some=some [r']∧Num 10000 r' (normK v (i+1)) (4*t+10+(i+1)) (t+t):=by
    unfold W.JH.cj_
    rw [idxN (by omega),ja,z1,ja]
    cases hz:z with
    | true=>
      have e:=z2.1 hz
      rw [show (!true)=false from rfl,br_ff]
      refine ⟨r,rfl,Num.fit (L:=4*t+10+i) (E:=t+t) ?_ hfit⟩
      rw [normK,norm_nought e,K.add_zero]
      exact p3
    | false=>
      rw [show (!false)=true from rfl,br_tt]
      unfold W.JH.c6
      obtain ⟨m,m1,m2⟩:=rnorm_ok ha (by omega) (by omega)
      obtain ⟨a,a1,a2⟩:=HN p3 m2 (by omega) (by omega)
      rw [bx_at,ja,idxN (by omega),ja,m1,ja,a1,ja,ja,ja]
      exact ⟨a,rfl,a2.fit hfit⟩
   refine ⟨(((i+1:Nat):Int),[r']),?_,rfl,r',rfl,r2⟩
   simp only [W.JH.ca_]
   rw [hlen,ju (by omega),r1,ja,jh (by omega)]
   rfl)
  (by
   rintro ⟨s,out⟩ ⟨p1,r,p2,p3⟩
   simp only at p1 p2
   subst p1
   subst p2
   refine ⟨_,?_,r,rfl,p3⟩
   simp only [W.JH.ca_]
   rw [hlen,js (by omega)])
  (s:=((0:Int),[z0])) ⟨rfl,z0,rfl,num_zero⟩
 subst q2
 unfold W.JH
 rw [show [(List.replicate (8:Nat) (false,([]:List Int)),(0:Int))]=[z0] from rfl,q1,ja]
 simp only
 rw [bx_at,ja]
 exact ⟨r,rfl,q3⟩
end Go.Ql
end

section
namespace Go.Ql
theorem eqT_fs (f:Int×Int):Ty.eqT (Ty.pair (Ty.int IntKind.i64) (Ty.int IntKind.i64)) f f=true:=by
 simp [Ty.eqT]
theorem sameTexts_self (a:List (List UInt8)) (ha:a.length≤8796093022208):W.Jd a a=some true:=by
 simp only [W.Jd,br_if]
 rw [if_neg (by simp),iter_count (s0:=(0:Int)) a.length (fun k=>(k:Int)) (.inr (a.length:Int))]
 ·rfl
 ·intro i hi
  simp only [W.Jd.cb_,W.Jd.c6,br_if,Vy hi,ja]
  rw [if_pos (by simpa using hi),if_neg (by simp),jh (by omega)]
  rfl
 ·simp only [W.Jd.cb_,br_if]
  rw [if_neg (by simp)]
 ·rfl
theorem sameShot_self (a:List (List UInt8)) (b:List Int) (u:Int) (ha:a.length≤8796093022208) (hb:b.length≤17592186043904):W.JQ (a,b,u) (a,b,u)=some true:=by
 unfold W.JQ W.JQ.c1
 simp only
 rw [sameTexts_self a ha,ja,br_tt,sameInts_ok b b hb,ja,decide_eq_true rfl,br_tt,ja]
 simp
def Yf:Cir:=(2,1,[(3,0,[],0,0,[]),(2,0,[0],1,0,[]),(5,0,[],1,0,[-1])])
def bell:KV:=fun x=>if x=3 then ⟨0,0,1 / 2,0,0,0,-1 / 2,0⟩ else K.zero
theorem small_w:WCir Yf:=by
 refine ⟨by decide,fun o ho=>?_⟩
 simp only [Yf,List.mem_cons,List.not_mem_nil,or_false] at ho
 rcases ho with rfl | rfl | rfl<;>exact ⟨by decide,by decide⟩
theorem small_play:∃s,playK [1] 0 Yf.2.2 (kq 0,List.replicate 1 0,0)=.inr s∧s.2.1=[1]∧s.2.2=1 ∧ ∀x,x<4→s.1 x=bell x:=by
 refine ⟨meetK (5,0,[],1,0,[-1]) 1 (gateK (2,0,[0],1,0,[]) (gateK (3,0,[],0,0,[]) (kq 0)),[0],0),rfl,rfl,rfl,fun x hx=>?_⟩
 have h:x=0∨x=1∨x=2∨x=3:=by omega
 rcases h with rfl | rfl | rfl | rfl<;>refine K.eq_of ?_ ?_ ?_ ?_ ?_ ?_ ?_ ?_<;>decide +kernel
def bellT:List (List UInt8):=[[48],[48],[48],[48,44,48,44,49,44,48,44,48,44,48,44,45,49,47,49]]
theorem ktxt_zero:KTxt K.zero [48]:=⟨fun _=>0,0,.inl rfl,VY 0,by decide +kernel⟩
theorem ktxt_bell:KTxt (bell 3) [48,44,48,44,49,44,48,44,48,44,48,44,45,49,47,49]:=
 ⟨fun i=>if i=2 then 1 else if i=6 then -1 else 0,1,.inr ⟨2,by decide,by decide⟩,by refine K.eq_of ?_ ?_ ?_ ?_ ?_ ?_ ?_ ?_<;>decide +kernel,by decide +kernel⟩
theorem begun_run:W.jx Yf 0 [1]=some ((bellT,[1],1),(0,0)):=by
 have hops:∀o∈Yf.2.2,OkS o 2 1:=fun o ho=>by
  have hw:=small_w.2 o ho
  refine oks_good (goodOp_of ?_) hw (by decide)
  simp only [Yf,List.mem_cons,List.not_mem_nil,or_false] at ho
  have hf:¬ifBad 1 ([-1]:List Int):=by unfold ifBad;simp
  have hf0:∀b,¬ifBad b ([]:List Int):=by intro b;unfold ifBad;simp
  rcases ho with rfl | rfl | rfl
  ·unfold opBad;simp [hf0,JI]
  ·unfold opBad;simp [hf0,JI]
  ·unfold opBad;simp [hf,JI]
 have hck:W.jL Yf=some ((0:Int),(0:Int)):=by
  rw [check_ok Yf small_w]
  have hg:GoodC Yf:=⟨by decide,by decide,by decide,fun o ho=>by
   simp only [Yf,List.mem_cons,List.not_mem_nil,or_false] at ho
   have hf:¬ifBad 1 ([-1]:List Int):=by unfold ifBad;simp
   have hf0:∀b,¬ifBad b ([]:List Int):=by intro b;unfold ifBad;simp
   rcases ho with rfl | rfl | rfl
   ·unfold opBad;simp [hf0,JI,Yf]
   ·unfold opBad;simp [hf0,JI,Yf]
   ·unfold opBad;simp [hf,JI,Yf]⟩
  rw [hg.chk]
 obtain ⟨s,s1,s2,s3,s4⟩:=small_play
 obtain ⟨_,p2⟩:=played_good (n:=2) (bn:=1) (ops:=Yf.2.2) (tape:=[1]) (i0:=0) (by decide) (by decide) (by decide) (by decide) (by decide) hops hck
 obtain ⟨l,l1,l2⟩:=p2 s s1
 obtain ⟨T,t1,t2⟩:=texts_walk l2 (by decide) (by decide)
 have hb:TxtsK s.1 (2^2) bellT:=⟨rfl,fun x hx=>by
  rw [s4 x hx]
  have h:x=0∨x=1∨x=2∨x=3:=by omega
  rcases h with rfl | rfl | rfl | rfl
  ·exact ktxt_zero
  ·exact ktxt_zero
  ·exact ktxt_zero
  ·exact ktxt_bell⟩
 have e:=t2.one hb
 subst e
 have l1':W.ji Yf 0 [1]=_:=l1
 unfold W.jx W.jx.c4
 rw [show (Yf.1,Yf.2.1,Yf.2.2)=Yf from rfl,l1',ja,JL]
 rw [jG (by rfl)]
 simp only
 rw [l2.len,t1,ja,ja,s2,s3]
 rfl
theorem begun_ok:W.Jt=some true:=by
 unfold W.Jt
 rw [show W.YS=some Yf from rfl,ja,begun_run,ja]
 unfold W.Jt.c2
 rw [Ja (by rfl)]
 have h:W.JQ (bellT,[1],1) (bellT,[1],1)=some true:=sameShot_self _ _ _ (by decide) (by decide)
 refine kM ?_ rfl
 exact kM h rfl
end Go.Ql
end

section
namespace Go.Ql
def ZK (N:Nat) (v:KV):Prop:=∀x,x<N→v x=K.zero
def sqK (k:K):Rat:=k.c0*k.c0+k.c1*k.c1+k.c2*k.c2+k.c3*k.c3+k.c4*k.c4+k.c5*k.c5+k.c6*k.c6+k.c7*k.c7
theorem sq_c0 (k:K):(K.mul k (K.conj k)).c0=sqK k:=by
 simp only [K.mul,K.conj,sqK]
 grind
theorem YM (a:Rat):0≤a*a:=by
 rcases Rat.le_total (a:=0) (b:=a) with h | h
 ·exact Rat.mul_nonneg h h
 ·have h2:0 ≤ -a:=by grind
  have:=Rat.mul_nonneg h2 h2
  grind
theorem Us {a:Rat} (h:a*a=0):a=0:=by
 rcases Rat.mul_eq_zero.1 h with h | h<;>exact h
theorem sq_nonneg (k:K):0≤sqK k:=by
 have h0:=YM k.c0;have h1:=YM k.c1;have h2:=YM k.c2;have h3:=YM k.c3
 have h4:=YM k.c4;have h5:=YM k.c5;have h6:=YM k.c6;have h7:=YM k.c7
 unfold sqK
 grind
theorem sq_zero {k:K} (h:sqK k=0):k=K.zero:=by
 have h0:=YM k.c0;have h1:=YM k.c1;have h2:=YM k.c2;have h3:=YM k.c3
 have h4:=YM k.c4;have h5:=YM k.c5;have h6:=YM k.c6;have h7:=YM k.c7
 unfold sqK at h
 have e0:k.c0*k.c0=0:=by grind
 have e1:k.c1*k.c1=0:=by grind
 have e2:k.c2*k.c2=0:=by grind
 have e3:k.c3*k.c3=0:=by grind
 have e4:k.c4*k.c4=0:=by grind
 have e5:k.c5*k.c5=0:=by grind
 have e6:k.c6*k.c6=0:=by grind
 have e7:k.c7*k.c7=0:=by grind
 exact K.eq_of (Us e0) (Us e1) (Us e2) (Us e3) (Us e4) (Us e5) (Us e6) (Us e7)
theorem norm_c0 (v:KV):∀n,0≤(normK v n).c0∧((normK v n).c0=0→ZK n v)
 | 0=>⟨by simp [normK,K.zero],fun _ x hx=>by omega⟩
 | n+1=>by
   obtain ⟨h1,h2⟩:=norm_c0 v n
   have h3:=sq_nonneg (v n)
   have e:(normK v (n+1)).c0=(normK v n).c0+sqK (v n):=by
    rw [←sq_c0];rfl
   rw [e]
   refine ⟨by grind,fun h=>?_⟩
   have a:(normK v n).c0=0:=by grind
   have b:sqK (v n)=0:=by grind
   intro x hx
   by_cases hxn:x=n
   ·rw [hxn];exact sq_zero b
   ·exact h2 a x (by omega)
theorem norm_zero {v:KV}:∀{n:Nat},normK v n=K.zero↔ZK n v:=fun {n}=>by
 constructor
 ·intro h
  refine (norm_c0 v n).2 ?_
  rw [h];rfl
 ·intro h
  induction n with
  | zero=>rfl
  | succ n ih=>
    rw [normK,ih (fun x hx=>h x (by omega)),norm_nought (h n (by omega)),K.add_zero]
theorem zk_gate {n:Nat} {o:GOp} {v:KV} (ho:0≤o.2.2.2.1∧o.2.2.2.1<n) (h:ZK (2^n) v):ZK (2^n) (gateK o v):=fun x hx=>by
 have e:gateK o v x=gateK o (fun _=>K.zero) x:=UN (h x hx) (h _ (fl_lt ho hx))
 rw [e]
 have hneg:K.neg K.zero=K.zero:=by rw [←K.turn_eight,K.turn_zero]
 simp only [gateK,K.turn_zero,K.half_zero,hneg]
 split
 ·rfl
 ·split
  ·rfl
  ·split
   ·split<;>rfl
   ·split
    ·rfl
    ·split<;>exact K.add_zero _
theorem zk_out {N:Nat} {q b:Int} {v:KV} (h:ZK N v):ZK N (outK q b v):=fun x hx=>by
 unfold outK
 split
 ·exact h x hx
 ·rfl
theorem zk_meet {n:Nat} {o:GOp} {b:Int} {s:SK} (ho:0≤o.2.2.2.1∧o.2.2.2.1<n) (h:ZK (2^n) s.1):ZK (2^n) (meetK o b s).1:=by
 unfold meetK
 simp only
 split
 ·rw [←HU [] 0 o.2.2.2.1 0 []]
  exact zk_gate ho (zk_out h)
 ·exact zk_out h
abbrev EndK:=List Int×List Int×KV
def allK:List GOp→KV→List Int→List Int→List EndK
 | [],v,bits,tape=>[(tape,bits,v)]
 | o::l,v,bits,tape=>
   if condK bits o=false then allK l v bits tape
   else if o.1<5 then allK l (gateK o v) bits tape
   else allK l (meetK o 0 (v,bits,tape.length)).1 (meetK o 0 (v,bits,tape.length)).2.1 (tape++[0]) ++
    allK l (meetK o 1 (v,bits,tape.length)).1 (meetK o 1 (v,bits,tape.length)).2.1 (tape++[1])
noncomputable def nzK (N:Nat) (l:List EndK):List EndK:=by
 classical exact l.filter fun e=>decide (¬ZK N e.2.2)
theorem nz_app (N:Nat) (a b:List EndK):nzK N (a++b)=nzK N a++nzK N b:=by
 unfold nzK
 exact List.filter_append _ _
theorem nz_one {N:Nat} {e:EndK} (h:¬ZK N e.2.2):nzK N [e]=[e]:=by
 unfold nzK
 simp [h]
theorem nz_none {N:Nat} {e:EndK} (h:ZK N e.2.2):nzK N [e]=[]:=by
 unfold nzK
 simp [h]
theorem Vm {n:Nat}:∀{l:List GOp},(∀o∈l,0≤o.2.2.2.1∧o.2.2.2.1<(n:Int)) → ∀{v:KV} {bits tape:List Int},ZK (2^n) v→nzK (2^n) (allK l v bits tape)=[]
 | [],_,v,bits,tape,h=>nz_none h
 | o::l,ho,v,bits,tape,h=>by
   have h1:=ho o (List.mem_cons_self ..)
   have h2:∀a∈l,0≤a.2.2.2.1∧a.2.2.2.1<(n:Int):=fun a ha=>ho a (List.mem_cons_of_mem _ ha)
   simp only [allK]
   split
   ·exact Vm h2 h
   ·split
    ·exact Vm h2 (zk_gate h1 h)
    ·rw [nz_app,Vm h2 (zk_meet (s:=(v,bits,tape.length)) h1 h),Vm h2 (zk_meet (s:=(v,bits,tape.length)) h1 h)]
     rfl
end Go.Ql
end

section
namespace Go.Ql
def undoK (o:GOp):GOp:=(o.1,(16-o.2.1) % 16,o.2.2.1,o.2.2.2.1,o.2.2.2.2.1,o.2.2.2.2.2)
theorem turnZ_16 (a:K) {k:Int} (h:k % 16=0):turnZ a k=a:=by
 unfold turnZ
 rw [h]
 rfl
theorem pK_back (l:List Int) (v:KV) (k:Int):pK l ((16-k) % 16) (pK l k v)=v:=by
 funext x
 unfold pK
 by_cases h:onesB l x=true
 ·rw [if_pos h,if_pos h,turnZ_add,turnZ_16 _ (by omega)]
 ·rw [if_neg h,if_neg h]
theorem xK_back {l:List Int} {q:Int} (hl:Nn l) (hq:0≤q) (h:q∉l) (v:KV):xK l q (xK l q v)=v:=by
 funext x
 unfold xK
 rw [ones_other hl hq h,fl_fl]
 cases onesB l x<;>rfl
theorem hK_hK (q:Int) (v:KV):hK q (hK q v)=v:=by
 funext x
 simp only [hK,fl_fl,Hj]
 generalize v x=a
 generalize v (fl q x)=b
 cases bt q x<;>simp only [Bool.not_true,Bool.not_false,if_true,if_false,Bool.false_eq_true]
 ·apply K.eq_of<;>simp only [K.half,K.sm,K.sub,K.turn,K.turn1,K.neg,K.add]<;>grind
 ·apply K.eq_of<;>simp only [K.half,K.sm,K.sub,K.turn,K.turn1,K.neg,K.add]<;>grind
theorem hC_back {l:List Int} {q:Int} (hl:Nn l) (hq:0≤q) (h:q∉l) (v:KV):(fun x=>if onesB l x=true then hK q (fun y=>if onesB l y=true then hK q v y else v y) x else (fun y=>if onesB l y=true then hK q v y else v y) x)=v:=by
 funext x
 by_cases hx:onesB l x=true
 ·have h2:onesB l (fl q x)=true:=by rw [ones_other hl hq h];exact hx
  rw [if_pos hx]
  have e:=congrFun (hK_hK q v) x
  rw [←e]
  unfold hK
  simp only [if_pos hx,if_pos h2]
 ·rw [if_neg hx]
  simp only
  rw [if_neg hx]
theorem gate_undo {n bn:Nat} {o:GOp} (h:OkS o n bn) (hk:o.1<5) (v:KV):gateK (undoK o) (gateK o v)=v:=by
 have h1:=h.p.gate
 have hkind:=h.kind
 have hph:=h.ph
 have h15:=h.k15
 have hk0:=h1.k
 have hq:=h1.q.1
 have hl:Nn o.2.2.1:=fun c hc=>(h1.qs c hc).1
 have hnl:=h1.out
 obtain ⟨k,K1,l,q,b,on⟩:=o
 simp only at *
 have hk2:0≤(16-K1) % 16:=by omega
 show gateK (k,(16-K1) % 16,l,q,b,on) _=v
 have hc:k=1∨k=2∨k=3∨k=4:=by omega
 rcases hc with rfl | rfl | rfl | rfl
 ·rw [hph rfl,gate_phase _ _ _ _ _ hk2,gate_phase _ _ _ _ _ hk0];exact pK_back _ v K1
 ·rw [HU,HU];exact xK_back hl hq hnl v
 ·rw [gate_h,gate_h];exact hC_back hl hq hnl v
 ·rw [gate_p _ _ _ _ _ _ hk2,gate_p _ _ _ _ _ _ hk0];exact pK_back _ v K1
theorem nz_gate {n bn:Nat} {o:GOp} (h:OkS o n bn) (hk:o.1<5) {v:KV} (hv:¬ZK (2^n) v):¬ZK (2^n) (gateK o v):=fun hz=>by
 refine hv ?_
 have:=zk_gate (o:=undoK o) (n:=n) h.p.gate.q hz
 rw [gate_undo h hk] at this
 exact this
open Classical in
noncomputable def deepK (N:Nat):List GOp→KV→List Int→List Int→List EndK→Bool×List EndK
 | [],v,bits,tape,out=>(decide ((out++[(tape,bits,v)]).length≤1024),out++[(tape,bits,v)])
 | o::l,v,bits,tape,out=>
   if condK bits o=false then deepK N l v bits tape out
   else if o.1<5 then deepK N l (gateK o v) bits tape out
   else
    let z:=if ZK N (meetK o 0 (v,bits,tape.length)).1 then (true,out) else deepK N l (meetK o 0 (v,bits,tape.length)).1 (meetK o 0 (v,bits,tape.length)).2.1 (tape++[0]) out
    if z.1=false then z
    else if ZK N (meetK o 1 (v,bits,tape.length)).1 then (true,z.2)
    else deepK N l (meetK o 1 (v,bits,tape.length)).1 (meetK o 1 (v,bits,tape.length)).2.1 (tape++[1]) z.2
def HG (out L:List EndK) (r:Bool×List EndK):Prop:=
 ((out++L).length≤1024∧r=(true,out++L))∨(1024<(out++L).length∧r=(false,(out++L).take 1025))
open Classical in
theorem HI {n bn:Nat}:∀{l:List GOp},(∀o∈l,OkS o n bn) → ∀{v:KV} {bits tape:List Int} {out:List EndK},¬ZK (2^n) v→out.length≤1024 →
 HG out (nzK (2^n) (allK l v bits tape)) (deepK (2^n) l v bits tape out)
 | [],_,v,bits,tape,out,hv,ho=>by
   simp only [allK,deepK]
   rw [nz_one (by exact hv)]
   unfold HG
   by_cases h:(out++[(tape,bits,v)]).length≤1024
   ·left
    exact ⟨h,by rw [decide_eq_true h]⟩
   ·right
    refine ⟨by omega,?_⟩
    rw [decide_eq_false h,List.take_of_length_le (by simp;omega)]
 | o::l,hall,v,bits,tape,out,hv,ho=>by
   have hk:=hall o (List.mem_cons_self ..)
   have hl:∀a∈l,OkS a n bn:=fun a ha=>hall a (List.mem_cons_of_mem _ ha)
   have hq:∀a∈l,0≤a.2.2.2.1∧a.2.2.2.1<(n:Int):=fun a ha=>(hl a ha).p.gate.q
   simp only [allK,deepK]
   by_cases hc:condK bits o=false
   ·rw [if_pos hc,if_pos hc]
    exact HI hl hv ho
   ·rw [if_neg hc,if_neg hc]
    by_cases h5:o.1<5
    ·rw [if_pos h5,if_pos h5]
     exact HI hl (nz_gate hk h5 hv) ho
    ·rw [if_neg h5,if_neg h5,nz_app]
     obtain ⟨L0,hL0⟩:∃L,nzK (2^n) (allK l (meetK o 0 (v,bits,tape.length)).1 (meetK o 0 (v,bits,tape.length)).2.1 (tape++[0]))=L:=⟨_,rfl⟩
     obtain ⟨L1,hL1⟩:∃L,nzK (2^n) (allK l (meetK o 1 (v,bits,tape.length)).1 (meetK o 1 (v,bits,tape.length)).2.1 (tape++[1]))=L:=⟨_,rfl⟩
     obtain ⟨z,hz⟩:∃z,(if ZK (2^n) (meetK o 0 (v,bits,tape.length)).1 then (true,out) else deepK (2^n) l (meetK o 0 (v,bits,tape.length)).1 (meetK o 0 (v,bits,tape.length)).2.1 (tape++[0]) out)=z:=⟨_,rfl⟩
     have h0:HG out L0 z:=by
      rw [←hz,←hL0]
      by_cases hz0:ZK (2^n) (meetK o 0 (v,bits,tape.length)).1
      ·rw [if_pos hz0,Vm hq hz0]
       left
       rw [List.append_nil]
       exact ⟨ho,rfl⟩
      ·rw [if_neg hz0]
       exact HI hl hz0 ho
     rw [hL0,hL1,hz]
     rcases h0 with ⟨a1,rfl⟩ | ⟨a1,rfl⟩
     ·rw [if_neg (by simp)]
      have h1:HG (out++L0) L1 (if ZK (2^n) (meetK o 1 (v,bits,tape.length)).1 then (true,out++L0) else deepK (2^n) l (meetK o 1 (v,bits,tape.length)).1 (meetK o 1 (v,bits,tape.length)).2.1 (tape++[1]) (out++L0)):=by
       rw [←hL1]
       by_cases hz1:ZK (2^n) (meetK o 1 (v,bits,tape.length)).1
       ·rw [if_pos hz1,Vm hq hz1]
        left
        rw [List.append_nil]
        exact ⟨a1,rfl⟩
       ·rw [if_neg hz1]
        exact HI hl hz1 a1
      unfold HG at h1 ⊢
      rw [List.append_assoc] at h1
      exact h1
     ·rw [if_pos rfl]
      right
      rw [←List.append_assoc]
      refine ⟨by rw [List.length_append];omega,?_⟩
      rw [List.take_append_of_le_length (l₁:=out++L0) (by omega)]
end Go.Ql
end

section
namespace Go.Ql
theorem onward_any {β:Type} {n bn:Nat} {ops:List GOp} {q b u:Int} {bits:List Int} (Φ:List GOp→KV→β) (hs:∀o l v,condK bits o=false→Φ (o::l) v=Φ l v) (hg:∀o l v,condK bits o=true→o.1<5→Φ (o::l) v=Φ l (gateK o v))
 (hn:n≤12) (hbn:bn<2^40) (hl:ops.length≤8000) (hops:∀o∈ops,OkS o n bn) (hb:bits.length=bn) (h01:B01 bits)
 {i:Nat} {l:List NumT} {v:KV} (hv:AmpP l (2^n) v i) (hi:i≤ops.length) :
 ∃(c:Bool) (j:Nat) (l':List NumT) (v':KV),W.jg q b ops u (i:Int) l bits=some (c,q,b,ops,u,(j:Int),l',bits,())∧AmpP l' (2^n) v' j∧i≤j∧j≤ops.length ∧
  Φ (ops.drop i) v=Φ (ops.drop j) v'∧(c=false→j=ops.length)∧(c=true → ∃h:j<ops.length,condK bits ops[j]=true ∧ ¬ops[j].1<5):=by
 obtain ⟨y,y1,y2⟩:=Jw (f:=fun s:Int×Int×List GOp×Int×Int×List NumT×List Int↦W.jg.cd_ (Prod.fst s) (Prod.fst (Prod.snd s)) (Prod.fst (Prod.snd (Prod.snd s))) (Prod.fst (Prod.snd (Prod.snd (Prod.snd s)))) (Prod.fst (Prod.snd (Prod.snd (Prod.snd (Prod.snd s))))) (Prod.fst (Prod.snd (Prod.snd (Prod.snd (Prod.snd (Prod.snd s)))))) (Prod.snd (Prod.snd (Prod.snd (Prod.snd (Prod.snd (Prod.snd s)))))) some)
  (J:=fun s=>∃(j:Nat) (l':List NumT) (v':KV),s=(q,b,ops,u,(j:Int),l',bits)∧AmpP l' (2^n) v' j∧i≤j∧j≤ops.length∧Φ (ops.drop i) v=Φ (ops.drop j) v')
  (Q:=fun y=>∃(j:Nat) (l':List NumT) (v':KV),AmpP l' (2^n) v' j∧i≤j∧j≤ops.length∧Φ (ops.drop i) v=Φ (ops.drop j) v' ∧
   ((y=.inl (q,b,ops,u,(j:Int),l',bits) ∧ ∃h:j<ops.length,condK bits ops[j]=true ∧ ¬ops[j].1<5)∨(y=.inr (q,b,ops,u,(j:Int),l',bits)∧j=ops.length)))
  (fun s=>ops.length-s.2.2.2.2.1.toNat)
  (by
   rintro s ⟨j,l',v',rfl,p1,p2,p3,p4⟩
   simp only [W.jg.cd_,W.jg.c1,ja]
   by_cases hj:j<ops.length
   ·have hd:ops.drop j=ops[j]::ops.drop (j+1):=List.drop_eq_getElem_cons hj
    have hm:ops[j]∈ops:=List.getElem_mem hj
    have hk:=hops _ hm
    have hidx:idx ops (j:Int)=some ops[j]:=Vy hj
    have hcond:=holds_ok (o:=ops[j]) (bits:=bits) (q:=q) (b:=b) (u:=u) (a:=(j:Int)) (ops:=ops) (l:=l') hk.p.ifs (by rw [hb];omega) (by rw [hb];exact hk.p.cond) h01
    rw [ju (by omega)]
    unfold W.jg.cK_ W.jg.c3
    rw [hidx,ja,ja,show (ops[j].1,ops[j].2.1,ops[j].2.2.1,ops[j].2.2.2.1,ops[j].2.2.2.2.1,ops[j].2.2.2.2.2)=ops[j] from rfl,hcond,ja]
    have p4':=p4
    rw [hd] at p4
    have hw:IntKind.i64.wrap ((j:Int)+1)=((j+1:Nat):Int):=by rw [jh (by omega)];omega
    by_cases hc:condK bits ops[j]=false
    ·rw [hs _ _ _ hc] at p4
     rw [hc,show (!false)=true from rfl,br_tt,ja,JL]
     simp only
     rw [hw]
     exact .inr ⟨_,rfl,⟨j+1,l',v',rfl,p1.up,by omega,hj,p4⟩,by simp only [Int.toNat_natCast];omega⟩
    ·have hc':condK bits ops[j]=true:=by simpa using hc
     rw [hc',show (!true)=false from rfl,br_ff]
     unfold W.jg.c5
     by_cases h5:ops[j].1<5
     ·rw [hg _ _ _ hc' h5] at p4
      obtain ⟨r,r1,r2⟩:=apply_walk p1 hk.p.gate (by omega) (by omega) (by have:=hk.kind;omega) hk.ph (by have:=hk.k15;omega)
      have hlen:=p1.len
      unfold W.jg.c7
      rw [jG (beq_false_of_ne (by omega)),beq_false_of_ne (show ops[j].1≠(6:Int) by omega),ja,br_ff,show (ops[j].1,ops[j].2.1,ops[j].2.2.1,ops[j].2.2.2.1,ops[j].2.2.2.2.1,ops[j].2.2.2.2.2)=ops[j] from rfl]
      simp only
      rw [hlen,r1,ja,ja,ja,JL]
      simp only
      rw [hw]
      exact .inr ⟨_,rfl,⟨j+1,r,_,rfl,r2,by omega,hj,p4⟩,by simp only [Int.toNat_natCast];omega⟩
     ·have h56:ops[j].1=5∨ops[j].1=6:=by have:=hk.kind;omega
      have hbr:br (ops[j].1==(5:Int)) (some true) (some (ops[j].1==(6:Int)))=some true:=by
       rcases h56 with e | e<;>rw [e]<;>rfl
      rw [hbr,ja,br_tt,ja,ke]
      exact .inl ⟨_,rfl,j,l',v',p1,p2,p3,p4',.inl ⟨rfl,hj,hc',h5⟩⟩
   ·rw [js (by omega)]
    exact .inl ⟨_,rfl,j,l',v',p1,p2,p3,p4,.inr ⟨rfl,by omega⟩⟩)
  (s:=(q,b,ops,u,(i:Int),l,bits)) ⟨i,l,v,rfl,hv,Nat.le_refl _,hi,rfl⟩
 obtain ⟨j,l',v',q1,q2,q3,q4,q5⟩:=y2
 unfold W.jg
 rw [y1,ja]
 rcases q5 with ⟨rfl,q5⟩ | ⟨rfl,q5⟩
 ·refine ⟨true,j,l',v',?_,q1,q2,q3,q4,fun h=>(by cases h),fun _=>q5⟩
  rw [JL]
 ·refine ⟨false,j,l',v',?_,q1,q2,q3,q4,fun _=>q5,fun h=>(by cases h)⟩
  rw [ke]
open Classical in
noncomputable def txtK (k:K):List UInt8:=if h:∃t,KTxt k t then Classical.choose h else []
theorem txt_eq {k:K} {t:List UInt8} (h:KTxt k t):t=txtK k:=by
 have hx:∃t,KTxt k t:=⟨t,h⟩
 unfold txtK
 rw [dif_pos hx]
 exact KTxt.one h (Classical.choose_spec hx)
noncomputable def tK (N:Nat) (e:EndK):List Int×List Int×List UInt8:=(e.1,e.2.1,txtK (normK e.2.2 N))
theorem both_same {α:Type} (x:Option α):both x x=x:=by unfold both;rw [if_pos rfl]
theorem clone_nums (l:List NumT) (h:l.length≤8000):W.Jg (0:Int) (↑(List.length l):Int) l=some (l,l,()):=by
 unfold W.Jg
 rw [Vv]
 have hk:okIf (decide (((0:Nat)+List.length l)*(264:Nat)≤(140737488355328:Nat))&&decide ((0:Nat)+List.length l≤(140737488355328:Nat)))=some ():=jr (by rw [Bool.and_eq_true,decide_eq_true_iff,decide_eq_true_iff];omega)
 rw [hk,ja]
 cases l with
 | nil=>exact both_same _
 | cons a r=>rfl
theorem clone_ints (l:List Int) (h:l.length≤8000):W.JG (0:Int) (↑(List.length l):Int) l=some (l,l,()):=by
 unfold W.JG
 rw [Vv]
 have hk:okIf (decide (((0:Nat)+List.length l)*(8:Nat)≤(140737488355328:Nat))&&decide ((0:Nat)+List.length l≤(140737488355328:Nat)))=some ():=jr (by rw [Bool.and_eq_true,decide_eq_true_iff,decide_eq_true_iff];omega)
 rw [hk,ja]
 cases l with
 | nil=>exact both_same _
 | cons a r=>rfl
theorem copied_ok (q b:Int) (ops:List GOp) (u i:Int) (l:List NumT) (bits:List Int) (hl:l.length≤8000) (hb:bits.length≤8000):W.jS q b ops u i l bits=some (q,b,ops,u,i,l,bits,q,b,ops,u,i,l,bits,()):=by
 unfold W.jS W.jS.c2
 rw [clone_nums l hl,ja,clone_ints bits hb,ja,ja]
structure AtS (n bn:Nat) (ops:List GOp) (i:Nat) (l:List NumT) (v:KV) (bits tape:List Int) (out:List EndK):Prop where
 amp:AmpP l (2^n) v i
 le:i≤ops.length
 hb:bits.length=bn
 h01:B01 bits
 tp:tape.length≤i
 hout:out.length≤1024
open Classical in
theorem Hv (N:Nat):∀(l:List GOp) (v:KV) (bits tape:List Int) (out:List EndK),out.length≤1024→(deepK N l v bits tape out).1=true→(deepK N l v bits tape out).2.length≤1024
 | [],v,bits,tape,out,ho,h=>by
   simp only [deepK,decide_eq_true_eq] at h ⊢
   exact h
 | o::l,v,bits,tape,out,ho,h=>by
   simp only [deepK] at h ⊢
   split at h
   ·rename_i h1
    rw [if_pos h1]
    exact Hv N l _ _ _ _ ho h
   ·rename_i h1
    rw [if_neg h1]
    split at h
    ·rename_i h2
     rw [if_pos h2]
     exact Hv N l _ _ _ _ ho h
    ·rename_i h2
     rw [if_neg h2]
     obtain ⟨z,hz⟩:∃z,(if ZK N (meetK o 0 (v,bits,tape.length)).1 then (true,out) else deepK N l (meetK o 0 (v,bits,tape.length)).1 (meetK o 0 (v,bits,tape.length)).2.1 (tape++[0]) out)=z:=⟨_,rfl⟩
     have hz1:z.1=true→z.2.length≤1024:=by
      rw [←hz]
      intro h
      split at h
      ·rename_i h3;rw [if_pos h3];exact ho
      ·rename_i h3;rw [if_neg h3];exact Hv N l _ _ _ _ ho h
     rw [hz] at h ⊢
     split at h
     ·rename_i h3;rw [h3] at h;cases h
     ·rename_i h3
      rw [if_neg h3]
      have h3:z.1=true:=by simpa using h3
      split at h
      ·rename_i h4;rw [if_pos h4];exact hz1 h3
      ·rename_i h4;rw [if_neg h4];exact Hv N l _ _ _ _ (hz1 h3) h
abbrev BrT:=List Int×List Int×List UInt8
def BSpec [S:W.je.Self] (n bn:Nat) (ops:List GOp) (m:Nat):Prop:=∀i l v bits tape out,m≤i→AtS n bn ops i l v bits tape out →
 ∃w,W.je.self (tape,out.map (tK (2^n)),(n:Int),(bn:Int),ops,(tape.length:Int),(i:Int),l,bits,()) =
  some ((deepK (2^n) (ops.drop i) v bits tape out).1,(deepK (2^n) (ops.drop i) v bits tape out).2.map (tK (2^n)),w)
theorem zero_walk {l:List NumT} {v:KV} {n t:Nat} (hv:AmpP l (2^n) v t) (hn:n≤12) (ht:t≤4096) :
 ∃r z,W.jl (0:Int) ((List.length l:Nat):Int) l=some (r,l,())∧Num 4294967296 r (normK v (2^n)) (4*t+10+2^n) (t+t)∧W.jU r=some z∧(z=true↔ZK (2^n) v):=by
 have hN:2^n≤2^12:=Nat.pow_le_pow_right (by decide) hn
 obtain ⟨r,r1,r2⟩:=pnorm_walk hv hn ht
 obtain ⟨z,z1,z2⟩:=nzero_ok r2
 rw [←hv.len] at r1
 exact ⟨r,z,r1,r2,z1,z2.trans norm_zero⟩
theorem take_self (l:List Int):List.take (Int.toNat (↑(List.length l):Int)) l=l:=by rw [Int.toNat_natCast,List.take_length]
theorem okTape2 (l:List Int):okIf (decide ((0:Int)≤(↑(List.length l):Int))&&decide True&&decide ((↑(List.length l):Int)≤(↑(List.length l):Int)))=some ():=jr (by simp)
theorem okGrow (l:List Int) (h:l.length≤8000):okIf (decide ((List.length l+(1:Nat))*(8:Nat)≤(140737488355328:Nat))&&decide (List.length l+(1:Nat)≤(140737488355328:Nat)))=some ():=jr (by rw [Bool.and_eq_true,decide_eq_true_iff,decide_eq_true_iff];omega)
open Classical in
theorem branches_walk [W.je.Self] {n bn:Nat} {ops:List GOp} (hn:n≤12) (hbn:bn≤12) (hl:ops.length≤4096) (hops:∀o∈ops,OkS o n bn) {i:Nat} (hyp:BSpec n bn ops (i+1))
 {l:List NumT} {v:KV} {bits tape:List Int} {out:List EndK} (h:AtS n bn ops i l v bits tape out) :
 ∃w,W.je tape (out.map (tK (2^n))) (n:Int) (bn:Int) ops (tape.length:Int) (i:Int) l bits =
  some ((deepK (2^n) (ops.drop i) v bits tape out).1,(deepK (2^n) (ops.drop i) v bits tape out).2.map (tK (2^n)),w):=by
 have hN:2^n≤2^12:=Nat.pow_le_pow_right (by decide) hn
 obtain ⟨R,hR⟩:∃R,deepK (2^n) (ops.drop i) v bits tape out=R:=⟨_,rfl⟩
 obtain ⟨y,y1,y2⟩:=Jw (f:=fun s:List Int×List BrT×Int×Int×List GOp×Int×Int×List NumT×List Int↦W.je.cd_ (Prod.fst s) (Prod.fst (Prod.snd s)) (Prod.fst (Prod.snd (Prod.snd s))) (Prod.fst (Prod.snd (Prod.snd (Prod.snd s)))) (Prod.fst (Prod.snd (Prod.snd (Prod.snd (Prod.snd s))))) (Prod.fst (Prod.snd (Prod.snd (Prod.snd (Prod.snd (Prod.snd s)))))) (Prod.fst (Prod.snd (Prod.snd (Prod.snd (Prod.snd (Prod.snd (Prod.snd s))))))) (Prod.fst (Prod.snd (Prod.snd (Prod.snd (Prod.snd (Prod.snd (Prod.snd (Prod.snd s)))))))) (Prod.snd (Prod.snd (Prod.snd (Prod.snd (Prod.snd (Prod.snd (Prod.snd (Prod.snd s)))))))) some)
  (J:=fun s=>∃(j:Nat) (l':List NumT) (v':KV) (bits' tape':List Int) (out':List EndK),s=(tape',out'.map (tK (2^n)),(n:Int),(bn:Int),ops,(tape'.length:Int),(j:Int),l',bits')∧i≤j∧AtS n bn ops j l' v' bits' tape' out'∧deepK (2^n) (ops.drop j) v' bits' tape' out'=R)
  (Q:=fun y=>(∃tp w,y=.inl (tp,R.1,R.2.map (tK (2^n)),w)) ∨
   (∃(l':List NumT) (v':KV) (bits' tape':List Int) (out':List EndK) (u:Int),y=.inr (tape',out'.map (tK (2^n)),(n:Int),(bn:Int),ops,u,(ops.length:Int),l',bits')∧AtS n bn ops ops.length l' v' bits' tape' out'∧deepK (2^n) [] v' bits' tape' out'=R))
  (fun s=>ops.length-s.2.2.2.2.2.2.1.toNat)
  (by
   rintro s ⟨j,l0,v0,bits0,tape0,out0,rfl,hij,p1,p2⟩
   obtain ⟨c,k,l',v',o1,o2,o3,o4,o5,o6,o7⟩:=onward_any (u:=(tape0.length:Int)) (q:=(n:Int)) (b:=(bn:Int)) (fun l v=>deepK (2^n) l v bits0 tape0 out0)
    (by intro o l v hc;simp only [deepK];rw [if_pos hc]) (by intro o l v hc h5;simp only [deepK];rw [if_neg (by rw [hc];decide),if_pos h5]) hn (by omega) (by omega) hops p1.hb p1.h01 p1.amp p1.le
   rw [p2] at o5
   have hl':l'.length=2^n:=o2.len
   have htp:=p1.tp
   have hob:=p1.hb
   simp only [W.je.cd_]
   rw [o1,ja]
   simp only
   cases c with
   | false=>
     have hk:=o6 rfl
     subst hk
     rw [List.drop_length] at o5
     rw [br_ff]
     exact .inl ⟨_,rfl,.inr ⟨l',v',bits0,tape0,out0,_,rfl,⟨o2,o4,p1.hb,p1.h01,by omega,p1.hout⟩,o5.symm⟩⟩
   | true=>
     obtain ⟨hk,hc,h5⟩:=o7 rfl
     have hm:ops[k]∈ops:=List.getElem_mem hk
     rw [List.drop_eq_getElem_cons hk] at o5
     simp only [deepK] at o5
     rw [if_neg (by rw [hc];decide),if_neg h5] at o5
     rw [br_tt,copied_ok _ _ _ _ _ _ _ (by omega) (by omega),ja]
     simp only
     obtain ⟨m,m1,m2,m3,m4⟩:=meet_walk (q:=(n:Int)) (b:=(bn:Int)) (us:=tape0.length) hn (by omega) p1.hb o2 hk (hops _ hm) h5 (.inl rfl) (by omega)
     rw [m1,ja]
     simp only
     obtain ⟨z,hz⟩:∃z,(if ZK (2^n) (meetK ops[k] 0 (v',bits0,tape0.length)).1 then (true,out0) else deepK (2^n) (ops.drop (k+1)) (meetK ops[k] 0 (v',bits0,tape0.length)).1 (meetK ops[k] 0 (v',bits0,tape0.length)).2.1 (tape0++[0]) out0)=z:=⟨_,rfl⟩
     rw [hz] at o5
     have hzl:z.1=true→z.2.length≤1024:=by
      rw [←hz]
      intro h
      split at h
      ·rename_i h3;rw [if_pos h3];exact p1.hout
      ·rename_i h3;rw [if_neg h3];exact Hv _ _ _ _ _ _ p1.hout h
     have hc4:W.je.c4 tape0 (n:Int) (bn:Int) ops (((tape0.length+1:Nat):Nat):Int) ((k+1:Nat):Int) m (meetK ops[k] 0 (v',bits0,tape0.length)).2.1 (out0.map (tK (2^n))) some=some (!z.1,z.2.map (tK (2^n))):=by
      obtain ⟨r,zz,r1,r2,r3,r4⟩:=zero_walk m2 hn (by omega)
      unfold W.je.c4
      rw [r1,ja]
      simp only
      rw [r3,ja]
      cases hzz:zz with
      | true=>
        rw [show (!true)=false from rfl,br_ff]
        rw [if_pos (r4.1 hzz)] at hz
        subst hz
        rfl
      | false=>
        rw [show (!false)=true from rfl,br_tt]
        rw [if_neg (fun hh=>by rw [r4.2 hh] at hzz;cases hzz)] at hz
        rw [okTape2,ja,take_self,okGrow _ (by omega),ja]
        obtain ⟨w,hw⟩:=hyp (k+1) m _ (meetK ops[k] 0 (v',bits0,tape0.length)).2.1 (tape0++[0]) out0 (by omega) ⟨m2,hk,m4,meet_01 p1.h01 (.inl rfl),by rw [List.length_append];simp only [List.length_singleton];omega,p1.hout⟩
        rw [hz,List.length_append] at hw
        simp only [List.length_singleton] at hw
        rw [hw]
        rfl
     rw [hc4,ja]
     simp only
     by_cases hz1:z.1=false
     ·rw [if_pos hz1] at o5
      subst o5
      rw [hz1,show (!false)=true from rfl,br_tt]
      exact .inl ⟨_,rfl,.inl ⟨_,_,rfl⟩⟩
     ·rw [if_neg hz1] at o5
      have hz2:z.1=true:=by simpa using hz1
      rw [hz2,show (!true)=false from rfl,br_ff]
      obtain ⟨m',n1,n2,n3,n4⟩:=meet_walk (q:=(n:Int)) (b:=(bn:Int)) (us:=tape0.length) hn (by omega) p1.hb o2 hk (hops _ hm) h5 (.inr rfl) (by omega)
      rw [n1,ja]
      simp only
      obtain ⟨r,zz,r1,r2,r3,r4⟩:=zero_walk n2 hn (by omega)
      rw [okTape2,ja,take_self,okGrow _ (by omega),ja,r1,ja]
      simp only
      rw [r3,ja]
      cases hzz:zz with
      | true=>
        rw [if_pos (r4.1 hzz)] at o5
        subst o5
        rw [br_tt]
        exact .inl ⟨_,rfl,.inl ⟨_,_,rfl⟩⟩
      | false=>
        rw [if_neg (fun hh=>by rw [r4.2 hh] at hzz;cases hzz)] at o5
        rw [br_ff]
        refine .inr ⟨_,rfl,⟨k+1,m',_,_,tape0++[1],z.2,by rw [List.length_append];rfl,by omega,⟨n2,hk,n4,meet_01 p1.h01 (.inr rfl),by rw [List.length_append];simp only [List.length_singleton];omega,hzl hz2⟩,o5.symm⟩,by simp only [Int.toNat_natCast];omega⟩)
  (s:=(tape,out.map (tK (2^n)),(n:Int),(bn:Int),ops,(tape.length:Int),(i:Int),l,bits)) ⟨i,l,v,bits,tape,out,rfl,Nat.le_refl _,h,hR⟩
 rw [hR]
 unfold W.je
 rw [y1,ja]
 rcases y2 with ⟨tp,w,rfl⟩ | ⟨l',v',bits',tape',out',u,rfl,q1,q2⟩
 ·rw [JL]
  exact ⟨_,rfl⟩
 ·rw [ke]
  simp only
  obtain ⟨r,r1,r2⟩:=pnorm_walk q1.amp hn (by omega)
  obtain ⟨t,t1,t2⟩:=ntext_ok r2 (by omega) (by omega)
  have ht:=txt_eq t2
  have htp:=q1.tp
  have hou:=q1.hout
  simp only [deepK] at q2
  subst q2
  unfold W.jV W.jV.c1
  rw [q1.amp.len,jr (by rw [Bool.and_eq_true,decide_eq_true_iff,decide_eq_true_iff];omega),ja,r1,ja]
  simp only
  rw [t1,ja,jr (by rw [Bool.and_eq_true,decide_eq_true_iff,decide_eq_true_iff,List.length_map];omega),ja,ja,ja]
  have e1:List.map (tK (2^n)) out'++[(tape',bits',t)]=List.map (tK (2^n)) (out'++[(tape',bits',v')]):=by
   simp only [List.map_append,List.map_cons,List.map_nil,tK,←ht]
  rw [e1,List.length_map]
  have e2:decide (((out'++[(tape',bits',v')]).length:Int)≤(1024:Int))=decide ((out'++[(tape',bits',v')]).length≤1024):=decide_eq_decide.2 (by omega)
  rw [e2]
  exact ⟨_,rfl⟩
theorem fuel_ok {n bn:Nat} {ops:List GOp} (hn:n≤12) (hbn:bn≤12) (hl:ops.length≤4096) (hops:∀o∈ops,OkS o n bn):∀k m,ops.length<m+k → @BSpec (W.je.fuel k) n bn ops m
 | 0,m,hm=>fun i l v bits tape out hi h=>by have:=h.le;omega
 | k+1,m,hm=>fun i l v bits tape out hi h=>by
   have ih:=fuel_ok hn hbn hl hops k (i+1) (by omega)
   exact @branches_walk (W.je.fuel k) n bn ops hn hbn hl hops i ih l v bits tape out h
end Go.Ql
end

section
namespace Go.Ql
theorem copyOwn_ok (l:List Int) (h:l.length≤8000):W.jO l=some (l,()):=by
 obtain ⟨y,y1,y2⟩:=Jo (f:=fun s:Int×List Int↦W.jO.ca_ l (Prod.fst s) (Prod.snd s) some) l.length
  (fun i s=>s=((i:Int),l.take i)) (fun y=>∃i,y=(i,l))
  (by
   rintro i _ hi rfl
   left
   refine ⟨_,?_,rfl⟩
   simp only [W.jO.ca_]
   rw [ju (by omega),Vy hi,ja,jr (by rw [Bool.and_eq_true,decide_eq_true_iff,decide_eq_true_iff,List.length_take];omega),ja,jh (by omega),List.take_succ_eq_append_getElem hi]
   rfl)
  (by
   rintro _ rfl
   refine ⟨((l.length:Int),l),?_,_,rfl⟩
   simp only [W.jO.ca_]
   rw [js (by omega),List.take_length])
  (s:=((0:Int),[])) rfl
 obtain ⟨i,rfl⟩:=y2
 unfold W.jO
 rw [y1,ja]
def Vl (t:List Int):Nat→Option (List Int)
 | 0=>none
 | n+1=>if t.getD n 0=0 then some (t.take n++[1]) else Vl t n
def YZ (t:List Int):Option (List Int):=Vl t t.length
theorem afterN_app (p q:List Int):∀n,n≤p.length→Vl (p++q) n=Vl p n
 | 0,_=>rfl
 | n+1,h=>by
   simp only [Vl]
   have e:(p++q).getD n 0=p.getD n 0:=by rw [List.getD,List.getD,List.getElem?_append_left (by omega)]
   rw [e,afterN_app p q n (by omega),List.take_append_of_le_length (by omega)]
theorem after_0 (p:List Int):YZ (p++[0])=some (p++[1]):=by
 unfold YZ
 rw [List.length_append]
 show Vl (p++[0]) (p.length+1)=_
 simp [Vl]
theorem after_1 (p:List Int):YZ (p++[1])=YZ p:=by
 unfold YZ
 rw [List.length_append]
 show Vl (p++[1]) (p.length+1)=_
 simp only [Vl]
 rw [if_neg (by simp),afterN_app _ _ _ (Nat.le_refl _)]
def aftR:Option (List Int)→Unit⊕(List Int×Unit)
 | none=>.inl ()
 | some u=>.inr (u,())
theorem after_ok (t:List Int) (h:t.length≤8000):W.Jz t=some (aftR (YZ t)):=by
 have key:∀n:Nat,n≤t.length → ∃y,iter (fun s↦W.Jz.cc_ t s some) ((n:Int)-1)=some y∧(match Vl t n with | none=>∃m,y=.inr m | some u=>∃m,y=.inl (u,m)):=by
  intro n
  induction n with
  | zero=>
    intro _
    refine ⟨.inr (((0:Nat):Int)-1),YF ?_,_,rfl⟩
    simp only [W.Jz.cc_]
    rw [js (by omega)]
  | succ n ih=>
    intro hn
    obtain ⟨y,y1,y2⟩:=ih (by omega)
    have e:(((n+1:Nat):Int)-1)=(n:Int):=by omega
    rw [e]
    simp only [Vl]
    by_cases h0:t.getD n 0=0
    ·rw [if_pos h0]
     refine ⟨.inl (t.take n++[1],(n:Int)),YF ?_,_,rfl⟩
     simp only [W.Jz.cc_]
     rw [ju (by omega),Jf n rfl (by omega),ja,Ja (by rw [h0];rfl),jr (by rw [Bool.and_eq_true,decide_eq_true_iff,decide_eq_true_iff];omega),ja,Int.toNat_natCast,copyOwn_ok _ (by rw [List.length_take];omega),ja,
      jr (by rw [Bool.and_eq_true,decide_eq_true_iff,decide_eq_true_iff,List.length_take];omega),ja]
    ·rw [if_neg h0]
     refine ⟨y,UO (s':=(n:Int)-1) ?_ y1,y2⟩
     simp only [W.Jz.cc_]
     rw [ju (by omega),Jf n rfl (by omega),ja,jG (by simpa using h0),jh (by omega)]
 obtain ⟨y,y1,y2⟩:=key t.length (Nat.le_refl _)
 unfold W.Jz
 rw [jh (by omega),y1,ja]
 unfold YZ
 revert y2
 cases Vl t t.length with
 | none=>rintro ⟨m,rfl⟩;rfl
 | some u=>rintro ⟨m,rfl⟩;rfl
structure Here (ops:List GOp) (s0:SK) (p:List Int) (i:Nat) (v:KV) (bits:List Int):Prop where
 le:i≤ops.length
 tp:p.length≤i
 run:∀q l,playK (p++q) 0 (ops.take i++l) s0=playK (p++q) i l (v,bits,p.length)
theorem Here.begin (ops:List GOp) (v:KV) (bits:List Int):Here ops (v,bits,0) [] 0 v bits:=⟨Nat.zero_le _,Nat.le_refl _,fun q l=>rfl⟩
theorem take_next {ops:List GOp} {i:Nat} (h:i<ops.length) (l:List GOp):ops.take (i+1)++l=ops.take i++(ops[i]::l):=by
 rw [List.take_succ_eq_append_getElem h,List.append_assoc];rfl
theorem Here.skip {ops:List GOp} {s0:SK} {p:List Int} {i:Nat} {v:KV} {bits:List Int} (h:Here ops s0 p i v bits) (hi:i<ops.length) (hc:condK bits ops[i]=false):Here ops s0 p (i+1) v bits:=
 ⟨hi,Nat.le_succ_of_le h.tp,fun q l=>by rw [take_next hi,h.run];simp only [playK];rw [if_pos hc]⟩
theorem Here.gate {ops:List GOp} {s0:SK} {p:List Int} {i:Nat} {v:KV} {bits:List Int} (h:Here ops s0 p i v bits) (hi:i<ops.length) (hc:¬condK bits ops[i]=false) (h5:ops[i].1<5):Here ops s0 p (i+1) (gateK ops[i] v) bits:=
 ⟨hi,Nat.le_succ_of_le h.tp,fun q l=>by rw [take_next hi,h.run];simp only [playK];rw [if_neg hc,if_pos h5]⟩
theorem Here.meet {ops:List GOp} {s0:SK} {p:List Int} {i:Nat} {v:KV} {bits:List Int} (h:Here ops s0 p i v bits) (hi:i<ops.length) (hc:¬condK bits ops[i]=false) (h5:¬ops[i].1<5) {x:Int} (hx:x=0∨x=1) :
 Here ops s0 (p++[x]) (i+1) (meetK ops[i] x (v,bits,p.length)).1 (meetK ops[i] x (v,bits,p.length)).2.1:=
 ⟨hi,by rw [List.length_append];exact Nat.succ_le_succ h.tp,fun q l=>by
  rw [take_next hi,List.append_assoc,h.run]
  simp only [playK]
  have e:(p++([x]++q)).getD p.length 0=x:=by simp
  rw [if_neg hc,if_neg h5,if_neg (by simp),e,if_neg (by omega),List.length_append]
  rfl⟩
theorem Here.end_ {ops:List GOp} {s0:SK} {p:List Int} {v:KV} {bits:List Int} (h:Here ops s0 p ops.length v bits):playK p 0 ops s0=.inr (v,bits,p.length):=by
 have:=h.run [] []
 rw [List.append_nil,List.append_nil,List.take_length] at this
 rw [this];rfl
theorem Here.stop {ops:List GOp} {s0:SK} {p:List Int} {i:Nat} {v:KV} {bits:List Int} (h:Here ops s0 p i v bits) (hi:i<ops.length) (hc:¬condK bits ops[i]=false) (h5:¬ops[i].1<5) :
 playK p 0 ops s0=.inl (19,i)∧playK p 0 (ops.take i) s0=.inr (v,bits,p.length):=by
 constructor
 ·have:=h.run [] (ops.drop i)
  rw [List.append_nil,List.take_append_drop,List.drop_eq_getElem_cons hi] at this
  rw [this]
  simp only [playK]
  rw [if_neg hc,if_neg h5,if_pos trivial]
 ·have:=h.run [] []
  rw [List.append_nil,List.append_nil] at this
  rw [this];rfl
abbrev ChR:=(Int×Int×List BrT)⊕((List Int×Int×Int×List BrT)⊕(List Int×Int×Int×List BrT))
def finC:ChR→List BrT×Int×Int
 | .inl u=>(u.2.2,u.1,u.2.1)
 | .inr (.inl u)=>([],u.2.1,u.2.2.1)
 | .inr (.inr u)=>(u.2.2.2,u.2.1,u.2.2.1)
noncomputable def stepC (i0:Nat) (n bn:Nat) (ops:List GOp):List Int×List BrT→Option ((List Int×List BrT)⊕ChR):=fun s↦W.jq.ca_ (i0:Int) (Prod.fst s) (n:Int) (bn:Int) ops (Prod.snd s) some
def FinC (i0:Nat) (n bn:Nat) (ops:List GOp) (s:List Int×List BrT) (r:List BrT×Int×Int):Prop:=∃y,iter (stepC i0 n bn ops) s=some y∧finC y=r
theorem FinC.go {i0 n bn:Nat} {ops:List GOp} {s s':List Int×List BrT} {r:List BrT×Int×Int} (h:stepC i0 n bn ops s=some (.inl s')) (g:FinC i0 n bn ops s' r):FinC i0 n bn ops s r:=
 g.imp fun y hy=>⟨UO h hy.1,hy.2⟩
theorem FinC.stop {i0 n bn:Nat} {ops:List GOp} {s:List Int×List BrT} {y:ChR} (h:stepC i0 n bn ops s=some (.inr y)):FinC i0 n bn ops s (finC y):=⟨y,YF h,rfl⟩
noncomputable def NextC (i0:Nat) (n bn:Nat) (ops:List GOp) (p:List Int) (out:List EndK) (r:List BrT×Int×Int):Prop:=match YZ p with
 | none=>r=(out.map (tK (2^n)),0,0)
 | some p'=>FinC i0 n bn ops (p',out.map (tK (2^n))) r
structure CirOk (n bn:Nat) (ops:List GOp):Prop where
 hn:n≤12
 hn1:1≤n
 hb:bn≤12
 hl:ops.length≤4096
 hw:∀o∈ops,WOp o
 hg:∀o∈ops,opBad o (n:Int) (bn:Int)=0
theorem CirOk.oks {n bn:Nat} {ops:List GOp} (h:CirOk n bn ops):∀o∈ops,OkS o n bn:=fun o ho=>oks_good (goodOp_of (h.hg o ho)) (h.hw o ho) h.hn
theorem CirOk.take {n bn:Nat} {ops:List GOp} (h:CirOk n bn ops) (i:Nat):CirOk n bn (ops.take i):=
 ⟨h.hn,h.hn1,h.hb,by have:=h.hl;rw [List.length_take];omega,fun o ho=>h.hw o (List.mem_of_mem_take ho),fun o ho=>h.hg o (List.mem_of_mem_take ho)⟩
theorem CirOk.wcir {n bn:Nat} {ops:List GOp} (h:CirOk n bn ops):WCir ((n:Int),(bn:Int),ops):=⟨by have:=h.hl;show ops.length≤_;omega,h.hw⟩
theorem CirOk.chk {n bn:Nat} {ops:List GOp} (h:CirOk n bn ops):Ql.chk ((n:Int),(bn:Int),ops)=(0,0):=
 GoodC.chk ⟨⟨by have:=h.hn1;show (1:Int)≤(n:Int);omega,by have:=h.hn;show (n:Int)≤12;omega⟩,⟨by show (0:Int)≤(bn:Int);omega,by have:=h.hb;show (bn:Int)≤12;omega⟩,h.hl,h.hg⟩
theorem CirOk.play {n bn:Nat} {ops:List GOp} (h:CirOk n bn ops) {i0:Nat} (hi:i0<2^n) {tape:List Int} (ht:tape.length≤8000) :
 (∀x,playK tape 0 ops (kq i0,List.replicate bn 0,0)=.inl x→W.jR ((n:Int),(bn:Int),ops) (i0:Int) tape=some ([],[],(0:Int),x.1,(x.2:Int))) ∧
 (∀s,playK tape 0 ops (kq i0,List.replicate bn 0,0)=.inr s → ∃l,W.jR ((n:Int),(bn:Int),ops) (i0:Int) tape=some (l,s.2.1,(s.2.2:Int),(0:Int),(0:Int))∧Amps l (2^n) s.1 ops.length):=by
 have h1:=h.hn
 have h2:=h.hb
 have h3:=h.hl
 exact play_walk (by omega) (by omega) (by omega) (by omega) hi (fun o ho=>(h.oks o ho).p) (by rw [rcheck_ok _ h.wcir,h.chk])
theorem wonder_zero {l:List NumT} {v:KV} {n t:Nat} (hv:Amps l (2^n) v t) (hn:n≤12) (ht:t≤4096) :
 ∃r z,W.JH l=some r∧Num 10000 r (normK v (2^n)) (4*t+10+2^n) (t+t)∧W.Je r=some z∧(z=true↔ZK (2^n) v):=by
 obtain ⟨r,r1,r2⟩:=rnorm_walk hv hn ht
 obtain ⟨z,z1,z2⟩:=rzero_num r2
 exact ⟨r,z,r1,r2,z1,z2.trans norm_zero⟩
open Classical in
theorem sub_walk {n bn:Nat} {ops:List GOp} (hc:CirOk n bn ops) {i0:Nat} (hi0:i0<2^n):∀(k i:Nat) (p:List Int) (v:KV) (bits:List Int) (out:List EndK),ops.length-i=k→Here ops (kq i0,List.replicate bn 0,0) p i v bits→out.length≤1024 →
 ((out++nzK (2^n) (allK (ops.drop i) v bits p)).length≤1024 → ∀r,NextC i0 n bn ops p (out++nzK (2^n) (allK (ops.drop i) v bits p)) r→FinC i0 n bn ops (p,out.map (tK (2^n))) r) ∧
 (1024<(out++nzK (2^n) (allK (ops.drop i) v bits p)).length→FinC i0 n bn ops (p,out.map (tK (2^n))) ([],21,0)):=by
 have hn:=hc.hn
 have hl:=hc.hl
 have hN:2^n≤2^12:=Nat.pow_le_pow_right (by decide) hn
 intro k
 induction k with
 | zero=>
   intro i p v bits out hk hh ho
   have hi:i=ops.length:=by have:=hh.le;omega
   subst hi
   have htp:=hh.tp
   rw [List.drop_length]
   simp only [allK]
   obtain ⟨l,l1,l2⟩:=(hc.play hi0 (tape:=p) (by omega)).2 _ hh.end_
   simp only at l1 l2
   obtain ⟨r,z,r1,r2,r3,r4⟩:=wonder_zero l2 hn (by omega)
   obtain ⟨t,t1,t2⟩:=rtext_ok r2 (by omega) (by omega)
   have ht:=txt_eq t2
   obtain ⟨L,hL⟩:∃L,nzK (2^n) [(p,bits,v)]=L:=⟨_,rfl⟩
   have h253:W.jq.cu_ p bits (out.map (tK (2^n))) [r] some=some ((out++L).map (tK (2^n))):=by
    unfold W.jq.cu_
    rw [show idx [r] (0:Int)=some r from rfl,ja,r3,ja]
    cases hz:z with
    | true=>
      rw [nz_none (r4.1 hz)] at hL
      rw [show (!true)=false from rfl,br_ff,←hL,List.append_nil]
    | false=>
      rw [nz_one (fun hh=>by rw [r4.2 hh] at hz;cases hz)] at hL
      unfold W.jq.c14
      rw [show (!false)=true from rfl,br_tt,copyOwn_ok _ (by omega),ja,show idx [r] (0:Int)=some r from rfl,ja,t1,ja,jr (by rw [Bool.and_eq_true,decide_eq_true_iff,decide_eq_true_iff,List.length_map];omega),ja,ja,←hL]
      simp only [List.map_append,List.map_cons,List.map_nil,tK,←ht]
   rw [hL]
   have hstep:stepC i0 n bn ops (p,out.map (tK (2^n)))=br (decide ((((out++L).map (tK (2^n))).length:Int)>(1024:Int))) (some (.inr (.inr (.inl (p,21,0,(out++L).map (tK (2^n)))))))
    (br ((p.length:Int)==(0:Int)) (some (.inr (.inr (.inr (p,0,0,(out++L).map (tK (2^n)))))))
     (bnd (W.Jz p) fun y=>sel y (fun u=>some (.inr (.inl (0,0,(out++L).map (tK (2^n)))))) (fun v=>br (List.isEmpty (Prod.fst v)) none (some (.inl (Prod.fst v,(out++L).map (tK (2^n)))))))):=by
    unfold stepC W.jq.ca_
    simp only
    rw [l1,ja]
    simp only
    rw [jG (by rfl),jG (by rfl),r1,ja,h253,ja]
    rfl
   rw [after_ok _ (by omega),ja,List.length_map] at hstep
   constructor
   ·intro hle rr hnx
    rw [js (by omega)] at hstep
    by_cases hp:p=[]
    ·subst hp
     rw [Ja (by rfl)] at hstep
     have hnx:rr=((out++L).map (tK (2^n)),0,0):=hnx
     rw [hnx]
     exact FinC.stop hstep
    ·have hpl:p.length≠0:=fun e=>hp (List.length_eq_zero_iff.1 e)
     rw [jG (by simpa using hp)] at hstep
     unfold NextC at hnx
     have hne:∀u,YZ p=some u→List.isEmpty u=false:=by
      intro u hu
      unfold YZ at hu
      revert hu
      generalize p.length=m
      induction m with
      | zero=>intro hu;cases hu
      | succ m ih=>
        intro hu
        simp only [Vl] at hu
        split at hu
        ·cases hu;simp
        ·exact ih hu
     cases ha:YZ p with
     | none=>
       rw [ha] at hstep hnx
       simp only [aftR] at hstep
       rw [JL] at hstep
       simp only at hnx
       rw [hnx]
       exact FinC.stop hstep
     | some u=>
       rw [ha] at hstep hnx
       simp only [aftR] at hstep
       rw [ke] at hstep
       simp only at hstep
       rw [jG (hne u ha)] at hstep
       exact FinC.go hstep hnx
   ·intro hgt
    rw [ju (by omega)] at hstep
    exact FinC.stop hstep
 | succ k ih=>
   intro i p v bits out hk hh ho
   have hi:i<ops.length:=by omega
   have hm:ops[i]∈ops:=List.getElem_mem hi
   have htp:=hh.tp
   rw [List.drop_eq_getElem_cons hi]
   simp only [allK]
   by_cases hcd:condK bits ops[i]=false
   ·rw [if_pos hcd]
    exact ih (i+1) p v bits out (by omega) (hh.skip hi hcd) ho
   ·rw [if_neg hcd]
    by_cases h5:ops[i].1<5
    ·rw [if_pos h5]
     exact ih (i+1) p _ bits out (by omega) (hh.gate hi hcd h5) ho
    ·rw [if_neg h5]
     obtain ⟨s1,s2⟩:=hh.stop hi hcd h5
     have hpl:=(hc.play hi0 (tape:=p) (by omega)).1 _ s1
     obtain ⟨l,l1,l2⟩:=((hc.take i).play hi0 (tape:=p) (by omega)).2 _ s2
     simp only at hpl l1 l2
     have hlen:(ops.take i).length≤4096:=(hc.take i).hl
     obtain ⟨r,z,r1,r2,r3,r4⟩:=wonder_zero l2 hn hlen
     have hun:W.ko ((n:Int),(bn:Int),ops) (i0:Int) p (i:Int)=some l:=by
      unfold W.ko W.ko.c1
      simp only
      rw [jr (by rw [Bool.and_eq_true,decide_eq_true_iff,decide_eq_true_iff];omega),ja,Int.toNat_natCast,l1,ja,ja]
     have hstep:stepC i0 n bn ops (p,out.map (tK (2^n)))=br z (bnd (W.Jz p) fun y_4=>sel y_4 (fun u=>some (.inr (.inl ((0:Int),(0:Int),out.map (tK (2^n)))))) (fun v=>br (List.isEmpty (Prod.fst v)) none (some (.inl (Prod.fst v,out.map (tK (2^n)))))))
      (some (.inl (p++[0],out.map (tK (2^n))))):=by
      unfold stepC W.jq.ca_
      simp only
      rw [hpl,ja]
      simp only
      rw [Ja (by rfl),hun,ja,r1,ja,r3,ja,copyOwn_ok _ (by omega),ja,jr (by rw [Bool.and_eq_true,decide_eq_true_iff,decide_eq_true_iff];simp only;omega),ja]
     have hh0:=hh.meet hi hcd h5 (x:=0) (.inl rfl)
     have hh1:=hh.meet hi hcd h5 (x:=1) (.inr rfl)
     cases hz:z with
     | true=>
       have hzk:=r4.1 hz
       have hq:∀a∈ops.drop (i+1),0≤a.2.2.2.1∧a.2.2.2.1<(n:Int):=fun a ha=>(hc.oks a (List.mem_of_mem_drop ha)).p.gate.q
       have hqo:=(hc.oks _ hm).p.gate.q
       rw [nz_app,Vm hq (zk_meet (s:=(v,bits,p.length)) hqo hzk),Vm hq (zk_meet (s:=(v,bits,p.length)) hqo hzk),List.append_nil,List.append_nil]
       rw [hz,br_tt,after_ok _ (by omega),ja] at hstep
       refine ⟨fun _ rr hnx=>?_,fun hgt=>by omega⟩
       unfold NextC at hnx
       have hne:∀u,YZ p=some u→List.isEmpty u=false:=by
        intro u hu
        unfold YZ at hu
        revert hu
        generalize p.length=m
        induction m with
        | zero=>intro hu;cases hu
        | succ m ih=>
          intro hu
          simp only [Vl] at hu
          split at hu
          ·cases hu;simp
          ·exact ih hu
       cases ha:YZ p with
       | none=>
         rw [ha] at hstep hnx
         simp only [aftR] at hstep
         rw [JL] at hstep
         simp only at hnx
         rw [hnx]
         exact FinC.stop hstep
       | some u=>
         rw [ha] at hstep hnx
         simp only [aftR] at hstep
         rw [ke] at hstep
         simp only at hstep
         rw [jG (hne u ha)] at hstep
         exact FinC.go hstep hnx
     | false=>
       rw [hz,br_ff] at hstep
       rw [nz_app]
       obtain ⟨L0,hL0⟩:∃L,nzK (2^n) (allK (ops.drop (i+1)) (meetK ops[i] 0 (v,bits,p.length)).1 (meetK ops[i] 0 (v,bits,p.length)).2.1 (p++[0]))=L:=⟨_,rfl⟩
       obtain ⟨L1,hL1⟩:∃L,nzK (2^n) (allK (ops.drop (i+1)) (meetK ops[i] 1 (v,bits,p.length)).1 (meetK ops[i] 1 (v,bits,p.length)).2.1 (p++[1]))=L:=⟨_,rfl⟩
       obtain ⟨a0,b0⟩:=ih (i+1) _ _ _ out (by omega) hh0 ho
       rw [hL0] at a0 b0 ⊢
       rw [hL1]
       have nx0:∀rr,FinC i0 n bn ops (p++[1],(out++L0).map (tK (2^n))) rr→NextC i0 n bn ops (p++[0]) (out++L0) rr:=fun rr h=>by unfold NextC;rw [after_0];exact h
       by_cases hle0:(out++L0).length≤1024
       ·obtain ⟨a1,b1⟩:=ih (i+1) _ _ _ (out++L0) (by omega) hh1 hle0
        rw [hL1] at a1 b1
        rw [List.append_assoc] at a1 b1
        refine ⟨fun hle rr hnx=>FinC.go hstep (a0 hle0 rr (nx0 rr (a1 hle rr ?_))),fun hgt=>FinC.go hstep (a0 hle0 _ (nx0 _ (b1 hgt)))⟩
        unfold NextC at hnx ⊢
        rw [after_1]
        exact hnx
       ·refine ⟨fun hle=>?_,fun _=>FinC.go hstep (b0 (by omega))⟩
        rw [←List.append_assoc,List.length_append] at hle
        omega
end Go.Ql
end

section
namespace Go.Ql
theorem opBad_19 (o:Op) (qn bn:Int):opBad o qn bn≠19:=by
 unfold opBad
 have h:=ctlBad_ne (q0:=o.2.2.2.1) (qn:=qn) o.2.2.1 []
 repeat' split
 all_goals first
  | decide
  | (rename_i hh;rcases h with h | h | h<;>rw [h]<;>decide)
  | (rcases h with h | h | h<;>rw [h]<;>decide)
theorem opsBad_19 (qn bn:Int):∀(l:List Op) (i:Nat),(Ye qn bn i l).1≠19
 | [],_=>by simp [Ye]
 | o::r,i=>by
   rw [Ye]
   split
   ·exact opsBad_19 qn bn r (i+1)
   ·exact opBad_19 o qn bn
theorem chk_19 (c:Cir):(chk c).1≠19:=by
 unfold chk
 split
 ·decide
 ·split
  ·decide
  ·split
   ·decide
   ·exact opsBad_19 _ _ _ _
theorem HH:∀(l:List GOp) (v:KV) (bits tape:List Int),∀e∈allK l v bits tape,e.1.length≤tape.length+l.length∧e.2.1.length=bits.length
 | [],v,bits,tape,e,he=>by
   simp only [allK,List.mem_singleton] at he
   subst he
   exact ⟨by simp,rfl⟩
 | o::l,v,bits,tape,e,he=>by
   simp only [allK] at he
   split at he
   ·have:=HH l _ _ _ e he
    exact ⟨by have:=this.1;simp only [List.length_cons];omega,this.2⟩
   ·split at he
    ·have:=HH l _ _ _ e he
     exact ⟨by have:=this.1;simp only [List.length_cons];omega,this.2⟩
    ·have hm:∀x,(meetK o x (v,bits,tape.length)).2.1.length=bits.length:=by
      intro x
      unfold meetK
      simp only
      split
      ·rw [List.length_set]
      ·rfl
     rcases List.mem_append.1 he with he | he
     ·have:=HH l _ _ _ e he
      rw [hm,List.length_append] at this
      exact ⟨by have:=this.1;simp only [List.length_cons,List.length_singleton,List.length_nil] at *;omega,this.2⟩
     ·have:=HH l _ _ _ e he
      rw [hm,List.length_append] at this
      exact ⟨by have:=this.1;simp only [List.length_cons,List.length_singleton,List.length_nil] at *;omega,this.2⟩
theorem sameBranches_self (a:List BrT) (h:∀e∈a,e.1.length≤8192∧e.2.1.length≤8192) (hl:a.length≤4096):W.jQ a a=some true:=by
 simp only [W.jQ,br_if]
 rw [if_neg (by simp),iter_count (s0:=(0:Int)) a.length (fun k=>(k:Int)) (.inr (a.length:Int))]
 ·rfl
 ·intro i hi
  obtain ⟨h1,h2⟩:=h _ (List.getElem_mem hi)
  simp only [W.jQ.cb_,W.jQ.c6,br_if,Vy hi,ja]
  rw [if_pos (by simpa using hi),sameInts_ok _ _ (by omega),ja,decide_eq_true rfl,if_neg (by simp),sameInts_ok _ _ (by omega),ja,decide_eq_true rfl,if_neg (by simp),ja,if_neg (by simp),jh (by omega)]
  rfl
 ·simp only [W.jQ.cb_,br_if]
  rw [if_neg (by simp)]
 ·rfl
theorem basis_some {n i0:Nat} (h:i0<2^n):¬ZK (2^n) (kq i0):=fun hz=>by
 have:=hz i0 h
 unfold kq at this
 rw [if_pos rfl] at this
 exact absurd (congrArg K.c0 this) (by decide)
theorem chances_both (c:Cir) (hc:WCir c) (i:Int):∃(T:List BrT) (f:Int×Int),W.jA c i=some (T,f)∧W.jq c i=some (T,f)∧T.length≤1024 ∧ ∀e∈T,e.1.length≤8192∧e.2.1.length≤8192:=by
 have k1:=check_ok c hc
 have k2:=rcheck_ok c hc
 by_cases hk:(chk c).1=0
 ·obtain ⟨hg,hck⟩:=good_of hk
  have h1:=hg.q
  have h2:=hg.b
  have h3:=hg.n
  have h4:=hg.ops
  have hw:=hc.2
  rw [hck] at k1 k2
  obtain ⟨qn,bn,ops⟩:=c
  simp only at h1 h2 h3 h4
  obtain ⟨n,rfl⟩:=Int.eq_ofNat_of_zero_le (show (0:Int)≤qn by omega)
  obtain ⟨m,rfl⟩:=Int.eq_ofNat_of_zero_le (show (0:Int)≤bn by omega)
  have hp:=pow63 (q:=(n:Int)) (by omega)
  rw [Int.toNat_natCast] at hp
  by_cases hin:i<0∨((2^n:Nat):Int)≤i
  ·have hb:W.jv ((n:Int),(m:Int),ops) i=some (.inr ((),(18,0),())):=by
    unfold W.jv W.jv.c4
    simp only
    rw [k1,ja,jG (by rfl),Int.toNat_natCast,hp]
    rcases hin with h | h
    ·rw [ju h,ja];rfl
    ·by_cases h0:i<0
     ·rw [ju h0,ja];rfl
     ·rw [js h0,jr (by simp),ja,decide_eq_true (by omega),ja];rfl
   have hp2:W.jR ((n:Int),(m:Int),ops) i []=some ([],[],(0:Int),(18,0)):=by
    unfold W.jR W.jR.c4
    simp only
    rw [k2,ja,jG (by rfl),Int.toNat_natCast,hp]
    rcases hin with h | h
    ·rw [ju h,ja];rfl
    ·by_cases h0:i<0
     ·rw [ju h0,ja];rfl
     ·rw [js h0,jr (by simp),ja,decide_eq_true (by omega),ja];rfl
   refine ⟨[],(18,0),?_,?_,by simp,by simp⟩
   ·unfold W.jA
    simp only
    rw [hb,ja]
    rfl
   ·unfold W.jq
    rw [YF (r:=.inr (.inl ([],18,0,[]))),ja]
    ·rfl
    ·unfold W.jq.ca_
     simp only
     rw [hp2,ja]
     rfl
  ·obtain ⟨i0,rfl⟩:=Int.eq_ofNat_of_zero_le (show (0:Int)≤i by omega)
   have hi0:i0<2^n:=by omega
   have hN:2^n≤2^12:=Nat.pow_le_pow_right (by decide) (by omega)
   have hco:CirOk n m ops:=⟨by omega,by omega,by omega,h3,hw,h4⟩
   obtain ⟨l0,b1,b2⟩:=pbasis_walk (show n≤20 by omega) hi0
   have hbeg:W.jv ((n:Int),(m:Int),ops) (i0:Int)=some (.inl (((0:Int),(0:Int)),(n:Int),(m:Int),ops,(0:Int),(0:Int),l0,List.replicate m 0,())):=by
    unfold W.jv W.jv.c4 W.jv.c6
    simp only
    rw [k1,ja,jG (by decide),js (by omega),jr (by simp),ja,Int.toNat_natCast,hp,decide_eq_false (by omega),ja,br_ff,b1,ja,
     jr (by rw [Bool.and_eq_true,Bool.and_eq_true,Bool.and_eq_true,decide_eq_true_iff,decide_eq_true_iff,decide_eq_true_iff,decide_eq_true_iff];omega),ja,ja,Int.toNat_natCast]
   obtain ⟨L,hL⟩:∃L,nzK (2^n) (allK ops (kq i0) (List.replicate m 0) [])=L:=⟨_,rfl⟩
   have hLe:∀e∈L.map (tK (2^n)),e.1.length≤8192∧e.2.1.length≤8192:=by
    intro e he
    obtain ⟨a,ha,rfl⟩:=List.mem_map.1 he
    rw [←hL] at ha
    unfold nzK at ha
    have:=HH _ _ _ _ a (List.mem_filter.1 ha).1
    simp only [List.length_nil,List.length_replicate] at this
    exact ⟨by show a.1.length≤8192;omega,by show a.2.1.length≤8192;omega⟩
   obtain ⟨w,hw1⟩:=fuel_ok hco.hn hco.hb hco.hl hco.oks 4200 0 (by omega) 0 l0 (kq i0) (List.replicate m 0) [] [] (Nat.le_refl _) ⟨b2,Nat.zero_le _,by simp,B01.zero _,Nat.le_refl _,by simp⟩
   have hf:=HI (n:=n) (bn:=m) hco.oks (v:=kq i0) (bits:=List.replicate m 0) (tape:=[]) (out:=[]) (basis_some hi0) (by simp)
   rw [List.drop_zero] at hw1
   obtain ⟨R,hR⟩:∃R,deepK (2^n) ops (kq i0) (List.replicate m 0) [] []=R:=⟨_,rfl⟩
   rw [hR] at hw1 hf
   rw [hL] at hf
   have hch:W.jA ((n:Int),(m:Int),ops) (i0:Int)=br (!R.1) (some ([],(21:Int),(0:Int))) (some (R.2.map (tK (2^n)),(0:Int),(0:Int))):=by
    unfold W.jA
    simp only
    rw [hbeg,ja,JL]
    simp only
    rw [jG (by rfl)]
    exact kM (x:=(R.1,R.2.map (tK (2^n)),w)) hw1 rfl
   obtain ⟨a1,a2⟩:=sub_walk hco hi0 ops.length 0 [] (kq i0) (List.replicate m 0) [] (by omega) (Here.begin ops (kq i0) (List.replicate m 0)) (by simp)
   rw [List.drop_zero,hL] at a1 a2
   have hres:∀r,FinC i0 n m ops ([],[]) r→W.jq ((n:Int),(m:Int),ops) (i0:Int)=some r:=by
    rintro r ⟨y,y1,y2⟩
    unfold stepC at y1
    unfold W.jq
    simp only
    rw [y1,ja,←y2]
    rcases y with y | y | y<;>rfl
   unfold HG at hf
   rw [List.nil_append] at hf a1 a2
   rcases hf with ⟨f1,f2⟩ | ⟨f1,f2⟩
   ·subst f2
    refine ⟨L.map (tK (2^n)),(0,0),?_,hres _ (a1 f1 _ ?_),by rw [List.length_map];exact f1,hLe⟩
    ·rw [hch];rfl
    ·unfold NextC YZ
     rfl
   ·subst f2
    refine ⟨[],(21,0),?_,hres _ (a2 f1),by simp,by simp⟩
    rw [hch];rfl
 ·have hb:W.jv c i=some (.inr ((),chk c,())):=by
   unfold W.jv
   rw [show (c.1,c.2.1,c.2.2)=c from rfl,k1,ja,Ja (by simpa using hk)]
   rfl
  have hp2:W.jR c i []=some ([],[],(0:Int),chk c):=by
   unfold W.jR
   rw [show (c.1,c.2.1,c.2.2)=c from rfl,k2,ja,Ja (by simpa using hk)]
   rfl
  refine ⟨[],chk c,?_,?_,by simp,by simp⟩
  ·unfold W.jA
   rw [show (c.1,c.2.1,c.2.2)=c from rfl,hb,ja,ke,Ja (by simpa using hk)]
   rfl
  ·unfold W.jq
   rw [YF (r:=.inr (.inl ([],(chk c).1,(chk c).2,[]))),ja]
   ·rfl
   ·unfold W.jq.ca_
    rw [show (c.1,c.2.1,c.2.2)=c from rfl]
    simp only
    rw [hp2,ja]
    simp only
    rw [jG (beq_false_of_ne (chk_19 c)),Ja (by simpa using hk)]
    rfl
theorem chances_law (c:Cir) (hc:WCir c) (i:Int):W.Ji c i=some true:=by
 obtain ⟨T,f,h1,h2,h3,h4⟩:=chances_both c hc i
 unfold W.Ji
 rw [show (c.1,c.2.1,c.2.2)=c from rfl,copyCircuit_ok c hc,ja,h1,ja,h2,ja]
 unfold W.Ji.c3
 rw [begun_ok,ja,br_tt]
 simp only
 rw [eqT_fs (f.1,f.2),br_tt,sameBranches_self T h4 (by omega)]
 rfl
end Go.Ql
end

section
namespace Go.Ql
theorem chances_wf:∀x:dens [cirTy,.int .i64],WfL [cirTy,.int .i64] x→W.Ji.ce.F x=some true:=by
 rintro ⟨c,i⟩ ⟨h1,h2⟩
 exact chances_law c (wcir_of h1) i
end Go.Ql
end
