/- Plain laws: gates, runs; all ways that a run can go. -/
import Derived.Test.YtaehnephoppjmaaGreatDoorPa
import Derived.Test.YtaehnephoppjmaaGreatDoorWc
import Derived.Test.YtaehnephoppjmaaGreatDoorWd
import Derived.Test.YtaehnephoppjmaaGreatDoorGa
set_option linter.all false
section
section
namespace Go.Ql
theorem pow63 {q:Int} (h:0≤q∧q≤62):IntKind.i64.wrap ((1:Int)*(2:Int)^Min.min (Int.toNat q) (64:Nat))=((2^q.toNat:Nat):Int):=by
 rw [Nat.min_eq_left (by omega),Int.one_mul]
 have h1:(2:Nat)^q.toNat≤2^62:=Nat.pow_le_pow_right (by omega) (by omega)
 have h2:((2^q.toNat:Nat):Int)=(2:Int)^q.toNat:=by simp
 have h3:(2:Nat)^62=4611686018427387904:=by decide
 rw [h3] at h1
 rw [←h2,jo (by have:=Int.natCast_nonneg (2^q.toNat);omega)]
def Qs (l:List Int):Prop:=∀q∈l,0≤q∧q<62
theorem qs_at {l:List Int} (h:Qs l) {j:Nat} (hj:j<l.length):0≤l.getD j 0∧l.getD j 0<62:=by
 have e:l.getD j 0=l[j]:=by simp [hj]
 rw [e];exact h _ (List.getElem_mem hj)
def condK (bits:List Int) (o:GOp):Bool:=o.2.2.2.2.2.all fun c=>(decide (c≤0)||bits.getD (c-1).toNat 0==1)&&(decide (0≤c)||bits.getD (-c-1).toNat 0==0)
end Go.Ql
end
section
namespace Go.Ql
def z0:NumT:=(List.replicate 8 d0,(0:Int))
structure Amps (l:List NumT) (N:Nat) (v:KV) (t:Nat):Prop where
 len:l.length=N
 at_:∀x,x<N→Num 10000 (l.getD x z0) (v x) (2*t+1) t
 fit:∀x,x<N→FitsK (v x) (2*t+1) t
def cut (i:Nat) (v:KV):KV:=fun x=>if x<i then v x else K.zero
theorem gate_fits {o:GOp} {w:KV} {L t:Nat} (h:∀x,FitsK (w x) L t) (y:Nat):FitsK (gateK o w y) (L+2) (t+1):=by
 have h1:=fun x=>((h x).up 1).mono (show L+1≤L+2 by omega)
 have h2:=fun x=>(h x).half
 unfold gateK
 split
 ·exact h1 y
 ·split
  ·exact (h1 y).turn _
  ·split
   ·split
    ·exact (h1 y).turn _
    ·exact h1 y
   ·split
    ·exact h1 _
    ·split
     ·exact (h2 _).add (h2 y).neg
     ·exact (h2 _).add (h2 y)
theorem gate_loc {o:GOp} {w w':KV} {y:Nat} (h1:w y=w' y) (h2:w (fl o.2.2.2.1 y)=w' (fl o.2.2.2.1 y)):gateK o w y=gateK o w' y:=by
 simp only [gateK,h1,h2]
theorem gate_off {o:GOp} {w:KV} {y:Nat} (h:onesB o.2.2.1 y=false):gateK o w y=w y:=by
 unfold gateK
 rw [if_pos h]
theorem Uz {o:GOp} {w:KV} {y:Nat} (h:onesB o.2.2.1 y=true) (hk:o.1=1∨(o.1=4∧bt o.2.2.2.1 y=true)):gateK o w y=K.turn (w y) o.2.1.toNat:=by
 unfold gateK
 rw [if_neg (by simp [h])]
 rcases hk with hk | ⟨hk,hb⟩
 ·rw [if_pos hk]
 ·rw [if_neg (by omega),if_pos hk,if_pos hb]
theorem gate_stay {o:GOp} {w:KV} {y:Nat} (h:onesB o.2.2.1 y=true) (hk:o.1=4) (hb:¬bt o.2.2.2.1 y=true):gateK o w y=w y:=by
 unfold gateK
 rw [if_neg (by simp [h]),if_neg (by omega),if_pos hk,if_neg hb]
theorem gate_flip {o:GOp} {w:KV} {y:Nat} (h:onesB o.2.2.1 y=true) (hk:o.1=2):gateK o w y=w (fl o.2.2.2.1 y):=by
 unfold gateK
 rw [if_neg (by simp [h]),if_neg (by omega),if_neg (by omega),if_pos hk]
theorem gate_had {o:GOp} {w:KV} {y:Nat} (h:onesB o.2.2.1 y=true) (hk:o.1≠1∧o.1≠2∧o.1≠4) :
 gateK o w y=K.add (K.half (w (fl o.2.2.2.1 y))) (if bt o.2.2.2.1 y=true then K.neg (K.half (w y)) else K.half (w y)):=by
 unfold gateK
 rw [if_neg (by simp [h]),if_neg hk.1,if_neg hk.2.2,if_neg hk.2.1]
theorem idxN {l:List NumT} {i:Nat} (h:i<l.length):idx l (i:Int)=some (l.getD i z0):=by
 rw [Hv]
 simp [h]
theorem YT {l:List NumT} {j y:Nat} {r:NumT} (h:j<l.length):(l.set j r).getD y z0=if y=j then r else l.getD y z0:=by
 by_cases e:y=j
 ·subst e;simp [h]
 ·rw [if_neg e]
  simp [List.getD,List.getElem?_set_ne (Ne.symm e)]
theorem fl_lt {q:Int} {i n:Nat} (hq:0≤q∧q<n) (hi:i<2^n):fl q i<2^n:=
 Nat.xor_lt_two_pow hi (Nat.pow_lt_pow_right (by decide) (by omega))
theorem fl_ne (q:Int) (x:Nat):fl q x≠x:=fun h=>by
 have h1:=Uc q x
 rw [h] at h1
 cases hb:bt q x<;>rw [hb] at h1<;>cases h1
theorem fl_inj {q:Int} {x y:Nat} (h:fl q x=fl q y):x=y:=by rw [←fl_fl q x,h,fl_fl]
theorem turn_toNat (x:K) {k:Int} (h:0≤k):K.turn x (k % 16).toNat=K.turn x k.toNat:=by
 rw [←K.turn_mod x k.toNat]
 congr 1
 omega
structure Ok1 (o:GOp) (n:Nat):Prop where
 q:0≤o.2.2.2.1∧o.2.2.2.1<n
 k:0≤o.2.1
 qs:Qs o.2.2.1
 len:o.2.2.1.length<2^62
 out:o.2.2.2.1∉o.2.2.1
theorem Ok1.ones {o:GOp} {n:Nat} (h:Ok1 o n) (x:Nat):onesB o.2.2.1 (fl o.2.2.2.1 x)=onesB o.2.2.1 x:=
 ones_other (fun q hq=>(h.qs q hq).1) h.q.1 h.out x
end Go.Ql
end
section
namespace Go.Ql
def outK (q:Int) (b:Int) (v:KV):KV:=fun x=>if bt q x=decide (b=1) then v x else K.zero
abbrev SK:=KV×List Int×Nat
def meetK (o:GOp) (b:Int) (s:SK):SK:=
 (if o.1≠5∧b=1 then xK [] o.2.2.2.1 (outK o.2.2.2.1 b s.1) else outK o.2.2.2.1 b s.1,if o.1=5 then s.2.1.set o.2.2.2.2.1.toNat b else s.2.1,s.2.2+1)
def playK (tape:List Int):Nat→List GOp→SK→(Int×Nat)⊕SK
 | _,[],s=>.inr s
 | i,o::l,s=>
   if condK s.2.1 o=false then playK tape (i+1) l s
   else if o.1<5 then playK tape (i+1) l (gateK o s.1,s.2.1,s.2.2)
   else if s.2.2=tape.length then .inl (19,i)
   else if tape.getD s.2.2 0≠0∧tape.getD s.2.2 0≠1 then .inl (20,i)
   else playK tape (i+1) l (meetK o (tape.getD s.2.2 0) s)
theorem Amps.up {l:List NumT} {N t:Nat} {v:KV} (h:Amps l N v t):Amps l N v (t+1):=by
 have hf:∀x,x<N→FitsK (v x) (2*(t+1)+1) (t+1):=fun x hx=>((h.fit x hx).up 1).mono (by omega)
 exact ⟨h.len,fun x hx=>(h.at_ x hx).fit (hf x hx),hf⟩
theorem repl_at (N y:Nat):(List.replicate N z0).getD y z0=z0:=by
 rw [List.getD,List.getElem?_replicate]
 split<;>rfl
def kK (i:Nat):KV:=fun x=>if x=i then K.one else K.zero
theorem one_kv:kv (HT 1) 0=K.one:=by
 apply K.eq_of<;>simp [kv,HT,hp,K.one]
structure OkP (o:GOp) (n bn:Nat):Prop where
 gate:Ok1 o n
 ifs:o.2.2.2.2.2.length<2^62
 cond:∀c∈o.2.2.2.2.2,c≠0∧c≤(bn:Int) ∧ -c≤(bn:Int)
 bit:o.1=5→0≤o.2.2.2.2.1∧o.2.2.2.2.1<(bn:Int)
theorem ok1_x {o:GOp} {n:Nat} (h:Ok1 o n):Ok1 (2,0,[],o.2.2.2.1,0,[]) n:=⟨h.q,by simp,fun _ h=>by simp at h,by simp,by simp⟩
end Go.Ql
end
end

section
set_option maxRecDepth 100000
namespace Go.Ql
theorem Bd.add1 {v w:Nat→Int} {L:Nat} (h:Bd v L) (g:Bd w L):Bd (fun i=>v i+w i) (L+1):=fun i hi=>by
 have h1:=h i hi
 have h2:=g i hi
 rw [Nat.pow_succ]
 have:=Int.natAbs_add_le (v i) (w i)
 simp only
 omega
theorem nadd_t {a b:List Dg×Int} {k l:K} {L M E F:Nat} (h:Num 4294967296 a k L E) (g:Num 4294967296 b l M F) (hs:L+M+2*(E+F)<79000) :
 ∃r,W.jz a b=some r∧Num 4294967296 r (K.add k l) (Max.max (L+F) (M+E)+1) (Max.max E F):=by
 obtain ⟨c,ae⟩:=a
 obtain ⟨d,be⟩:=b
 obtain ⟨v,e,h1,h2,h3,h4,h5,h6⟩:=h.has
 obtain ⟨w,f,g1,g2,g3,g4,g5,g6⟩:=g.has
 simp only at h2 g2
 subst h2
 subst g2
 obtain ⟨x,y,g',q1,q2,q3⟩:=add_align (L:=L) (M:=M) (e:=e) (f:=f) h1 g1 h5 g5 (by omega)
 have b1:=(h5.up (Max.max e f-e)).mono (show L+(Max.max e f-e)≤Max.max (L+F) (M+E) by omega)
 have b2:=(g5.up (Max.max e f-f)).mono (show M+(Max.max e f-f)≤Max.max (L+F) (M+E) by omega)
 obtain ⟨r,r1,r2⟩:=add_loop (L:=Max.max (L+F) (M+E)) q2 q3 b1 b2 (by omega) ((Max.max e f:Nat):Int) g'
 obtain ⟨z,z1,z2⟩:=least_ok (L:=Max.max (L+F) (M+E)+1) r2 (b1.add1 b2) ((Max.max e f:Nat):Int) (by omega)
 unfold W.jz
 rw [q1,jc,r1,jc]
 simp only [show ∀z:List Dg×Int,inR (List.length [z]) (0:Int)=some () from fun _=>rfl,show ∀z:List Dg×Int,idx [z] (0:Int)=some z from fun _=>rfl,jc]
 rw [z1,jc]
 refine ⟨z,rfl,?_⟩
 obtain ⟨u,m,u1,u2,u3,u4,u5,u6⟩:=z2.has
 refine Num.mk' u1 u2 u3 ?_ (u5.mono (by omega)) (by omega)
 rw [u4,HN,←kv_add,←h4,←g4]
 have e1:=kv_up v e (Max.max e f-e)
 have e2:=kv_up w f (Max.max e f-f)
 rw [show e+(Max.max e f-e)=Max.max e f by omega] at e1
 rw [show f+(Max.max e f-f)=Max.max e f by omega] at e2
 rw [e1,e2]
theorem nsub_t {a b:List Dg×Int} {k l:K} {L M E F:Nat} (h:Num 4294967296 a k L E) (g:Num 4294967296 b l M F) (hs:L+M+2*(E+F)<79000) :
 ∃r,W.Jv a b=some r∧Num 4294967296 r (K.sub k l) (Max.max (L+F) (M+E)+1) (Max.max E F):=by
 obtain ⟨n,n1,n2⟩:=nneg_ok g (by omega)
 obtain ⟨r,r1,r2⟩:=nadd_t h n2 hs
 refine ⟨r,?_,r2⟩
 unfold W.Jv W.Jv.c1
 refine Vm (x:=[r]) ?_ rfl
 exact Vm n1 (Vm r1 rfl)
theorem nhalf_t {a:NumT} {k:K} {L E:Nat} (h:Num 4294967296 a k L E) (hL:L+L+2*(E+E)<79000) :
 ∃r,W.Jl a=some r∧Num 4294967296 r (K.half k) (L+E+1) (E+1):=by
 obtain ⟨t,t1,t2⟩:=nturn_ok h (by omega) 2 (by decide)
 obtain ⟨u,u1,u2⟩:=nturn_ok h (by omega) 6 (by decide)
 obtain ⟨⟨c,ae⟩,s1,s2⟩:=nsub_t t2 u2 (by omega)
 obtain ⟨v,e,h1,h2,h3,h4,h5,h6⟩:=s2.has
 simp only at h1 h2
 subst h2
 have t1':W.jB a (2:Int)=some t:=t1
 have u1':W.jB a (6:Int)=some u:=u1
 obtain ⟨r,r1,r2⟩:=least_ok h1 h5 ((e+1:Nat):Int) (by omega)
 refine ⟨r,?_,?_⟩
 ·unfold W.Jl W.Jl.c1
  rw [t1',jc,u1',jc,s1,jc,jc]
  simp only [bx_in,bx_at,jc]
  rw [jo (by omega),show (e:Int)+1=((e+1:Nat):Int) by omega,r1]
  rfl
 ·obtain ⟨w',f',q1,q2,q3,q4,q5,q6⟩:=r2.has
  refine ⟨w',f',q1,q2,q3,?_,q5.mono (by omega),by omega⟩
  rw [q4,HN,kv_half1,h4]
  rfl
theorem nzero_ok {a:NumT} {k:K} {L E:Nat} (h:Num 4294967296 a k L E):∃t,W.jT a=some t∧(t=true↔k=K.zero):=by
 obtain ⟨c,ae⟩:=a
 obtain ⟨v,e,h1,h2,h3,h4,h5,h6⟩:=h.has
 simp only at h1 h2
 subst h2
 obtain ⟨x,x1,x2⟩:=JX (f:=fun s:Int↦W.jT.cb_ c s some) 8
  (fun i s=>s=(i:Int) ∧ ∀j,j<i→v j=0)
  (fun x=>(∃i,x=.inl i ∧ ∃j,j<8∧v j≠0)∨(∃i,x=.inr i ∧ ∀j,j<8→v j=0))
  (by
   rintro i s hi ⟨rfl,p2⟩
   simp only [W.jT.cb_]
   rw [jS (by omega),h1.idx hi,jc,show (((c.getD i d0).1,(c.getD i d0).2):Dg)=c.getD i d0 from rfl,sign_ok (h1.at_ i hi),jc]
   by_cases e2:v i=0
   ·rw [jX (by simp [sgn,e2]),jo (by omega)]
    refine .inl ⟨_,rfl,by omega,fun j hj=>?_⟩
    by_cases e3:j=i
    ·rw [e3];exact e2
    ·exact p2 j (by omega)
   ·have hsg:(sgn (v i) !=0)=true:=by
     simp only [sgn,bne_iff_ne,ne_eq]
     split<;>(try split)<;>omega
    rw [JD hsg]
    exact .inr ⟨_,rfl,.inl ⟨_,rfl,i,hi,e2⟩⟩)
  (by
   rintro s ⟨rfl,p2⟩
   simp only [W.jT.cb_]
   rw [jQ (by omega)]
   exact ⟨_,rfl,.inr ⟨_,rfl,p2⟩⟩)
  (s:=(0:Int)) ⟨rfl,fun j hj=>by omega⟩
 unfold W.jT
 rw [x1,jc]
 rcases x2 with ⟨i,rfl,j,j1,j2⟩ | ⟨i,rfl,hall⟩
 ·refine ⟨false,rfl,?_⟩
  constructor
  ·intro h;cases h
  ·intro hk
   exact absurd (nought_kv.2 (h4.trans hk) j j1) j2
 ·exact ⟨true,rfl,fun _=>h4.symm.trans (nought_kv.1 hall),fun _=>rfl⟩
theorem and15i (k:Int) (h:-9223372036854775808≤k∧k≤9223372036854775807):ibits .and .i64 k 15=((k % 16).toNat:Int):=by
 show IntKind.i64.wrap (((BitVec.ofInt 64 k &&& BitVec.ofInt 64 15).toNat:Nat):Int)=_
 rw [BitVec.toNat_and,BitVec.toNat_ofInt,BitVec.toNat_ofInt,show ((15:Int) % ((2^64:Nat):Int)).toNat=2^4-1 by decide,Nat.and_two_pow_sub_one_eq_mod,show (k % ((2^64:Nat):Int)).toNat % 2^4=(k % 16).toNat by omega,jo (by omega)]
theorem nturn_i {a:List Dg×Int} {x:K} {L E:Nat} (h:Num 4294967296 a x L E) (hL:L<80000) (k:Int) (hk:-9223372036854775808≤k∧k≤9223372036854775807) :
 ∃r,W.jB a k=some r∧Num 4294967296 r (K.turn x (k % 16).toNat) L E:=by
 obtain ⟨r,h1,h2⟩:=nturn_ok h hL (k % 16).toNat (by omega)
 refine ⟨r,?_,h2⟩
 rw [←h1]
 unfold W.jB
 rw [and15i k hk,and15 _ (by omega),show (k % 16).toNat % 16=(k % 16).toNat by omega]
theorem none_ok:∃r,W.Vh=some r∧Num 4294967296 r K.one 1 0:=by
 obtain ⟨p,p1,p2,_⟩:=of_ok (n:=1) (by decide)
 refine ⟨((List.replicate 8 d0).set 0 p,(0:Int)),?_,?_⟩
 ·unfold W.Vh
  rw [p1,jc]
 ·refine Num.mk' (Reps.zero.set (by decide) p2) (e:=0) rfl (.inl rfl) ?_ ?_ (Nat.le_refl _)
  ·simp [kv,K.one,hp]
  ·intro i _
   show Int.natAbs (if i=0 then 1 else 0)<2^1
   split<;>decide
theorem root_ok (k:Int) (hk:-9223372036854775808≤k∧k≤9223372036854775807):∃r,W.YI k=some r∧Num 4294967296 r (K.turn K.one (k % 16).toNat) 1 0:=by
 obtain ⟨o,o1,o2⟩:=none_ok
 obtain ⟨r,r1,r2⟩:=nturn_i o2 (by decide) k hk
 refine ⟨r,?_,r2⟩
 unfold W.YI
 rw [o1,jc,r1,jc]
end Go.Ql
end

section
namespace Go.Ql
def maskN (l:List Int):Nat:=l.foldl (fun m q=>m ||| 2^q.toNat) 0
theorem maskN_snoc (l:List Int) (q:Int):maskN (l++[q])=maskN l ||| 2^q.toNat:=by simp [maskN]
theorem foldl_bit (l:List Int) (m j:Nat):(l.foldl (fun m q=>m ||| 2^q.toNat) m).testBit j=(m.testBit j||l.any fun q=>decide (q.toNat=j)):=by
 induction l generalizing m with
 | nil=>simp
 | cons q l ih=>
   rw [List.foldl_cons,ih,Nat.testBit_or,Nat.testBit_two_pow,List.any_cons,Bool.or_assoc]
theorem maskN_bit (l:List Int) (j:Nat):(maskN l).testBit j=l.any fun q=>decide (q.toNat=j):=by
 unfold maskN
 rw [foldl_bit,Nat.zero_testBit,Bool.false_or]
theorem maskN_lt {l:List Int} (h:Qs l):maskN l<2^62:=by
 refine Nat.lt_pow_two_of_testBit _ fun j hj=>?_
 rw [maskN_bit,←Bool.not_eq_true,List.any_eq_true]
 rintro ⟨q,hq,e⟩
 have:=h q hq
 have:=of_decide_eq_true e
 omega
theorem mask_ok {l:List Int} (h:Qs l) (hn:l.length<2^62):W.JL l=some ((maskN l:Nat):Int):=by
 obtain ⟨y,h1,h2⟩:=JX (f:=fun s:Int×Int↦W.JL.ca_ (Prod.fst s) l (↑(List.length l):Int) (Prod.snd s) some) l.length
  (fun i s=>s.1=((maskN (l.take i):Nat):Int)∧s.2=(i:Int))
  (fun y=>y.1=((maskN l:Nat):Int))
  (by
   rintro i ⟨m,s⟩ hi ⟨p1,p2⟩
   simp only at p1 p2
   subst p1
   subst p2
   have hq:=qs_at h hi
   have e1:l.take (i+1)=l.take i++[l.getD i 0]:=by
    rw [List.take_succ_eq_append_getElem hi]
    simp [hi]
   have hs:Qs (l.take i):=fun q hq=>h q (List.mem_of_mem_take hq)
   have hm:=maskN_lt hs
   have hp:2^(l.getD i 0).toNat<2^63:=Nat.pow_lt_pow_right (by decide) (by omega)
   left
   refine ⟨(((maskN (l.take (i+1)):Nat):Int),((i+1:Nat):Int)),?_,rfl,rfl⟩
   simp only [W.JL.ca_]
   rw [jS (by omega),JQ i rfl hi,jc,jH (by simpa using hq.1),jc,pow63 (by omega),iori64 (by omega) hp,jo (by omega),e1,maskN_snoc]
   rfl)
  (by
   rintro ⟨m,s⟩ ⟨p1,p2⟩
   simp only at p1 p2
   subst p1
   subst p2
   refine ⟨(((maskN l:Nat):Int),(l.length:Int)),?_,rfl⟩
   simp only [W.JL.ca_]
   rw [jQ (by omega),List.take_length])
  (s:=((0:Int),(0:Int))) ⟨rfl,rfl⟩
 unfold W.JL
 rw [h1,jc,h2]
theorem and_eq_iff (x m:Nat):x &&& m=m ↔ ∀j,m.testBit j=true→x.testBit j=true:=by
 constructor
 ·intro h j hj
  rw [←h,Nat.testBit_and] at hj
  exact (Bool.and_eq_true _ _▸hj).1
 ·intro h
  refine Nat.eq_of_testBit_eq fun j=>?_
  rw [Nat.testBit_and]
  cases hj:m.testBit j with
  | false=>simp
  | true=>rw [h j hj];rfl
theorem mask_ones {l:List Int} {q:Int} {x:Nat}:x &&& (maskN l ||| 2^q.toNat)=maskN l ||| 2^q.toNat↔(bt q x=true∧onesB l x=true):=by
 rw [and_eq_iff]
 constructor
 ·intro h
  refine ⟨h q.toNat (by rw [Nat.testBit_or,Nat.testBit_two_pow];simp),?_⟩
  unfold onesB
  rw [List.all_eq_true]
  intro p hp
  refine h p.toNat ?_
  rw [Nat.testBit_or,maskN_bit,Bool.or_eq_true]
  exact .inl (List.any_eq_true.2 ⟨p,hp,decide_eq_true rfl⟩)
 ·rintro ⟨h1,h2⟩ j hj
  rw [Nat.testBit_or,maskN_bit,Nat.testBit_two_pow,Bool.or_eq_true] at hj
  rcases hj with hj | hj
  ·obtain ⟨p,hp,e⟩:=List.any_eq_true.1 hj
   rw [←of_decide_eq_true e]
   exact List.all_eq_true.1 h2 p hp
  ·rw [←of_decide_eq_true hj]
   exact h1
theorem onesF_ok {m:Nat} (hm:m<2^63):∀(j i:Nat),i+j<2^63 →
 (∀x∈W.onesF (m:Int) j (i:Int),∃z:Nat,x=(z:Int)∧i≤z∧z<i+j∧z &&& m=m) ∧
 (∀z:Nat,i≤z→z<i+j→z &&& m=m→(z:Int)∈W.onesF (m:Int) j (i:Int))∧(W.onesF (m:Int) j (i:Int)).Nodup
 | 0,i,_=>⟨fun x hx=>(by simp [W.onesF] at hx),fun z h1 h2=>by omega,by simp [W.onesF]⟩
 | j+1,i,h=>by
   obtain ⟨h1,h2,h3⟩:=onesF_ok hm j (i+1) (by omega)
   have e:W.onesF (m:Int) (j+1) (i:Int)=(if i &&& m=m then [(i:Int)] else [])++W.onesF (m:Int) j (((i+1:Nat)):Int):=by
    rw [W.onesF,iandi64 (by omega) hm]
    congr 1
    by_cases hc:i &&& m=m
    ·rw [if_pos hc,if_pos (by omega)]
    ·rw [if_neg hc,if_neg (by omega)]
   rw [e]
   refine ⟨fun x hx=>?_,fun z hz1 hz2 hz3=>?_,?_⟩
   ·rw [List.mem_append] at hx
    rcases hx with hx | hx
    ·by_cases hc:i &&& m=m
     ·rw [if_pos hc] at hx
      exact ⟨i,by simpa using hx,by omega,by omega,hc⟩
     ·rw [if_neg hc] at hx
      simp at hx
    ·obtain ⟨z,z1,z2,z3,z4⟩:=h1 x hx
     exact ⟨z,z1,by omega,by omega,z4⟩
   ·rw [List.mem_append]
    by_cases ez:z=i
    ·left
     subst ez
     rw [if_pos hz3]
     simp
    ·exact .inr (h2 z (by omega) (by omega) hz3)
   ·by_cases hc:i &&& m=m
    ·rw [if_pos hc,List.singleton_append,List.nodup_cons]
     refine ⟨fun hx=>?_,h3⟩
     obtain ⟨z,z1,z2,_⟩:=h1 _ hx
     omega
    ·rw [if_neg hc]
     exact h3
theorem iter_seq {α S R:Type} {f:List α×S→Option ((List α×S)⊕R)} (P:List α→S→Prop) (Q:R→Prop)
 (step:∀x r s,P (x::r) s → ∃s',f (x::r,s)=some (.inl (r,s'))∧P r s') (done:∀s,P [] s → ∃y,f ([],s)=some (.inr y)∧Q y) :
 ∀(l:List α) (s:S),P l s → ∃y,iter f (l,s)=some y∧Q y
 | [],s,h=>by
   obtain ⟨y,h1,h2⟩:=done s h
   exact ⟨y,Ut h1,h2⟩
 | x::r,s,h=>by
   obtain ⟨s',h1,h2⟩:=step x r s h
   obtain ⟨y,h3,h4⟩:=iter_seq P Q step done r s' h2
   exact ⟨y,Hx h1 h3,h4⟩
structure AmpP (l:List NumT) (N:Nat) (v:KV) (t:Nat):Prop where
 len:l.length=N
 at_:∀x,x<N→Num 4294967296 (l.getD x z0) (v x) (2*t+1) t
 fit:∀x,x<N→FitsK (v x) (2*t+1) t
theorem AmpP.up {l:List NumT} {N t:Nat} {v:KV} (h:AmpP l N v t):AmpP l N v (t+1):=by
 have hf:∀x,x<N→FitsK (v x) (2*(t+1)+1) (t+1):=fun x hx=>((h.fit x hx).up 1).mono (by omega)
 exact ⟨h.len,fun x hx=>(h.at_ x hx).fit (hf x hx),hf⟩
theorem AmpP.mono {l:List NumT} {N t u:Nat} {v:KV} (h:AmpP l N v t) (hu:t≤u):AmpP l N v u:=by
 obtain ⟨d,rfl⟩:=Nat.exists_eq_add_of_le hu
 clear hu
 induction d with
 | zero=>exact h
 | succ d ih=>exact ih.up
theorem AmpP.congr {l:List NumT} {N t:Nat} {v w:KV} (h:AmpP l N v t) (e:∀x,x<N→v x=w x):AmpP l N w t:=
 ⟨h.len,fun x hx=>e x hx▸h.at_ x hx,fun x hx=>e x hx▸h.fit x hx⟩
theorem pairs_loop {f:List Int×List NumT→Option ((List Int×List NumT)⊕List NumT)} {v:KV} {o:GOp} {n t:Nat} {l:List NumT} (hv:AmpP l (2^n) v t) (ho:Ok1 o n) (hn:n≤20)
 (hnil:∀s,f ([],s)=some (.inr s))
 (hstep:∀(x:Nat) r s,x<2^n→bt o.2.2.2.1 x=true→onesB o.2.2.1 x=true→s.length=2^n→Num 4294967296 (s.getD x z0) (v x) (2*t+1) t→Num 4294967296 (s.getD (fl o.2.2.2.1 x) z0) (v (fl o.2.2.2.1 x)) (2*t+1) t →
  ∃s',f ((x:Int)::r,s)=some (.inl (r,s'))∧s'.length=2^n∧Num 4294967296 (s'.getD x z0) (gateK o v x) (2*t+3) (t+1) ∧
   Num 4294967296 (s'.getD (fl o.2.2.2.1 x) z0) (gateK o v (fl o.2.2.2.1 x)) (2*t+3) (t+1) ∧ ∀y,y≠x→y≠fl o.2.2.2.1 x→s'.getD y z0=s.getD y z0) :
 ∃r,iter f (W.onesL (((2^n:Nat):Int),((maskN o.2.2.1 ||| 2^o.2.2.2.1.toNat:Nat):Int)),l)=some r∧AmpP r (2^n) (gateK o v) (t+1):=by
 have hN:2^n≤2^20:=Nat.pow_le_pow_right (by decide) hn
 have hq:=ho.q
 have hm:maskN o.2.2.1 ||| 2^o.2.2.2.1.toNat<2^63:=Nat.or_lt_two_pow (Nat.lt_trans (maskN_lt ho.qs) (by decide)) (Nat.pow_lt_pow_right (by decide) (by omega))
 obtain ⟨m1,m2,m3⟩:=onesF_ok hm (2^n) 0 (by omega)
 have hL:W.onesL (((2^n:Nat):Int),((maskN o.2.2.1 ||| 2^o.2.2.2.1.toNat:Nat):Int))=W.onesF ((maskN o.2.2.1 ||| 2^o.2.2.2.1.toNat:Nat):Int) (2^n) ((0:Nat):Int):=by
  unfold W.onesL
  simp only [Int.toNat_natCast]
  rfl
 rw [hL]
 generalize W.onesF ((maskN o.2.2.1 ||| 2^o.2.2.2.1.toNat:Nat):Int) (2^n) ((0:Nat):Int)=L at m1 m2 m3
 have hf3:∀x,x<2^n→FitsK (gateK o v x) (2*t+3) (t+1):=fun x hx=>by
  have hc:gateK o (cut (2^n) v) x=gateK o v x:=gate_loc (if_pos hx) (if_pos (fl_lt hq hx))
  rw [←hc]
  exact gate_fits (L:=2*t+1) (t:=t) (fun x=>by
   unfold cut
   split
   ·exact hv.fit x (by assumption)
   ·exact FitsK.zero _ _) x
 obtain ⟨r,r1,r2⟩:=iter_seq (f:=f)
  (fun rem s=>rem.Nodup∧(∀x∈rem,x∈L)∧s.length=2^n ∧
   ∀y:Nat,y<2^n→((((y:Int)∈rem∨((fl o.2.2.2.1 y:Nat):Int)∈rem)→Num 4294967296 (s.getD y z0) (v y) (2*t+1) t) ∧
    (¬((y:Int)∈rem∨((fl o.2.2.2.1 y:Nat):Int)∈rem)→Num 4294967296 (s.getD y z0) (gateK o v y) (2*t+3) (t+1))))
  (fun r=>r.length=2^n ∧ ∀y,y<2^n→Num 4294967296 (r.getD y z0) (gateK o v y) (2*t+3) (t+1))
  (by
   rintro x rem s ⟨p1,p2,p3,p4⟩
   obtain ⟨x,rfl,_,x1,x2⟩:=m1 x (p2 x (by simp))
   rw [mask_ones] at x2
   have hx:x<2^n:=by omega
   have hfx:=fl_lt hq hx
   obtain ⟨q1,q2⟩:=List.nodup_cons.1 p1
   have hbf:∀z:Nat,(z:Int)∈L→bt o.2.2.2.1 z=true:=fun z hz=>by
    obtain ⟨z',e,_,_,z2⟩:=m1 _ hz
    have:z'=z:=by omega
    rw [mask_ones] at z2
    exact this▸z2.1
   have hnf:((fl o.2.2.2.1 x:Nat):Int)∉rem:=fun hz=>by
    have:=hbf _ (p2 _ (List.mem_cons_of_mem _ hz))
    rw [Uc,x2.1] at this
    cases this
   obtain ⟨s',s1,s2,s3,s4,s5⟩:=hstep x rem s hx x2.1 x2.2 p3 ((p4 x hx).1 (.inl (by simp))) ((p4 _ hfx).1 (.inr (by rw [fl_fl];simp)))
   refine ⟨s',s1,q2,fun z hz=>p2 z (List.mem_cons_of_mem _ hz),s2,fun y hy=>?_⟩
   by_cases e1:y=x
   ·subst e1
    refine ⟨fun hh=>?_,fun _=>s3⟩
    rcases hh with hh | hh
    ·exact absurd hh q1
    ·exact absurd hh hnf
   ·by_cases e2:y=fl o.2.2.2.1 x
    ·subst e2
     refine ⟨fun hh=>?_,fun _=>s4⟩
     rw [fl_fl] at hh
     rcases hh with hh | hh
     ·exact absurd hh hnf
     ·exact absurd hh q1
    ·rw [s5 y e1 e2]
     have e3:((y:Int)∈(x:Int)::rem∨((fl o.2.2.2.1 y:Nat):Int)∈(x:Int)::rem)↔((y:Int)∈rem∨((fl o.2.2.2.1 y:Nat):Int)∈rem):=by
      rw [List.mem_cons,List.mem_cons]
      constructor
      ·rintro ((h | h) | (h | h))
       ·exact absurd (by omega) e1
       ·exact .inl h
       ·refine absurd ?_ e2
        have:fl o.2.2.2.1 y=x:=by omega
        rw [←this,fl_fl]
       ·exact .inr h
      ·rintro (h | h)
       ·exact .inl (.inr h)
       ·exact .inr (.inr h)
     have:=p4 y hy
     rw [e3] at this
     exact this)
  (by
   rintro s ⟨p1,p2,p3,p4⟩
   exact ⟨s,hnil s,p3,fun y hy=>(p4 y hy).2 (by simp)⟩)
  L l ⟨m3,fun _ h=>h,hv.len,fun y hy=>⟨fun _=>hv.at_ y hy,fun hno=>by
   have e:gateK o v y=v y:=by
    refine gate_off ?_
    rw [←Bool.not_eq_true]
    intro hon
    by_cases hb:bt o.2.2.2.1 y=true
    ·exact hno (.inl (m2 y (Nat.zero_le _) (by omega) (mask_ones.2 ⟨hb,hon⟩)))
    ·refine hno (.inr (m2 _ (Nat.zero_le _) (by have:=fl_lt hq hy;omega) (mask_ones.2 ⟨?_,by rw [ho.ones];exact hon⟩)))
     rw [Uc]
     simpa using hb
   rw [e]
   have:=hf3 y hy
   rw [e] at this
   exact (hv.at_ y hy).fit this⟩⟩
 refine ⟨r,r1,r2.1,fun y hy=>?_,fun y hy=>?_⟩
 ·exact r2.2 y hy
 ·exact hf3 y hy
end Go.Ql
end

section
namespace Go.Ql
theorem Vu {α:Type} (l:List α):part 0 (l.length:Int) l=l:=by
 unfold part
 simp
theorem okR {x N:Nat} (h:x<N):okIf (decide ((0:Int)≤(x:Int))&&decide ((x:Int)<(N:Int)))=some ():=
 jH (by rw [Bool.and_eq_true,decide_eq_true_iff,decide_eq_true_iff];omega)
theorem idxP {l:List NumT} {x:Nat} (h:x<l.length):idx l ((0:Int)+(x:Int))=some (l.getD x z0):=by
 rw [Int.zero_add];exact idxN h
theorem setP (l:List NumT) (x:Nat) (r:NumT):List.set l (Int.toNat ((0:Int)+(x:Int))) r=l.set x r:=by
 rw [Int.zero_add,Int.toNat_natCast]
theorem apply_walk {l:List NumT} {v:KV} {o:GOp} {n t:Nat} (hv:AmpP l (2^n) v t) (ho:Ok1 o n) (hn:n≤20) (ht:t≤8900) (hk:o.1=1∨o.1=2∨o.1=3∨o.1=4) (hk1:o.1=1→o.2.2.1=[]) (hk2:o.2.1≤9223372036854775807) :
 ∃r,W.jd (0:Int) ((2^n:Nat):Int) o l=some (r,())∧AmpP r (2^n) (gateK o v) (t+1):=by
 have hN:2^n≤2^20:=Nat.pow_le_pow_right (by decide) hn
 have hlen:=hv.len
 have hq:=ho.q
 have hk0:=ho.k
 have hm0:=maskN_lt ho.qs
 have hp0:2^o.2.2.2.1.toNat<2^62:=Nat.pow_lt_pow_right (by decide) (by omega)
 have hmask:=mask_ok ho.qs ho.len
 have hor:ibits BinOp.or IntKind.i64 ((maskN o.2.2.1:Nat):Int) (IntKind.i64.wrap ((1:Int)*(2:Int)^Min.min (Int.toNat o.2.2.2.1) (64:Nat)))=((maskN o.2.2.1 ||| 2^o.2.2.2.1.toNat:Nat):Int):=by
  rw [pow63 (by omega),iori64 (by omega) (by omega)]
 have hxor:∀x:Nat,x<2^n→ibits BinOp.xor IntKind.i64 (x:Int) (IntKind.i64.wrap ((1:Int)*(2:Int)^Min.min (Int.toNat o.2.2.2.1) (64:Nat)))=((fl o.2.2.2.1 x:Nat):Int):=fun x hx=>by
  rw [pow63 (by omega),ixori64 (by omega) (by omega)]
  rfl
 have hf3:∀x,x<2^n→FitsK (gateK o v x) (2*t+3) (t+1):=fun x hx=>by
  have hc:gateK o (cut (2^n) v) x=gateK o v x:=gate_loc (if_pos hx) (if_pos (fl_lt hq hx))
  rw [←hc]
  exact gate_fits (L:=2*t+1) (t:=t) (fun x=>by
   unfold cut
   split
   ·exact hv.fit x (by assumption)
   ·exact FitsK.zero _ _) x
 have hturn:∀{a:NumT} {x:Nat},Num 4294967296 a (v x) (2*t+1) t → ∃r,W.jB a o.2.1=some r∧Num 4294967296 r (K.turn (v x) o.2.1.toNat) (2*t+1) t:=fun {a x} ha=>by
  obtain ⟨r,r1,r2⟩:=nturn_i ha (by omega) o.2.1 (by omega)
  rw [turn_toNat _ hk0] at r2
  exact ⟨r,r1,r2⟩
 unfold W.jd W.jd.c1
 rw [hmask,jc,jH (by simpa using hq.1),jc,jc]
 rcases hk with hk | hk | hk | hk
 ·
  have hnil:=hk1 hk
  obtain ⟨y,q1,r,q2,q3,q4⟩:=JX (f:=fun s:Int×List NumT↦W.jd.cd_ (↑(List.length (part (0:Int) ((2^n:Nat):Int) l)):Int) (Prod.fst s) (0:Int) ((2^n:Nat):Int) (Prod.fst (Prod.snd o)) (Prod.snd s) some) (2^n)
   (fun i s=>s.1=(i:Int)∧s.2.length=2^n ∧ ∀y,y<2^n→(y<i→Num 4294967296 (s.2.getD y z0) (gateK o v y) (2*t+3) (t+1))∧(¬y<i→Num 4294967296 (s.2.getD y z0) (v y) (2*t+1) t))
   (fun y=>∃r,y=(((2^n:Nat):Int),r)∧r.length=2^n ∧ ∀y,y<2^n→Num 4294967296 (r.getD y z0) (gateK o v y) (2*t+3) (t+1))
   (by
    rintro i ⟨s,out⟩ hi ⟨p1,p2,p3⟩
    simp only at p1 p2 p3
    subst p1
    left
    obtain ⟨r,r1,r2⟩:=hturn ((p3 i hi).2 (Nat.lt_irrefl _))
    refine ⟨(((i+1:Nat):Int),out.set i r),?_,rfl,by simpa using p2,fun y hy=>?_⟩
    ·simp only [W.jd.cd_,W.jd.c7]
     rw [←hlen,Vu,hlen,jS (by omega),okR hi,jc,idxP (by omega),jc,r1,jc,jc,jc,jc,setP,jo (by omega)]
     rfl
    ·simp only
     rw [YT (by omega)]
     by_cases e:y=i
     ·subst e
      refine ⟨fun _=>?_,fun h=>absurd (Nat.lt_succ_self _) h⟩
      rw [if_pos rfl]
      refine Num.fit (L:=2*t+1) (E:=t) ?_ (hf3 y hy)
      rw [Uz (by rw [hnil];rfl) (.inl hk)]
      exact r2
     ·rw [if_neg e]
      exact ⟨fun h=>(p3 y hy).1 (by omega),fun h=>(p3 y hy).2 (by omega)⟩)
   (by
    rintro ⟨s,out⟩ ⟨p1,p2,p3⟩
    simp only at p1 p2 p3
    subst p1
    refine ⟨_,?_,out,rfl,p2,fun y hy=>(p3 y hy).1 hy⟩
    simp only [W.jd.cd_]
    rw [←hlen,Vu,jQ (by omega)])
   (s:=((0:Int),l)) ⟨rfl,hlen,fun y hy=>⟨fun h=>by omega,fun _=>hv.at_ y hy⟩⟩
  subst q2
  rw [JD (by simpa using hk),q1,jc]
  exact ⟨r,rfl,q3,q4,hf3⟩
 ·
  rw [jX (by rw [hk];rfl),jX (by rw [hk];rfl),JD (by simpa using hk),hor]
  unfold W.Jj
  rw [jc]
  obtain ⟨r,r1,r2⟩:=pairs_loop (f:=fun s↦W.jd.cG_ (Prod.fst s) (0:Int) ((2^n:Nat):Int) (IntKind.i64.wrap ((1:Int)*(2:Int)^Min.min (Int.toNat (Prod.fst (Prod.snd (Prod.snd (Prod.snd o))))) (64:Nat))) (Prod.snd s) some) hv ho hn (fun s=>rfl)
   (by
    intro x r s hx hb hon hs hx1 hx2
    have hfx:=fl_lt hq hx
    have hne:=fl_ne o.2.2.2.1 x
    refine ⟨(s.set x (s.getD (fl o.2.2.2.1 x) z0)).set (fl o.2.2.2.1 x) (s.getD x z0),?_,by simpa using hs,?_,?_,fun y h1 h2=>?_⟩
    ·simp only [W.jd.cG_,W.jd.c16]
     rw [jX (by rfl),show idx ((x:Int)::r) (0:Int)=some (x:Int) from rfl,jc,hxor x hx,okR hfx,jc,idxP (by omega),jc,okR hx,jc,idxP (by omega),jc,jc,jc,jc,setP,setP,idxP (by rw [List.length_set];omega),jc,jc]
     rfl
    ·rw [YT (by rw [List.length_set];omega),if_neg (Ne.symm hne),YT (by omega),if_pos rfl]
     refine Num.fit (L:=2*t+1) (E:=t) ?_ (hf3 x hx)
     rw [gate_flip hon hk]
     exact hx2
    ·rw [YT (by rw [List.length_set];omega),if_pos rfl]
     refine Num.fit (L:=2*t+1) (E:=t) ?_ (hf3 _ hfx)
     rw [gate_flip (by rw [ho.ones];exact hon) hk,fl_fl]
     exact hx1
    ·rw [YT (by rw [List.length_set];omega),if_neg h2,YT (by omega),if_neg h1])
  refine ⟨r,?_,r2⟩
  rw [show SeqC.L W.ones_sc=W.onesL from rfl,r1,jc]
 ·
  rw [jX (by rw [hk];rfl),jX (by rw [hk];rfl),jX (by rw [hk];rfl),JD (by simpa using hk),hor]
  unfold W.Jj
  rw [jc]
  have hk3:o.1≠1∧o.1≠2∧o.1≠4:=by omega
  obtain ⟨r,r1,r2⟩:=pairs_loop (f:=fun s↦W.jd.cA_ (Prod.fst s) (0:Int) ((2^n:Nat):Int) (IntKind.i64.wrap ((1:Int)*(2:Int)^Min.min (Int.toNat (Prod.fst (Prod.snd (Prod.snd (Prod.snd o))))) (64:Nat))) (Prod.snd s) some) hv ho hn (fun s=>rfl)
   (by
    intro x r s hx hb hon hs hx1 hx2
    have hfx:=fl_lt hq hx
    have hne:=fl_ne o.2.2.2.1 x
    have hbf:¬bt o.2.2.2.1 (fl o.2.2.2.1 x)=true:=by rw [Uc,hb];decide
    have e1:gateK o v x=K.half (K.sub (v (fl o.2.2.2.1 x)) (v x)):=by
     rw [gate_had hon hk3,if_pos hb,K.sub,K.half_add,K.half_neg]
    have e2:gateK o v (fl o.2.2.2.1 x)=K.half (K.add (v (fl o.2.2.2.1 x)) (v x)):=by
     rw [gate_had (by rw [ho.ones];exact hon) hk3,if_neg hbf,fl_fl,K.half_add,K.add_comm]
    obtain ⟨za,za1,za2⟩:=nzero_ok hx2
    obtain ⟨zb,zb1,zb2⟩:=nzero_ok hx1
    have hc20:W.jd.c20 (x:Int) (0:Int) ((2^n:Nat):Int) (IntKind.i64.wrap ((1:Int)*(2:Int)^Min.min (Int.toNat (Prod.fst (Prod.snd (Prod.snd (Prod.snd o))))) (64:Nat))) s some=some ([s.getD (fl o.2.2.2.1 x) z0],[s.getD x z0]):=by
     unfold W.jd.c20
     rw [hxor x hx,okR hfx,jc,idxP (by omega),jc,okR hx,jc,idxP (by omega),jc]
    have hc21:W.jd.c21 [s.getD (fl o.2.2.2.1 x) z0] [s.getD x z0] some=some (za&&zb):=by
     unfold W.jd.c21
     rw [bx_at,jc,za1,jc,bx_at,jc,zb1]
     cases za<;>rfl
    by_cases hz:(za&&zb)=true
    ·rw [Bool.and_eq_true] at hz
     have hv1:=za2.1 hz.1
     have hv2:=zb2.1 hz.2
     have eg1:gateK o v x=v x:=by rw [e1,hv1,hv2,K.sub_self,K.half_zero]
     have eg2:gateK o v (fl o.2.2.2.1 x)=v (fl o.2.2.2.1 x):=by rw [e2,hv1,hv2,K.add_zero,K.half_zero]
     refine ⟨s,?_,hs,?_,?_,fun _ _ _=>rfl⟩
     ·simp only [W.jd.cA_]
      rw [jX (by rfl),show idx ((x:Int)::r) (0:Int)=some (x:Int) from rfl,jc,hc20,jc,hc21,jc,JD (by rw [hz.1,hz.2];rfl)]
      rfl
     ·have:=hf3 x hx
      rw [eg1] at this ⊢
      exact hx1.fit this
     ·have:=hf3 _ hfx
      rw [eg2] at this ⊢
      exact hx2.fit this
    ·have hz':(za&&zb)=false:=by simpa using hz
     have f1:=hv.fit x hx
     have f2:=hv.fit _ hfx
     obtain ⟨a,a1,a2⟩:=nadd_t hx2 hx1 (by omega)
     have a3:=a2.fit (f2.add f1)
     obtain ⟨b,b1,b2⟩:=nhalf_t a3 (by omega)
     obtain ⟨c,c1,c2⟩:=nsub_t hx2 hx1 (by omega)
     have c3:=c2.fit (f2.add f1.neg)
     obtain ⟨d,d1,d2⟩:=nhalf_t c3 (by omega)
     refine ⟨(s.set (fl o.2.2.2.1 x) b).set x d,?_,by simpa using hs,?_,?_,fun y h1 h2=>?_⟩
     ·simp only [W.jd.cA_,W.jd.c22]
      rw [jX (by rfl),show idx ((x:Int)::r) (0:Int)=some (x:Int) from rfl,jc,hc20,jc,hc21,jc,jX hz',bx_at,jc,bx_at,jc,a1,jc,b1,jc,jc,jc,c1,jc,d1,jc,hxor x hx,okR hfx,jc,idxP (by omega),jc,okR hx,jc,setP,idxP (by rw [List.length_set];omega),jc,setP,jc]
      rfl
     ·rw [YT (by rw [List.length_set];omega),if_pos rfl]
      have:=hf3 x hx
      rw [e1] at this ⊢
      exact d2.fit this
     ·rw [YT (by rw [List.length_set];omega),if_neg hne,YT (by omega),if_pos rfl]
      have:=hf3 _ hfx
      rw [e2] at this ⊢
      exact b2.fit this
     ·rw [YT (by rw [List.length_set];omega),if_neg h1,YT (by omega),if_neg h2])
  refine ⟨r,?_,r2⟩
  rw [show SeqC.L W.ones_sc=W.onesL from rfl,r1,jc]
 ·
  rw [jX (by rw [hk];rfl),JD (by simpa using hk),hor]
  unfold W.Jj
  rw [jc]
  obtain ⟨r,r1,r2⟩:=pairs_loop (f:=fun s↦W.jd.cF_ (Prod.fst s) (0:Int) ((2^n:Nat):Int) (Prod.fst (Prod.snd o)) (Prod.snd s) some) hv ho hn (fun s=>rfl)
   (by
    intro x r s hx hb hon hs hx1 hx2
    have hfx:=fl_lt hq hx
    have hne:=fl_ne o.2.2.2.1 x
    have hbf:¬bt o.2.2.2.1 (fl o.2.2.2.1 x)=true:=by rw [Uc,hb];decide
    obtain ⟨a,a1,a2⟩:=hturn hx1
    refine ⟨s.set x a,?_,by simpa using hs,?_,?_,fun y h1 h2=>?_⟩
    ·simp only [W.jd.cF_,W.jd.c12]
     rw [jX (by rfl),show idx ((x:Int)::r) (0:Int)=some (x:Int) from rfl,jc,okR hx,jc,idxP (by omega),jc,a1,jc,jc,jc,setP,jc]
     rfl
    ·rw [YT (by omega),if_pos rfl]
     refine Num.fit (L:=2*t+1) (E:=t) ?_ (hf3 x hx)
     rw [Uz hon (.inr ⟨hk,hb⟩)]
     exact a2
    ·rw [YT (by omega),if_neg hne]
     have:=hf3 _ hfx
     rw [gate_stay (by rw [ho.ones];exact hon) hk hbf] at this ⊢
     exact hx2.fit this
    ·rw [YT (by omega),if_neg h1])
  refine ⟨r,?_,r2⟩
  rw [show SeqC.L W.ones_sc=W.onesL from rfl,r1,jc]
end Go.Ql
end

section
namespace Go.Ql
structure OkS (o:GOp) (n bn:Nat):Prop where
 p:OkP o n bn
 kind:1≤o.1∧o.1≤6
 ph:o.1=1→o.2.2.1=[]
 k15:o.2.1≤15
theorem oks_good {o:Op} {n bn:Nat} (h:GoodOp o (n:Int) (bn:Int)) (hw:WOp o) (hn:n≤12):OkS o n bn:=by
 have h1:=ctlBad_zero.mp h.ctls
 have hl:=hw.1
 refine ⟨⟨⟨h.q,h.k.1,fun q hq=>?_,by omega,fun hm=>(h1.1 _ hm).2.2.1 rfl⟩,by have:=h.ifs;omega,fun c hc=>?_,fun h5=>?_⟩,h.kind,fun hk=>?_,h.k.2⟩
 ·have:=h1.1 q hq;omega
 ·have hcond:=h.cond
  unfold ifBad at hcond
  have:¬(c=0∨(bn:Int)<c∨c < -(bn:Int)):=fun hh=>hcond ⟨c,hc,hh⟩
  omega
 ·rcases h.bit with hb | hb
  ·exact hb.2
  ·exact absurd h5 hb.1
 ·rcases h.ctl with e | e
  ·exact e
  ·omega
def B01 (bits:List Int):Prop:=∀j,bits.getD j 0=0∨bits.getD j 0=1
theorem B01.zero (n:Nat):B01 (List.replicate n 0):=fun j=>by
 left
 rw [List.getD,List.getElem?_replicate]
 split<;>rfl
theorem B01.set {bits:List Int} (h:B01 bits) (i:Nat) {b:Int} (hb:b=0∨b=1):B01 (bits.set i b):=fun j=>by
 rw [List.getD,List.getElem?_set]
 by_cases e:i=j
 ·rw [if_pos e]
  split
  ·exact hb
  ·exact .inl rfl
 ·rw [if_neg e];exact h j
theorem holds_ok {o:GOp} {bits:List Int} {q b u a:Int} {ops:List GOp} {l:List NumT} (hn:o.2.2.2.2.2.length<2^62) (hb:bits.length<2^62) (hc:∀c∈o.2.2.2.2.2,c≠0∧c≤bits.length ∧ -c≤bits.length) (h01:B01 bits) :
 W.jD o q b ops u a l bits=some (condK bits o,q,b,ops,u,a,l,bits,()):=by
 obtain ⟨o0,o1,o2,o3,o4,cl⟩:=o
 simp only at *
 obtain ⟨y,h1,h2⟩:=JX (f:=fun s:Int↦W.jD.cb_ cl (↑(List.length cl):Int) s bits some) cl.length
  (fun i s=>s=(i:Int) ∧ ∀j,j<i→((decide (cl.getD j 0≤0)||bits.getD (cl.getD j 0-1).toNat 0==1)&&(decide (0≤cl.getD j 0)||bits.getD (-cl.getD j 0-1).toNat 0==0))=true)
  (fun y=>(∃i,y=.inl i∧condK bits (o0,o1,o2,o3,o4,cl)=false)∨(∃i,y=.inr i∧condK bits (o0,o1,o2,o3,o4,cl)=true))
  (by
   rintro i s hi ⟨rfl,h2⟩
   have hm:cl.getD i 0∈cl:=by
    have e:cl.getD i 0=cl[i]:=by simp [hi]
    rw [e];exact List.getElem_mem hi
   obtain ⟨c0,c1,c2⟩:=hc _ hm
   have hbad:((decide (cl.getD i 0≤0)||bits.getD (cl.getD i 0-1).toNat 0==1)&&(decide (0≤cl.getD i 0)||bits.getD (-cl.getD i 0-1).toNat 0==0))=false→condK bits (o0,o1,o2,o3,o4,cl)=false:=fun hf=>by
    rw [←Bool.not_eq_true]
    intro ht
    unfold condK at ht
    rw [List.all_eq_true] at ht
    have:=ht _ hm
    rw [hf] at this
    cases this
   have hgo:((decide (cl.getD i 0≤0)||bits.getD (cl.getD i 0-1).toNat 0==1)&&(decide (0≤cl.getD i 0)||bits.getD (-cl.getD i 0-1).toNat 0==0))=true → ∀j,j<i+1→((decide (cl.getD j 0≤0)||bits.getD (cl.getD j 0-1).toNat 0==1)&&(decide (0≤cl.getD j 0)||bits.getD (-cl.getD j 0-1).toNat 0==0))=true:=fun ht j hj=>by
    by_cases e:j=i
    ·rw [e];exact ht
    ·exact h2 j (by omega)
   simp only [W.jD.cb_,W.jD.c4]
   rw [jS (by omega),JQ i rfl hi,jc]
   generalize cl.getD i 0=c at *
   by_cases hp:c>0
   ·rw [jS hp,jo (by omega),Ym (by omega) (by omega),jc,JQ (c-1).toNat (by omega) (by omega),jc]
    have e2:decide (0≤c)=true:=decide_eq_true (by omega)
    have e1:decide (c≤0)=false:=decide_eq_false (by omega)
    rw [e1,e2] at hbad hgo
    rcases h01 (c-1).toNat with hv | hv
    ·rw [JD (by rw [hv];rfl),jc,JD rfl]
     exact .inr ⟨_,rfl,.inl ⟨_,rfl,hbad (by rw [hv];rfl)⟩⟩
    ·rw [jX (by rw [hv];rfl),jQ (by omega),jc,jX rfl,jo (by omega)]
     exact .inl ⟨_,rfl,by omega,hgo (by rw [hv];rfl)⟩
   ·rw [jQ hp,jS (by omega),jo (x:=0-c) (by omega),jo (by omega),Int.zero_sub,Ym (by omega) (by omega),jc,JQ (-c-1).toNat (by omega) (by omega),jc]
    have e2:decide (0≤c)=false:=decide_eq_false (by omega)
    have e1:decide (c≤0)=true:=decide_eq_true (by omega)
    rw [e1,e2] at hbad hgo
    rcases h01 (-c-1).toNat with hv | hv
    ·rw [jc,jX (by rw [hv];rfl),jo (by omega)]
     exact .inl ⟨_,rfl,by omega,hgo (by rw [hv];rfl)⟩
    ·rw [jc,JD (by rw [hv];rfl)]
     exact .inr ⟨_,rfl,.inl ⟨_,rfl,hbad (by rw [hv];rfl)⟩⟩)
  (by
   rintro s ⟨rfl,h2⟩
   refine ⟨.inr (cl.length:Int),?_,.inr ⟨_,rfl,?_⟩⟩
   ·simp only [W.jD.cb_]
    rw [jQ (by omega)]
   ·unfold condK
    rw [List.all_eq_true]
    intro c hc
    obtain ⟨j,hj,rfl⟩:=List.mem_iff_getElem.1 hc
    have:=h2 j hj
    rw [show cl.getD j 0=cl[j] by simp [hj]] at this
    exact this)
  (s:=(0:Int)) ⟨rfl,fun j hj=>absurd hj (Nat.not_lt_zero _)⟩
 unfold W.jD
 refine Vm h1 ?_
 rcases h2 with ⟨i,rfl,e⟩ | ⟨i,rfl,e⟩
 ·rw [Yb,e]
 ·rw [YJ,e]
theorem bit_val {x:Nat} {q:Int} (hx:x<2^63) (hq:0≤q∧q<64):ibits BinOp.and IntKind.i64 (Int.fdiv (x:Int) ((2:Int)^Min.min (Int.toNat q) (64:Nat))) (1:Int)=if bt q x=true then 1 else 0:=by
 have h1:Int.fdiv (x:Int) ((2:Int)^Min.min (Int.toNat q) (64:Nat))=((x / 2^q.toNat:Nat):Int):=by
  rw [Nat.min_eq_left (by omega),Int.fdiv_eq_ediv_of_nonneg _ (by have:(0:Int)≤((2^q.toNat:Nat):Int):=Int.natCast_nonneg _;simpa using this)]
  norm_cast
 have h2:=iandi64 (a:=x / 2^q.toNat) (b:=1) (Nat.lt_of_le_of_lt (Nat.div_le_self _ _) hx) (by decide)
 rw [show ((1:Nat):Int)=1 from rfl] at h2
 rw [h1,h2]
 have h3:x / 2^q.toNat &&& 1=x / 2^q.toNat % 2:=Nat.and_one_is_mod _
 have h4:bt q x=decide (x / 2^q.toNat % 2=1):=by
  unfold bt
  rw [Nat.testBit,Nat.shiftRight_eq_div_pow,Nat.and_comm 1,h3]
  have:x / 2^q.toNat % 2=0∨x / 2^q.toNat % 2=1:=by omega
  rcases this with h | h<;>rw [h]<;>rfl
 rw [h3,h4]
 have:x / 2^q.toNat % 2=0∨x / 2^q.toNat % 2=1:=by omega
 rcases this with h | h<;>rw [h]<;>rfl
theorem keep_walk {l:List NumT} {v:KV} {n t:Nat} {q b:Int} (hv:AmpP l (2^n) v t) (hn:n≤20) (hq:0≤q∧q<62) (hb:b=0∨b=1) :
 ∃r,W.jA (0:Int) ((2^n:Nat):Int) q b l=some (r,())∧AmpP r (2^n) (outK q b v) t:=by
 have hN:2^n≤2^20:=Nat.pow_le_pow_right (by decide) hn
 have hlen:=hv.len
 obtain ⟨y,q1,r,q2,q3,q4⟩:=JX (f:=fun s:Int×List NumT↦W.jA.ce_ (0:Int) ((2^n:Nat):Int) q b (↑(List.length (part (0:Int) ((2^n:Nat):Int) l)):Int) (Prod.fst s) (Prod.snd s) some) (2^n)
  (fun i s=>s.1=(i:Int)∧s.2.length=2^n ∧ ∀y,y<2^n→Num 4294967296 (s.2.getD y z0) (if y<i then outK q b v y else v y) (2*t+1) t)
  (fun y=>∃r,y=(((2^n:Nat):Int),r)∧r.length=2^n ∧ ∀y,y<2^n→Num 4294967296 (r.getD y z0) (outK q b v y) (2*t+1) t)
  (by
   rintro i ⟨s,out⟩ hi ⟨p1,p2,p3⟩
   simp only at p1 p2 p3
   subst p1
   left
   obtain ⟨r,r1,r2,r3⟩:∃r,W.jA.cB_ (0:Int) ((2^n:Nat):Int) q b (i:Int) out some=some r∧r.length=2^n ∧ ∀y,y<2^n→Num 4294967296 (r.getD y z0) (if y<i+1 then outK q b v y else v y) (2*t+1) t:=by
    unfold W.jA.cB_
    rw [jH (by simpa using hq.1),jc,bit_val (by omega) (by omega)]
    by_cases e:bt q i=decide (b=1)
    ·have hbb:((if bt q i=true then 1 else 0:Int) !=b)=false:=by
      rw [e];rcases hb with rfl | rfl<;>decide
     rw [jX hbb]
     refine ⟨_,rfl,p2,fun y hy=>?_⟩
     by_cases ey:y=i
     ·subst ey
      have:=p3 y hy
      rw [if_neg (Nat.lt_irrefl _)] at this
      rw [if_pos (Nat.lt_succ_self _)]
      unfold outK
      rw [if_pos e]
      exact this
     ·have:=p3 y hy
      by_cases hyi:y<i
      ·rw [if_pos hyi] at this
       rw [if_pos (by omega)]
       exact this
      ·rw [if_neg hyi] at this
       rw [if_neg (by omega)]
       exact this
    ·have hbb:((if bt q i=true then 1 else 0:Int) !=b)=true:=by
      rcases hb with rfl | rfl<;>cases hx:bt q i<;>rw [hx] at e<;>first | rfl | exact absurd rfl e
     rw [JD hbb,okR hi,jc,idxP (by omega),jc,setP]
     refine ⟨_,rfl,by simpa using p2,fun y hy=>?_⟩
     rw [YT (by omega)]
     by_cases ey:y=i
     ·subst ey
      rw [if_pos rfl,if_pos (Nat.lt_succ_self _)]
      unfold outK
      rw [if_neg e]
      exact num_zero
     ·rw [if_neg ey]
      have:=p3 y hy
      by_cases hyi:y<i
      ·rw [if_pos hyi] at this
       rw [if_pos (by omega)]
       exact this
      ·rw [if_neg hyi] at this
       rw [if_neg (by omega)]
       exact this
   refine ⟨(((i+1:Nat):Int),r),?_,rfl,r2,r3⟩
   simp only [W.jA.ce_]
   rw [←hlen,Vu,hlen,jS (by omega),r1,jc,jo (by omega)]
   rfl)
  (by
   rintro ⟨s,out⟩ ⟨p1,p2,p3⟩
   simp only at p1 p2 p3
   subst p1
   refine ⟨_,?_,out,rfl,p2,fun y hy=>?_⟩
   ·simp only [W.jA.ce_]
    rw [←hlen,Vu,jQ (by omega)]
   ·have:=p3 y hy
    rw [if_pos hy] at this
    exact this)
  (s:=((0:Int),l)) ⟨rfl,hlen,fun y hy=>by rw [if_neg (Nat.not_lt_zero _)];exact hv.at_ y hy⟩
 subst q2
 unfold W.jA
 rw [q1,jc]
 refine ⟨r,rfl,q3,q4,fun y hy=>?_⟩
 unfold outK
 split
 ·exact hv.fit y hy
 ·exact FitsK.zero _ _
theorem pbasis_walk {n i:Nat} (hn:n≤20) (hi:i<2^n):∃r,W.ko (n:Int) (i:Int)=some (r,())∧AmpP r (2^n) (kK i) 0:=by
 have hN:2^n≤2^20:=Nat.pow_le_pow_right (by decide) hn
 obtain ⟨z,z1,z2⟩:=root_ok 0 (by decide)
 have hp:=pow63 (q:=(n:Int)) (by omega)
 rw [Int.toNat_natCast] at hp
 unfold W.ko
 rw [jH (by simp),jc]
 simp only [Int.toNat_natCast] at hp ⊢
 simp only [hp,Int.toNat_natCast]
 rw [jH (by rw [Bool.and_eq_true,Bool.and_eq_true,Bool.and_eq_true,decide_eq_true_iff,decide_eq_true_iff,decide_eq_true_iff,decide_eq_true_iff];omega),jc,z1,jc]
 rw [show (List.replicate (2^n) (List.replicate (8:Nat) (false,([]:List (Ty.den (Ty.int IntKind.u32)))),(0:Int)))=List.replicate (2^n) z0 from rfl,Hk (by simpa using hi),jc,idxN (by simpa using hi),jc]
 have h1:FitsK K.one (2*0+1) 0:=⟨HT 1,one_kv,single_bd (by decide)⟩
 refine ⟨_,rfl,by simp,fun y hy=>?_,fun y hy=>?_⟩
 ·rw [YT (by simpa using hi),repl_at]
  unfold kK
  by_cases e:y=i
  ·rw [if_pos e,if_pos e]
   exact z2
  ·rw [if_neg e,if_neg e]
   exact num_zero
 ·unfold kK
  split
  ·exact h1
  ·exact FitsK.zero _ _
end Go.Ql
end

section
namespace Go.Ql
theorem onward_walk {n bn:Nat} {ops:List GOp} {tape:List Int} {q b u:Int} {us:Nat} {bits:List Int} (hn:n≤12) (hbn:bn<2^40) (hl:ops.length≤8000) (hops:∀o∈ops,OkS o n bn) (hb:bits.length=bn) (h01:B01 bits)
 {i:Nat} {l:List NumT} {v:KV} (hv:AmpP l (2^n) v i) (hi:i≤ops.length) :
 ∃(c:Bool) (j:Nat) (l':List NumT) (v':KV),W.jh q b ops u (i:Int) l bits=some (c,q,b,ops,u,(j:Int),l',bits,())∧AmpP l' (2^n) v' j∧i≤j∧j≤ops.length ∧
  playK tape i (ops.drop i) (v,bits,us)=playK tape j (ops.drop j) (v',bits,us)∧(c=false→j=ops.length)∧(c=true → ∃h:j<ops.length,condK bits ops[j]=true ∧ ¬ops[j].1<5):=by
 obtain ⟨y,y1,y2⟩:=JF (f:=fun s:Int×Int×List GOp×Int×Int×List NumT×List Int↦W.jh.ce_ (Prod.fst s) (Prod.fst (Prod.snd s)) (Prod.fst (Prod.snd (Prod.snd s))) (Prod.fst (Prod.snd (Prod.snd (Prod.snd s)))) (Prod.fst (Prod.snd (Prod.snd (Prod.snd (Prod.snd s))))) (Prod.fst (Prod.snd (Prod.snd (Prod.snd (Prod.snd (Prod.snd s)))))) (Prod.snd (Prod.snd (Prod.snd (Prod.snd (Prod.snd (Prod.snd s)))))) some)
  (J:=fun s=>∃(j:Nat) (l':List NumT) (v':KV),s=(q,b,ops,u,(j:Int),l',bits)∧AmpP l' (2^n) v' j∧i≤j∧j≤ops.length∧playK tape i (ops.drop i) (v,bits,us)=playK tape j (ops.drop j) (v',bits,us))
  (Q:=fun y=>∃(j:Nat) (l':List NumT) (v':KV),AmpP l' (2^n) v' j∧i≤j∧j≤ops.length∧playK tape i (ops.drop i) (v,bits,us)=playK tape j (ops.drop j) (v',bits,us) ∧
   ((y=.inl (q,b,ops,u,(j:Int),l',bits) ∧ ∃h:j<ops.length,condK bits ops[j]=true ∧ ¬ops[j].1<5)∨(y=.inr (q,b,ops,u,(j:Int),l',bits)∧j=ops.length)))
  (fun s=>ops.length-s.2.2.2.2.1.toNat)
  (by
   rintro s ⟨j,l',v',rfl,p1,p2,p3,p4⟩
   simp only [W.jh.ce_,W.jh.c1,jc]
   by_cases hj:j<ops.length
   ·have hd:ops.drop j=ops[j]::ops.drop (j+1):=List.drop_eq_getElem_cons hj
    have hm:ops[j]∈ops:=List.getElem_mem hj
    have hk:=hops _ hm
    have hidx:idx ops (j:Int)=some ops[j]:=UA hj
    have hcond:=holds_ok (o:=ops[j]) (bits:=bits) (q:=q) (b:=b) (u:=u) (a:=(j:Int)) (ops:=ops) (l:=l') hk.p.ifs (by rw [hb];omega) (by rw [hb];exact hk.p.cond) h01
    rw [jS (by omega)]
    unfold W.jh.cP_ W.jh.c3
    rw [hidx,jc,jc,show (ops[j].1,ops[j].2.1,ops[j].2.2.1,ops[j].2.2.2.1,ops[j].2.2.2.2.1,ops[j].2.2.2.2.2)=ops[j] from rfl,hcond,jc]
    have p4':=p4
    rw [hd] at p4
    simp only [playK] at p4
    have hw:IntKind.i64.wrap ((j:Int)+1)=((j+1:Nat):Int):=by rw [jo (by omega)];omega
    by_cases hc:condK bits ops[j]=false
    ·rw [if_pos hc] at p4
     rw [hc,show (!false)=true from rfl,br_tt,jc,Yb]
     simp only
     rw [hw]
     exact .inr ⟨_,rfl,⟨j+1,l',v',rfl,p1.up,by omega,hj,p4⟩,by simp only [Int.toNat_natCast];omega⟩
    ·rw [if_neg hc] at p4
     have hc':condK bits ops[j]=true:=by simpa using hc
     rw [hc',show (!true)=false from rfl,br_ff]
     unfold W.jh.c5
     by_cases h5:ops[j].1<5
     ·rw [if_pos h5] at p4
      obtain ⟨r,r1,r2⟩:=apply_walk p1 hk.p.gate (by omega) (by omega) (by have:=hk.kind;omega) hk.ph (by have:=hk.k15;omega)
      have hlen:=p1.len
      unfold W.jh.c7
      rw [jX (beq_false_of_ne (by omega)),beq_false_of_ne (show ops[j].1≠(6:Int) by omega),jc,br_ff,show (ops[j].1,ops[j].2.1,ops[j].2.2.1,ops[j].2.2.2.1,ops[j].2.2.2.2.1,ops[j].2.2.2.2.2)=ops[j] from rfl]
      simp only
      rw [hlen,r1,jc,jc,jc,Yb]
      simp only
      rw [hw]
      exact .inr ⟨_,rfl,⟨j+1,r,_,rfl,r2,by omega,hj,p4⟩,by simp only [Int.toNat_natCast];omega⟩
     ·have h56:ops[j].1=5∨ops[j].1=6:=by have:=hk.kind;omega
      have hbr:br (ops[j].1==(5:Int)) (some true) (some (ops[j].1==(6:Int)))=some true:=by
       rcases h56 with e | e<;>rw [e]<;>rfl
      rw [hbr,jc,br_tt,jc,YJ]
      exact .inl ⟨_,rfl,j,l',v',p1,p2,p3,p4',.inl ⟨rfl,hj,hc',h5⟩⟩
   ·rw [jQ (by omega)]
    exact .inl ⟨_,rfl,j,l',v',p1,p2,p3,p4,.inr ⟨rfl,by omega⟩⟩)
  (s:=(q,b,ops,u,(i:Int),l,bits)) ⟨i,l,v,rfl,hv,Nat.le_refl _,hi,rfl⟩
 obtain ⟨j,l',v',q1,q2,q3,q4,q5⟩:=y2
 unfold W.jh
 rw [y1,jc]
 rcases q5 with ⟨rfl,q5⟩ | ⟨rfl,q5⟩
 ·refine ⟨true,j,l',v',?_,q1,q2,q3,q4,fun h=>(by cases h),fun _=>q5⟩
  rw [Yb]
 ·refine ⟨false,j,l',v',?_,q1,q2,q3,q4,fun _=>q5,fun h=>(by cases h)⟩
  rw [YJ]
theorem meet_walk {n bn:Nat} {ops:List GOp} {q b x:Int} {us:Nat} {bits:List Int} (hn:n≤12) (hl:ops.length≤8000) (hb:bits.length=bn) {i:Nat} {l:List NumT} {v:KV} (hv:AmpP l (2^n) v i) (hi:i<ops.length)
 (ho:OkS ops[i] n bn) (h5:¬ops[i].1<5) (hx:x=0∨x=1) (hu:us<2^62) :
 ∃l',W.jn x q b ops (us:Int) (i:Int) l bits=some (q,b,ops,((us+1:Nat):Int),((i+1:Nat):Int),l',(meetK ops[i] x (v,bits,us)).2.1,())∧AmpP l' (2^n) (meetK ops[i] x (v,bits,us)).1 (i+1)∧(meetK ops[i] x (v,bits,us)).2.2=us+1∧(meetK ops[i] x (v,bits,us)).2.1.length=bn:=by
 have hq:=ho.p.gate.q
 have hidx:idx ops (i:Int)=some ops[i]:=UA hi
 obtain ⟨r,r1,r2⟩:=keep_walk (q:=ops[i].2.2.2.1) (b:=x) hv (by omega) (by omega) hx
 have hlr:=r2.len
 have hw:IntKind.i64.wrap ((i:Int)+1)=((i+1:Nat):Int):=by rw [jo (by omega)];omega
 have hw2:IntKind.i64.wrap ((us:Int)+1)=((us+1:Nat):Int):=by rw [jo (by omega)];omega
 unfold W.jn W.jn.c0
 rw [hidx,jc,jc]
 unfold W.jn.c1
 simp only
 rw [hv.len,r1,jc,jc,hw,hw2]
 unfold W.jn.cS_
 by_cases hm5:ops[i].1=5
 ·have hbit:=ho.p.bit hm5
  unfold W.jn.c3
  rw [JD (by simpa using hm5),Ym hbit.1 (by rw [hb];exact hbit.2),jc,JQ ops[i].2.2.2.2.1.toNat (by omega) (by rw [hb];omega),jc,jc,jc]
  unfold meetK
  rw [if_neg (fun h=>h.1 hm5),if_pos hm5]
  exact ⟨r,rfl,r2.up,rfl,by rw [List.length_set];exact hb⟩
 ·rw [jX (by simpa using hm5)]
  unfold meetK
  simp only
  rw [if_neg hm5]
  by_cases hb1:x=1
  ·rw [JD (by simpa using hb1),if_pos ⟨hm5,hb1⟩,←HZ [] 0 ops[i].2.2.2.1 0 []]
   obtain ⟨s,s1,s2⟩:=apply_walk r2 (ok1_x ho.p.gate) (by omega) (by omega) (.inr (.inl rfl)) (fun h=>rfl) (by show (0:Int)≤9223372036854775807;decide)
   unfold W.jn.c5
   rw [hlr,s1,jc,jc,jc]
   exact ⟨s,rfl,s2,trivial,hb⟩
  ·rw [jX (by simpa using hb1),jc,if_neg (fun h=>hb1 h.2)]
   exact ⟨r,rfl,r2.up,trivial,hb⟩
theorem meet_01 {o:GOp} {x:Int} {s:SK} (h:B01 s.2.1) (hx:x=0∨x=1):B01 (meetK o x s).2.1:=by
 unfold meetK
 simp only
 split
 ·exact h.set _ hx
 ·exact h
theorem played_good {n bn:Nat} {ops:List GOp} {tape:List Int} {i0:Nat} (hn:n≤12) (hbn:bn<2^40) (hl:ops.length≤8000) (ht:tape.length<2^62) (hi:i0<2^n) (hops:∀o∈ops,OkS o n bn)
 (hck:W.jN ((n:Int),(bn:Int),ops)=some ((0:Int),(0:Int))) :
 (∀x,playK tape 0 ops (kK i0,List.replicate bn 0,0)=.inl x→x.1≠0∧W.jk ((n:Int),(bn:Int),ops) (i0:Int) tape=some (.inr ((),(x.1,(x.2:Int)),()))) ∧
 (∀s,playK tape 0 ops (kK i0,List.replicate bn 0,0)=.inr s → ∃l,W.jk ((n:Int),(bn:Int),ops) (i0:Int) tape=some (.inl (((0:Int),(0:Int)),(n:Int),(bn:Int),ops,(s.2.2:Int),(ops.length:Int),l,s.2.1,()))∧AmpP l (2^n) s.1 ops.length):=by
 have hN:2^n≤2^20:=Nat.pow_le_pow_right (by decide) (by omega)
 obtain ⟨l0,b1,b2⟩:=pbasis_walk (show n≤20 by omega) hi
 obtain ⟨R,hR⟩:∃R,playK tape 0 ops (kK i0,List.replicate bn 0,0)=R:=⟨_,rfl⟩
 obtain ⟨y,y1,y2⟩:=JF (f:=fun s:Int×Int×List GOp×Int×Int×List NumT×List Int↦W.jk.cc_ tape (Prod.fst s) (Prod.fst (Prod.snd s)) (Prod.fst (Prod.snd (Prod.snd s))) (Prod.fst (Prod.snd (Prod.snd (Prod.snd s)))) (Prod.fst (Prod.snd (Prod.snd (Prod.snd (Prod.snd s))))) (Prod.fst (Prod.snd (Prod.snd (Prod.snd (Prod.snd (Prod.snd s)))))) (Prod.snd (Prod.snd (Prod.snd (Prod.snd (Prod.snd (Prod.snd s)))))) some)
  (J:=fun s=>∃(j us:Nat) (l:List NumT) (v:KV) (bits:List Int),s=((n:Int),(bn:Int),ops,(us:Int),(j:Int),l,bits)∧AmpP l (2^n) v j∧j≤ops.length∧bits.length=bn∧B01 bits∧us≤tape.length∧playK tape j (ops.drop j) (v,bits,us)=R)
  (Q:=fun y=>(∃u:Int×Int×Int×Int×List GOp×Int×Int×List NumT×List Int,∃x:Int×Nat,y=.inl u∧R=.inl x∧u.1=x.1∧u.2.1=(x.2:Int)∧x.1≠0) ∨
   (∃(s:SK) (l:List NumT),R=.inr s∧y=.inr ((n:Int),(bn:Int),ops,(s.2.2:Int),(ops.length:Int),l,s.2.1)∧AmpP l (2^n) s.1 ops.length))
  (fun s=>ops.length-s.2.2.2.2.1.toNat)
  (by
   rintro s ⟨j,us,l,v,bits,rfl,p1,p2,p3,p4,p5,p6⟩
   obtain ⟨c,k,l',v',o1,o2,o3,o4,o5,o6,o7⟩:=onward_walk (tape:=tape) (us:=us) (q:=(n:Int)) (b:=(bn:Int)) (u:=(us:Int)) hn hbn hl hops p3 p4 p1 p2
   rw [p6] at o5
   simp only [W.jk.cc_]
   rw [o1,jc]
   cases c with
   | false=>
     have hk:=o6 rfl
     subst hk
     rw [List.drop_length] at o5
     simp only [playK] at o5
     rw [br_ff]
     exact .inl ⟨_,rfl,.inr ⟨_,l',o5,rfl,o2⟩⟩
   | true=>
     obtain ⟨hk,hc,h5⟩:=o7 rfl
     have hm:ops[k]∈ops:=List.getElem_mem hk
     rw [List.drop_eq_getElem_cons hk] at o5
     simp only [playK] at o5
     rw [if_neg (by rw [hc];decide),if_neg h5] at o5
     rw [br_tt]
     dsimp only
     by_cases hu:us=tape.length
     ·rw [if_pos hu] at o5
      rw [JD (by simp [hu]),show W.kc (19:Int) (k:Int)=some (19,(k:Int)) from rfl,jc]
      exact .inl ⟨_,rfl,.inl ⟨_,_,rfl,o5,rfl,rfl,(by first | (show (19:Int)≠0;decide) | (show (20:Int)≠0;decide))⟩⟩
     ·rw [if_neg hu] at o5
      rw [jX (beq_false_of_ne (by omega)),JQ us rfl (by omega),jc]
      unfold W.jk.c8
      obtain ⟨b,hb⟩:∃b,tape.getD us 0=b:=⟨_,rfl⟩
      rw [hb] at o5 ⊢
      by_cases hbad:b≠0∧b≠1
      ·rw [if_pos hbad] at o5
       rw [JD (by simpa using hbad.1),jc,JD (by simpa using hbad.2),show W.kc (20:Int) (k:Int)=some (20,(k:Int)) from rfl,jc]
       exact .inl ⟨_,rfl,.inl ⟨_,_,rfl,o5,rfl,rfl,(by first | (show (19:Int)≠0;decide) | (show (20:Int)≠0;decide))⟩⟩
      ·rw [if_neg hbad] at o5
       have hb01:b=0∨b=1:=by omega
       have hc19:(br (b !=(0:Int)) (some (b !=(1:Int))) (some false))=some false:=by rcases hb01 with rfl | rfl<;>rfl
       rw [hc19,jc,br_ff]
       obtain ⟨m,m1,m2,m3,m4⟩:=meet_walk (q:=(n:Int)) (b:=(bn:Int)) (us:=us) hn hl p3 o2 hk (hops _ hm) h5 hb01 (by omega)
       rw [m1,jc]
       refine .inr ⟨_,rfl,⟨k+1,us+1,m,_,_,rfl,m2,hk,m4,meet_01 p4 hb01,by omega,?_⟩,by simp only [Int.toNat_natCast];omega⟩
       rw [o5,←m3])
  (s:=((n:Int),(bn:Int),ops,(0:Int),(0:Int),l0,List.replicate bn 0)) ⟨0,0,l0,kK i0,List.replicate bn 0,rfl,b2,Nat.zero_le _,by simp,B01.zero _,Nat.zero_le _,hR⟩
 have hp:=pow63 (q:=(n:Int)) (by omega)
 have hbeg:W.jw ((n:Int),(bn:Int),ops) (i0:Int)=some (.inl (((0:Int),(0:Int)),(n:Int),(bn:Int),ops,(0:Int),(0:Int),l0,List.replicate bn 0,())):=by
  unfold W.jw W.jw.c4 W.jw.c6
  simp only
  rw [hck,jc,jX (by decide),jQ (by omega),jH (by simp),jc,hp,Int.toNat_natCast,decide_eq_false (by omega),jc,br_ff,b1,jc,
   jH (by rw [Bool.and_eq_true,Bool.and_eq_true,Bool.and_eq_true,decide_eq_true_iff,decide_eq_true_iff,decide_eq_true_iff,decide_eq_true_iff];omega),jc,jc,Int.toNat_natCast]
 have hrun:W.jk ((n:Int),(bn:Int),ops) (i0:Int) tape=sel y (fun u_1=>some (Sum.inr ((),(Prod.fst u_1,Prod.fst (Prod.snd u_1)),())))
  (fun v_1=>some (Sum.inl (((0:Int),(0:Int)),Prod.fst v_1,Prod.fst (Prod.snd v_1),Prod.fst (Prod.snd (Prod.snd v_1)),Prod.fst (Prod.snd (Prod.snd (Prod.snd v_1))),Prod.fst (Prod.snd (Prod.snd (Prod.snd (Prod.snd v_1)))),Prod.fst (Prod.snd (Prod.snd (Prod.snd (Prod.snd (Prod.snd v_1))))),Prod.snd (Prod.snd (Prod.snd (Prod.snd (Prod.snd (Prod.snd v_1))))),()))):=by
  unfold W.jk
  simp only
  rw [hbeg,jc,Yb,jX (by rfl),y1,jc]
 rw [hR]
 rcases y2 with ⟨u,x,rfl,e,e1,e2,e3⟩ | ⟨s,l,e,rfl,e1⟩
 ·subst e
  refine ⟨fun x' hx=>?_,fun s hs=>(by cases hs)⟩
  cases hx
  rw [hrun,Yb,e1,e2]
  exact ⟨e3,rfl⟩
 ·subst e
  refine ⟨fun x' hx=>(by cases hx),fun s' hs=>?_⟩
  cases hs
  rw [hrun,YJ]
  exact ⟨l,rfl,e1⟩
end Go.Ql
end

section
namespace Go.Ql
def TxtsK (v:KV) (N:Nat) (T:List (List UInt8)):Prop:=T.length=N ∧ ∀x,x<N→KTxt (v x) (T.getD x [])
theorem TxtsK.one {v:KV} {N:Nat} {T U:List (List UInt8)} (h:TxtsK v N T) (g:TxtsK v N U):T=U:=by
 refine List.ext_getElem (h.1.trans g.1.symm) fun x h1 h2=>?_
 have a:=h.2 x (h.1▸h1)
 have b:=g.2 x (h.1▸h1)
 rw [show T.getD x []=T[x] by simp [h1]] at a
 rw [show U.getD x []=U[x] by simp [h2]] at b
 exact KTxt.one a b
theorem texts_walk {l:List NumT} {v:KV} {n t:Nat} (hv:AmpP l (2^n) v t) (hn:n≤20) (ht:t≤9000):∃T,W.jL (0:Int) ((2^n:Nat):Int) l=some (T,l,())∧TxtsK v (2^n) T:=by
 have hN:2^n≤2^20:=Nat.pow_le_pow_right (by decide) hn
 have hlen:=hv.len
 obtain ⟨y,q1,r,q2,q3,q4⟩:=JX (f:=fun s:Int×List (List UInt8)↦W.jL.ca_ (0:Int) ((2^n:Nat):Int) (↑(List.length (part (0:Int) ((2^n:Nat):Int) l)):Int) (Prod.fst s) (Prod.snd s) l some) (2^n)
  (fun i s=>s.1=(i:Int)∧s.2.length=2^n ∧ ∀x,x<i→KTxt (v x) (s.2.getD x []))
  (fun y=>∃r,y=(((2^n:Nat):Int),r)∧r.length=2^n ∧ ∀x,x<2^n→KTxt (v x) (r.getD x []))
  (by
   rintro i ⟨s,out⟩ hi ⟨p1,p2,p3⟩
   simp only at p1 p2 p3
   subst p1
   left
   obtain ⟨r,r1,r2⟩:=HB (hv.at_ i hi) (by omega) (by omega)
   refine ⟨(((i+1:Nat):Int),out.set i r),?_,rfl,by simpa using p2,fun x hx=>?_⟩
   ·simp only [W.jL.ca_]
    rw [←hlen,Vu,hlen,jS (by omega),okR hi,jc,idxP (by omega),jc,r1,jc,Hk (by omega),jc,UA (by omega),jc,Int.toNat_natCast,jo (by omega)]
    rfl
   ·simp only
    by_cases e:x=i
    ·subst e
     rw [List.getD,List.getElem?_set_self (by omega)]
     exact r2
    ·rw [List.getD,List.getElem?_set_ne (Ne.symm e)]
     exact p3 x (by omega))
  (by
   rintro ⟨s,out⟩ ⟨p1,p2,p3⟩
   simp only at p1 p2 p3
   subst p1
   refine ⟨_,?_,out,rfl,p2,p3⟩
   simp only [W.jL.ca_]
   rw [←hlen,Vu,jQ (by omega)])
  (s:=((0:Int),List.replicate (2^n) [])) ⟨rfl,by simp,fun x hx=>by omega⟩
 subst q2
 have hpl:part (0:Int) ((2^n:Nat):Int) l=l:=by rw [←hlen,Vu]
 unfold W.jL
 rw [hpl] at q1 ⊢
 rw [hlen] at q1 ⊢
 rw [jH (by rw [Bool.and_eq_true,Bool.and_eq_true,Bool.and_eq_true,decide_eq_true_iff,decide_eq_true_iff,decide_eq_true_iff,decide_eq_true_iff];omega),jc,Int.toNat_natCast,q1,jc]
 exact ⟨r,rfl,q3,q4⟩
def normK (v:KV):Nat→K
 | 0=>K.zero
 | n+1=>K.add (normK v n) (K.mul (v n) (K.conj (v n)))
theorem FitsK.norm {k:K} {L t:Nat} (h:FitsK k L t):FitsK (K.mul k (K.conj k)) (L+L+8) (t+t):=by
 obtain ⟨w,rfl,hb⟩:=h
 exact ⟨rows w (cv w) 8,by rw [←kv_mul,kv_conj],rows_bd hb (cv_bd hb) 8 (Nat.le_refl _)⟩
theorem norm_fits {v:KV} {N t:Nat} (h:∀x,x<N→FitsK (v x) (2*t+1) t):∀i,i≤N→FitsK (normK v i) (4*t+10+i) (t+t)
 | 0,_=>FitsK.zero _ _
 | i+1,hi=>by
   have h1:=norm_fits h i (by omega)
   have h2:=((h i (by omega)).norm).mono (show 2*t+1+(2*t+1)+8≤4*t+10+i by omega)
   exact h1.add h2
theorem Un {k:K} (h:k=K.zero):K.mul k (K.conj k)=K.zero:=by rw [h,K.zero_mul]
theorem pnorm_walk {l:List NumT} {v:KV} {n t:Nat} (hv:AmpP l (2^n) v t) (hn:n≤12) (ht:t≤4096) :
 ∃r,W.jm (0:Int) ((2^n:Nat):Int) l=some (r,l,())∧Num 4294967296 r (normK v (2^n)) (4*t+10+2^n) (t+t):=by
 have hN:2^n≤2^12:=Nat.pow_le_pow_right (by decide) hn
 have hlen:=hv.len
 have hpl:part (0:Int) ((2^n:Nat):Int) l=l:=by rw [←hlen,Vu]
 obtain ⟨y,q1,r,q2,q3⟩:=JX (f:=fun s:Int×List NumT↦W.jm.ca_ (0:Int) ((2^n:Nat):Int) (↑(List.length (part (0:Int) ((2^n:Nat):Int) l)):Int) (Prod.fst s) (Prod.snd s) l some) (2^n)
  (fun i s=>s.1=(i:Int) ∧ ∃r,s.2=[r]∧Num 4294967296 r (normK v i) (4*t+10+i) (t+t))
  (fun y=>∃r,y=(((2^n:Nat):Int),[r])∧Num 4294967296 r (normK v (2^n)) (4*t+10+2^n) (t+t))
  (by
   rintro i ⟨s,out⟩ hi ⟨p1,r,p2,p3⟩
   simp only at p1 p2
   subst p1
   subst p2
   left
   have ha:=hv.at_ i hi
   obtain ⟨z,z1,z2⟩:=nzero_ok ha
   have hfit:=norm_fits hv.fit (i+1) (by omega)
   obtain ⟨r',r1,r2⟩:∃r',W.jm.cj_ (0:Int) ((2^n:Nat):Int) (i:Int) [r] l some=some [r']∧Num 4294967296 r' (normK v (i+1)) (4*t+10+(i+1)) (t+t):=by
    unfold W.jm.cj_
    rw [okR hi,jc,idxP (by omega),jc,z1,jc]
    cases hz:z with
    | true=>
      have e:=z2.1 hz
      rw [show (!true)=false from rfl,br_ff]
      refine ⟨r,rfl,Num.fit (L:=4*t+10+i) (E:=t+t) ?_ hfit⟩
      rw [normK,Un e,K.add_zero]
      exact p3
    | false=>
      rw [show (!false)=true from rfl,br_tt]
      unfold W.jm.c6
      obtain ⟨m,m1,m2⟩:=nnorm_ok ha (by omega)
      obtain ⟨a,a1,a2⟩:=nadd_t p3 m2 (by omega)
      rw [bx_at,jc,bx_at,jc,m1,jc,a1,jc,jc,jc]
      exact ⟨a,rfl,a2.fit hfit⟩
   refine ⟨(((i+1:Nat):Int),[r']),?_,rfl,r',rfl,r2⟩
   simp only [W.jm.ca_]
   rw [hpl,hlen,jS (by omega),r1,jc,jo (by omega)]
   rfl)
  (by
   rintro ⟨s,out⟩ ⟨p1,r,p2,p3⟩
   simp only at p1 p2
   subst p1
   subst p2
   refine ⟨_,?_,r,rfl,p3⟩
   simp only [W.jm.ca_]
   rw [hpl,hlen,jQ (by omega)])
  (s:=((0:Int),[z0])) ⟨rfl,z0,rfl,num_zero⟩
 subst q2
 unfold W.jm
 rw [show [(List.replicate (8:Nat) (false,([]:List Int)),(0:Int))]=[z0] from rfl,q1,jc]
 simp only
 rw [bx_at,jc]
 exact ⟨r,rfl,q3⟩
end Go.Ql
end

section
namespace Go.Ql
theorem sameTexts_self (a:List (List UInt8)) (ha:a.length≤8796093022208):W.Jb a a=some true:=by
 simp only [W.Jb,br_if]
 rw [if_neg (by simp),iter_count (s0:=(0:Int)) a.length (fun k=>(k:Int)) (.inr (a.length:Int))]
 ·rfl
 ·intro i hi
  simp only [W.Jb.cc_,W.Jb.c6,br_if,UA hi,jc]
  rw [if_pos (by simpa using hi),if_neg (by simp),jo (by omega)]
  rfl
 ·simp only [W.Jb.cc_,br_if]
  rw [if_neg (by simp)]
 ·rfl
theorem sameShot_self (a:List (List UInt8)) (b:List Int) (u:Int) (ha:a.length≤8796093022208) (hb:b.length≤17592186043904):W.JN (a,b,u) (a,b,u)=some true:=by
 unfold W.JN W.JN.c1
 simp only
 rw [sameTexts_self a ha,jc,br_tt,sameInts_ok b b hb,jc,decide_eq_true rfl,br_tt,jc]
 simp
def Yh:Cir:=(2,1,[(3,0,[],0,0,[]),(2,0,[0],1,0,[]),(5,0,[],1,0,[-1])])
def bell:KV:=fun x=>if x=3 then ⟨0,0,1 / 2,0,0,0,-1 / 2,0⟩ else K.zero
theorem small_w:WCir Yh:=by
 refine ⟨by decide,fun o ho=>?_⟩
 simp only [Yh,List.mem_cons,List.not_mem_nil,or_false] at ho
 rcases ho with rfl | rfl | rfl<;>exact ⟨by decide,by decide⟩
theorem small_play:∃s,playK [1] 0 Yh.2.2 (kK 0,List.replicate 1 0,0)=.inr s∧s.2.1=[1]∧s.2.2=1 ∧ ∀x,x<4→s.1 x=bell x:=by
 refine ⟨meetK (5,0,[],1,0,[-1]) 1 (gateK (2,0,[0],1,0,[]) (gateK (3,0,[],0,0,[]) (kK 0)),[0],0),rfl,rfl,rfl,fun x hx=>?_⟩
 have h:x=0∨x=1∨x=2∨x=3:=by omega
 rcases h with rfl | rfl | rfl | rfl<;>refine K.eq_of ?_ ?_ ?_ ?_ ?_ ?_ ?_ ?_<;>decide +kernel
def bellT:List (List UInt8):=[[48],[48],[48],[48,44,48,44,49,44,48,44,48,44,48,44,45,49,47,49]]
theorem ktxt_zero:KTxt K.zero [48]:=⟨fun _=>0,0,.inl rfl,UV 0,by decide +kernel⟩
theorem ktxt_bell:KTxt (bell 3) [48,44,48,44,49,44,48,44,48,44,48,44,45,49,47,49]:=
 ⟨fun i=>if i=2 then 1 else if i=6 then -1 else 0,1,.inr ⟨2,by decide,by decide⟩,by refine K.eq_of ?_ ?_ ?_ ?_ ?_ ?_ ?_ ?_<;>decide +kernel,by decide +kernel⟩
theorem begun_run:W.jv Yh 0 [1]=some ((bellT,[1],1),(0,0)):=by
 have hops:∀o∈Yh.2.2,OkS o 2 1:=fun o ho=>by
  have hw:=small_w.2 o ho
  refine oks_good (goodOp_of ?_) hw (by decide)
  simp only [Yh,List.mem_cons,List.not_mem_nil,or_false] at ho
  have hf:¬ifBad 1 ([-1]:List Int):=by unfold ifBad;simp
  have hf0:∀b,¬ifBad b ([]:List Int):=by intro b;unfold ifBad;simp
  rcases ho with rfl | rfl | rfl
  ·unfold opBad;simp [hf0,kD]
  ·unfold opBad;simp [hf0,kD]
  ·unfold opBad;simp [hf,kD]
 have hck:W.jN Yh=some ((0:Int),(0:Int)):=by
  rw [check_ok Yh small_w]
  have hg:GoodC Yh:=⟨by decide,by decide,by decide,fun o ho=>by
   simp only [Yh,List.mem_cons,List.not_mem_nil,or_false] at ho
   have hf:¬ifBad 1 ([-1]:List Int):=by unfold ifBad;simp
   have hf0:∀b,¬ifBad b ([]:List Int):=by intro b;unfold ifBad;simp
   rcases ho with rfl | rfl | rfl
   ·unfold opBad;simp [hf0,kD,Yh]
   ·unfold opBad;simp [hf0,kD,Yh]
   ·unfold opBad;simp [hf,kD,Yh]⟩
  rw [hg.chk]
 obtain ⟨s,s1,s2,s3,s4⟩:=small_play
 obtain ⟨_,p2⟩:=played_good (n:=2) (bn:=1) (ops:=Yh.2.2) (tape:=[1]) (i0:=0) (by decide) (by decide) (by decide) (by decide) (by decide) hops hck
 obtain ⟨l,l1,l2⟩:=p2 s s1
 obtain ⟨T,t1,t2⟩:=texts_walk l2 (by decide) (by decide)
 have hb:TxtsK s.1 (2^2) bellT:=⟨rfl,fun x hx=>by
  rw [s4 x hx]
  have h:x=0∨x=1∨x=2∨x=3:=by omega
  rcases h with rfl | rfl | rfl | rfl
  ·exact ktxt_zero
  ·exact ktxt_zero
  ·exact ktxt_zero
  ·exact ktxt_bell⟩
 have e:=t2.one hb
 subst e
 have l1':W.jk Yh 0 [1]=_:=l1
 unfold W.jv W.jv.c4
 rw [show (Yh.1,Yh.2.1,Yh.2.2)=Yh from rfl,l1',jc,Yb]
 rw [jX (by rfl)]
 simp only
 rw [l2.len,t1,jc,jc,s2,s3]
 rfl
theorem begun_ok:W.Js=some true:=by
 unfold W.Js
 rw [show W.YX=some Yh from rfl,jc,begun_run,jc]
 unfold W.Js.c2
 rw [JD (by rfl)]
 have h:W.JN (bellT,[1],1) (bellT,[1],1)=some true:=sameShot_self _ _ _ (by decide) (by decide)
 refine Vm ?_ rfl
 exact Vm h rfl
end Go.Ql
end

section
namespace Go.Ql
def ZK (N:Nat) (v:KV):Prop:=∀x,x<N→v x=K.zero
def sqK (k:K):Rat:=k.c0*k.c0+k.c1*k.c1+k.c2*k.c2+k.c3*k.c3+k.c4*k.c4+k.c5*k.c5+k.c6*k.c6+k.c7*k.c7
theorem sq_c0 (k:K):(K.mul k (K.conj k)).c0=sqK k:=by
 simp only [K.mul,K.conj,sqK]
 grind
theorem YS (a:Rat):0≤a*a:=by
 rcases Rat.le_total (a:=0) (b:=a) with h | h
 ·exact Rat.mul_nonneg h h
 ·have h2:0 ≤ -a:=by grind
  have:=Rat.mul_nonneg h2 h2
  grind
theorem UF {a:Rat} (h:a*a=0):a=0:=by
 rcases Rat.mul_eq_zero.1 h with h | h<;>exact h
theorem sq_nonneg (k:K):0≤sqK k:=by
 have h0:=YS k.c0;have h1:=YS k.c1;have h2:=YS k.c2;have h3:=YS k.c3
 have h4:=YS k.c4;have h5:=YS k.c5;have h6:=YS k.c6;have h7:=YS k.c7
 unfold sqK
 grind
theorem sq_zero {k:K} (h:sqK k=0):k=K.zero:=by
 have h0:=YS k.c0;have h1:=YS k.c1;have h2:=YS k.c2;have h3:=YS k.c3
 have h4:=YS k.c4;have h5:=YS k.c5;have h6:=YS k.c6;have h7:=YS k.c7
 unfold sqK at h
 have e0:k.c0*k.c0=0:=by grind
 have e1:k.c1*k.c1=0:=by grind
 have e2:k.c2*k.c2=0:=by grind
 have e3:k.c3*k.c3=0:=by grind
 have e4:k.c4*k.c4=0:=by grind
 have e5:k.c5*k.c5=0:=by grind
 have e6:k.c6*k.c6=0:=by grind
 have e7:k.c7*k.c7=0:=by grind
 exact K.eq_of (UF e0) (UF e1) (UF e2) (UF e3) (UF e4) (UF e5) (UF e6) (UF e7)
theorem norm_c0 (v:KV):∀n,0≤(normK v n).c0∧((normK v n).c0=0→ZK n v)
 | 0=>⟨by simp [normK,K.zero],fun _ x hx=>by omega⟩
 | n+1=>by
   obtain ⟨h1,h2⟩:=norm_c0 v n
   have h3:=sq_nonneg (v n)
   have e:(normK v (n+1)).c0=(normK v n).c0+sqK (v n):=by
    rw [←sq_c0];rfl
   rw [e]
   refine ⟨by grind,fun h=>?_⟩
   have a:(normK v n).c0=0:=by grind
   have b:sqK (v n)=0:=by grind
   intro x hx
   by_cases hxn:x=n
   ·rw [hxn];exact sq_zero b
   ·exact h2 a x (by omega)
theorem norm_zero {v:KV}:∀{n:Nat},normK v n=K.zero↔ZK n v:=fun {n}=>by
 constructor
 ·intro h
  refine (norm_c0 v n).2 ?_
  rw [h];rfl
 ·intro h
  induction n with
  | zero=>rfl
  | succ n ih=>
    rw [normK,ih (fun x hx=>h x (by omega)),Un (h n (by omega)),K.add_zero]
theorem zk_gate {n:Nat} {o:GOp} {v:KV} (ho:0≤o.2.2.2.1∧o.2.2.2.1<n) (h:ZK (2^n) v):ZK (2^n) (gateK o v):=fun x hx=>by
 have e:gateK o v x=gateK o (fun _=>K.zero) x:=gate_loc (h x hx) (h _ (fl_lt ho hx))
 rw [e]
 have hneg:K.neg K.zero=K.zero:=by rw [←K.turn_eight,K.turn_zero]
 simp only [gateK,K.turn_zero,K.half_zero,hneg]
 split
 ·rfl
 ·split
  ·rfl
  ·split
   ·split<;>rfl
   ·split
    ·rfl
    ·split<;>exact K.add_zero _
theorem zk_out {N:Nat} {q b:Int} {v:KV} (h:ZK N v):ZK N (outK q b v):=fun x hx=>by
 unfold outK
 split
 ·exact h x hx
 ·rfl
theorem zk_meet {n:Nat} {o:GOp} {b:Int} {s:SK} (ho:0≤o.2.2.2.1∧o.2.2.2.1<n) (h:ZK (2^n) s.1):ZK (2^n) (meetK o b s).1:=by
 unfold meetK
 simp only
 split
 ·rw [←HZ [] 0 o.2.2.2.1 0 []]
  exact zk_gate ho (zk_out h)
 ·exact zk_out h
abbrev EndK:=List Int×List Int×KV
def allK:List GOp→KV→List Int→List Int→List EndK
 | [],v,bits,tape=>[(tape,bits,v)]
 | o::l,v,bits,tape=>
   if condK bits o=false then allK l v bits tape
   else if o.1<5 then allK l (gateK o v) bits tape
   else allK l (meetK o 0 (v,bits,tape.length)).1 (meetK o 0 (v,bits,tape.length)).2.1 (tape++[0]) ++
    allK l (meetK o 1 (v,bits,tape.length)).1 (meetK o 1 (v,bits,tape.length)).2.1 (tape++[1])
noncomputable def nzK (N:Nat) (l:List EndK):List EndK:=by
 classical exact l.filter fun e=>decide (¬ZK N e.2.2)
theorem nz_app (N:Nat) (a b:List EndK):nzK N (a++b)=nzK N a++nzK N b:=by
 unfold nzK
 exact List.filter_append _ _
theorem nz_one {N:Nat} {e:EndK} (h:¬ZK N e.2.2):nzK N [e]=[e]:=by
 unfold nzK
 simp [h]
theorem nz_none {N:Nat} {e:EndK} (h:ZK N e.2.2):nzK N [e]=[]:=by
 unfold nzK
 simp [h]
theorem Ub {n:Nat}:∀{l:List GOp},(∀o∈l,0≤o.2.2.2.1∧o.2.2.2.1<(n:Int)) → ∀{v:KV} {bits tape:List Int},ZK (2^n) v→nzK (2^n) (allK l v bits tape)=[]
 | [],_,v,bits,tape,h=>nz_none h
 | o::l,ho,v,bits,tape,h=>by
   have h1:=ho o (List.mem_cons_self ..)
   have h2:∀a∈l,0≤a.2.2.2.1∧a.2.2.2.1<(n:Int):=fun a ha=>ho a (List.mem_cons_of_mem _ ha)
   simp only [allK]
   split
   ·exact Ub h2 h
   ·split
    ·exact Ub h2 (zk_gate h1 h)
    ·rw [nz_app,Ub h2 (zk_meet (s:=(v,bits,tape.length)) h1 h),Ub h2 (zk_meet (s:=(v,bits,tape.length)) h1 h)]
     rfl
end Go.Ql
end

section
namespace Go.Ql
def undoK (o:GOp):GOp:=(o.1,(16-o.2.1) % 16,o.2.2.1,o.2.2.2.1,o.2.2.2.2.1,o.2.2.2.2.2)
theorem turnZ_16 (a:K) {k:Int} (h:k % 16=0):turnZ a k=a:=by
 unfold turnZ
 rw [h]
 rfl
theorem pK_back (l:List Int) (v:KV) (k:Int):pK l ((16-k) % 16) (pK l k v)=v:=by
 funext x
 unfold pK
 by_cases h:onesB l x=true
 ·rw [if_pos h,if_pos h,turnZ_add,turnZ_16 _ (by omega)]
 ·rw [if_neg h,if_neg h]
theorem xK_back {l:List Int} {q:Int} (hl:Nn l) (hq:0≤q) (h:q∉l) (v:KV):xK l q (xK l q v)=v:=by
 funext x
 unfold xK
 rw [ones_other hl hq h,fl_fl]
 cases onesB l x<;>rfl
theorem hK_hK (q:Int) (v:KV):hK q (hK q v)=v:=by
 funext x
 simp only [hK,fl_fl,Uc]
 generalize v x=a
 generalize v (fl q x)=b
 cases bt q x<;>simp only [Bool.not_true,Bool.not_false,if_true,if_false,Bool.false_eq_true]
 ·apply K.eq_of<;>simp only [K.half,K.sm,K.sub,K.turn,K.turn1,K.neg,K.add]<;>grind
 ·apply K.eq_of<;>simp only [K.half,K.sm,K.sub,K.turn,K.turn1,K.neg,K.add]<;>grind
theorem hC_back {l:List Int} {q:Int} (hl:Nn l) (hq:0≤q) (h:q∉l) (v:KV):(fun x=>if onesB l x=true then hK q (fun y=>if onesB l y=true then hK q v y else v y) x else (fun y=>if onesB l y=true then hK q v y else v y) x)=v:=by
 funext x
 by_cases hx:onesB l x=true
 ·have h2:onesB l (fl q x)=true:=by rw [ones_other hl hq h];exact hx
  rw [if_pos hx]
  have e:=congrFun (hK_hK q v) x
  rw [←e]
  unfold hK
  simp only [if_pos hx,if_pos h2]
 ·rw [if_neg hx]
  simp only
  rw [if_neg hx]
theorem gate_undo {n bn:Nat} {o:GOp} (h:OkS o n bn) (hk:o.1<5) (v:KV):gateK (undoK o) (gateK o v)=v:=by
 have h1:=h.p.gate
 have hkind:=h.kind
 have hph:=h.ph
 have h15:=h.k15
 have hk0:=h1.k
 have hq:=h1.q.1
 have hl:Nn o.2.2.1:=fun c hc=>(h1.qs c hc).1
 have hnl:=h1.out
 obtain ⟨k,K1,l,q,b,on⟩:=o
 simp only at *
 have hk2:0≤(16-K1) % 16:=by omega
 show gateK (k,(16-K1) % 16,l,q,b,on) _=v
 have hc:k=1∨k=2∨k=3∨k=4:=by omega
 rcases hc with rfl | rfl | rfl | rfl
 ·rw [hph rfl,gate_phase _ _ _ _ _ hk2,gate_phase _ _ _ _ _ hk0];exact pK_back _ v K1
 ·rw [HZ,HZ];exact xK_back hl hq hnl v
 ·rw [gate_h,gate_h];exact hC_back hl hq hnl v
 ·rw [gate_p _ _ _ _ _ _ hk2,gate_p _ _ _ _ _ _ hk0];exact pK_back _ v K1
theorem nz_gate {n bn:Nat} {o:GOp} (h:OkS o n bn) (hk:o.1<5) {v:KV} (hv:¬ZK (2^n) v):¬ZK (2^n) (gateK o v):=fun hz=>by
 refine hv ?_
 have:=zk_gate (o:=undoK o) (n:=n) h.p.gate.q hz
 rw [gate_undo h hk] at this
 exact this
open Classical in
noncomputable def deepK (N:Nat):List GOp→KV→List Int→List Int→List EndK→Bool×List EndK
 | [],v,bits,tape,out=>(decide ((out++[(tape,bits,v)]).length≤1024),out++[(tape,bits,v)])
 | o::l,v,bits,tape,out=>
   if condK bits o=false then deepK N l v bits tape out
   else if o.1<5 then deepK N l (gateK o v) bits tape out
   else
    let z:=if ZK N (meetK o 0 (v,bits,tape.length)).1 then (true,out) else deepK N l (meetK o 0 (v,bits,tape.length)).1 (meetK o 0 (v,bits,tape.length)).2.1 (tape++[0]) out
    if z.1=false then z
    else if ZK N (meetK o 1 (v,bits,tape.length)).1 then (true,z.2)
    else deepK N l (meetK o 1 (v,bits,tape.length)).1 (meetK o 1 (v,bits,tape.length)).2.1 (tape++[1]) z.2
def HI (out L:List EndK) (r:Bool×List EndK):Prop:=
 ((out++L).length≤1024∧r=(true,out++L))∨(1024<(out++L).length∧r=(false,(out++L).take 1025))
open Classical in
theorem HK {n bn:Nat}:∀{l:List GOp},(∀o∈l,OkS o n bn) → ∀{v:KV} {bits tape:List Int} {out:List EndK},¬ZK (2^n) v→out.length≤1024 →
 HI out (nzK (2^n) (allK l v bits tape)) (deepK (2^n) l v bits tape out)
 | [],_,v,bits,tape,out,hv,ho=>by
   simp only [allK,deepK]
   rw [nz_one (by exact hv)]
   unfold HI
   by_cases h:(out++[(tape,bits,v)]).length≤1024
   ·left
    exact ⟨h,by rw [decide_eq_true h]⟩
   ·right
    refine ⟨by omega,?_⟩
    rw [decide_eq_false h,List.take_of_length_le (by simp;omega)]
 | o::l,hall,v,bits,tape,out,hv,ho=>by
   have hk:=hall o (List.mem_cons_self ..)
   have hl:∀a∈l,OkS a n bn:=fun a ha=>hall a (List.mem_cons_of_mem _ ha)
   have hq:∀a∈l,0≤a.2.2.2.1∧a.2.2.2.1<(n:Int):=fun a ha=>(hl a ha).p.gate.q
   simp only [allK,deepK]
   by_cases hc:condK bits o=false
   ·rw [if_pos hc,if_pos hc]
    exact HK hl hv ho
   ·rw [if_neg hc,if_neg hc]
    by_cases h5:o.1<5
    ·rw [if_pos h5,if_pos h5]
     exact HK hl (nz_gate hk h5 hv) ho
    ·rw [if_neg h5,if_neg h5,nz_app]
     obtain ⟨L0,hL0⟩:∃L,nzK (2^n) (allK l (meetK o 0 (v,bits,tape.length)).1 (meetK o 0 (v,bits,tape.length)).2.1 (tape++[0]))=L:=⟨_,rfl⟩
     obtain ⟨L1,hL1⟩:∃L,nzK (2^n) (allK l (meetK o 1 (v,bits,tape.length)).1 (meetK o 1 (v,bits,tape.length)).2.1 (tape++[1]))=L:=⟨_,rfl⟩
     obtain ⟨z,hz⟩:∃z,(if ZK (2^n) (meetK o 0 (v,bits,tape.length)).1 then (true,out) else deepK (2^n) l (meetK o 0 (v,bits,tape.length)).1 (meetK o 0 (v,bits,tape.length)).2.1 (tape++[0]) out)=z:=⟨_,rfl⟩
     have h0:HI out L0 z:=by
      rw [←hz,←hL0]
      by_cases hz0:ZK (2^n) (meetK o 0 (v,bits,tape.length)).1
      ·rw [if_pos hz0,Ub hq hz0]
       left
       rw [List.append_nil]
       exact ⟨ho,rfl⟩
      ·rw [if_neg hz0]
       exact HK hl hz0 ho
     rw [hL0,hL1,hz]
     rcases h0 with ⟨a1,rfl⟩ | ⟨a1,rfl⟩
     ·rw [if_neg (by simp)]
      have h1:HI (out++L0) L1 (if ZK (2^n) (meetK o 1 (v,bits,tape.length)).1 then (true,out++L0) else deepK (2^n) l (meetK o 1 (v,bits,tape.length)).1 (meetK o 1 (v,bits,tape.length)).2.1 (tape++[1]) (out++L0)):=by
       rw [←hL1]
       by_cases hz1:ZK (2^n) (meetK o 1 (v,bits,tape.length)).1
       ·rw [if_pos hz1,Ub hq hz1]
        left
        rw [List.append_nil]
        exact ⟨a1,rfl⟩
       ·rw [if_neg hz1]
        exact HK hl hz1 a1
      unfold HI at h1 ⊢
      rw [List.append_assoc] at h1
      exact h1
     ·rw [if_pos rfl]
      right
      rw [←List.append_assoc]
      refine ⟨by rw [List.length_append];omega,?_⟩
      rw [List.take_append_of_le_length (l₁:=out++L0) (by omega)]
end Go.Ql
end

section
namespace Go.Ql
theorem onward_any {β:Type} {n bn:Nat} {ops:List GOp} {q b u:Int} {bits:List Int} (Φ:List GOp→KV→β) (hs:∀o l v,condK bits o=false→Φ (o::l) v=Φ l v) (hg:∀o l v,condK bits o=true→o.1<5→Φ (o::l) v=Φ l (gateK o v))
 (hn:n≤12) (hbn:bn<2^40) (hl:ops.length≤8000) (hops:∀o∈ops,OkS o n bn) (hb:bits.length=bn) (h01:B01 bits)
 {i:Nat} {l:List NumT} {v:KV} (hv:AmpP l (2^n) v i) (hi:i≤ops.length) :
 ∃(c:Bool) (j:Nat) (l':List NumT) (v':KV),W.jh q b ops u (i:Int) l bits=some (c,q,b,ops,u,(j:Int),l',bits,())∧AmpP l' (2^n) v' j∧i≤j∧j≤ops.length ∧
  Φ (ops.drop i) v=Φ (ops.drop j) v'∧(c=false→j=ops.length)∧(c=true → ∃h:j<ops.length,condK bits ops[j]=true ∧ ¬ops[j].1<5):=by
 obtain ⟨y,y1,y2⟩:=JF (f:=fun s:Int×Int×List GOp×Int×Int×List NumT×List Int↦W.jh.ce_ (Prod.fst s) (Prod.fst (Prod.snd s)) (Prod.fst (Prod.snd (Prod.snd s))) (Prod.fst (Prod.snd (Prod.snd (Prod.snd s)))) (Prod.fst (Prod.snd (Prod.snd (Prod.snd (Prod.snd s))))) (Prod.fst (Prod.snd (Prod.snd (Prod.snd (Prod.snd (Prod.snd s)))))) (Prod.snd (Prod.snd (Prod.snd (Prod.snd (Prod.snd (Prod.snd s)))))) some)
  (J:=fun s=>∃(j:Nat) (l':List NumT) (v':KV),s=(q,b,ops,u,(j:Int),l',bits)∧AmpP l' (2^n) v' j∧i≤j∧j≤ops.length∧Φ (ops.drop i) v=Φ (ops.drop j) v')
  (Q:=fun y=>∃(j:Nat) (l':List NumT) (v':KV),AmpP l' (2^n) v' j∧i≤j∧j≤ops.length∧Φ (ops.drop i) v=Φ (ops.drop j) v' ∧
   ((y=.inl (q,b,ops,u,(j:Int),l',bits) ∧ ∃h:j<ops.length,condK bits ops[j]=true ∧ ¬ops[j].1<5)∨(y=.inr (q,b,ops,u,(j:Int),l',bits)∧j=ops.length)))
  (fun s=>ops.length-s.2.2.2.2.1.toNat)
  (by
   rintro s ⟨j,l',v',rfl,p1,p2,p3,p4⟩
   simp only [W.jh.ce_,W.jh.c1,jc]
   by_cases hj:j<ops.length
   ·have hd:ops.drop j=ops[j]::ops.drop (j+1):=List.drop_eq_getElem_cons hj
    have hm:ops[j]∈ops:=List.getElem_mem hj
    have hk:=hops _ hm
    have hidx:idx ops (j:Int)=some ops[j]:=UA hj
    have hcond:=holds_ok (o:=ops[j]) (bits:=bits) (q:=q) (b:=b) (u:=u) (a:=(j:Int)) (ops:=ops) (l:=l') hk.p.ifs (by rw [hb];omega) (by rw [hb];exact hk.p.cond) h01
    rw [jS (by omega)]
    unfold W.jh.cP_ W.jh.c3
    rw [hidx,jc,jc,show (ops[j].1,ops[j].2.1,ops[j].2.2.1,ops[j].2.2.2.1,ops[j].2.2.2.2.1,ops[j].2.2.2.2.2)=ops[j] from rfl,hcond,jc]
    have p4':=p4
    rw [hd] at p4
    have hw:IntKind.i64.wrap ((j:Int)+1)=((j+1:Nat):Int):=by rw [jo (by omega)];omega
    by_cases hc:condK bits ops[j]=false
    ·rw [hs _ _ _ hc] at p4
     rw [hc,show (!false)=true from rfl,br_tt,jc,Yb]
     simp only
     rw [hw]
     exact .inr ⟨_,rfl,⟨j+1,l',v',rfl,p1.up,by omega,hj,p4⟩,by simp only [Int.toNat_natCast];omega⟩
    ·have hc':condK bits ops[j]=true:=by simpa using hc
     rw [hc',show (!true)=false from rfl,br_ff]
     unfold W.jh.c5
     by_cases h5:ops[j].1<5
     ·rw [hg _ _ _ hc' h5] at p4
      obtain ⟨r,r1,r2⟩:=apply_walk p1 hk.p.gate (by omega) (by omega) (by have:=hk.kind;omega) hk.ph (by have:=hk.k15;omega)
      have hlen:=p1.len
      unfold W.jh.c7
      rw [jX (beq_false_of_ne (by omega)),beq_false_of_ne (show ops[j].1≠(6:Int) by omega),jc,br_ff,show (ops[j].1,ops[j].2.1,ops[j].2.2.1,ops[j].2.2.2.1,ops[j].2.2.2.2.1,ops[j].2.2.2.2.2)=ops[j] from rfl]
      simp only
      rw [hlen,r1,jc,jc,jc,Yb]
      simp only
      rw [hw]
      exact .inr ⟨_,rfl,⟨j+1,r,_,rfl,r2,by omega,hj,p4⟩,by simp only [Int.toNat_natCast];omega⟩
     ·have h56:ops[j].1=5∨ops[j].1=6:=by have:=hk.kind;omega
      have hbr:br (ops[j].1==(5:Int)) (some true) (some (ops[j].1==(6:Int)))=some true:=by
       rcases h56 with e | e<;>rw [e]<;>rfl
      rw [hbr,jc,br_tt,jc,YJ]
      exact .inl ⟨_,rfl,j,l',v',p1,p2,p3,p4',.inl ⟨rfl,hj,hc',h5⟩⟩
   ·rw [jQ (by omega)]
    exact .inl ⟨_,rfl,j,l',v',p1,p2,p3,p4,.inr ⟨rfl,by omega⟩⟩)
  (s:=(q,b,ops,u,(i:Int),l,bits)) ⟨i,l,v,rfl,hv,Nat.le_refl _,hi,rfl⟩
 obtain ⟨j,l',v',q1,q2,q3,q4,q5⟩:=y2
 unfold W.jh
 rw [y1,jc]
 rcases q5 with ⟨rfl,q5⟩ | ⟨rfl,q5⟩
 ·refine ⟨true,j,l',v',?_,q1,q2,q3,q4,fun h=>(by cases h),fun _=>q5⟩
  rw [Yb]
 ·refine ⟨false,j,l',v',?_,q1,q2,q3,q4,fun _=>q5,fun h=>(by cases h)⟩
  rw [YJ]
open Classical in
noncomputable def txtK (k:K):List UInt8:=if h:∃t,KTxt k t then Classical.choose h else []
theorem txt_eq {k:K} {t:List UInt8} (h:KTxt k t):t=txtK k:=by
 have hx:∃t,KTxt k t:=⟨t,h⟩
 unfold txtK
 rw [dif_pos hx]
 exact KTxt.one h (Classical.choose_spec hx)
noncomputable def tK (N:Nat) (e:EndK):List Int×List Int×List UInt8:=(e.1,e.2.1,txtK (normK e.2.2 N))
theorem both_same {α:Type} (x:Option α):both x x=x:=by unfold both;rw [if_pos rfl]
theorem clone_nums (l:List NumT) (h:l.length≤8000):W.Jg (0:Int) (↑(List.length l):Int) l=some (l,l,()):=by
 unfold W.Jg
 rw [Vu]
 have hk:okIf (decide (((0:Nat)+List.length l)*(264:Nat)≤(140737488355328:Nat))&&decide ((0:Nat)+List.length l≤(140737488355328:Nat)))=some ():=jH (by rw [Bool.and_eq_true,decide_eq_true_iff,decide_eq_true_iff];omega)
 rw [hk,jc]
 cases l with
 | nil=>exact both_same _
 | cons a r=>rfl
theorem clone_ints (l:List Int) (h:l.length≤8000):W.JB (0:Int) (↑(List.length l):Int) l=some (l,l,()):=by
 unfold W.JB
 rw [Vu]
 have hk:okIf (decide (((0:Nat)+List.length l)*(8:Nat)≤(140737488355328:Nat))&&decide ((0:Nat)+List.length l≤(140737488355328:Nat)))=some ():=jH (by rw [Bool.and_eq_true,decide_eq_true_iff,decide_eq_true_iff];omega)
 rw [hk,jc]
 cases l with
 | nil=>exact both_same _
 | cons a r=>rfl
theorem copied_ok (q b:Int) (ops:List GOp) (u i:Int) (l:List NumT) (bits:List Int) (hl:l.length≤8000) (hb:bits.length≤8000):W.jR q b ops u i l bits=some (q,b,ops,u,i,l,bits,q,b,ops,u,i,l,bits,()):=by
 unfold W.jR W.jR.c2
 rw [clone_nums l hl,jc,clone_ints bits hb,jc,jc]
structure AtS (n bn:Nat) (ops:List GOp) (i:Nat) (l:List NumT) (v:KV) (bits tape:List Int) (out:List EndK):Prop where
 amp:AmpP l (2^n) v i
 le:i≤ops.length
 hb:bits.length=bn
 h01:B01 bits
 tp:tape.length≤i
 hout:out.length≤1024
open Classical in
theorem Hu (N:Nat):∀(l:List GOp) (v:KV) (bits tape:List Int) (out:List EndK),out.length≤1024→(deepK N l v bits tape out).1=true→(deepK N l v bits tape out).2.length≤1024
 | [],v,bits,tape,out,ho,h=>by
   simp only [deepK,decide_eq_true_eq] at h ⊢
   exact h
 | o::l,v,bits,tape,out,ho,h=>by
   simp only [deepK] at h ⊢
   split at h
   ·rename_i h1
    rw [if_pos h1]
    exact Hu N l _ _ _ _ ho h
   ·rename_i h1
    rw [if_neg h1]
    split at h
    ·rename_i h2
     rw [if_pos h2]
     exact Hu N l _ _ _ _ ho h
    ·rename_i h2
     rw [if_neg h2]
     obtain ⟨z,hz⟩:∃z,(if ZK N (meetK o 0 (v,bits,tape.length)).1 then (true,out) else deepK N l (meetK o 0 (v,bits,tape.length)).1 (meetK o 0 (v,bits,tape.length)).2.1 (tape++[0]) out)=z:=⟨_,rfl⟩
     have hz1:z.1=true→z.2.length≤1024:=by
      rw [←hz]
      intro h
      split at h
      ·rename_i h3;rw [if_pos h3];exact ho
      ·rename_i h3;rw [if_neg h3];exact Hu N l _ _ _ _ ho h
     rw [hz] at h ⊢
     split at h
     ·rename_i h3;rw [h3] at h;cases h
     ·rename_i h3
      rw [if_neg h3]
      have h3:z.1=true:=by simpa using h3
      split at h
      ·rename_i h4;rw [if_pos h4];exact hz1 h3
      ·rename_i h4;rw [if_neg h4];exact Hu N l _ _ _ _ (hz1 h3) h
abbrev BrT:=List Int×List Int×List UInt8
def BSpec [S:W.jg.Self] (n bn:Nat) (ops:List GOp) (m:Nat):Prop:=∀i l v bits tape out,m≤i→AtS n bn ops i l v bits tape out →
 ∃w,W.jg.self (tape,out.map (tK (2^n)),(n:Int),(bn:Int),ops,(tape.length:Int),(i:Int),l,bits,()) =
  some ((deepK (2^n) (ops.drop i) v bits tape out).1,(deepK (2^n) (ops.drop i) v bits tape out).2.map (tK (2^n)),w)
theorem zero_walk {l:List NumT} {v:KV} {n t:Nat} (hv:AmpP l (2^n) v t) (hn:n≤12) (ht:t≤4096) :
 ∃r z,W.jm (0:Int) ((List.length l:Nat):Int) l=some (r,l,())∧Num 4294967296 r (normK v (2^n)) (4*t+10+2^n) (t+t)∧W.jT r=some z∧(z=true↔ZK (2^n) v):=by
 have hN:2^n≤2^12:=Nat.pow_le_pow_right (by decide) hn
 obtain ⟨r,r1,r2⟩:=pnorm_walk hv hn ht
 obtain ⟨z,z1,z2⟩:=nzero_ok r2
 rw [←hv.len] at r1
 exact ⟨r,z,r1,r2,z1,z2.trans norm_zero⟩
theorem take_self (l:List Int):List.take (Int.toNat (↑(List.length l):Int)) l=l:=by rw [Int.toNat_natCast,List.take_length]
theorem okTape2 (l:List Int):okIf (decide ((0:Int)≤(↑(List.length l):Int))&&decide True&&decide ((↑(List.length l):Int)≤(↑(List.length l):Int)))=some ():=jH (by simp)
theorem okGrow (l:List Int) (h:l.length≤8000):okIf (decide ((List.length l+(1:Nat))*(8:Nat)≤(140737488355328:Nat))&&decide (List.length l+(1:Nat)≤(140737488355328:Nat)))=some ():=jH (by rw [Bool.and_eq_true,decide_eq_true_iff,decide_eq_true_iff];omega)
open Classical in
theorem branches_walk [W.jg.Self] {n bn:Nat} {ops:List GOp} (hn:n≤12) (hbn:bn≤12) (hl:ops.length≤4096) (hops:∀o∈ops,OkS o n bn) {i:Nat} (hyp:BSpec n bn ops (i+1))
 {l:List NumT} {v:KV} {bits tape:List Int} {out:List EndK} (h:AtS n bn ops i l v bits tape out) :
 ∃w,W.jg tape (out.map (tK (2^n))) (n:Int) (bn:Int) ops (tape.length:Int) (i:Int) l bits =
  some ((deepK (2^n) (ops.drop i) v bits tape out).1,(deepK (2^n) (ops.drop i) v bits tape out).2.map (tK (2^n)),w):=by
 have hN:2^n≤2^12:=Nat.pow_le_pow_right (by decide) hn
 obtain ⟨R,hR⟩:∃R,deepK (2^n) (ops.drop i) v bits tape out=R:=⟨_,rfl⟩
 obtain ⟨y,y1,y2⟩:=JF (f:=fun s:List Int×List BrT×Int×Int×List GOp×Int×Int×List NumT×List Int↦W.jg.ce_ (Prod.fst s) (Prod.fst (Prod.snd s)) (Prod.fst (Prod.snd (Prod.snd s))) (Prod.fst (Prod.snd (Prod.snd (Prod.snd s)))) (Prod.fst (Prod.snd (Prod.snd (Prod.snd (Prod.snd s))))) (Prod.fst (Prod.snd (Prod.snd (Prod.snd (Prod.snd (Prod.snd s)))))) (Prod.fst (Prod.snd (Prod.snd (Prod.snd (Prod.snd (Prod.snd (Prod.snd s))))))) (Prod.fst (Prod.snd (Prod.snd (Prod.snd (Prod.snd (Prod.snd (Prod.snd (Prod.snd s)))))))) (Prod.snd (Prod.snd (Prod.snd (Prod.snd (Prod.snd (Prod.snd (Prod.snd (Prod.snd s)))))))) some)
  (J:=fun s=>∃(j:Nat) (l':List NumT) (v':KV) (bits' tape':List Int) (out':List EndK),s=(tape',out'.map (tK (2^n)),(n:Int),(bn:Int),ops,(tape'.length:Int),(j:Int),l',bits')∧i≤j∧AtS n bn ops j l' v' bits' tape' out'∧deepK (2^n) (ops.drop j) v' bits' tape' out'=R)
  (Q:=fun y=>(∃tp w,y=.inl (tp,R.1,R.2.map (tK (2^n)),w)) ∨
   (∃(l':List NumT) (v':KV) (bits' tape':List Int) (out':List EndK) (u:Int),y=.inr (tape',out'.map (tK (2^n)),(n:Int),(bn:Int),ops,u,(ops.length:Int),l',bits')∧AtS n bn ops ops.length l' v' bits' tape' out'∧deepK (2^n) [] v' bits' tape' out'=R))
  (fun s=>ops.length-s.2.2.2.2.2.2.1.toNat)
  (by
   rintro s ⟨j,l0,v0,bits0,tape0,out0,rfl,hij,p1,p2⟩
   obtain ⟨c,k,l',v',o1,o2,o3,o4,o5,o6,o7⟩:=onward_any (u:=(tape0.length:Int)) (q:=(n:Int)) (b:=(bn:Int)) (fun l v=>deepK (2^n) l v bits0 tape0 out0)
    (by intro o l v hc;simp only [deepK];rw [if_pos hc]) (by intro o l v hc h5;simp only [deepK];rw [if_neg (by rw [hc];decide),if_pos h5]) hn (by omega) (by omega) hops p1.hb p1.h01 p1.amp p1.le
   rw [p2] at o5
   have hl':l'.length=2^n:=o2.len
   have htp:=p1.tp
   have hob:=p1.hb
   simp only [W.jg.ce_]
   rw [o1,jc]
   simp only
   cases c with
   | false=>
     have hk:=o6 rfl
     subst hk
     rw [List.drop_length] at o5
     rw [br_ff]
     exact .inl ⟨_,rfl,.inr ⟨l',v',bits0,tape0,out0,_,rfl,⟨o2,o4,p1.hb,p1.h01,by omega,p1.hout⟩,o5.symm⟩⟩
   | true=>
     obtain ⟨hk,hc,h5⟩:=o7 rfl
     have hm:ops[k]∈ops:=List.getElem_mem hk
     rw [List.drop_eq_getElem_cons hk] at o5
     simp only [deepK] at o5
     rw [if_neg (by rw [hc];decide),if_neg h5] at o5
     rw [br_tt,copied_ok _ _ _ _ _ _ _ (by omega) (by omega),jc]
     simp only
     obtain ⟨m,m1,m2,m3,m4⟩:=meet_walk (q:=(n:Int)) (b:=(bn:Int)) (us:=tape0.length) hn (by omega) p1.hb o2 hk (hops _ hm) h5 (.inl rfl) (by omega)
     rw [m1,jc]
     simp only
     obtain ⟨z,hz⟩:∃z,(if ZK (2^n) (meetK ops[k] 0 (v',bits0,tape0.length)).1 then (true,out0) else deepK (2^n) (ops.drop (k+1)) (meetK ops[k] 0 (v',bits0,tape0.length)).1 (meetK ops[k] 0 (v',bits0,tape0.length)).2.1 (tape0++[0]) out0)=z:=⟨_,rfl⟩
     rw [hz] at o5
     have hzl:z.1=true→z.2.length≤1024:=by
      rw [←hz]
      intro h
      split at h
      ·rename_i h3;rw [if_pos h3];exact p1.hout
      ·rename_i h3;rw [if_neg h3];exact Hu _ _ _ _ _ _ p1.hout h
     have hc4:W.jg.c4 tape0 (n:Int) (bn:Int) ops (((tape0.length+1:Nat):Nat):Int) ((k+1:Nat):Int) m (meetK ops[k] 0 (v',bits0,tape0.length)).2.1 (out0.map (tK (2^n))) some=some (!z.1,z.2.map (tK (2^n))):=by
      obtain ⟨r,zz,r1,r2,r3,r4⟩:=zero_walk m2 hn (by omega)
      unfold W.jg.c4
      rw [r1,jc]
      simp only
      rw [r3,jc]
      cases hzz:zz with
      | true=>
        rw [show (!true)=false from rfl,br_ff]
        rw [if_pos (r4.1 hzz)] at hz
        subst hz
        rfl
      | false=>
        rw [show (!false)=true from rfl,br_tt]
        rw [if_neg (fun hh=>by rw [r4.2 hh] at hzz;cases hzz)] at hz
        rw [okTape2,jc,take_self,okGrow _ (by omega),jc]
        obtain ⟨w,hw⟩:=hyp (k+1) m _ (meetK ops[k] 0 (v',bits0,tape0.length)).2.1 (tape0++[0]) out0 (by omega) ⟨m2,hk,m4,meet_01 p1.h01 (.inl rfl),by rw [List.length_append];simp only [List.length_singleton];omega,p1.hout⟩
        rw [hz,List.length_append] at hw
        simp only [List.length_singleton] at hw
        rw [hw]
        rfl
     rw [hc4,jc]
     simp only
     by_cases hz1:z.1=false
     ·rw [if_pos hz1] at o5
      subst o5
      rw [hz1,show (!false)=true from rfl,br_tt]
      exact .inl ⟨_,rfl,.inl ⟨_,_,rfl⟩⟩
     ·rw [if_neg hz1] at o5
      have hz2:z.1=true:=by simpa using hz1
      rw [hz2,show (!true)=false from rfl,br_ff]
      obtain ⟨m',n1,n2,n3,n4⟩:=meet_walk (q:=(n:Int)) (b:=(bn:Int)) (us:=tape0.length) hn (by omega) p1.hb o2 hk (hops _ hm) h5 (.inr rfl) (by omega)
      rw [n1,jc]
      simp only
      obtain ⟨r,zz,r1,r2,r3,r4⟩:=zero_walk n2 hn (by omega)
      rw [okTape2,jc,take_self,okGrow _ (by omega),jc,r1,jc]
      simp only
      rw [r3,jc]
      cases hzz:zz with
      | true=>
        rw [if_pos (r4.1 hzz)] at o5
        subst o5
        rw [br_tt]
        exact .inl ⟨_,rfl,.inl ⟨_,_,rfl⟩⟩
      | false=>
        rw [if_neg (fun hh=>by rw [r4.2 hh] at hzz;cases hzz)] at o5
        rw [br_ff]
        refine .inr ⟨_,rfl,⟨k+1,m',_,_,tape0++[1],z.2,by rw [List.length_append];rfl,by omega,⟨n2,hk,n4,meet_01 p1.h01 (.inr rfl),by rw [List.length_append];simp only [List.length_singleton];omega,hzl hz2⟩,o5.symm⟩,by simp only [Int.toNat_natCast];omega⟩)
  (s:=(tape,out.map (tK (2^n)),(n:Int),(bn:Int),ops,(tape.length:Int),(i:Int),l,bits)) ⟨i,l,v,bits,tape,out,rfl,Nat.le_refl _,h,hR⟩
 rw [hR]
 unfold W.jg
 rw [y1,jc]
 rcases y2 with ⟨tp,w,rfl⟩ | ⟨l',v',bits',tape',out',u,rfl,q1,q2⟩
 ·rw [Yb]
  exact ⟨_,rfl⟩
 ·rw [YJ]
  simp only
  obtain ⟨r,r1,r2⟩:=pnorm_walk q1.amp hn (by omega)
  obtain ⟨t,t1,t2⟩:=HB r2 (by omega) (by omega)
  have ht:=txt_eq t2
  have htp:=q1.tp
  have hou:=q1.hout
  simp only [deepK] at q2
  subst q2
  unfold W.jV W.jV.c1
  rw [q1.amp.len,jH (by rw [Bool.and_eq_true,decide_eq_true_iff,decide_eq_true_iff];omega),jc,r1,jc]
  simp only
  rw [t1,jc,jH (by rw [Bool.and_eq_true,decide_eq_true_iff,decide_eq_true_iff,List.length_map];omega),jc,jc,jc]
  have e1:List.map (tK (2^n)) out'++[(tape',bits',t)]=List.map (tK (2^n)) (out'++[(tape',bits',v')]):=by
   simp only [List.map_append,List.map_cons,List.map_nil,tK,←ht]
  rw [e1,List.length_map]
  have e2:decide (((out'++[(tape',bits',v')]).length:Int)≤(1024:Int))=decide ((out'++[(tape',bits',v')]).length≤1024):=decide_eq_decide.2 (by omega)
  rw [e2]
  exact ⟨_,rfl⟩
theorem fuel_ok {n bn:Nat} {ops:List GOp} (hn:n≤12) (hbn:bn≤12) (hl:ops.length≤4096) (hops:∀o∈ops,OkS o n bn):∀k m,ops.length<m+k → @BSpec (W.jg.fuel k) n bn ops m
 | 0,m,hm=>fun i l v bits tape out hi h=>by have:=h.le;omega
 | k+1,m,hm=>fun i l v bits tape out hi h=>by
   have ih:=fuel_ok hn hbn hl hops k (i+1) (by omega)
   exact @branches_walk (W.jg.fuel k) n bn ops hn hbn hl hops i ih l v bits tape out h
end Go.Ql
end

section
namespace Go.Ql
structure Here (ops:List GOp) (s0:SK) (p:List Int) (i:Nat) (v:KV) (bits:List Int):Prop where
 le:i≤ops.length
 tp:p.length≤i
 run:∀q l,playK (p++q) 0 (ops.take i++l) s0=playK (p++q) i l (v,bits,p.length)
theorem Here.begin (ops:List GOp) (v:KV) (bits:List Int):Here ops (v,bits,0) [] 0 v bits:=⟨Nat.zero_le _,Nat.le_refl _,fun q l=>rfl⟩
theorem take_next {ops:List GOp} {i:Nat} (h:i<ops.length) (l:List GOp):ops.take (i+1)++l=ops.take i++(ops[i]::l):=by
 rw [List.take_succ_eq_append_getElem h,List.append_assoc];rfl
theorem Here.skip {ops:List GOp} {s0:SK} {p:List Int} {i:Nat} {v:KV} {bits:List Int} (h:Here ops s0 p i v bits) (hi:i<ops.length) (hc:condK bits ops[i]=false):Here ops s0 p (i+1) v bits:=
 ⟨hi,Nat.le_succ_of_le h.tp,fun q l=>by rw [take_next hi,h.run];simp only [playK];rw [if_pos hc]⟩
theorem Here.gate {ops:List GOp} {s0:SK} {p:List Int} {i:Nat} {v:KV} {bits:List Int} (h:Here ops s0 p i v bits) (hi:i<ops.length) (hc:¬condK bits ops[i]=false) (h5:ops[i].1<5):Here ops s0 p (i+1) (gateK ops[i] v) bits:=
 ⟨hi,Nat.le_succ_of_le h.tp,fun q l=>by rw [take_next hi,h.run];simp only [playK];rw [if_neg hc,if_pos h5]⟩
theorem Here.meet {ops:List GOp} {s0:SK} {p:List Int} {i:Nat} {v:KV} {bits:List Int} (h:Here ops s0 p i v bits) (hi:i<ops.length) (hc:¬condK bits ops[i]=false) (h5:¬ops[i].1<5) {x:Int} (hx:x=0∨x=1) :
 Here ops s0 (p++[x]) (i+1) (meetK ops[i] x (v,bits,p.length)).1 (meetK ops[i] x (v,bits,p.length)).2.1:=
 ⟨hi,by rw [List.length_append];exact Nat.succ_le_succ h.tp,fun q l=>by
  rw [take_next hi,List.append_assoc,h.run]
  simp only [playK]
  have e:(p++([x]++q)).getD p.length 0=x:=by simp
  rw [if_neg hc,if_neg h5,if_neg (by simp),e,if_neg (by omega),List.length_append]
  rfl⟩
theorem Here.end_ {ops:List GOp} {s0:SK} {p:List Int} {v:KV} {bits:List Int} (h:Here ops s0 p ops.length v bits):playK p 0 ops s0=.inr (v,bits,p.length):=by
 have:=h.run [] []
 rw [List.append_nil,List.append_nil,List.take_length] at this
 rw [this];rfl
abbrev ChR:=(Int×Int×List BrT)⊕((List Int×Int×Int×List BrT)⊕(List Int×Int×Int×List BrT))
def finC:ChR→List BrT×Int×Int
 | .inl u=>(u.2.2,u.1,u.2.1)
 | .inr (.inl u)=>([],u.2.1,u.2.2.1)
 | .inr (.inr u)=>(u.2.2.2,u.2.1,u.2.2.1)
noncomputable def stepC (i0:Nat) (n bn:Nat) (ops:List GOp):List Int×List BrT→Option ((List Int×List BrT)⊕ChR):=fun s↦W.jE.ca_ (i0:Int) (Prod.fst s) (n:Int) (bn:Int) ops (Prod.snd s) some
def FinC (i0:Nat) (n bn:Nat) (ops:List GOp) (s:List Int×List BrT) (r:List BrT×Int×Int):Prop:=∃y,iter (stepC i0 n bn ops) s=some y∧finC y=r
theorem FinC.go {i0 n bn:Nat} {ops:List GOp} {s s':List Int×List BrT} {r:List BrT×Int×Int} (h:stepC i0 n bn ops s=some (.inl s')) (g:FinC i0 n bn ops s' r):FinC i0 n bn ops s r:=
 g.imp fun y hy=>⟨Hx h hy.1,hy.2⟩
structure CirOk (n bn:Nat) (ops:List GOp):Prop where
 hn:n≤12
 hn1:1≤n
 hb:bn≤12
 hl:ops.length≤4096
 hw:∀o∈ops,WOp o
 hg:∀o∈ops,opBad o (n:Int) (bn:Int)=0
theorem CirOk.oks {n bn:Nat} {ops:List GOp} (h:CirOk n bn ops):∀o∈ops,OkS o n bn:=fun o ho=>oks_good (goodOp_of (h.hg o ho)) (h.hw o ho) h.hn
theorem CirOk.take {n bn:Nat} {ops:List GOp} (h:CirOk n bn ops) (i:Nat):CirOk n bn (ops.take i):=
 ⟨h.hn,h.hn1,h.hb,by have:=h.hl;rw [List.length_take];omega,fun o ho=>h.hw o (List.mem_of_mem_take ho),fun o ho=>h.hg o (List.mem_of_mem_take ho)⟩
theorem CirOk.wcir {n bn:Nat} {ops:List GOp} (h:CirOk n bn ops):WCir ((n:Int),(bn:Int),ops):=⟨by have:=h.hl;show ops.length≤_;omega,h.hw⟩
theorem CirOk.chk {n bn:Nat} {ops:List GOp} (h:CirOk n bn ops):Ql.chk ((n:Int),(bn:Int),ops)=(0,0):=
 GoodC.chk ⟨⟨by have:=h.hn1;show (1:Int)≤(n:Int);omega,by have:=h.hn;show (n:Int)≤12;omega⟩,⟨by show (0:Int)≤(bn:Int);omega,by have:=h.hb;show (bn:Int)≤12;omega⟩,h.hl,h.hg⟩
end Go.Ql
end

section
namespace Go.Ql
theorem HJ:∀(l:List GOp) (v:KV) (bits tape:List Int),∀e∈allK l v bits tape,e.1.length≤tape.length+l.length∧e.2.1.length=bits.length
 | [],v,bits,tape,e,he=>by
   simp only [allK,List.mem_singleton] at he
   subst he
   exact ⟨by simp,rfl⟩
 | o::l,v,bits,tape,e,he=>by
   simp only [allK] at he
   split at he
   ·have:=HJ l _ _ _ e he
    exact ⟨by have:=this.1;simp only [List.length_cons];omega,this.2⟩
   ·split at he
    ·have:=HJ l _ _ _ e he
     exact ⟨by have:=this.1;simp only [List.length_cons];omega,this.2⟩
    ·have hm:∀x,(meetK o x (v,bits,tape.length)).2.1.length=bits.length:=by
      intro x
      unfold meetK
      simp only
      split
      ·rw [List.length_set]
      ·rfl
     rcases List.mem_append.1 he with he | he
     ·have:=HJ l _ _ _ e he
      rw [hm,List.length_append] at this
      exact ⟨by have:=this.1;simp only [List.length_cons,List.length_singleton,List.length_nil] at *;omega,this.2⟩
     ·have:=HJ l _ _ _ e he
      rw [hm,List.length_append] at this
      exact ⟨by have:=this.1;simp only [List.length_cons,List.length_singleton,List.length_nil] at *;omega,this.2⟩
theorem basis_some {n i0:Nat} (h:i0<2^n):¬ZK (2^n) (kK i0):=fun hz=>by
 have:=hz i0 h
 unfold kK at this
 rw [if_pos rfl] at this
 exact absurd (congrArg K.c0 this) (by decide)
end Go.Ql
end

section
section
namespace Go.Ql
theorem hasPrefix1 (s:List UInt8) (c:UInt8):W.JM s [c]=some (s.head? == some c):=by
 unfold W.JM W.stringslite_HasPrefix W.stringslite_HasPrefix.c1
 cases s with
 | nil=>rfl
 | cons d l=>
   rw [jS (by simp;omega),jH (by simp;omega),jc,jc,jc]
   simp
end Go.Ql
end
section
namespace Go.Ql
theorem chunk_ok (ch:List UInt8) (h:kG ch) (hl:ch.length≤9) :
 ∃r:Int×Int×Int,Go.Ql.iter (fun s:Int×Int×Int↦W.whole_digits.ch_ (Prod.fst s) (Prod.fst (Prod.snd s)) (List.map (fun b↦(↑(UInt8.toNat b):Int)) ch) (↑(List.length (List.map (fun b↦(↑(UInt8.toNat b):Int)) ch)):Int) (Prod.snd (Prod.snd s)) Option.some) ((0:Int),(1:Int),(0:Int))=some r∧r.1=dec ch∧r.2.1=10^ch.length:=
 JF
  (f:=fun s:Int×Int×Int↦W.whole_digits.ch_ (Prod.fst s) (Prod.fst (Prod.snd s)) (List.map (fun b↦(↑(UInt8.toNat b):Int)) ch) (↑(List.length (List.map (fun b↦(↑(UInt8.toNat b):Int)) ch)):Int) (Prod.snd (Prod.snd s)) Option.some)
  (J:=fun s=>∃k:Nat,s.2.2=k∧k≤ch.length∧s.1=dec (ch.take k)∧s.2.1=10^k)
  (Q:=fun r=>r.1=dec ch∧r.2.1=10^ch.length)
  (fun s=>ch.length-s.2.2.toNat) (fun ⟨p,q,k'⟩ ⟨k,hk,hkl,hp,hq⟩=>by
   simp only at hk hp hq ⊢
   subst hk
   simp only [W.whole_digits.ch_]
   by_cases h0:k<ch.length
   ·have hd:=dg_of (h _ (List.getElem_mem h0))
    have hb:=Vy (l:=ch.take k) (fun c hc=>h c (List.mem_of_mem_take hc))
    have hlen:(ch.take k).length=k:=by rw [List.length_take];omega
    rw [hlen] at hb
    have h8:(10:Int)^k≤10^8:=Vx (by decide) (by omega)
    have h9:(0:Int)<10^k:=Int.pow_pos (by decide)
    rw [←hp] at hb
    rw [←hq] at h8 h9 hb
    have e1:(List.map (fun b↦(↑(UInt8.toNat b):Int)) ch).getD k 0=(ch[k].toNat:Int):=by simp [List.getD,h0]
    unfold dg at hd
    refine Or.inr ⟨(_,_,_),by rw [jS (by simp;omega),JQ k rfl (by simpa using h0),jc,e1,show IntKind.u8.wrap ((ch[k].toNat:Int)-48)=(ch[k].toNat:Int)-48 from IntWalk.u8_in _ (by omega),ka (x:=(ch[k].toNat:Int)-48) (by omega),ka (x:=p*10) (by omega),ka (x:=q*10) (by omega),ka (by omega),jo (by omega)],⟨k+1,by simp,by omega,?_,?_⟩,by show ch.length-((k:Int)+1).toNat<ch.length-(k:Int).toNat;omega⟩
    ·simp only
     rw [take_snoc h0,dec_snoc,hp];rfl
    ·simp only
     rw [hq,Int.pow_succ]
   ·have e:k=ch.length:=by omega
    subst e
    rw [List.take_length] at hp
    exact Or.inl ⟨(_,_,_),by rw [jQ (by simp)],hp,hq⟩)
  (s:=((0:Int),(1:Int),(0:Int))) ⟨0,rfl,by omega,by simp [dec],by simp⟩
end Go.Ql
end
section
namespace Go.Ql
theorem scale_ok (m0:List Int) (p0 q:Int) (hm:Dig 4294967296 m0) (hp:0≤p0∧p0≤1000000000) (hq:0≤q∧q≤1000000000) (hL:m0.length<1000000000) :
 ∃r:Int×Int×List Int,Go.Ql.iter (fun s:Int×Int×List Int↦W.whole_digits.co_ (Prod.fst s) q (↑(List.length m0):Int) (Prod.fst (Prod.snd s)) (Prod.snd (Prod.snd s)) Option.some) (p0,(0:Int),m0)=some r ∧
  (0≤r.1∧r.1≤1000000000)∧r.2.2.length=m0.length∧Dig 4294967296 r.2.2∧val 4294967296 r.2.2+r.1*4294967296^m0.length=p0+q*val 4294967296 m0:=
 JF
  (f:=fun s:Int×Int×List Int↦W.whole_digits.co_ (Prod.fst s) q (↑(List.length m0):Int) (Prod.fst (Prod.snd s)) (Prod.snd (Prod.snd s)) Option.some)
  (J:=fun s=>(0≤s.1∧s.1≤1000000000) ∧ ∃j:Nat,s.2.1=j∧j≤m0.length∧s.2.2.length=m0.length∧Dig 4294967296 s.2.2∧(∀k,j≤k→s.2.2.getD k 0=m0.getD k 0)∧val 4294967296 s.2.2+s.1*4294967296^j=p0+val 4294967296 m0+(q-1)*val 4294967296 (m0.take j))
  (Q:=fun r=>(0≤r.1∧r.1≤1000000000)∧r.2.2.length=m0.length∧Dig 4294967296 r.2.2∧val 4294967296 r.2.2+r.1*4294967296^m0.length=p0+q*val 4294967296 m0)
  (fun s=>m0.length-s.2.1.toNat) (fun ⟨c,j',t⟩ ⟨hc,j,hj,hjl,ht,hd,hz,hv⟩=>by
   simp only at hc hj ht hd hz hv ⊢
   subst hj
   simp only [W.whole_digits.co_]
   by_cases h0:j<m0.length
   ·have dx:=hm.getD (by decide) j
    have hxq:0≤m0.getD j 0*q∧m0.getD j 0*q≤4294967295*1000000000:=
     ⟨Int.mul_nonneg dx.1 hq.1,Int.le_trans (Int.mul_le_mul_of_nonneg_right (by omega:m0.getD j 0≤4294967295) hq.1) (Int.mul_le_mul_of_nonneg_left hq.2 (by decide))⟩
    have hw:IntKind.i64.wrap ((j:Int)+1)=((j+1:Nat):Int):=by rw [jo (by omega)];omega
    have e1:IntKind.u64.wrap (c+IntKind.u64.wrap (IntKind.u64.wrap (m0.getD j 0)*q))=c+m0.getD j 0*q:=by
     rw [ka (x:=m0.getD j 0) (by omega),ka (x:=m0.getD j 0*q) (by omega),ka (by omega)]
    refine Or.inr ⟨(_,_,_),by rw [jS (by omega),Ym (by omega) (by omega),jc,JQ j rfl (by omega),jc,jc,jc,hz j (Nat.le_refl _),e1,hw,Int.toNat_natCast,kW,Int.fdiv_eq_ediv_of_nonneg _ (by decide),show ((2:Int)^(32:Nat))=4294967296 from by decide],⟨?_,j+1,rfl,by omega,by simpa using ht,?_,?_,?_⟩,by show m0.length-((j+1:Nat):Int).toNat<m0.length-(j:Int).toNat;omega⟩
    ·simp only;omega
    ·exact hd.set (by omega) _
    ·intro k hk
     simp only
     rw [Yl (by omega),if_neg (by omega)]
     exact hz k (by omega)
    ·have v2:=Jw 4294967296 j m0
     have v3:=VM 4294967296 ((c+m0.getD j 0*q) % 4294967296) j t (by omega)
     have v4:=hz j (Nat.le_refl _)
     have v5:c+m0.getD j 0*q=(c+m0.getD j 0*q) % 4294967296+4294967296*((c+m0.getD j 0*q) / 4294967296):=(Int.emod_add_mul_ediv _ _).symm
     simp only [Int.pow_succ]
     rw [v2,v3,v4]
     generalize (4294967296:Int)^j=P at *
     generalize (c+m0.getD j 0*q) % 4294967296=r at *
     generalize (c+m0.getD j 0*q) / 4294967296=w at *
     generalize m0.getD j 0=x at *
     grind
   ·have e:j=m0.length:=by omega
    subst e
    refine Or.inl ⟨(_,_,_),by rw [jQ (by omega)],hc,ht,hd,?_⟩
    rw [List.take_length] at hv
    simp only
    grind)
  (s:=(p0,(0:Int),m0)) ⟨hp,0,rfl,by omega,rfl,hm,fun _ _=>rfl,by simp [val];omega⟩
theorem digits_ok (ds:List UInt8) (h:kG ds) (hl:ds.length≤1000) :
 ∃t,W.whole_digits ds=some t∧Dig 4294967296 t∧t.length≤ds.length∧val 4294967296 t=dec ds:=by
 obtain ⟨⟨rest,t⟩,h1,hd,ht,hv⟩:=JF
  (f:=fun s:List UInt8×List Int↦W.whole_digits.cb_ (Prod.fst s) (Prod.snd s) Option.some)
  (J:=fun s=>∃k:Nat,k≤ds.length∧s.1=ds.drop k∧s.2.length≤k∧Dig 4294967296 s.2∧val 4294967296 s.2=dec (ds.take k))
  (Q:=fun r=>Dig 4294967296 r.2∧r.2.length≤ds.length∧val 4294967296 r.2=dec ds)
  (fun s=>s.1.length) (fun ⟨text,m⟩ ⟨k,hk,htx,hml,hd,hv⟩=>by
   simp only at htx hml hd hv ⊢
   have hlen:text.length=ds.length-k:=by rw [htx,List.length_drop]
   have hdt:kG text:=fun c hc=>h c (by rw [htx] at hc;exact List.mem_of_mem_drop hc)
   simp only [W.whole_digits.cb_]
   by_cases h0:text.length=0
   ·refine Or.inl ⟨(_,_),by rw [jQ (by omega)],hd,by simp only;omega,?_⟩
    simp only
    rw [hv,List.take_of_length_le (by omega)]
   ·obtain ⟨n,hn⟩:∃n:Nat,n=(text.length-1) % 9+1:=⟨_,rfl⟩
    have en:IntKind.i64.wrap (Int.tmod (IntKind.i64.wrap ((text.length:Int)-1)) 9+1)=(n:Int):=by
     rw [jo (x:=(text.length:Int)-1) (by omega),Hd (by omega),jo (by omega)];omega
    have hn1:1≤n∧n≤9∧n≤text.length:=by omega
    rw [jS (by omega),en,Int.toNat_natCast,Int.toNat_natCast,List.take_length]
    obtain ⟨⟨p,q,j⟩,h2,h3,h4⟩:=chunk_ok (text.take n) (fun c hc=>hdt c (List.mem_of_mem_take hc)) (by rw [List.length_take];omega)
    simp only at h3 h4
    have hcl:(text.take n).length=n:=by rw [List.length_take];omega
    have hb:=Vy (l:=text.take n) (fun c hc=>hdt c (List.mem_of_mem_take hc))
    rw [hcl] at hb h4
    have h9:(10:Int)^n≤10^9:=Vx (by decide) (by omega)
    have h10:(0:Int)<10^n:=Int.pow_pos (by decide)
    have h11:(10:Int)^9=1000000000:=by decide
    obtain ⟨⟨p',j',m'⟩,h5,h6,h7,h8,hv'⟩:=scale_ok m p q hd (by omega) (by omega) (by omega)
    simp only at h6 h7 h8 hv'
    rw [jH (by simp;omega),jc,jH (by simp;omega),jc,h2,jc,jH (by simp;omega),jc]
    simp only
    rw [h5,jc]
    have hdec:dec (ds.take (k+n))=dec (ds.take k)*10^n+dec (text.take n):=by
     rw [List.take_add,dec_append,htx,List.length_take,List.length_drop,Nat.min_eq_left (by omega)]
    have hdrop:text.drop n=ds.drop (k+n):=by rw [htx,List.drop_drop]
    rw [hdrop]
    by_cases hp:p'>0
    ·refine Or.inr ⟨(_,_),by rw [jS hp,jH (by simp;omega),jc,He (by omega)],⟨k+n,by omega,rfl,by simp;omega,h8.append (Dig.cons (by omega) Dig.nil),?_⟩,by simp only [List.length_drop];omega⟩
     simp only
     rw [val_snoc,hdec,←h3,←h4,←hv,h7]
     grind
    ·refine Or.inr ⟨(_,_),by rw [jQ hp],⟨k+n,by omega,rfl,by simp only;omega,h8,?_⟩,by simp only [List.length_drop];omega⟩
     have:p'=0:=by omega
     subst this
     simp only
     rw [hdec,←h3,←h4,←hv]
     grind)
  (s:=(ds,[])) ⟨0,by omega,rfl,by simp,Dig.nil,by simp [val,dec]⟩
 unfold W.whole_digits
 rw [h1]
 exact ⟨t,rfl,hd,ht,hv⟩
end Go.Ql
end
section
namespace Go.Ql
theorem trim_ok (text:List UInt8) (hL:text.length≤9223372036854775807):W.JG text [45]=some (if text.head?=some 45 then text.drop 1 else text):=by
 unfold W.JG W.stringslite_TrimPrefix
 have h1:=hasPrefix1 text 45
 unfold W.JM at h1
 have h2:W.stringslite_HasPrefix text [45]=some (text.head? == some 45):=by
  revert h1
  cases W.stringslite_HasPrefix text [45] with
  | none=>intro h;cases h
  | some y=>intro h;exact h
 rw [h2,jc]
 by_cases h:text.head?=some 45
 ·rw [if_pos h,JD (beq_iff_eq.2 h)]
  have h3:1≤text.length:=by cases text with | nil=>simp at h | cons=>simp
  rw [jH (by simp;omega),jc,jc]
  simp
 ·rw [if_neg h,jX (beq_false_of_ne h),jc]
end Go.Ql
end
section
namespace Go.Ql
section
variable {W V P top v2 vl head x0 wl:Int}
structure Place (W V P top v2 vl head x0 wl:Int):Prop where
 P0:0<P
 hV:V=(top*4294967296+v2)*P+vl
 hW:W=(head*4294967296+x0)*P+wl
 top0:2147483648≤top
 top1:top<4294967296
 v20:0≤v2
 v21:v2<4294967296
 vl0:0≤vl
 vl1:vl<P
 head0:0≤head
 x00:0≤x0
 x01:x0<4294967296
 wl0:0≤wl
 wl1:wl<P
 hlt:W<V*4294967296
theorem Place.Vpos (h:Place W V P top v2 vl head x0 wl):0<V:=by
 have h1:1*P≤(top*4294967296+v2)*P:=Int.mul_le_mul_of_nonneg_right (by have:=h.top0;have:=h.v20;omega) (by have:=h.P0;omega)
 have:=h.hV;have:=h.P0;have:=h.vl0
 omega
theorem lt_of_mul {a b P:Int} (hP:0<P) (h:a*P<b*P):a<b:=Int.lt_of_mul_lt_mul_right h (Int.le_of_lt hP)
theorem Place.first (h:Place W V P top v2 vl head x0 wl):W / V≤head / top:=by
 have hVp:=h.Vpos
 obtain ⟨P0,hV,hW,top0,top1,v20,v21,vl0,vl1,head0,x00,x01,wl0,wl1,hlt⟩:=h
 have h0:0≤W:=by rw [hW];have:=Int.mul_nonneg (show 0≤head*4294967296+x0 by omega) (Int.le_of_lt P0);omega
 have hq:0≤W / V:=Int.ediv_nonneg h0 (by omega)
 have hqV:=Int.ediv_mul_le W (show V≠0 by omega)
 generalize W / V=q at *
 apply Int.le_ediv_of_mul_le (by omega)
 have h1:q*((top*4294967296)*P)≤q*V:=Int.mul_le_mul_of_nonneg_left (by rw [hV,Int.add_mul];have:=Int.mul_nonneg v20 (Int.le_of_lt P0);omega) hq
 have h2:W<(head*4294967296+x0+1)*P:=by rw [hW,Int.add_mul _ 1];omega
 have h3:(q*top*4294967296)*P<(head*4294967296+x0+1)*P:=by
  have e:q*((top*4294967296)*P)=(q*top*4294967296)*P:=by grind
  omega
 have h4:=lt_of_mul P0 h3
 omega
theorem Place.less (h:Place W V P top v2 vl head x0 wl) {g rest:Int} (hg:0≤g) (hr:g*top+rest=head) (hc:rest*4294967296+x0<g*v2):W / V≤g-1:=by
 have hVp:=h.Vpos
 obtain ⟨P0,hV,hW,top0,top1,v20,v21,vl0,vl1,head0,x00,x01,wl0,wl1,hlt⟩:=h
 have h1:(head*4294967296+x0+1)*P≤(g*(top*4294967296+v2))*P:=by
  apply Int.mul_le_mul_of_nonneg_right _ (Int.le_of_lt P0)
  rw [←hr,Int.mul_add]
  have:g*(top*4294967296)=g*top*4294967296:=by grind
  omega
 have h2:W<(head*4294967296+x0+1)*P:=by rw [hW,Int.add_mul _ 1];omega
 have h3:g*V=(g*(top*4294967296+v2))*P+g*vl:=by rw [hV];grind
 have h5:=Int.mul_nonneg hg vl0
 have h4:W / V<g:=Int.ediv_lt_of_lt_mul hVp (by omega)
 omega
theorem Place.last (h:Place W V P top v2 vl head x0 wl) {g rest:Int} (hg:0≤g) (hg1:g<4294967296) (hr:g*top+rest=head) (hc:g*v2≤rest*4294967296+x0):g≤W / V+1:=by
 have hVp:=h.Vpos
 obtain ⟨P0,hV,hW,top0,top1,v20,v21,vl0,vl1,head0,x00,x01,wl0,wl1,hlt⟩:=h
 have h1:(g*(top*4294967296+v2))*P≤(head*4294967296+x0)*P:=by
  apply Int.mul_le_mul_of_nonneg_right _ (Int.le_of_lt P0)
  rw [←hr,Int.mul_add]
  have:g*(top*4294967296)=g*top*4294967296:=by grind
  omega
 have h2:g*vl≤4294967295*P:=Int.mul_le_mul (by omega) (by omega) vl0 (by omega)
 have h3:(2147483648*4294967296)*P≤(top*4294967296+v2)*P:=Int.mul_le_mul_of_nonneg_right (by omega) (by omega)
 have h4:g*V=(g*(top*4294967296+v2))*P+g*vl:=by rw [hV];grind
 have h5:(g-1)*V≤W:=by
  rw [Int.sub_mul];omega
 have:=Int.le_ediv_of_mul_le hVp h5
 omega
end
end Go.Ql
end
section
namespace Go.Ql
def Yg (sg:Bool) (text:List UInt8):Nat×Bool:=
 let i:=if sg&&(text.head? == some 45) then 1 else 0
 if (text.drop i).head? == some 48 then (if sg&&i==0 then (1,true) else (i,false))
 else (i+((text.drop i).takeWhile JT).length,decide (0<((text.drop i).takeWhile JT).length))
theorem tw_le (p:UInt8→Bool) (l:List UInt8):(l.takeWhile p).length≤l.length:=(List.takeWhile_sublist p).length_le
theorem takeWhile_all {p:UInt8→Bool} {l:List UInt8} (h:∀c∈l,p c=true):l.takeWhile p=l:=by
 induction l with
 | nil=>rfl
 | cons c l ih=>
   rw [List.takeWhile_cons_of_pos (h c (List.mem_cons_self ..)),ih fun x hx=>h x (List.mem_cons_of_mem _ hx)]
theorem Canon.whole {text:List UInt8} (h:Canon text):Yg true text=(text.length,true):=by
 rcases h with rfl | ⟨neg,ds,h1,h2,h3,rfl⟩
 ·rfl
 ·unfold Yg
  have hd:=takeWhile_all h2
  have hl:0<ds.length:=by cases ds with | nil=>exact absurd rfl h1 | cons=>simp
  cases neg
  ·have:ds.head? ≠ some 45:=Vo h2
   simp [beq_false_of_ne this,beq_false_of_ne h3,hd,h1]
   omega
  ·simp [beq_false_of_ne h3,hd,h1]
   omega
theorem Txt.canon {v:Int} {l:List UInt8} (h:Txt v l):Canon l:=by
 rcases h with ⟨_,rfl⟩ | ⟨h0,D,⟨d1,d2,d3,d4⟩,rfl⟩
 ·exact Or.inl rfl
 ·by_cases hv:v<0
  ·exact Or.inr ⟨true,D,d2,d1,d3,by simp [hv]⟩
  ·exact Or.inr ⟨false,D,d2,d1,d3,by simp [hv]⟩
theorem Txt.inj {u v:Int} {l:List UInt8} (h:Txt u l) (k:Txt v l):u=v:=by
 rcases h with ⟨h0,rfl⟩ | ⟨h0,D,⟨d1,d2,d3,d4⟩,rfl⟩
 ·rcases k with ⟨k0,_⟩ | ⟨k0,E,⟨e1,e2,e3,e4⟩,h⟩
  ·omega
  ·exfalso
   split at h
   ·cases h
   ·simp only [List.nil_append] at h
    rw [←h] at e3
    simp at e3
 ·rcases k with ⟨k0,h⟩ | ⟨k0,E,⟨e1,e2,e3,e4⟩,h⟩
  ·exfalso
   split at h
   ·cases h
   ·simp only [List.nil_append] at h
    rw [h] at d3
    simp at d3
  ·by_cases hu:u<0<;>by_cases hv:v<0
   ·simp [hu,hv] at h
    rw [h] at d4;omega
   ·exfalso
    simp only [hu,hv,if_true,if_false,List.nil_append,List.cons_append] at h
    have:=Vo e1
    rw [←h] at this;simp at this
   ·exfalso
    simp only [hu,hv,if_true,if_false,List.nil_append,List.cons_append] at h
    have:=Vo d1
    rw [h] at this;simp at this
   ·simp [hu,hv] at h
    rw [h] at d4;omega
theorem IsDec.len {D:List UInt8} {v:Int} {n:Nat} (h:IsDec D v) (hv:v<10^n):D.length≤n:=by
 obtain ⟨d1,d2,d3,d4⟩:=h
 have:=HY d1 d2 d3
 rcases Nat.lt_or_ge n D.length with hc | hc
 ·have:(10:Int)^n≤10^(D.length-1):=Vx (by decide) (by omega)
  omega
 ·exact hc
end Go.Ql
end
section
set_option maxRecDepth 100000
namespace Go.Ql
theorem itoa_chars {n:Int}:∀c∈Go.Lib.itoa n,JT c=true∨c=45:=by
 intro c hc
 rcases Vt n with ⟨_,e⟩ | ⟨_,D,hd,e⟩
 ·rw [e] at hc;rw [List.mem_singleton.1 hc];exact .inl rfl
 ·rw [e,List.mem_append] at hc
  rcases hc with hc | hc
  ·split at hc
   ·rw [List.mem_singleton.1 hc];exact .inr rfl
   ·cases hc
  ·exact .inl (hd.1 c hc)
theorem UC (n:Int) {c:UInt8} (h:c=44∨c=47):c∉Go.Lib.itoa n:=by
 intro hc
 have:=itoa_chars c hc
 rcases h with rfl | rfl
 ·revert this;decide
 ·revert this;decide
theorem itoa_inj {n m:Int} (h:Go.Lib.itoa n=Go.Lib.itoa m):n=m:=by
 have d48:dec [48]=0:=by decide
 have key:∀{l:List UInt8} {v:Int},Txt v l→v=(if l.head?=some 45 then-dec l.tail else dec l):=by
  intro l v ht
  rcases ht with ⟨h1,h2⟩ | ⟨h1,D,hd,h2⟩
  ·rw [h1,h2];rfl
  ·by_cases hv:v<0
   ·rw [if_pos hv] at h2
    rw [h2]
    simp only [List.singleton_append,List.head?_cons,List.tail_cons,if_true]
    rw [hd.2.2.2]
    omega
   ·rw [if_neg hv,List.nil_append] at h2
    rw [h2]
    have hh:D.head? ≠ some 45:=by
     intro e
     cases D with
     | nil=>cases e
     | cons c r=>
       simp only [List.head?_cons,Option.some.injEq] at e
       have:=hd.1 c (by simp)
       rw [e] at this
       revert this;decide
    rw [if_neg hh,hd.2.2.2]
    omega
 have h1:=key (Vt n)
 have h2:=key (Vt m)
 rw [h] at h1
 exact h1.trans h2.symm
theorem last_split {c:UInt8} {A B X Y:List UInt8} (hX:c∉X) (hY:c∉Y) (h:A++c::X=B++c::Y):A=B∧X=Y:=by
 rcases List.append_eq_append_iff.1 h with ⟨xs,h1,h2⟩ | ⟨bs,h1,h2⟩
 ·cases xs with
  | nil=>simp at h1 h2;exact ⟨h1.symm,h2⟩
  | cons d r=>
    simp only [List.cons_append,List.cons.injEq] at h2
    exact absurd (by rw [h2.2];simp) hX
 ·cases bs with
  | nil=>simp at h1 h2;exact ⟨h1,h2.symm⟩
  | cons d r=>
    simp only [List.cons_append,List.cons.injEq] at h2
    exact absurd (by rw [h2.2];simp) hY
theorem bodyT_inj {v w:Nat→Int}:∀n m,bodyT v n=bodyT w m→n=m ∧ ∀i,i≤n→v i=w i
 | 0,0,h=>⟨rfl,fun i hi=>by rw [show i=0 by omega];exact itoa_inj h⟩
 | 0,m+1,h=>by
   simp only [bodyT] at h
   exact absurd (by rw [h];simp) (UC (v 0) (c:=44) (.inl rfl))
 | n+1,0,h=>by
   simp only [bodyT] at h
   exact absurd (by rw [←h];simp) (UC (w 0) (c:=44) (.inl rfl))
 | n+1,m+1,h=>by
   simp only [bodyT] at h
   obtain ⟨h1,h2⟩:=last_split (UC _ (.inl rfl)) (UC _ (.inl rfl)) h
   obtain ⟨e,h3⟩:=bodyT_inj n m h1
   subst e
   refine ⟨rfl,fun i hi=>?_⟩
   by_cases e:i=n+1
   ·rw [e];exact itoa_inj h2
   ·exact h3 i (by omega)
theorem bodyT_no {v:Nat→Int}:∀n,(47:UInt8)∉bodyT v n
 | 0=>UC _ (.inr rfl)
 | n+1=>by
   simp only [bodyT,List.mem_append,List.mem_cons,not_or]
   exact ⟨bodyT_no n,by decide,UC _ (.inr rfl)⟩
theorem Uk {v:Nat→Int}:∀n i,JY v n<i→i<n→v i=0
 | 0,i,_,h=>by omega
 | n+1,i,h1,h2=>by
   unfold JY at h1
   split at h1
   ·omega
   ·rename_i h0
    by_cases e:i=n
    ·rw [e];simpa using h0
    ·exact Uk n i h1 (by omega)
theorem ntext_inj {v w:Nat→Int} {e f:Nat} (h:ntext v e=ntext w f):e=f ∧ ∀i,i<8→v i=w i:=by
 have key:bodyT v (JY v 8)=bodyT w (JY w 8)∧e=f:=by
  unfold ntext at h
  by_cases he:e=0<;>by_cases hf:f=0
  ·rw [if_pos he,if_pos hf,List.append_nil,List.append_nil] at h
   exact ⟨h,by omega⟩
  ·rw [if_pos he,if_neg hf,List.append_nil] at h
   exact absurd (by rw [h];simp) (bodyT_no (v:=v) (JY v 8))
  ·rw [if_neg he,if_pos hf,List.append_nil] at h
   exact absurd (by rw [←h];simp) (bodyT_no (v:=w) (JY w 8))
  ·rw [if_neg he,if_neg hf] at h
   obtain ⟨h1,h2⟩:=last_split (UC _ (.inr rfl)) (UC _ (.inr rfl)) h
   have:=itoa_inj h2
   exact ⟨h1,by omega⟩
 obtain ⟨h1,h2⟩:=key
 obtain ⟨h3,h4⟩:=bodyT_inj _ _ h1
 refine ⟨h2,fun i hi=>?_⟩
 by_cases hl:i≤JY v 8
 ·exact h4 i hl
 ·rw [Uk (v:=v) 8 i (by omega) hi,Uk (v:=w) 8 i (by omega) hi]
theorem KTxt.inj {k l:K} {t:List UInt8} (h:KTxt k t) (g:KTxt l t):k=l:=by
 obtain ⟨v,e,_,h2,h3⟩:=h
 obtain ⟨w,f,_,g2,g3⟩:=g
 obtain ⟨rfl,hv⟩:=ntext_inj (h3.symm.trans g3)
 rw [←h2,←g2]
 exact Uu hv
theorem text_len {a:NumT} {k:K} {L E:Nat} {t:List UInt8} (h:Num 4294967296 a k L E) (hE:E<1000000) (ht:KTxt k t):t.length≤8*(L+3)+30:=by
 obtain ⟨v,e,h1,h2,h3,h4,h5,h6⟩:=h.has
 rw [ht.one ⟨v,e,h3,h4,rfl⟩]
 have h7:=bodyT_len8 h5 (JY v 8) (UE v 8 (by decide))
 have hit:=itoa_len (v:=(e:Int)) (L:=20) (by simp;omega)
 unfold ntext
 rw [List.length_append]
 split<;>simp<;>omega
end Go.Ql
end
section
set_option maxRecDepth 100000
set_option maxHeartbeats 1000000
namespace Go.Ql
def dlen (nought:Bool) (l:List UInt8):Nat:=if l.head? == some 48 then (if nought then 1 else 0) else (l.takeWhile JT).length
theorem dlen_le (nought:Bool) (l:List UInt8):dlen nought l≤l.length:=by
 unfold dlen
 split
 ·rename_i h
  cases l with
  | nil=>simp at h
  | cons=>split<;>simp
 ·exact tw_le _ _
section
variable {text:List UInt8} (hL:text.length≤281474976710656)
theorem digit_at (p:Nat) (hp:p≤text.length):W.jj.c2 text (p:Int) some=some (if h:p<text.length then JT text[p] else false):=by
 unfold W.jj.c2
 by_cases h:p<text.length
 ·rw [jS (by omega),Hw text p h,jc,jc,dif_pos h]
  unfold JT
  by_cases h5:(48:Nat)≤text[p].toNat
  ·rw [jS (by omega)];simp [h5];omega
  ·rw [jQ (by omega)];simp [h5]
 ·rw [jQ (by omega),dif_neg h]
theorem head_at {p:Nat} (h:p<text.length):(text.drop p).head?=some text[p]:=by
 rw [List.head?_drop,List.getElem?_eq_getElem h]
theorem byte48 (c:UInt8):((↑(UInt8.toNat c):Int)==48)=(some c==some 48):=by
 by_cases h:c=48
 ·subst h;rfl
 ·have e2:(some c==some (48:UInt8))=false:=beq_false_of_ne (fun e=>h (Option.some.inj e))
  rw [e2]
  apply beq_false_of_ne
  intro e
  apply h
  apply UInt8.toNat_inj.1
  show c.toNat=48
  omega
include hL
theorem rdigits_ok (nought:Bool) (p:Nat) (hp:p≤text.length) :
 W.jj nought text (p:Int)=some (if 0<dlen nought (text.drop p) then .inl ((text.drop p).take (dlen nought (text.drop p)),text,((p+dlen nought (text.drop p):Nat):Int),()) else .inr ((1,(p:Int)),text,(p:Int),())):=by
 obtain ⟨r,h1,h2⟩:=JF (f:=fun s↦W.jj.cb_ nought (p:Int) text s some)
  (J:=fun s=>∃k:Nat,s=(k:Int)∧p≤k∧k≤text.length∧((text.drop p).head?=some 48→k=p∨(nought=true∧k=p+1))∧((text.drop p).head? ≠ some 48→p+((text.drop p).takeWhile JT).length=k+((text.drop k).takeWhile JT).length))
  (Q:=fun s:Int=>s=((p+dlen nought (text.drop p):Nat):Int))
  (fun s=>text.length-s.toNat) (fun s ⟨k,hs,hpk,hk,ha,hb⟩=>by
   subst hs
   simp only [W.jj.cb_]
   rw [digit_at k hk,jc]
   by_cases h:k<text.length
   ·rw [dif_pos h]
    by_cases hdk:JT text[k]=true
    ·rw [hdk,br_tt]
     have hpl:p<text.length:=by omega
     have hh:=head_at (text:=text) hpl
     unfold W.jj.c3
     rw [Hw _ p hpl,jc,byte48]
     by_cases h48:text[p]=48
     ·rw [h48,JD (by rfl)]
      have hhd:(text.drop p).head?=some 48:=by rw [hh,h48]
      cases nought
      ·rw [Bool.not_false,br_tt,jc,br_tt]
       refine Or.inl ⟨_,rfl,?_⟩
       rcases ha hhd with rfl | ⟨h,_⟩
       ·unfold dlen;rw [if_pos (by simp [hhd])];simp
       ·cases h
      ·rw [Bool.not_true,br_ff]
       rcases ha hhd with rfl | ⟨_,rfl⟩
       ·rw [decide_eq_false (by omega),jc,br_ff]
        refine Or.inr ⟨((k+1:Nat):Int),by rw [jo (by omega)];rfl,⟨k+1,rfl,by omega,by omega,fun _=>.inr ⟨rfl,rfl⟩,fun hn=>absurd hhd hn⟩,by omega⟩
       ·rw [decide_eq_true (by omega),jc,br_tt]
        refine Or.inl ⟨_,rfl,?_⟩
        unfold dlen;rw [if_pos (by simp [hhd])];simp
     ·rw [jX (beq_false_of_ne (by simpa using h48)),jc,br_ff]
      have hhd:(text.drop p).head? ≠ some 48:=by rw [hh];simpa using h48
      refine Or.inr ⟨((k+1:Nat):Int),by rw [jo (by omega)];rfl,⟨k+1,rfl,by omega,by omega,fun hn=>absurd hn hhd,fun _=>?_⟩,by omega⟩
      rw [hb hhd,List.drop_eq_getElem_cons h,List.takeWhile_cons_of_pos hdk]
      simp;omega
    ·rw [eq_false_of_ne_true hdk,br_ff]
     refine Or.inl ⟨_,rfl,?_⟩
     unfold dlen
     by_cases hhd:(text.drop p).head?=some 48
     ·rcases ha hhd with rfl | ⟨hn,rfl⟩
      ·have hh:=head_at (text:=text) h
       rw [hh] at hhd
       have:=Option.some.inj hhd
       rw [this] at hdk
       exact absurd (by decide) hdk
      ·rw [if_pos (by simp [hhd]),hn];simp
     ·rw [if_neg (by simpa using hhd),hb hhd,List.drop_eq_getElem_cons h,List.takeWhile_cons_of_neg hdk]
      simp
   ·rw [dif_neg h,br_ff]
    refine Or.inl ⟨_,rfl,?_⟩
    have hke:k=text.length:=by omega
    unfold dlen
    by_cases hhd:(text.drop p).head?=some 48
    ·rcases ha hhd with rfl | ⟨hn,rfl⟩
     ·rw [hke,List.drop_length] at hhd
      cases hhd
     ·rw [if_pos (by simp [hhd]),hn];simp
    ·rw [if_neg (by simpa using hhd),hb hhd,hke,List.drop_length]
     simp)
  (s:=(p:Int)) ⟨p,rfl,Nat.le_refl _,hp,fun _=>.inl rfl,fun _=>rfl⟩
 subst h2
 have hle:=dlen_le nought (text.drop p)
 rw [List.length_drop] at hle
 unfold W.jj W.jj.cO_ W.jj.c7
 rw [h1,jc]
 by_cases e:0<dlen nought (text.drop p)
 ·rw [jX (beq_false_of_ne (by omega)),jc,if_pos e]
  simp only [sel]
  rw [jH (by simp;omega),jc,jc,Int.toNat_natCast,Int.toNat_natCast,List.drop_take,Nat.add_sub_cancel_left]
 ·have e0:dlen nought (text.drop p)=0:=by omega
  rw [e0,if_neg (by omega),JD (by simp),jc]
  rfl
end
end Go.Ql
end
section
set_option maxRecDepth 100000
set_option maxHeartbeats 1000000
namespace Go.Ql
theorem numLen_true (l:List UInt8):Yg true l=((if l.head? == some 45 then 1 else 0)+dlen (!(l.head? == some 45)) (l.drop (if l.head? == some 45 then 1 else 0)),decide (0<dlen (!(l.head? == some 45)) (l.drop (if l.head? == some 45 then 1 else 0)))):=by
 unfold Yg dlen
 cases l.head? == some 45<;>simp only [Bool.true_and,if_true,Bool.false_eq_true,if_false,Bool.not_true,Bool.not_false]<;>split<;>simp
theorem numLen_false (l:List UInt8):Yg false l=(dlen false l,decide (0<dlen false l)):=by
 unfold Yg dlen
 simp only [Bool.false_and,Bool.false_eq_true,if_false,List.drop_zero]
 split<;>simp
def scan (text:List UInt8):Nat→Nat→List (List UInt8)→Nat⊕(List (List UInt8)×Nat)
 | 0,p,cs=>.inr (cs,p)
 | n+1,p,cs=>
   if (Yg true (text.drop p)).2 then
    (if n=0 then .inr (cs++[(text.drop p).take (Yg true (text.drop p)).1],p+(Yg true (text.drop p)).1)
     else if text[p+(Yg true (text.drop p)).1]?=some 44 then scan text n (p+(Yg true (text.drop p)).1+1) (cs++[(text.drop p).take (Yg true (text.drop p)).1])
     else .inr (cs++[(text.drop p).take (Yg true (text.drop p)).1],p+(Yg true (text.drop p)).1))
   else .inl (p+(Yg true (text.drop p)).1)
def HS (text:List UInt8) (q:Nat):Nat⊕(List UInt8×Nat):=
 if text[q]?=some 47 then
  (if (Yg false (text.drop (q+1))).2 then .inr ((text.drop (q+1)).take (Yg false (text.drop (q+1))).1,q+1+(Yg false (text.drop (q+1))).1) else .inl (q+1+(Yg false (text.drop (q+1))).1))
 else .inr ([],q)
def HR (text:List UInt8):Nat⊕(List (List UInt8)×List UInt8):=match scan text 8 0 [] with
 | .inl p=>.inl p
 | .inr (cs,q)=>match HS text q with
   | .inl p=>.inl p
   | .inr (low,u)=>if u<text.length then .inl u else .inr (cs,low)
theorem byte_is (c d:UInt8):((↑(UInt8.toNat c):Int)==(↑(UInt8.toNat d):Int))=(c==d):=by
 by_cases h:c=d
 ·subst h;simp
 ·rw [beq_false_of_ne h]
  apply beq_false_of_ne
  intro e
  apply h
  apply UInt8.toNat_inj.1
  omega
section
variable {text:List UInt8} (hL:text.length≤281474976710656)
include hL
theorem meets_ok (c:UInt8) (p:Nat) (hp:p≤text.length):W.jK (↑(UInt8.toNat c):Int) text (p:Int)=some (text[p]? == some c,text,((p+(if text[p]? == some c then 1 else 0):Nat):Int),()):=by
 unfold W.jK W.jK.c1
 by_cases h:p<text.length
 ·rw [jS (by omega),Hw _ p h,jc,jc,byte_is,List.getElem?_eq_getElem h]
  have e:(some text[p]==some c)=(text[p]==c):=rfl
  rw [e]
  cases text[p]==c
  ·rw [br_ff];simp
  ·rw [br_tt,jo (by omega)];simp
 ·rw [jQ (by omega),jc,br_ff,List.getElem?_eq_none (by omega)]
  rfl
theorem coeffs_scan:∃y,iter (fun s↦W.ji.cb_ (Prod.fst s) (Prod.fst (Prod.snd s)) (Prod.snd (Prod.snd s)) some) ([],text,(0:Int))=some y ∧
 ((∃(cs:List (List UInt8)) (q:Nat),y=.inl (cs,text,(q:Int))∧scan text 8 0 []=.inr (cs,q)∧q≤text.length) ∨ ∃(cs:List (List UInt8)) (q:Nat),y=.inr (cs,(1,(q:Int)),text,(q:Int))∧scan text 8 0 []=.inl q):=by
 obtain ⟨S,hS⟩:∃S,scan text 8 0 []=S:=⟨_,rfl⟩
 rw [hS]
 obtain ⟨r,h1,h2⟩:=JF (f:=fun s↦W.ji.cb_ (Prod.fst s) (Prod.fst (Prod.snd s)) (Prod.snd (Prod.snd s)) some)
  (J:=fun s=>∃k n:Nat,s.2=(text,(k:Int))∧k≤text.length∧s.1.length+n+1=8∧scan text (n+1) k s.1=S)
  (Q:=fun y=>(∃(cs:List (List UInt8)) (q:Nat),y=.inl (cs,text,(q:Int))∧S=.inr (cs,q)∧q≤text.length) ∨ ∃(cs:List (List UInt8)) (q:Nat),y=.inr (cs,(1,(q:Int)),text,(q:Int))∧S=.inl q)
  (fun s=>8-s.1.length) (fun ⟨cs,t,z⟩ ⟨k,n,hs,hk,hl,hc⟩=>by
   simp only [Prod.mk.injEq] at hs
   obtain ⟨rfl,rfl⟩:=hs
   replace hl:cs.length+n+1=8:=hl
   replace hc:scan t (n+1) k cs=S:=hc
   simp only [W.ji.cb_,W.ji.cC_]
   have hm:=meets_ok hL 45 k hk
   rw [show (45:Int)=(↑(UInt8.toNat (45:UInt8)):Int) from rfl,hm,jc]
   have hhd:(t.drop k).head?=t[k]?:=by rw [List.head?_drop]
   obtain ⟨b,hb⟩:∃b,(t[k]? == some (45:UInt8))=b:=⟨_,rfl⟩
   have hkb:k+(if b then 1 else 0)≤t.length:=by
    cases b
    ·simpa using hk
    ·simp only [if_true]
     have:k<t.length:=by
      rcases Nat.lt_or_ge k t.length with h | h
      ·exact h
      ·rw [List.getElem?_eq_none h] at hb;cases hb
     omega
   have hnl:=numLen_true (t.drop k)
   rw [hhd,hb,List.drop_drop] at hnl
   simp only [hb]
   have hsg:br b (some ((Array.toList (ByteArray.data (ByteArray.mk #[(45:UInt8)]))),t,((k+(if b then 1 else 0):Nat):Int))) (some ((Array.toList (ByteArray.data (ByteArray.mk #[]))),t,((k+(if b then 1 else 0):Nat):Int)))=some ((if b then [45] else []),t,((k+(if b then 1 else 0):Nat):Int)):=by
    cases b<;>rfl
   rw [hsg,jc]
   simp only
   have hno:((if b then ([45]:List UInt8) else [])==Array.toList (ByteArray.data (ByteArray.mk #[])))=!b:=by cases b<;>rfl
   rw [hno,rdigits_ok hL (!b) _ hkb,jc]
   obtain ⟨m,hm2⟩:∃m,dlen (!b) (t.drop (k+(if b then 1 else 0)))=m:=⟨_,rfl⟩
   rw [hm2] at hnl ⊢
   have hml:k+(if b then 1 else 0)+m≤t.length:=by
    have:=dlen_le (!b) (t.drop (k+(if b then 1 else 0)))
    rw [hm2,List.length_drop] at this
    omega
   rw [scan,hnl] at hc
   simp only at hc
   by_cases h0:0<m
   ·rw [if_pos h0]
    rw [if_pos (by simpa using h0)] at hc
    have hword:(if b then ([45]:List UInt8) else [])++(t.drop (k+(if b then 1 else 0))).take m=(t.drop k).take ((if b then 1 else 0)+m):=by
     cases b
     ·simp
     ·have hk':k<t.length:=by simp only [if_true] at hkb;omega
      rw [List.getElem?_eq_getElem hk'] at hb
      have h45:t[k]=45:=by simpa using hb
      rw [List.drop_eq_getElem_cons hk',h45]
      simp [Nat.add_comm 1 m]
    have hwl:((if b then ([45]:List UInt8) else [])++(t.drop (k+(if b then 1 else 0))).take m).length≤281474976710656:=by
     rw [hword,List.length_take,List.length_drop];omega
    rw [List.length_append] at hwl
    simp only [sel]
    rw [jH (by simp only [decide_eq_true_eq];omega),jc,jH (by simp;omega),jc,hword]
    have hw2:((t.drop (k+(if b then 1 else 0))).take m).length=m:=by rw [List.length_take,List.length_drop];omega
    have hpos:((k+(if b then 1 else 0)+m:Nat))=k+((if b then 1 else 0)+m):=by omega
    rw [hpos]
    unfold W.ji.c6
    by_cases hn:n=0
    ·subst hn
     rw [if_pos rfl] at hc
     rw [JD (by simp;omega),jc,br_tt]
     exact Or.inl ⟨_,rfl,.inl ⟨_,_,rfl,hc.symm,by omega⟩⟩
    ·rw [if_neg hn] at hc
     have hm44:=meets_ok hL 44 (k+((if b then 1 else 0)+m)) (by omega)
     rw [jX (by simp;omega),show (44:Int)=(↑(UInt8.toNat (44:UInt8)):Int) from rfl,hm44,jc]
     by_cases h44:t[k+((if b then 1 else 0)+m)]?=some 44
     ·rw [if_pos h44] at hc
      simp only [h44,beq_self_eq_true,if_true,Bool.not_true,jc,br_ff]
      have hk4:k+((if b then 1 else 0)+m)<t.length:=by
       rcases Nat.lt_or_ge (k+((if b then 1 else 0)+m)) t.length with h | h
       ·exact h
       ·rw [List.getElem?_eq_none h] at h44;cases h44
      obtain ⟨n',rfl⟩:∃n',n=n'+1:=⟨n-1,by omega⟩
      exact Or.inr ⟨_,rfl,⟨_,n',rfl,by omega,by simp;omega,hc⟩,by simp;omega⟩
     ·rw [if_neg h44] at hc
      rw [beq_false_of_ne h44]
      simp only [Bool.false_eq_true,if_false,Nat.add_zero,Bool.not_false,jc,br_tt]
      exact Or.inl ⟨_,rfl,.inl ⟨_,_,rfl,hc.symm,by omega⟩⟩
   ·rw [if_neg h0]
    rw [if_neg (by simpa using h0)] at hc
    have hm0:m=0:=by omega
    subst hm0
    exact Or.inl ⟨_,rfl,.inr ⟨cs,_,rfl,by rw [←hc,Nat.add_zero]⟩⟩)
  (s:=([],text,(0:Int))) ⟨0,7,rfl,by omega,rfl,hS⟩
 exact ⟨r,h1,h2⟩
end
end Go.Ql
end
section
set_option maxRecDepth 100000
set_option maxHeartbeats 1000000
namespace Go.Ql
section
variable {text:List UInt8} (hL:text.length≤281474976710656)
include hL
theorem all_scan:(∃p r:Int,∃q:Nat,HR text=.inl q∧p=(q:Int)∧W.ji text 0=some (.inr ((1,p),text,r,()))) ∨
 ∃cs low,∃r:Int,HR text=.inr (cs,low)∧W.ji text 0=some (.inl (cs,low,text,r,())):=by
 obtain ⟨y,h1,h2⟩:=coeffs_scan hL
 unfold W.ji HR
 rw [h1,jc]
 rcases h2 with ⟨cs,q,rfl,hS,hq⟩ | ⟨cs,q,rfl,hS⟩
 ·rw [hS]
  simp only [sel]
  unfold W.ji.ck_
  rw [show (47:Int)=(↑(UInt8.toNat (47:UInt8)):Int) from rfl,meets_ok hL 47 q hq,jc]
  unfold W.ji.cp_ W.ji.c10
  by_cases h47:text[q]?=some 47
  ·have hk4:q<text.length:=by
    rcases Nat.lt_or_ge q text.length with h | h
    ·exact h
    ·rw [List.getElem?_eq_none h] at h47;cases h47
   unfold HS
   rw [if_pos h47,numLen_false]
   simp only [h47,beq_self_eq_true,if_true,br_tt]
   rw [rdigits_ok hL false (q+1) (by omega),jc]
   have hle:=dlen_le false (text.drop (q+1))
   rw [List.length_drop] at hle
   by_cases h0:0<dlen false (text.drop (q+1))
   ·rw [if_pos h0,if_pos (by simpa using h0)]
    simp only [sel,jc]
    by_cases hend:q+1+dlen false (text.drop (q+1))<text.length
    ·rw [if_pos hend,jS (by omega),jc]
     exact .inl ⟨_,_,_,rfl,rfl,rfl⟩
    ·rw [if_neg hend,jQ (by omega),jc]
     exact .inr ⟨_,_,_,rfl,rfl⟩
   ·rw [if_neg h0,if_neg (by simpa using h0)]
    simp only [sel,jc]
    exact .inl ⟨_,_,_,rfl,by omega,rfl⟩
  ·unfold HS
   rw [if_neg h47,beq_false_of_ne h47]
   simp only [Bool.false_eq_true,if_false,Nat.add_zero,br_ff,jc]
   by_cases hend:q<text.length
   ·rw [if_pos hend,jS (by omega),jc]
    exact .inl ⟨_,_,_,rfl,rfl,rfl⟩
   ·rw [if_neg hend,jQ (by omega),jc]
    exact .inr ⟨_,_,_,rfl,rfl⟩
 ·rw [hS]
  exact .inl ⟨_,_,_,rfl,rfl,rfl⟩
end
end Go.Ql
end
section
set_option maxRecDepth 100000
set_option maxHeartbeats 1000000
namespace Go.Ql
def ndig (c:List UInt8):Nat:=c.length-(if c.head? == some 45 then 1 else 0)
end Go.Ql
end
section
set_option maxRecDepth 100000
set_option maxHeartbeats 2000000
namespace Go.Ql
theorem dec_foldr_uint:∀(l:List UInt8) (acc:Nat),kG l→(∃u:Nat,Go.Lib.parseUint10 acc l=.ok u∧(u:Int)=l.foldl (fun n c=>n*10+dg c) (acc:Int))∨(Go.Lib.parseUint10 acc l=.range∧10000<l.foldl (fun n c=>n*10+dg c) (acc:Int))
 | [],acc,_=>.inl ⟨acc,rfl,rfl⟩
 | c::r,acc,h=>by
   have hc:=h c (by simp)
   have hr:kG r:=fun x hx=>h x (by simp [hx])
   have hc2:48≤c.toNat∧c.toNat≤57:=by
    unfold JT at hc
    simpa using hc
   have hdg:dg c=((c.toNat-48:Nat):Int):=by unfold dg;omega
   have hgrow:∀(l:List UInt8) (a:Int),kG l→10000<a→10000<l.foldl (fun n c=>n*10+dg c) a:=by
    intro l
    induction l with
    | nil=>intro a _ h;exact h
    | cons x t ih=>
      intro a hd h
      have:=dg_of (hd x (by simp))
      exact ih _ (fun y hy=>hd y (by simp [hy])) (by show 10000<a*10+dg x;omega)
   simp only [Go.Lib.parseUint10,List.foldl_cons]
   rw [if_pos hc2]
   by_cases h1:1844674407370955162≤acc
   ·rw [if_pos h1]
    exact .inr ⟨rfl,hgrow r _ hr (by rw [hdg];omega)⟩
   ·rw [if_neg h1]
    by_cases h2:18446744073709551616≤acc*10+(c.toNat-48)
    ·rw [if_pos h2]
     exact .inr ⟨rfl,hgrow r _ hr (by rw [hdg];omega)⟩
    ·rw [if_neg h2]
     have:=dec_foldr_uint r (acc*10+(c.toNat-48)) hr
     rw [show ((acc*10+(c.toNat-48):Nat):Int)=(acc:Int)*10+dg c by rw [hdg];omega] at this
     exact this
end Go.Ql
end
end

section
namespace Go.Ql
def lsumK (l:List K):K:=l.foldr K.add K.zero
theorem Hm (a b:List K):lsumK (a++b)=K.add (lsumK a) (lsumK b):=by
 induction a with
 | nil=>exact (K.zero_add _).symm
 | cons x a ih=>show K.add x (lsumK (a++b))=K.add (K.add x (lsumK a)) _;rw [ih,K.add_assoc]
theorem lsumK_perm {a b:List K} (h:a.Perm b):lsumK a=lsumK b:=by
 unfold lsumK
 exact h.foldr_eq' (fun x _ y _ z=>by rw [←K.add_assoc,←K.add_assoc,K.add_comm y x]) _
def sumK (f:Nat→K) (N:Nat):K:=lsumK ((List.range N).map f)
theorem sumK_succ (f:Nat→K) (N:Nat):sumK f (N+1)=K.add (sumK f N) (f N):=by
 unfold sumK
 rw [List.range_succ,List.map_append,Hm]
 show K.add _ (K.add (f N) K.zero)=_
 rw [K.add_zero]
def sqN (v:KV):Nat→K:=fun x=>K.mul (v x) (K.conj (v x))
theorem UY (v:KV):∀N,normK v N=sumK (sqN v) N
 | 0=>rfl
 | N+1=>by rw [sumK_succ,←UY v N];rfl
theorem sumK_congr {f g:Nat→K} {N:Nat} (h:∀x,x<N→f x=g x):sumK f N=sumK g N:=by
 unfold sumK
 rw [List.map_congr_left fun x hx=>h x (List.mem_range.1 hx)]
theorem sumK_add (f g:Nat→K):∀N,sumK (fun x=>K.add (f x) (g x)) N=K.add (sumK f N) (sumK g N)
 | 0=>(K.add_zero _).symm
 | N+1=>by
   rw [sumK_succ,sumK_succ,sumK_succ,sumK_add f g N,K.add_assoc,K.add_assoc]
   congr 1
   rw [←K.add_assoc,←K.add_assoc,K.add_comm (f N)]
theorem sumK_fl (f:Nat→K) {q:Int} {n:Nat} (hq:0≤q∧q<n):sumK (fun x=>f (fl q x)) (2^n)=sumK f (2^n):=by
 unfold sumK
 rw [show (fun x=>f (fl q x))=f ∘ fl q from rfl,←List.map_map]
 refine lsumK_perm (List.Perm.map f ?_)
 refine (List.perm_ext_iff_of_nodup ?_ List.nodup_range).2 fun a=>?_
 ·exact List.Pairwise.map _ (fun x y h e=>h (fl_inj e)) List.nodup_range
 ·rw [List.mem_map,List.mem_range]
  constructor
  ·rintro ⟨x,hx,rfl⟩
   exact fl_lt hq (List.mem_range.1 hx)
  ·intro ha
   exact ⟨fl q a,List.mem_range.2 (fl_lt hq ha),fl_fl q a⟩
theorem K.dbl {a b:K} (h:K.add a a=K.add b b):a=b:=by
 have g:∀x y:Rat,x+x=y+y→x=y:=by intro x y h;grind
 apply K.eq_of
 ·exact g _ _ (congrArg K.c0 h)
 ·exact g _ _ (congrArg K.c1 h)
 ·exact g _ _ (congrArg K.c2 h)
 ·exact g _ _ (congrArg K.c3 h)
 ·exact g _ _ (congrArg K.c4 h)
 ·exact g _ _ (congrArg K.c5 h)
 ·exact g _ _ (congrArg K.c6 h)
 ·exact g _ _ (congrArg K.c7 h)
theorem sumK_pairs {f g:Nat→K} {q:Int} {n:Nat} (hq:0≤q∧q<n) (h:∀x,x<2^n→K.add (f x) (f (fl q x))=K.add (g x) (g (fl q x))):sumK f (2^n)=sumK g (2^n):=by
 apply K.dbl
 have e:∀f:Nat→K,K.add (sumK f (2^n)) (sumK f (2^n))=sumK (fun x=>K.add (f x) (f (fl q x))) (2^n):=by
  intro f
  rw [sumK_add f (fun x=>f (fl q x)),sumK_fl f hq]
 rw [e,e]
 exact sumK_congr h
theorem sq_turn (a:K) (k:Nat):K.mul (K.turn a k) (K.conj (K.turn a k))=K.mul a (K.conj a):=by
 have h1:∀a:K,K.mul (K.turn1 a) (K.conj (K.turn1 a))=K.mul a (K.conj a):=by
  intro a
  apply K.eq_of<;>simp only [K.mul,K.conj,K.turn1]<;>grind
 induction k with
 | zero=>rfl
 | succ k ih=>
   show K.mul (K.turn1 (K.turn a k)) (K.conj (K.turn1 (K.turn a k)))=_
   rw [h1,ih]
theorem sq_had (a b:K):K.add (K.mul (K.add (K.half b) (K.half a)) (K.conj (K.add (K.half b) (K.half a)))) (K.mul (K.add (K.half a) (K.neg (K.half b))) (K.conj (K.add (K.half a) (K.neg (K.half b)))))=K.add (K.mul a (K.conj a)) (K.mul b (K.conj b)):=by
 have h0:∀x y:K,K.add (K.mul (K.add y x) (K.conj (K.add y x))) (K.mul (K.add x (K.neg y)) (K.conj (K.add x (K.neg y))))=K.sm 2 (K.add (K.mul x (K.conj x)) (K.mul y (K.conj y))):=by
  intro x y
  apply K.eq_of<;>simp only [K.add,K.mul,K.conj,K.neg,K.sm]<;>grind
 have h1:∀x:K,K.mul (K.half x) (K.conj (K.half x))=K.sm (1 / 2) (K.mul x (K.conj x)):=by
  intro x
  apply K.eq_of<;>simp only [K.mul,K.conj,K.half,K.sm,K.sub,K.turn,K.turn1,K.neg,K.add]<;>grind
 rw [h0,h1,h1]
 apply K.eq_of<;>simp only [K.add,K.sm]<;>grind
theorem gate_pair {o:GOp} {n:Nat} (ho:Ok1 o n) (hk:o.1=1∨o.1=2∨o.1=3∨o.1=4) (v:KV) (x:Nat) :
 K.add (sqN (gateK o v) x) (sqN (gateK o v) (fl o.2.2.2.1 x))=K.add (sqN v x) (sqN v (fl o.2.2.2.1 x)):=by
 have hones:=ho.ones x
 unfold sqN
 by_cases hon:onesB o.2.2.1 x=true
 ·have hon2:=hones.trans hon
  rcases hk with h | h | h | h
  ·rw [Uz hon (.inl h),Uz hon2 (.inl h),sq_turn,sq_turn]
  ·rw [gate_flip hon h,gate_flip hon2 h,fl_fl,K.add_comm]
  ·have hne:o.1≠1∧o.1≠2∧o.1≠4:=by omega
   rw [gate_had hon hne,gate_had hon2 hne,fl_fl,Uc]
   cases hb:bt o.2.2.2.1 x with
   | true=>
     simp only [if_true,Bool.not_true,Bool.false_eq_true,if_false]
     rw [K.add_comm,sq_had,K.add_comm]
   | false=>
     simp only [if_true,Bool.not_false,Bool.false_eq_true,if_false]
     rw [sq_had]
  ·cases hb:bt o.2.2.2.1 x with
   | true=>rw [Uz hon (.inr ⟨h,hb⟩),gate_stay hon2 h (by rw [Uc,hb];decide),sq_turn]
   | false=>rw [gate_stay hon h (by rw [hb];decide),Uz hon2 (.inr ⟨h,by rw [Uc,hb];rfl⟩),sq_turn]
 ·have hf:onesB o.2.2.1 x=false:=by simpa using hon
  rw [gate_off hf,gate_off (hones.trans hf)]
theorem norm_gate {o:GOp} {n:Nat} (ho:Ok1 o n) (hk:o.1=1∨o.1=2∨o.1=3∨o.1=4) (v:KV):normK (gateK o v) (2^n)=normK v (2^n):=by
 rw [UY,UY]
 exact sumK_pairs ho.q fun x _=>gate_pair ho hk v x
theorem norm_outs (q:Int) (v:KV) (N:Nat):K.add (normK (outK q 0 v) N) (normK (outK q 1 v) N)=normK v N:=by
 rw [UY,UY,UY,←sumK_add]
 refine sumK_congr fun x _=>?_
 unfold sqN outK
 cases bt q x with
 | true=>
   simp only [Bool.true_eq,decide_eq_true_eq]
   rw [if_neg (by decide),if_pos trivial,Un rfl,K.zero_add]
 | false=>
   simp only [Bool.false_eq,decide_eq_false_iff_not]
   rw [if_pos (by decide),if_neg (by decide),Un rfl,K.add_zero]
theorem norm_meets {o:GOp} {n:Nat} (ho:Ok1 o n) (s:SK):K.add (normK (meetK o 0 s).1 (2^n)) (normK (meetK o 1 s).1 (2^n))=normK s.1 (2^n):=by
 unfold meetK
 simp only
 rw [if_neg (fun h=>absurd h.2 (by decide))]
 by_cases h5:o.1=5
 ·rw [if_neg (fun h=>h.1 h5)]
  exact norm_outs _ _ _
 ·rw [if_pos ⟨h5,trivial⟩,←HZ [] 0 o.2.2.2.1 0 [],norm_gate (ok1_x ho) (.inr (.inl rfl))]
  exact norm_outs _ _ _
theorem born {n bn:Nat}:∀{l:List GOp},(∀o∈l,OkS o n bn) → ∀(v:KV) (bits tape:List Int),lsumK ((allK l v bits tape).map fun e=>normK e.2.2 (2^n))=normK v (2^n)
 | [],_,v,bits,tape=>K.add_zero _
 | o::l,hall,v,bits,tape=>by
   have hk:=hall o (List.mem_cons_self ..)
   have hl:∀a∈l,OkS a n bn:=fun a ha=>hall a (List.mem_cons_of_mem _ ha)
   simp only [allK]
   split
   ·exact born hl v bits tape
   ·split
    ·rw [born hl]
     exact norm_gate hk.p.gate (by have:=hk.kind;omega) v
    ·rw [List.map_append,Hm,born hl,born hl]
     exact norm_meets hk.p.gate (v,bits,tape.length)
theorem born_nz {n bn:Nat} {l:List GOp} (hall:∀o∈l,OkS o n bn) (v:KV) (bits tape:List Int):lsumK ((nzK (2^n) (allK l v bits tape)).map fun e=>normK e.2.2 (2^n))=normK v (2^n):=by
 rw [←born hall v bits tape]
 generalize allK l v bits tape=L
 induction L with
 | nil=>rfl
 | cons e L ih=>
   rw [show e::L=[e]++L from rfl,nz_app,List.map_append,List.map_append,Hm,Hm,ih]
   by_cases hz:ZK (2^n) e.2.2
   ·rw [nz_none hz]
    show K.add K.zero _=K.add (K.add (normK e.2.2 (2^n)) K.zero) _
    rw [norm_zero.2 hz,K.add_zero]
   ·rw [nz_one hz]
theorem norm_basis {n i0:Nat} (h:i0<2^n):normK (kK i0) (2^n)=K.one:=by
 have key:∀N,normK (kK i0) N=if i0<N then K.one else K.zero:=by
  intro N
  induction N with
  | zero=>rfl
  | succ N ih=>
    rw [normK,ih]
    unfold kK
    by_cases e:N=i0
    ·subst e
     rw [if_neg (Nat.lt_irrefl _),if_pos rfl,if_pos (Nat.lt_succ_self _),K.zero_add]
     apply K.eq_of<;>simp only [K.mul,K.conj,K.one]<;>grind
    ·rw [if_neg e,Un rfl,K.add_zero]
     by_cases h1:i0<N
     ·rw [if_pos h1,if_pos (by omega)]
     ·rw [if_neg h1,if_neg (by omega)]
 rw [key,if_pos h]
end Go.Ql
end

section
set_option maxRecDepth 100000
namespace Go.Ql
theorem word_all (text:List UInt8) (i:Nat) (hi:i≤text.length) (hL:text.length≤9223372036854775807) (hd:∀j (h:j<text.length),i≤j→JT text[j]=true) :
 iter (fun s↦W.whole_number.cq_ text s Option.some) (i:Int)=some (text.length:Int):=by
 obtain ⟨r,h1,h2⟩:=JF (f:=fun s:Int↦W.whole_number.cq_ text s Option.some)
  (J:=fun s=>∃k:Nat,s=k∧i≤k∧k≤text.length) (Q:=fun s=>s=(text.length:Int))
  (fun s=>text.length-s.toNat) (fun s ⟨k,hs,hik,hk⟩=>by
   subst hs
   simp only [W.whole_number.cq_]
   have e:W.whole_number.c9 text (k:Int) Option.some=some (if h:k<text.length then JT text[k] else false):=by
    unfold W.whole_number.c9
    by_cases h:k<text.length
    ·rw [jS (by omega),Hw text k h,jc,jc,dif_pos h]
     unfold JT
     by_cases h5:(48:Nat)≤text[k].toNat
     ·rw [jS (by omega)];simp [h5];omega
     ·rw [jQ (by omega)];simp [h5]
    ·rw [jQ (by omega),dif_neg h]
   rw [e,jc]
   by_cases h:k<text.length
   ·rw [dif_pos h,hd k h hik,br_tt]
    exact Or.inr ⟨((k+1:Nat):Int),by rw [jo (by omega)];rfl,⟨k+1,rfl,by omega,by omega⟩,by omega⟩
   ·rw [dif_neg h,br_ff]
    exact Or.inl ⟨_,rfl,by omega⟩)
  (s:=(i:Int)) ⟨i,rfl,Nat.le_refl _,hi⟩
 rw [h1,h2]
theorem word_can {text:List UInt8} (h:Canon text) (hL:text.length≤9223372036854775807):W.whole_number text true=some ((text.length:Int),true):=by
 rcases h with rfl | ⟨neg,ds,h1,h2,h3,h4⟩
 ·unfold W.whole_number W.whole_number.ci_ W.whole_number.c2
  rw [br_tt,show Array.toList (ByteArray.data (ByteArray.mk #[(45:UInt8)]))=[45] from rfl,hasPrefix1,jc]
  rfl
 ·obtain ⟨i,hi,hs⟩:∃i:Nat,(i=if neg then 1 else 0)∧text.length=i+ds.length:=by
   refine ⟨_,rfl,?_⟩
   rw [h4];cases neg<;>simp<;>omega
  have hpre:(text.head? == some 45)=neg:=by
   rw [h4]
   cases neg
   ·exact beq_false_of_ne (Vo h2)
   ·rfl
  have hdrop:text.drop i=ds:=by rw [hi,h4];cases neg<;>rfl
  have hdl:ds.length≠0:=fun e=>h1 (List.eq_nil_of_length_eq_zero e)
  have e1:W.whole_number.ci_ text true 0 Option.some=some (i:Int):=by
   unfold W.whole_number.ci_ W.whole_number.c2
   rw [br_tt,show Array.toList (ByteArray.data (ByteArray.mk #[(45:UInt8)]))=[45] from rfl,hasPrefix1,jc,hpre,hi]
   cases neg<;>rfl
  have hw:=word_all text i (by omega) hL (fun j hj hij=>by
   have:text[j]=ds[j-i]'(by omega):=by
    have hh:(text.drop i)[j-i]?=some text[j]:=by rw [List.getElem?_drop,show i+(j-i)=j by omega,List.getElem?_eq_getElem hj]
    rw [hdrop,List.getElem?_eq_getElem (by omega)] at hh
    exact (Option.some.inj hh).symm
   rw [this]
   exact h2 _ (List.getElem_mem _))
  unfold W.whole_number
  rw [e1,jc,jH (by simp<;>omega),jc,show Array.toList (ByteArray.data (ByteArray.mk #[(48:UInt8)]))=[48] from rfl,hasPrefix1,jc,hw,jc]
  rw [Int.toNat_natCast,Int.toNat_natCast,List.take_length,hdrop,beq_false_of_ne h3]
  simp only [br_ff,jc]
  congr 2
  exact decide_eq_true (by omega)
theorem parse_can {n:Int} (h:ndig (Go.Lib.itoa n)≤1000):∃x,W.whole_Parse (Go.Lib.itoa n)=some (x,(0,0))∧Rep 4294967296 x n∧x.2.length≤1000:=by
 have ht:=Vt n
 obtain ⟨text,hx⟩:∃t,Go.Lib.itoa n=t:=⟨_,rfl⟩
 rw [hx] at ht h ⊢
 have hc:=ht.canon
 have hl0:text.length≤1001:=by
  unfold ndig at h
  split at h<;>omega
 have hw:=word_can hc (by omega)
 obtain ⟨neg,ds,p1,p2,p3⟩:=hc.parts
 have hh:(text.head? == some 45)=neg:=by
  rw [p3]
  cases neg
  ·exact beq_false_of_ne (Vo p2)
  ·rfl
 have hlen:text.length=(if neg then 1 else 0)+ds.length:=by rw [p3];cases neg<;>simp<;>omega
 have htrim:W.JG text (Array.toList (ByteArray.data (ByteArray.mk #[(45:UInt8)])))=some ds:=by
  show W.JG text [45]=some ds
  rw [trim_ok text (by omega)]
  cases neg
  ·rw [if_neg (by simpa using hh),p3];rfl
  ·rw [if_pos (by simpa using hh),p3];rfl
 have c2:W.whole_Parse.c2 text (text.length:Int) true Option.some=some false:=by
  unfold W.whole_Parse.c2
  simp [br]
 have hsh:ds.length≤1000:=by
  unfold ndig at h
  rw [hh] at h
  cases neg<;>simp at h hlen<;>omega
 obtain ⟨m,q1,q2,q3,q4⟩:=digits_ok ds p2 hsh
 obtain ⟨r,s1,s2,s3⟩:=Ue (decide ((ds.length:Int)<(text.length:Int))) m q2 (by omega)
 have hneg:decide ((ds.length:Int)<(text.length:Int))=neg:=by
  rw [hlen];cases neg<;>simp<;>omega
 have hval:n=if neg then-dec ds else dec ds:=by
  have d48:dec [48]=0:=by decide
  rcases ht with ⟨h1,h2⟩ | ⟨h1,D,hd,h2⟩
  ·rw [h2] at p3
   cases neg with
   | true=>rw [if_pos rfl] at p3;cases p3
   | false=>
     have:ds=[48]:=by simpa using p3.symm
     rw [this,h1];rfl
  ·by_cases hv:n<0
   ·rw [if_pos hv] at h2
    have hneg1:neg=true:=by rw [←hh,h2];rfl
    subst hneg1
    rw [h2] at p3
    have:ds=D:=by simpa using p3.symm
    rw [this,if_pos rfl,hd.2.2.2]
    omega
   ·rw [if_neg hv,List.nil_append] at h2
    have hneg1:neg=false:=by rw [←hh,h2];exact beq_false_of_ne (Vo hd.1)
    subst hneg1
    rw [h2] at p3
    have:ds=D:=by simpa using p3.symm
    rw [this,if_neg (by decide),hd.2.2.2]
    omega
 refine ⟨r,?_,by rw [hneg,q4,←hval] at s2;exact s2,by omega⟩
 unfold W.whole_Parse
 rw [hw,jc,c2,jc,br_ff,htrim,jc,jQ (by omega),q1,jc,s1]
 rfl
theorem rep_small {m:Nat} (hm:32000≤m) {x:Dg} {v:Int} (h:Rep 4294967296 x v) (hl:x.2.length≤1000):v.natAbs<2^m:=by
 have h1:=h.absval (by decide)
 have h2:=UQ (by decide) h.dig
 rw [h1] at h2
 have h3:(4294967296:Int)^x.2.length=((2^(32*x.2.length):Nat):Int):=by
  rw [Nat.pow_mul];simp
 rw [h3] at h2
 have h6:32*x.2.length≤m:=by omega
 have h5:v.natAbs<2^(32*x.2.length):=Int.ofNat_lt.1 h2
 exact Nat.lt_of_lt_of_le h5 (Nat.pow_le_pow_right (by decide) h6)
theorem coeffs_can {M:Nat} (hM:32000≤M) {v:Nat→Int} {m:Nat} (hm:m≤7) (hc:∀j,j≤m→ndig (Go.Lib.itoa (v j))≤1000) :
 ∃i c,iter (fun s↦W.je.cd_ ((List.range (m+1)).map fun j=>Go.Lib.itoa (v j)) (↑(List.length ((List.range (m+1)).map fun j=>Go.Lib.itoa (v j))):Int) (Prod.fst s) (Prod.snd s) some) ((0:Int),List.replicate 8 d0)=some (.inr (i,c)) ∧
  Reps 4294967296 c (fun j=>if j≤m then v j else 0)∧Bd (fun j=>if j≤m then v j else 0) M:=by
 obtain ⟨cs,hcs⟩:∃cs,(List.range (m+1)).map (fun j=>Go.Lib.itoa (v j))=cs:=⟨_,rfl⟩
 have hlen:cs.length=m+1:=by rw [←hcs];simp
 have hat:∀i (h:i<cs.length),cs[i]=Go.Lib.itoa (v i):=by
  intro i h
  subst hcs
  simp
 rw [hcs]
 obtain ⟨r,h1,h2⟩:=JF (f:=fun s:Int×List Dg↦W.je.cd_ cs (↑(List.length cs):Int) (Prod.fst s) (Prod.snd s) some)
  (J:=fun s=>∃i:Nat,s.1=(i:Int)∧i≤cs.length∧Reps 4294967296 s.2 (fun j=>if j<i then v j else 0)∧Bd (fun j=>if j<i then v j else 0) M)
  (Q:=fun y=>∃i c,y=.inr (i,c)∧Reps 4294967296 c (fun j=>if j≤m then v j else 0)∧Bd (fun j=>if j≤m then v j else 0) M)
  (fun s=>cs.length-s.1.toNat) (fun ⟨t,c⟩ ⟨i,hs,hi0,h1,hb⟩=>by
   simp only at hs h1
   subst hs
   simp only [W.je.cd_,W.je.ck_]
   by_cases hi:i<cs.length
   ·obtain ⟨x,q1,q3,q4⟩:=parse_can (n:=v i) (hc i (by omega))
    have hidx:idx cs (i:Int)=some cs[i]:=by unfold idx;simp [hi]
    rw [jS (by omega),hidx,jc,hat i hi,q1,jc,jX (by rfl),jc]
    simp only [sel]
    have h8:i<8:=by omega
    rw [jH (by simp;omega),jc,Hk (by rw [h1.len];exact h8),jc,h1.idx h8,jc,jo (by omega)]
    refine Or.inr ⟨_,rfl,⟨i+1,by simp,by omega,(h1.set h8 q3).congr (fun j hj=>?_),fun j hj=>?_⟩,by simp only;omega⟩
    ·by_cases e:j=i
     ·rw [if_pos e,if_pos (by omega),e]
     ·rw [if_neg e]
      by_cases e3:j<i
      ·rw [if_pos e3,if_pos (by omega)]
      ·rw [if_neg e3,if_neg (by omega)]
    ·have hbj:=hb j hj
     simp only at hbj ⊢
     by_cases e:j=i
     ·rw [if_pos (by omega),e];exact rep_small hM q3 q4
     ·by_cases e3:j<i
      ·rw [if_pos e3] at hbj;rw [if_pos (by omega)];exact hbj
      ·rw [if_neg e3] at hbj;rw [if_neg (by omega)];exact hbj
   ·rw [jQ (by omega)]
    have:i=m+1:=by omega
    have heq:(fun j=>if j<i then v j else 0)=(fun j=>if j≤m then v j else 0):=by
     funext j
     by_cases e:j<i
     ·rw [if_pos e,if_pos (by omega)]
     ·rw [if_neg e,if_neg (by omega)]
    rw [heq] at h1 hb
    exact Or.inl ⟨_,rfl,_,_,rfl,h1,hb⟩)
  (s:=((0:Int),List.replicate 8 d0)) ⟨0,rfl,by omega,Reps.zero.congr (fun j _=>by rw [if_neg (by omega)]),fun j hj=>by simp only;rw [if_neg (by omega)];exact Bd.zero j hj⟩
 obtain ⟨i,c,rfl,h3⟩:=h2
 exact ⟨i,c,h1,h3⟩
def joinT:Int→List Int→List UInt8
 | a,[]=>Go.Lib.itoa a
 | a,b::r=>Go.Lib.itoa a++44::joinT b r
theorem joinT_snoc:∀(r:List Int) (a b:Int),joinT a (r++[b])=joinT a r++44::Go.Lib.itoa b
 | [],a,b=>rfl
 | c::r,a,b=>by
   show Go.Lib.itoa a++44::joinT c (r++[b])=(Go.Lib.itoa a++44::joinT c r)++_
   rw [joinT_snoc r c b,List.append_assoc];rfl
theorem body_join (v:Nat→Int):∀m,bodyT v m=joinT (v 0) ((List.range m).map fun j=>v (j+1))
 | 0=>rfl
 | m+1=>by
   rw [List.range_succ,List.map_append]
   simp only [List.map_cons,List.map_nil]
   rw [joinT_snoc,←body_join v m];rfl
theorem take_digits {D rest:List UInt8} (hD:kG D) (hr:∀c,rest.head?=some c→JT c=false):(D++rest).takeWhile JT=D:=by
 rw [List.takeWhile_append_of_pos hD]
 cases rest with
 | nil=>simp
 | cons c r=>
   rw [List.takeWhile_cons,hr c rfl]
   simp
theorem dlen_row {b:Bool} {D rest:List UInt8} (hD:kG D) (hn:D≠[]) (h48:D.head? ≠ some 48) (hr:∀c,rest.head?=some c→JT c=false):dlen b (D++rest)=D.length:=by
 unfold dlen
 have:(D++rest).head?=D.head?:=by cases D with | nil=>exact absurd rfl hn | cons=>rfl
 rw [this,beq_false_of_ne h48,if_neg (by decide),take_digits hD hr]
theorem num_row {n:Int} {rest:List UInt8} (hr:∀c,rest.head?=some c→JT c=false):Yg true (Go.Lib.itoa n++rest)=((Go.Lib.itoa n).length,true):=by
 rw [numLen_true]
 rcases Vt n with ⟨h1,h2⟩ | ⟨h1,D,⟨d1,d2,d3,d4⟩,h2⟩
 ·rw [h2];rfl
 ·have hl:D.length≠0:=fun e=>d2 (List.eq_nil_of_length_eq_zero e)
  rw [h2]
  by_cases hv:n<0
  ·rw [if_pos hv]
   have e:([45]++D++rest).head?=some 45:=rfl
   rw [e]
   simp only [beq_self_eq_true,if_true,Bool.not_true]
   have e2:List.drop 1 ([45]++D++rest)=D++rest:=rfl
   rw [e2,dlen_row d1 d2 d3 hr,decide_eq_true (by omega)]
   simp;omega
  ·rw [if_neg hv,List.nil_append]
   have e:((D++rest).head? == some 45)=false:=by
    have:(D++rest).head?=D.head?:=by cases D with | nil=>exact absurd rfl d2 | cons=>rfl
    rw [this];exact beq_false_of_ne (Vo d1)
   rw [e]
   simp only [Bool.false_eq_true,if_false,Bool.not_false,List.drop_zero]
   rw [dlen_row d1 d2 d3 hr,decide_eq_true (by omega)]
   simp
theorem scan_join:∀(r:List Int) (a:Int) (pre lw text:List UInt8) (n:Nat) (cs:List (List UInt8)),r.length<n→(∀c,lw.head?=some c→JT c=false∧c≠44)→text=pre++joinT a r++lw →
 scan text n pre.length cs=.inr (cs++(a::r).map Go.Lib.itoa,(pre++joinT a r).length)
 | [],a,pre,lw,text,0,cs,hn,_,_=>by simp at hn
 | [],a,pre,lw,text,n+1,cs,hn,hlw,ht=>by
   have hd:text.drop pre.length=Go.Lib.itoa a++lw:=by rw [ht,List.append_assoc,List.drop_left];rfl
   have hnl:=num_row (n:=a) (rest:=lw) fun c hc=>(hlw c hc).1
   have hat:text[pre.length+(Go.Lib.itoa a).length]? ≠ some 44:=by
    rw [ht,show joinT a []=Go.Lib.itoa a from rfl,List.getElem?_append_right (by simp),List.length_append,Nat.sub_self]
    intro e
    exact (hlw 44 (by rw [List.head?_eq_getElem?];exact e)).2 rfl
   simp only [scan]
   rw [hd,hnl]
   simp only [if_true]
   rw [List.take_left,if_neg hat]
   split<;>simp [joinT]
 | b::r,a,pre,lw,text,0,cs,hn,_,_=>by simp at hn
 | b::r,a,pre,lw,text,n+1,cs,hn,hlw,ht=>by
   have hd:text.drop pre.length=Go.Lib.itoa a++(44::joinT b r++lw):=by
    rw [ht,List.append_assoc,List.drop_left]
    show (Go.Lib.itoa a++44::joinT b r)++lw=_
    rw [List.append_assoc]
   have hnl:=num_row (n:=a) (rest:=44::joinT b r++lw) (by intro c hc;cases hc;rfl)
   have hat:text[pre.length+(Go.Lib.itoa a).length]?=some 44:=by
    have h0:text=pre++Go.Lib.itoa a++(44::joinT b r++lw):=by
     rw [ht]
     show pre++(Go.Lib.itoa a++44::joinT b r)++lw=_
     simp
    rw [h0,List.getElem?_append_right (by simp),List.length_append,Nat.sub_self]
    rfl
   have ih:=scan_join r b (pre++Go.Lib.itoa a++[44]) lw text n (cs++[Go.Lib.itoa a]) (by simp at hn;omega) hlw (by
    rw [ht]
    show pre++(Go.Lib.itoa a++44::joinT b r)++lw=_
    simp)
   have hp:(pre++Go.Lib.itoa a++[44]).length=pre.length+(Go.Lib.itoa a).length+1:=by simp;omega
   rw [hp] at ih
   simp only [scan]
   rw [hd,hnl]
   simp only [if_true]
   rw [List.take_left,if_neg (by simp at hn;omega),if_pos hat,ih]
   simp [joinT]
theorem low_scan (text body:List UInt8) {e:Nat} (ht:text=body++(if e=0 then [] else 47::Go.Lib.itoa (e:Int))) :
 HS text body.length=.inr ((if e=0 then [] else Go.Lib.itoa (e:Int)),text.length):=by
 unfold HS
 by_cases he:e=0
 ·rw [if_pos he,List.append_nil] at ht
  rw [ht,if_pos he,List.getElem?_eq_none (by simp),if_neg (by simp)]
 ·rw [if_neg he] at ht
  rw [if_neg he]
  have h47:text[body.length]?=some 47:=by rw [ht,List.getElem?_append_right (Nat.le_refl _),Nat.sub_self];rfl
  have hd:text.drop (body.length+1)=Go.Lib.itoa (e:Int):=by
   rw [ht,←List.drop_drop,List.drop_left];rfl
  rw [if_pos h47,hd,numLen_false]
  have hl:text.length=body.length+1+(Go.Lib.itoa (e:Int)).length:=by rw [ht];simp;omega
  rcases Vt (e:Int) with ⟨h1,h2⟩ | ⟨h1,D,⟨d1,d2,d3,d4⟩,h2⟩
  ·omega
  ·rw [if_neg (by omega),List.nil_append] at h2
   have hl0:D.length≠0:=fun e=>d2 (List.eq_nil_of_length_eq_zero e)
   have hdl:dlen false D=D.length:=by
    have:=dlen_row (b:=false) (rest:=[]) d1 d2 d3 (by intro c hc;cases hc)
    rwa [List.append_nil] at this
   rw [h2] at hl ⊢
   rw [hdl,decide_eq_true (by omega),List.take_length,hl]
   rfl
theorem scan_text (v:Nat→Int) (e:Nat):HR (ntext v e)=.inr ((List.range (JY v 8+1)).map (fun j=>Go.Lib.itoa (v j)),if e=0 then [] else Go.Lib.itoa (e:Int)):=by
 have hl:=UE v 8 (by decide)
 have hb:=body_join v (JY v 8)
 have hs:=scan_join ((List.range (JY v 8)).map fun j=>v (j+1)) (v 0) [] (if e=0 then [] else 47::Go.Lib.itoa (e:Int)) (ntext v e) 8 [] (by simp;omega) (by
  intro c hc
  split at hc
  ·cases hc
  ·cases hc;exact ⟨rfl,by decide⟩) (by unfold ntext;rw [hb];rfl)
 have hlw:=low_scan (ntext v e) (bodyT v (JY v 8)) (e:=e) rfl
 have hm:(v 0::(List.range (JY v 8)).map fun j=>v (j+1)).map Go.Lib.itoa=(List.range (JY v 8+1)).map (fun j=>Go.Lib.itoa (v j)):=by
  rw [List.range_succ_eq_map]
  simp [Function.comp_def]
 rw [List.nil_append,List.nil_append,hm,←hb] at hs
 unfold HR
 rw [show scan (ntext v e) 8 0 []=_ from hs]
 simp only
 rw [hlw]
 simp only
 rw [if_neg (Nat.lt_irrefl _)]
theorem low_can {e:Nat} (he:e≤10000):W.je.cu_ (if e=0 then [] else Go.Lib.itoa (e:Int)) 0 some=some (.inr (e:Int)):=by
 unfold W.je.cu_
 by_cases h0:e=0
 ·rw [if_pos h0,h0];rfl
 ·rw [if_neg h0]
  rcases Vt (e:Int) with ⟨h1,h2⟩ | ⟨h1,D,⟨d1,d2,d3,d4⟩,h2⟩
  ·omega
  ·rw [if_neg (by omega),List.nil_append] at h2
   rw [h2,JD (by simpa using d2)]
   have hlen:D.length≤281474976710656:=by
    rcases Nat.lt_or_ge 281474976710656 D.length with hh | hh
    ·have:=HY d1 d2 d3
     rw [d4] at this
     have h10:(10:Int)^5≤10^(D.length-1):=by
      have:(10:Nat)^5≤10^(D.length-1):=Nat.pow_le_pow_right (by decide) (by omega)
      exact_mod_cast this
     have:((e:Int)).natAbs=e:=by omega
     omega
    ·exact hh
   have ha:W.kV D=some ((e:Int),false):=by
    unfold W.kV
    rw [decide_eq_true hlen,cond_true]
    have hde:dec D=(e:Int):=by rw [d4];omega
    cases D with
    | nil=>exact absurd rfl d2
    | cons c r=>
      have hc:=d1 c (by simp)
      have hc2:48≤c.toNat∧c.toNat≤57:=by
       unfold JT at hc
       simpa using hc
      unfold Go.Lib.atoiAll
      simp only
      rw [if_neg (by omega)]
      unfold Go.Lib.parseMag
      rw [if_neg (by simp)]
      have hneg:¬c.toNat=45:=by omega
      rcases dec_foldr_uint (c::r) 0 d1 with ⟨u,hu,hq⟩ | ⟨hu,hq⟩
      ·rw [hu]
       simp only [hneg,not_false_eq_true,true_and,false_and,if_false]
       have hd:(u:Int)=dec (c::r):=hq
       rw [if_neg (by omega)]
       simp only
       rw [hd,hde]
      ·have hd:10000<dec (c::r):=hq
       omega
   rw [ha,jc]
   unfold W.je.cr_ W.je.c15
   simp only [Bool.not_false,Bool.not_true,br_ff,jc]
   rw [jQ (by omega),jc]
   rfl
theorem parse_text {v:Nat→Int} {e:Nat} (hcan:KCan v e) (he:e≤10000) (hc:∀j,j<8→ndig (Go.Lib.itoa (v j))≤1000) (hL:(ntext v e).length≤281474976710656) :
 ∃a L E,W.kM (ntext v e)=some (a,(0,0))∧Num 4294967296 a (kv v e) L E∧L≤40000∧E≤10000:=by
 have hl:=UE v 8 (by decide)
 have hs:=scan_text v e
 unfold W.kM W.je
 rcases all_scan hL with ⟨p,r,q,a1,a2,a3⟩ | ⟨cs,low,r,a1,a2⟩
 ·rw [hs] at a1;cases a1
 ·rw [hs] at a1
  cases a1
  rw [a2,jc]
  simp only [sel]
  obtain ⟨i,c,y1,h1,h2⟩:=coeffs_can (M:=32000) (Nat.le_refl _) (v:=v) (m:=JY v 8) (by omega) (fun j hj=>hc j (by omega))
  have hv:∀j,j<8→(if j≤JY v 8 then v j else 0)=v j:=by
   intro j hj
   by_cases h:j≤JY v 8
   ·rw [if_pos h]
   ·rw [if_neg h,Uk (v:=v) 8 j (by omega) hj]
  rw [show iter (fun s↦W.je.cd_ ((List.range (JY v 8+1)).map fun j=>Go.Lib.itoa (v j)) (↑(List.length ((List.range (JY v 8+1)).map fun j=>Go.Lib.itoa (v j))):Int) (Prod.fst s) (Prod.snd s) some) ((0:Int),List.replicate (8:Nat) (false,[]))=some (.inr (i,c)) from y1,jc]
  simp only
  rw [low_can he,jc]
  obtain ⟨z,z1,z2⟩:=least_ok h1 h2 (e:Int) (by omega)
  obtain ⟨t,t1,t2⟩:=HB z2 (by omega) (by omega)
  have hk:kvz (fun j=>if j≤JY v 8 then v j else 0) (e:Int)=kv v e:=by
   rw [HN]
   exact Uu hv
  rw [hk] at z2 t2
  have ht:t=ntext v e:=KTxt.one t2 ⟨v,e,hcan,rfl,rfl⟩
  simp only [W.je.cz_,W.je.c21]
  rw [jH (by simp [h1.len]),jc,z1,jc]
  simp only [show ∀a:NumT,idx [a] (0:Int)=some a from fun _=>rfl,show ∀a b:NumT,List.set [a] 0 b=[b] from fun _ _=>rfl,jc,t1]
  rw [jX (by simp [ht])]
  simp only [jc,show ∀a:NumT,idx [a] (0:Int)=some a from fun _=>rfl]
  exact ⟨z,_,_,rfl,z2,by omega,by omega⟩
end Go.Ql
end

section
set_option maxRecDepth 100000
namespace Go.Ql
theorem Hr {ops:List GOp} {s0:SK}:∀(k i:Nat) (p:List Int) (v:KV) (bits:List Int),ops.length-i=k→Here ops s0 p i v bits → ∀e∈allK (ops.drop i) v bits p,playK e.1 0 ops s0=.inr (e.2.2,e.2.1,e.1.length)
 | 0,i,p,v,bits,hk,hh,e,he=>by
   have hi:i=ops.length:=by have:=hh.le;omega
   subst hi
   rw [List.drop_length] at he
   simp only [allK,List.mem_singleton] at he
   subst he
   exact hh.end_
 | k+1,i,p,v,bits,hk,hh,e,he=>by
   have hi:i<ops.length:=by omega
   rw [List.drop_eq_getElem_cons hi] at he
   simp only [allK] at he
   by_cases hcd:condK bits ops[i]=false
   ·rw [if_pos hcd] at he
    exact Hr k (i+1) p v bits (by omega) (hh.skip hi hcd) e he
   ·rw [if_neg hcd] at he
    by_cases h5:ops[i].1<5
    ·rw [if_pos h5] at he
     exact Hr k (i+1) p _ bits (by omega) (hh.gate hi hcd h5) e he
    ·rw [if_neg h5] at he
     rcases List.mem_append.1 he with he | he
     ·exact Hr k (i+1) _ _ _ (by omega) (hh.meet hi hcd h5 (x:=0) (.inl rfl)) e he
     ·exact Hr k (i+1) _ _ _ (by omega) (hh.meet hi hcd h5 (x:=1) (.inr rfl)) e he
theorem chances_prog {n m:Nat} {ops:List GOp} (hco:CirOk n m ops) {i0:Nat} (hi0:i0<2^n) {L:List EndK} (hL:nzK (2^n) (allK ops (kK i0) (List.replicate m 0) [])=L) :
 (L.length≤1024∧W.jy ((n:Int),(m:Int),ops) (i0:Int)=some (L.map (tK (2^n)),0,0))∨W.jy ((n:Int),(m:Int),ops) (i0:Int)=some ([],21,0):=by
 have h1:=hco.hn
 have h2:=hco.hb
 have h3:=hco.hl
 have k1:=check_ok _ hco.wcir
 rw [hco.chk] at k1
 have hp:=pow63 (q:=(n:Int)) (by omega)
 rw [Int.toNat_natCast] at hp
 obtain ⟨l0,b1,b2⟩:=pbasis_walk (show n≤20 by omega) hi0
 have hbeg:W.jw ((n:Int),(m:Int),ops) (i0:Int)=some (.inl (((0:Int),(0:Int)),(n:Int),(m:Int),ops,(0:Int),(0:Int),l0,List.replicate m 0,())):=by
  unfold W.jw W.jw.c4 W.jw.c6
  simp only
  rw [k1,jc,jX (by decide),jQ (by omega),jH (by simp),jc,Int.toNat_natCast,hp,decide_eq_false (by omega),jc,br_ff,b1,jc,
   jH (by rw [Bool.and_eq_true,Bool.and_eq_true,Bool.and_eq_true,decide_eq_true_iff,decide_eq_true_iff,decide_eq_true_iff,decide_eq_true_iff];omega),jc,jc,Int.toNat_natCast]
 obtain ⟨w,hw1⟩:=fuel_ok hco.hn hco.hb hco.hl hco.oks 4200 0 (by omega) 0 l0 (kK i0) (List.replicate m 0) [] [] (Nat.le_refl _) ⟨b2,Nat.zero_le _,by simp,B01.zero _,Nat.le_refl _,by simp⟩
 have hf:=HK (n:=n) (bn:=m) hco.oks (v:=kK i0) (bits:=List.replicate m 0) (tape:=[]) (out:=[]) (basis_some hi0) (by simp)
 rw [List.drop_zero] at hw1
 obtain ⟨R,hR⟩:∃R,deepK (2^n) ops (kK i0) (List.replicate m 0) [] []=R:=⟨_,rfl⟩
 rw [hR] at hw1 hf
 rw [hL] at hf
 have hch:W.jy ((n:Int),(m:Int),ops) (i0:Int)=br (!R.1) (some ([],(21:Int),(0:Int))) (some (R.2.map (tK (2^n)),(0:Int),(0:Int))):=by
  unfold W.jy
  simp only
  rw [hbeg,jc,Yb]
  simp only
  rw [jX (by rfl)]
  exact Vm (x:=(R.1,R.2.map (tK (2^n)),w)) hw1 rfl
 unfold HI at hf
 rw [List.nil_append] at hf
 rcases hf with ⟨f1,f2⟩ | ⟨f1,f2⟩
 ·subst f2
  exact .inl ⟨f1,by rw [hch];rfl⟩
 ·subst f2
  exact .inr (by rw [hch];rfl)
theorem run_of_play {n m:Nat} {ops:List GOp} (hco:CirOk n m ops) {i0:Nat} (hi0:i0<2^n) {tape:List Int} (ht:tape.length<2^62) {s:SK} (hs:playK tape 0 ops (kK i0,List.replicate m 0,0)=.inr s) :
 ∃T a,W.jv ((n:Int),(m:Int),ops) (i0:Int) tape=some ((T,s.2.1,(s.2.2:Int)),(0,0))∧W.jG ((n:Int),(m:Int),ops) (i0:Int) tape=some (txtK (normK s.1 (2^n)),(0,0)) ∧
  Num 4294967296 a (normK s.1 (2^n)) (4*ops.length+10+2^n) (ops.length+ops.length)∧KTxt (normK s.1 (2^n)) (txtK (normK s.1 (2^n)))∧FitsK (normK s.1 (2^n)) (4*ops.length+10+2^n) (ops.length+ops.length):=by
 have h1:=hco.hn
 have h2:=hco.hb
 have h3:=hco.hl
 have hN:2^n≤2^12:=Nat.pow_le_pow_right (by decide) h1
 have k1:=check_ok _ hco.wcir
 rw [hco.chk] at k1
 obtain ⟨l,l1,l2⟩:=(played_good h1 (by omega) (by omega) ht hi0 hco.oks k1).2 s hs
 obtain ⟨T,t1,t2⟩:=texts_walk l2 (by omega) (by omega)
 obtain ⟨a,a1,a2⟩:=pnorm_walk l2 h1 h3
 obtain ⟨x,x1,x2⟩:=HB a2 (by omega) (by omega)
 have hx:=txt_eq x2
 have hl:=l2.len
 refine ⟨T,a,?_,?_,a2,hx▸x2,norm_fits l2.fit (2^n) (Nat.le_refl _)⟩
 ·unfold W.jv W.jv.c4
  simp only
  rw [l1,jc,Yb,jX (by rfl)]
  simp only
  rw [hl,t1,jc,jc]
 ·unfold W.jG
  simp only
  rw [l1,jc,Yb,jX (by rfl)]
  simp only
  rw [hl,a1,jc,x1,jc,hx]
def tailD (l:List UInt8):Nat:=l.foldl (fun n c=>if JT c then n+1 else 0) 0
theorem tailD_from (D:List UInt8) (hD:kG D):∀n:Nat,D.foldl (fun n c=>if JT c then n+1 else 0) n=n+D.length:=by
 induction D with
 | nil=>intro n;rfl
 | cons c r ih=>
   intro n
   rw [List.foldl_cons,if_pos (hD c (by simp)),ih (fun x hx=>hD x (by simp [hx]))]
   simp only [List.length_cons];omega
theorem tailD_row (pre D:List UInt8) (hD:kG D):D.length≤tailD (pre++D):=by
 unfold tailD
 rw [List.foldl_append,tailD_from D hD]
 omega
theorem tailD_take (text:List UInt8) (i:Nat) (hi:i<text.length):tailD (text.take (i+1))=if JT text[i] then tailD (text.take i)+1 else 0:=by
 unfold tailD
 rw [List.take_succ_eq_append_getElem hi,List.foldl_append]
 rfl
theorem tailD_le (text:List UInt8):∀i,i≤text.length→tailD (text.take i)≤i
 | 0,_=>by simp [tailD]
 | i+1,h=>by
   rw [tailD_take text i (by omega)]
   have:=tailD_le text i (by omega)
   split<;>omega
theorem wide_ok (text:List UInt8) (hL:text.length<2^60):∃b,W.jF text=some b∧(b=false → ∀i,i≤text.length→tailD (text.take i)≤1000):=by
 obtain ⟨y,y1,y2⟩:=JX (f:=fun s:Int×Int↦W.jF.ca_ text (Prod.fst s) (Prod.snd s) some) text.length
  (fun i s=>s=((tailD (text.take i):Int),(i:Int)) ∧ ∀j,j≤i→tailD (text.take j)≤1000)
  (fun y=>(∃u,y=.inl u)∨((∃u,y=.inr u) ∧ ∀j,j≤text.length→tailD (text.take j)≤1000))
  (by
   rintro i _ hi ⟨rfl,h⟩
   simp only [W.jF.ca_]
   have hle:=tailD_le text i (by omega)
   have hnext:=tailD_take text i hi
   have hc:W.jF.cm_ text (IntKind.i64.wrap ((tailD (text.take i):Int)+1)) (i:Int) some=some (tailD (text.take (i+1)):Int):=by
    unfold W.jF.cm_ W.jF.c6
    rw [Hw text i hi,jc]
    rw [hnext]
    have hb:=text[i].toNat_lt
    by_cases h1:(↑(UInt8.toNat text[i]):Int)<48
    ·rw [jS h1,jc,br_tt,if_neg (by unfold JT;simp;omega)];rfl
    ·rw [jQ h1,jc]
     by_cases h2:(↑(UInt8.toNat text[i]):Int)>57
     ·rw [decide_eq_true h2,jc,br_tt,if_neg (by unfold JT;simp;omega)];rfl
     ·rw [decide_eq_false h2,jc,br_ff,if_pos (by unfold JT;simp;omega),jo (by omega)];rfl
   rw [jS (by omega),hc,jc]
   by_cases hw:(tailD (text.take (i+1)):Int)>1000
   ·rw [jS hw]
    exact .inr ⟨_,rfl,.inl ⟨_,rfl⟩⟩
   ·rw [jQ hw,jo (by omega)]
    refine .inl ⟨_,rfl,rfl,fun j hj=>?_⟩
    by_cases e:j=i+1
    ·subst e;omega
    ·exact h j (by omega))
  (by
   rintro _ ⟨rfl,h⟩
   refine ⟨.inr ((tailD (text.take text.length):Int),(text.length:Int)),?_,.inr ⟨⟨_,rfl⟩,h⟩⟩
   simp only [W.jF.ca_]
   rw [jQ (by omega)])
  (s:=((0:Int),(0:Int))) ⟨rfl,fun j hj=>by rw [Nat.le_zero.1 hj];simp [tailD]⟩
 unfold W.jF
 rw [y1,jc]
 rcases y2 with ⟨u,rfl⟩ | ⟨⟨u,rfl⟩,h⟩
 ·exact ⟨true,rfl,fun h=>by cases h⟩
 ·exact ⟨false,rfl,fun _=>h⟩
theorem body_word (v:Nat→Int):∀m j,j≤m → ∃pre post,bodyT v m=pre++Go.Lib.itoa (v j)++post
 | 0,j,h=>⟨[],[],by rw [Nat.le_zero.1 h];simp [bodyT]⟩
 | m+1,j,h=>by
   by_cases e:j=m+1
   ·subst e
    exact ⟨bodyT v m++[44],[],by simp [bodyT]⟩
   ·obtain ⟨pre,post,hp⟩:=body_word v m j (by omega)
    exact ⟨pre,post++(44::Go.Lib.itoa (v (m+1))),by simp only [bodyT];rw [hp];simp⟩
theorem word_short {text:List UInt8} (h:∀i,i≤text.length→tailD (text.take i)≤1000) {pre post:List UInt8} {n:Int} (ht:text=pre++Go.Lib.itoa n++post):ndig (Go.Lib.itoa n)≤1000:=by
 rcases Vt n with ⟨h1,h2⟩ | ⟨h1,D,⟨d1,d2,d3,d4⟩,h2⟩
 ·rw [h2];decide
 ·have key:D.length≤1000:=by
   have hx:=h (pre++Go.Lib.itoa n).length (by rw [ht];simp)
   rw [ht,List.take_left,h2] at hx
   have:=tailD_row (pre++(if n<0 then [45] else [])) D d1
   rw [List.append_assoc] at this
   omega
  have hh:ndig (Go.Lib.itoa n)=D.length:=by
   rw [h2]
   by_cases hv:n<0
   ·rw [if_pos hv];simp [ndig]
   ·rw [if_neg hv,List.nil_append]
    unfold ndig
    rw [beq_false_of_ne (Vo d1)]
    simp
  omega
theorem parse_back {k:K} {a:NumT} {M t:Nat} (ha:Num 4294967296 a k M t) (hM:M≤30000) (ht:t≤10000) (hf:FitsK k M t) (hk:KTxt k (txtK k)) (hw:∀i,i≤(txtK k).length→tailD ((txtK k).take i)≤1000) :
 ∃b,W.kM (txtK k)=some (b,(0,0))∧Num 4294967296 b k M t:=by
 obtain ⟨text,htx⟩:∃x,txtK k=x:=⟨_,rfl⟩
 rw [htx] at hk hw ⊢
 have hlen:=text_len ha (by omega) hk
 obtain ⟨v,e,h1,h2,h3⟩:=hk
 have he:e≤t:=by
  rcases Nat.lt_or_ge t e with hlt | hge
  ·obtain ⟨w,w1,w2⟩:=hf
   obtain ⟨d,rfl⟩:∃d,e=t+d:=⟨e-t,by omega⟩
   have:=(kv_inj_le (v:=w) (w:=v) (e:=t) (k:=d) (by rw [w1,h2]) h1).1
   omega
  ·exact hge
 have hc:∀j,j<8→ndig (Go.Lib.itoa (v j))≤1000:=by
  intro j hj
  by_cases hjl:j≤JY v 8
  ·obtain ⟨pre,post,hp⟩:=body_word v _ j hjl
   refine word_short hw (pre:=pre) (post:=post++(if e=0 then [] else 47::Go.Lib.itoa (e:Int))) ?_
   rw [h3];unfold ntext;rw [hp];simp
  ·rw [Uk (v:=v) 8 j (by omega) hj,show Go.Lib.itoa 0=[48] by decide +kernel];decide
 obtain ⟨b,L,E,b1,b2,b3,b4⟩:=parse_text h1 (by omega) hc (by rw [←h3];omega)
 rw [h3]
 exact ⟨b,b1,by rw [h2] at b2;exact b2.fit hf⟩
end Go.Ql
end

section
set_option maxRecDepth 100000
namespace Go.Ql
theorem ktxt_one:KTxt K.one [49]:=⟨HT 1,0,.inl rfl,one_kv,by decide +kernel⟩
structure EndOk (n m:Nat) (ops:List GOp) (i0:Nat) (e:EndK):Prop where
 run:∃T,W.jv ((n:Int),(m:Int),ops) (i0:Int) e.1=some ((T,e.2.1,(e.1.length:Int)),(0,0))
 ch:W.jG ((n:Int),(m:Int),ops) (i0:Int) e.1=some (txtK (normK e.2.2 (2^n)),(0,0))
 num:∃a,Num 4294967296 a (normK e.2.2 (2^n)) 20490 8192
 fit:FitsK (normK e.2.2 (2^n)) 20490 8192
 txt:KTxt (normK e.2.2 (2^n)) (txtK (normK e.2.2 (2^n)))
 tl:e.1.length≤4096
 bl:e.2.1.length≤12
theorem FitsK.wide {k:K} {L t:Nat} (h:FitsK k L t) {M u:Nat} (ht:t≤u) (hM:L+(u-t)≤M):FitsK k M u:=by
 obtain ⟨d,rfl⟩:∃d,u=t+d:=⟨u-t,by omega⟩
 exact (h.up d).mono (by omega)
theorem end_ok {n m:Nat} {ops:List GOp} (hco:CirOk n m ops) {i0:Nat} (hi0:i0<2^n):∀e∈allK ops (kK i0) (List.replicate m 0) [],EndOk n m ops i0 e:=by
 intro e he
 have h1:=hco.hn
 have h2:=hco.hb
 have h3:=hco.hl
 have hN:2^n≤2^12:=Nat.pow_le_pow_right (by decide) h1
 have hlen:=HJ _ _ _ _ e he
 simp only [List.length_nil,List.length_replicate] at hlen
 have hp:=Hr ops.length 0 [] (kK i0) (List.replicate m 0) (by omega) (Here.begin ops (kK i0) (List.replicate m 0)) e (by rw [List.drop_zero];exact he)
 obtain ⟨T,a,r1,r2,r3,r4,r5⟩:=run_of_play hco hi0 (by omega) hp
 have hf:FitsK (normK e.2.2 (2^n)) 20490 8192:=r5.wide (by omega) (by omega)
 exact ⟨⟨T,r1⟩,r2,⟨a,r3.fit hf⟩,hf,r4,by omega,by omega⟩
theorem sum_fits {l:List K} (h:∀k∈l,FitsK k 20490 8192):FitsK (lsumK l) (20490+l.length) 8192:=by
 induction l with
 | nil=>exact FitsK.zero _ _
 | cons k l ih=>
   have h1:=ih (fun x hx=>h x (by simp [hx]))
   have h2:=(h k (by simp)).mono (show 20490≤20490+l.length by omega)
   exact (h2.add h1).mono (by simp only [List.length_cons];omega)
theorem lsum_snoc (l:List K) (k:K):lsumK (l++[k])=K.add (lsumK l) k:=by
 rw [Hm]
 show K.add _ (K.add k K.zero)=_
 rw [K.add_zero]
theorem get_str {l:List (List UInt8)} {i:Nat} (h:i<l.length):idx l (i:Int)=some l[i]:=by unfold idx;simp [h]
theorem total_ok (ks:List K) (hk:∀k∈ks,(∃a,Num 4294967296 a k 20490 8192)∧FitsK k 20490 8192∧KTxt k (txtK k) ∧ ∀i,i≤(txtK k).length→tailD ((txtK k).take i)≤1000) (hl:ks.length≤1024) :
 ∃a,W.JR (ks.map txtK)=some (a,true)∧Num 4294967296 a (lsumK ks) 21514 8192:=by
 obtain ⟨T,hT⟩:∃T,ks.map txtK=T:=⟨_,rfl⟩
 have hTl:T.length=ks.length:=by rw [←hT,List.length_map]
 obtain ⟨y,y1,y2⟩:=JX (f:=fun s:Int×List NumT↦W.JR.ca_ T (↑(List.length T):Int) (Prod.fst s) [(List.replicate (8:Nat) (Bool.false,[]),(0:Int))] (Prod.snd s) some) T.length
  (fun i s=>s.1=(i:Int) ∧ ∃a,s.2=[a]∧Num 4294967296 a (lsumK (ks.take i)) (20490+i) 8192)
  (fun y=>∃i a,y=.inr (i,[a])∧Num 4294967296 a (lsumK ks) (20490+ks.length) 8192)
  (by
   rintro i ⟨s,out⟩ hi ⟨p1,a,p2,p3⟩
   simp only at p1 p2
   subst p1
   subst p2
   left
   have hi2:i<ks.length:=by omega
   have hm:ks[i]∈ks:=List.getElem_mem hi2
   obtain ⟨⟨b0,hb0⟩,h2,h3,h4⟩:=hk _ hm
   obtain ⟨b,b1,b2⟩:=parse_back hb0 (by omega) (by omega) h2 h3 h4
   obtain ⟨r,r1,r2⟩:=nadd_t p3 b2 (by omega)
   have hTi:T[i]=txtK ks[i]:=by subst hT;simp
   have hf:=sum_fits (l:=ks.take (i+1)) (fun k hk'=>(hk k (List.mem_of_mem_take hk')).2.1)
   have hsum:lsumK (ks.take (i+1))=K.add (lsumK (ks.take i)) ks[i]:=by rw [List.take_succ_eq_append_getElem hi2,lsum_snoc]
   refine ⟨(((i+1:Nat):Int),[r]),?_,rfl,r,rfl,?_⟩
   ·simp only [W.JR.ca_]
    rw [jS (by omega),get_str hi,jc,hTi,b1,jc,jX (by rfl),show ∀a:NumT,idx [a] (0:Int)=some a from fun _=>rfl,jc]
    simp only
    rw [r1,jc,jc,jo (by omega)]
    rfl
   ·rw [hsum]
    rw [hsum] at hf
    exact r2.fit (hf.mono (by rw [List.length_take];omega)))
  (by
   rintro ⟨s,out⟩ ⟨p1,a,p2,p3⟩
   simp only at p1 p2
   subst p1
   subst p2
   refine ⟨.inr ((T.length:Int),[a]),?_,_,a,rfl,?_⟩
   ·simp only [W.JR.ca_]
    rw [jQ (by omega)]
   ·rw [hTl,List.take_length] at p3
    exact p3)
  (s:=((0:Int),[z0])) ⟨rfl,z0,rfl,num_zero⟩
 obtain ⟨i,a,rfl,ha⟩:=y2
 rw [hT]
 unfold W.JR
 rw [show [(List.replicate (8:Nat) (Bool.false,([]:List Int)),(0:Int))]=[z0] from rfl] at y1 ⊢
 rw [y1,jc]
 refine ⟨a,rfl,?_⟩
 exact ha.fit ((sum_fits (fun k h=>(hk k h).2.1)).mono (by omega))
theorem sums_law (c:Cir) (hc:WCir c) (i:Int):W.jr c i=some true:=by
 by_cases hgood:(chk c).1=0∧0≤i∧i<((2^c.1.toNat:Nat):Int)
 ·obtain ⟨hk,hi1,hi2⟩:=hgood
  obtain ⟨hg,hck⟩:=good_of hk
  have h1:=hg.q
  have h2:=hg.b
  have h3:=hg.n
  have h4:=hg.ops
  have hw:=hc.2
  obtain ⟨qn,bn,ops⟩:=c
  simp only at h1 h2 h3 h4 hi2
  obtain ⟨n,rfl⟩:=Int.eq_ofNat_of_zero_le (show (0:Int)≤qn by omega)
  obtain ⟨m,rfl⟩:=Int.eq_ofNat_of_zero_le (show (0:Int)≤bn by omega)
  obtain ⟨i0,rfl⟩:=Int.eq_ofNat_of_zero_le hi1
  rw [Int.toNat_natCast] at hi2
  have hi0:i0<2^n:=by omega
  have hco:CirOk n m ops:=⟨by omega,by omega,by omega,h3,hw,h4⟩
  obtain ⟨L,hL⟩:∃L,nzK (2^n) (allK ops (kK i0) (List.replicate m 0) [])=L:=⟨_,rfl⟩
  have hEnd:∀e∈L,EndOk n m ops i0 e:=by
   intro e he
   rw [←hL] at he
   unfold nzK at he
   exact end_ok hco hi0 e (List.mem_filter.1 he).1
  unfold W.jr
  simp only
  rcases chances_prog hco hi0 hL with ⟨hlen,hch⟩ | hch
  ·obtain ⟨T,hT⟩:∃T,L.map (tK (2^n))=T:=⟨_,rfl⟩
   have hTl:T.length=L.length:=by rw [←hT,List.length_map]
   have hTi:∀j (hj:j<T.length),T[j]=tK (2^n) (L[j]'(by omega)):=by intro j hj;subst hT;simp
   rw [hch,jc,begun_ok,jc,show (!true)=false from rfl,br_ff,jX (by rfl)]
   simp only
   rw [hT]
   obtain ⟨y,y1,y2⟩:=JX (f:=fun s:Int×List (List UInt8)↦W.jr.cf_ (i0:Int) T (↑(List.length T):Int) (Prod.fst s) (n:Int) (m:Int) ops (Prod.snd s) some) T.length
    (fun j s=>s=((j:Int),(T.take j).map fun e=>e.2.2))
    (fun y=>∃j,y=.inr (j,T.map fun e=>e.2.2))
    (by
     rintro j _ hj rfl
     left
     have hjL:j<L.length:=by omega
     have hE:=hEnd _ (List.getElem_mem hjL)
     obtain ⟨TT,hrun⟩:=hE.run
     refine ⟨(((j+1:Nat):Int),(T.take (j+1)).map fun e=>e.2.2),?_,rfl⟩
     simp only [W.jr.cf_]
     have hidx:idx T (j:Int)=some T[j]:=by unfold idx;simp [hj]
     rw [jS (by omega),hidx,jc,hTi j hj,jH (by rw [Bool.and_eq_true,decide_eq_true_iff,decide_eq_true_iff,List.length_map,List.length_take];omega),jc]
     simp only [tK]
     rw [hE.ch,jc,hrun,jc]
     have hc13:W.jr.c13 (txtK (normK L[j].2.2 (2^n))) L[j].1 L[j].2.1 (txtK (normK L[j].2.2 (2^n))) 0 L[j].2.1 (L[j].1.length:Int) 0 some=some false:=by
      unfold W.jr.c13
      have hbl:=hE.bl
      rw [jX (by rfl),jX (by rfl),jX (by simp),jX (by simp),sameInts_ok _ _ (by omega),jc]
      simp
     rw [hc13,jc,br_ff,jo (by omega),List.take_succ_eq_append_getElem hj,List.map_append,hTi j hj]
     rfl)
    (by
     rintro _ rfl
     refine ⟨.inr ((T.length:Int),T.map fun e=>e.2.2),?_,_,rfl⟩
     simp only [W.jr.cf_]
     rw [jQ (by omega),List.take_length])
    (s:=((0:Int),[])) rfl
   obtain ⟨j,rfl⟩:=y2
   rw [y1,jc,YJ]
   simp only
   have hall:(T.map fun e=>e.2.2)=(L.map fun e=>normK e.2.2 (2^n)).map txtK:=by
    rw [←hT,List.map_map,List.map_map];rfl
   obtain ⟨A,hA⟩:∃A,(T.map fun e=>e.2.2)=A:=⟨_,rfl⟩
   rw [hA] at hall ⊢
   have hAl:A.length=L.length:=by rw [←hA,List.length_map,hTl]
   have hAi:∀j (hj:j<A.length),A[j]=txtK (normK (L[j]'(by omega)).2.2 (2^n)):=by intro j hj;subst hall;simp
   have hAlen:∀j (hj:j<A.length),A[j].length<2^60:=by
    intro j hj
    have hE:=hEnd _ (List.getElem_mem (show j<L.length by omega))
    obtain ⟨a,ha⟩:=hE.num
    rw [hAi j hj]
    have:=text_len ha (by omega) hE.txt
    omega
   obtain ⟨y,z1,z2⟩:=JX (f:=fun s:Int↦W.jr.cx_ (↑(List.length A):Int) s A some) A.length
    (fun j s=>s=(j:Int) ∧ ∀k (hk:k<A.length),k<j → ∀i,i≤A[k].length→tailD (A[k].take i)≤1000)
    (fun y=>(∃u,y=.inl u)∨((∃u,y=.inr u) ∧ ∀k (hk:k<A.length),∀i,i≤A[k].length→tailD (A[k].take i)≤1000))
    (by
     rintro j _ hj ⟨rfl,hall2⟩
     obtain ⟨b,b1,b2⟩:=wide_ok A[j] (hAlen j hj)
     simp only [W.jr.cx_]
     rw [jS (by omega),Hk hj,jc,get_str hj,jc,b1,jc]
     cases hb:b with
     | true=>exact .inr ⟨_,rfl,.inl ⟨_,rfl⟩⟩
     | false=>
       rw [br_ff,jo (by omega)]
       refine .inl ⟨_,rfl,rfl,fun k hk hkj=>?_⟩
       by_cases e:k=j
       ·subst e;exact b2 hb
       ·exact hall2 k hk (by omega))
    (by
     rintro _ ⟨rfl,hall2⟩
     refine ⟨.inr (A.length:Int),?_,.inr ⟨⟨_,rfl⟩,fun k hk=>hall2 k hk hk⟩⟩
     simp only [W.jr.cx_]
     rw [jQ (by omega)])
    (s:=(0:Int)) ⟨rfl,fun k hk h=>by omega⟩
   rw [z1,jc]
   rcases z2 with ⟨u,rfl⟩ | ⟨⟨u,rfl⟩,hn⟩
   ·rfl
   ·rw [YJ]
    obtain ⟨a,a1,a2⟩:=total_ok (L.map fun e=>normK e.2.2 (2^n)) (fun k hk=>by
     obtain ⟨e,he,rfl⟩:=List.mem_map.1 hk
     have hE:=hEnd e he
     obtain ⟨j,hj,rfl⟩:=List.getElem_of_mem he
     refine ⟨hE.num,hE.fit,hE.txt,?_⟩
     have:=hn j (by omega)
     rw [hAi j (by omega)] at this
     exact this) (by rw [List.length_map];exact hlen)
    rw [←hall] at a1
    have hborn:=born_nz hco.oks (kK i0) (List.replicate m 0) []
    rw [hL,norm_basis hi0] at hborn
    rw [hborn] at a2
    obtain ⟨t,t1,t2⟩:=HB a2 (by omega) (by omega)
    have ht:=t2.one ktxt_one
    rw [a1,jc]
    simp only
    have hc23:W.jr.c23 true [a] some=some true:=by
     unfold W.jr.c23
     rw [br_tt,show ∀a:NumT,idx [a] (0:Int)=some a from fun _=>rfl,jc,t1,jc,ht]
     rfl
    rw [hc23,jc]
  ·rw [hch,jc,begun_ok,jc]
   rfl
 ·have hbad:∃f:Int×Int,f.1≠0∧W.jy c i=some ([],f):=by
   have k1:=check_ok c hc
   by_cases hk:(chk c).1=0
   ·obtain ⟨hg,hck⟩:=good_of hk
    have h1:=hg.q
    rw [hck] at k1
    obtain ⟨qn,bn,ops⟩:=c
    simp only at h1
    obtain ⟨n,rfl⟩:=Int.eq_ofNat_of_zero_le (show (0:Int)≤qn by omega)
    have hp:=pow63 (q:=(n:Int)) (by omega)
    rw [Int.toNat_natCast] at hp
    have hin:i<0∨((2^n:Nat):Int)≤i:=by
     rcases Int.lt_or_le i 0 with h | h
     ·exact .inl h
     ·rcases Int.lt_or_le i ((2^n:Nat):Int) with h2 | h2
      ·exact absurd ⟨hk,h,by simpa using h2⟩ hgood
      ·exact .inr h2
    have hb:W.jw ((n:Int),bn,ops) i=some (.inr ((),(18,0),())):=by
     unfold W.jw W.jw.c4
     simp only
     rw [k1,jc,jX (by rfl),Int.toNat_natCast,hp]
     rcases hin with h | h
     ·rw [jS h,jc];rfl
     ·by_cases h0:i<0
      ·rw [jS h0,jc];rfl
      ·rw [jQ h0,jH (by simp),jc,decide_eq_true (by omega),jc];rfl
    refine ⟨(18,0),by decide,?_⟩
    unfold W.jy
    simp only
    rw [hb,jc]
    rfl
   ·refine ⟨chk c,hk,?_⟩
    have hb:W.jw c i=some (.inr ((),chk c,())):=by
     unfold W.jw
     rw [show (c.1,c.2.1,c.2.2)=c from rfl,k1,jc,JD (by simpa using hk)]
     rfl
    unfold W.jy
    rw [show (c.1,c.2.1,c.2.2)=c from rfl,hb,jc,YJ,JD (by simpa using hk)]
    rfl
  obtain ⟨f,f1,f2⟩:=hbad
  unfold W.jr
  rw [show (c.1,c.2.1,c.2.2)=c from rfl,f2,jc,begun_ok,jc,show (!true)=false from rfl,br_ff,JD (by simpa using f1)]
  rfl
theorem sums_wf:∀x:dens [cirTy,.int .i64],WfL [cirTy,.int .i64] x→W.jr.ce.F x=some true:=by
 rintro ⟨c,i⟩ ⟨h1,h2⟩
 exact sums_law c (wcir_of h1) i
end Go.Ql
end
