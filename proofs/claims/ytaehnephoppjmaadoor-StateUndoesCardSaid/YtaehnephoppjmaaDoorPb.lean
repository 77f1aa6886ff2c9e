/- Plain laws: gates, runs; circuits undone. -/
import Derived.Test.YtaehnephoppjmaaDoorPa
import Derived.Test.YtaehnephoppjmaaDoorGa
set_option linter.all false
section
namespace Go.Ql
abbrev GOp:=Int×Int×List Int×Int×Int×List Int
abbrev KV:=Nat→K
def fl (q:Int) (x:Nat):Nat:=x^^^2^q.toNat
def bt (q:Int) (x:Nat):Bool:=x.testBit q.toNat
def onesB (l:List Int) (x:Nat):Bool:=l.all fun q=>bt q x
def gateK (o:GOp) (v:KV):KV:=fun x=>
 if onesB o.2.2.1 x=false then v x
 else if o.1=1 then K.turn (v x) o.2.1.toNat
 else if o.1=4 then (if bt o.2.2.2.1 x=true then K.turn (v x) o.2.1.toNat else v x)
 else if o.1=2 then v (fl o.2.2.2.1 x)
 else K.add (K.half (v (fl o.2.2.2.1 x))) (if bt o.2.2.2.1 x=true then K.neg (K.half (v x)) else K.half (v x))
def runK:List GOp→KV→KV
 | [],v=>v
 | o::l,v=>runK l (gateK o v)
theorem runK_app (a b:List GOp) (v:KV):runK (a++b) v=runK b (runK a v):=by
 induction a generalizing v with
 | nil=>rfl
 | cons o a ih=>exact ih _
theorem fl_fl (q:Int) (x:Nat):fl q (fl q x)=x:=by
 unfold fl
 rw [Nat.xor_assoc,Nat.xor_self,Nat.xor_zero]
theorem bt_fl (p q:Int) (x:Nat):bt p (fl q x)=if p.toNat=q.toNat then !bt p x else bt p x:=by
 unfold bt fl
 rw [Nat.testBit_xor,Nat.testBit_two_pow]
 by_cases h:p.toNat=q.toNat
 ·rw [if_pos h,decide_eq_true h.symm];simp
 ·rw [if_neg h,decide_eq_false (fun e=>h e.symm)];simp
theorem VP (q:Int) (x:Nat):bt q (fl q x)=!bt q x:=by rw [bt_fl,if_pos rfl]
def Nn (l:List Int):Prop:=∀q∈l,0≤q
theorem bt_other {p q:Int} (hp:0≤p) (hq:0≤q) (h:p≠q) (x:Nat):bt p (fl q x)=bt p x:=by
 rw [bt_fl,if_neg (by omega)]
theorem ones_other {l:List Int} {q:Int} (hl:Nn l) (hq:0≤q) (h:q∉l) (x:Nat):onesB l (fl q x)=onesB l x:=by
 induction l with
 | nil=>rfl
 | cons p l ih=>
   unfold onesB at ih ⊢
   rw [List.all_cons,List.all_cons,ih (fun r hr=>hl r (List.mem_cons_of_mem _ hr)) (fun hm=>h (List.mem_cons_of_mem _ hm)),bt_other (hl p (List.mem_cons_self ..)) hq (fun e=>h (e▸List.mem_cons_self ..))]
theorem ones_cons (q:Int) (l:List Int) (x:Nat):onesB (q::l) x=(bt q x&&onesB l x):=rfl
theorem ones_app (a b:List Int) (x:Nat):onesB (a++b) x=(onesB a x&&onesB b x):=by simp [onesB]
def turnZ (x:K) (k:Int):K:=K.turn x (k % 16).toNat
theorem turnZ_add (x:K) (a b:Int):turnZ (turnZ x a) b=turnZ x (a+b):=by
 unfold turnZ
 rw [K.turn_turn,←K.turn_mod]
 congr 1
 omega
theorem turnZ_nat (x:K) {k:Int} (h:0≤k):turnZ x k=K.turn x k.toNat:=by
 unfold turnZ
 rw [←K.turn_mod x k.toNat]
 congr 1
 omega
def hK (q:Int) (v:KV):KV:=fun x=>K.add (K.half (v (fl q x))) (if bt q x=true then K.neg (K.half (v x)) else K.half (v x))
def xK (l:List Int) (q:Int) (v:KV):KV:=fun x=>if onesB l x=true then v (fl q x) else v x
def pK (l:List Int) (k:Int) (v:KV):KV:=fun x=>if onesB l x=true then turnZ (v x) k else v x
theorem gate_h (l:List Int) (k q b:Int) (on:List Int) (v:KV):gateK (3,k,l,q,b,on) v=fun x=>if onesB l x=true then hK q v x else v x:=by
 funext x
 simp only [gateK,hK]
 by_cases h:onesB l x=true
 ·rw [if_neg (by simp [h]),if_pos h];rfl
 ·rw [if_pos (by simpa using h),if_neg h]
theorem gate_x (l:List Int) (k q b:Int) (on:List Int) (v:KV):gateK (2,k,l,q,b,on) v=xK l q v:=by
 funext x
 simp only [gateK,xK]
 by_cases h:onesB l x=true
 ·rw [if_neg (by simp [h]),if_pos h];rfl
 ·rw [if_pos (by simpa using h),if_neg h]
theorem gate_p (l:List Int) (k q b:Int) (on:List Int) (v:KV) (hk:0≤k):gateK (4,k,l,q,b,on) v=pK (l++[q]) k v:=by
 funext x
 simp only [gateK,pK,ones_app]
 by_cases h:onesB l x=true
 ·rw [if_neg (by simp [h]),if_neg (by decide),turnZ_nat _ hk,h,show onesB [q] x=bt q x by simp [onesB]]
  simp
 ·rw [if_pos (by simpa using h),if_neg (by simp [h])]
theorem gate_phase (k q b:Int) (on:List Int) (v:KV) (hk:0≤k):gateK (1,k,[],q,b,on) v=pK [] k v:=by
 funext x
 simp only [gateK,pK,turnZ_nat _ hk]
 rfl
theorem hh1 (a b:K):K.add (K.half (K.add (K.half a) (K.half b))) (K.neg (K.half (K.add (K.half b) (K.neg (K.half a)))))=a:=by
 apply K.eq_of<;>simp only [K.half,K.sm,K.sub,K.turn,K.turn1,K.neg,K.add]<;>grind
theorem hx0 (a b:K):K.add (K.half (K.neg (K.add (K.half a) (K.neg (K.half b))))) (K.half (K.add (K.half b) (K.half a)))=b:=by
 apply K.eq_of<;>simp only [K.half,K.sm,K.sub,K.turn,K.turn1,K.neg,K.add]<;>grind
theorem hx1 (a b:K):K.add (K.half (K.add (K.half a) (K.half b))) (K.neg (K.half (K.neg (K.add (K.half b) (K.neg (K.half a))))))=b:=by
 apply K.eq_of<;>simp only [K.half,K.sm,K.sub,K.turn,K.turn1,K.neg,K.add]<;>grind
end Go.Ql
end

section
section
namespace Go.Ql
theorem pow63 {q:Int} (h:0≤q∧q≤62):IntKind.i64.wrap ((1:Int)*(2:Int)^Min.min (Int.toNat q) (64:Nat))=((2^q.toNat:Nat):Int):=by
 rw [Nat.min_eq_left (by omega),Int.one_mul]
 have h1:(2:Nat)^q.toNat≤2^62:=Nat.pow_le_pow_right (by omega) (by omega)
 have h2:((2^q.toNat:Nat):Int)=(2:Int)^q.toNat:=by simp
 have h3:(2:Nat)^62=4611686018427387904:=by decide
 rw [h3] at h1
 rw [←h2,jz (by have:=Int.natCast_nonneg (2^q.toNat);omega)]
def Qs (l:List Int):Prop:=∀q∈l,0≤q∧q<62
theorem qs_at {l:List Int} (h:Qs l) {j:Nat} (hj:j<l.length):0≤l.getD j 0∧l.getD j 0<62:=by
 have e:l.getD j 0=l[j]:=by simp [hj]
 rw [e];exact h _ (List.getElem_mem hj)
def condK (bits:List Int) (o:GOp):Bool:=o.2.2.2.2.2.all fun c=>(decide (c≤0)||bits.getD (c-1).toNat 0==1)&&(decide (0≤c)||bits.getD (-c-1).toNat 0==0)
end Go.Ql
end
section
namespace Go.Ql
def z0:NumT:=(List.replicate 8 d0,(0:Int))
structure Amps (l:List NumT) (N:Nat) (v:KV) (t:Nat):Prop where
 len:l.length=N
 at_:∀x,x<N→Num 10000 (l.getD x z0) (v x) (2*t+1) t
 fit:∀x,x<N→FitsK (v x) (2*t+1) t
def cut (i:Nat) (v:KV):KV:=fun x=>if x<i then v x else K.zero
theorem gate_fits {o:GOp} {w:KV} {L t:Nat} (h:∀x,FitsK (w x) L t) (y:Nat):FitsK (gateK o w y) (L+2) (t+1):=by
 have h1:=fun x=>((h x).up 1).mono (show L+1≤L+2 by omega)
 have h2:=fun x=>(h x).half
 unfold gateK
 split
 ·exact h1 y
 ·split
  ·exact (h1 y).turn _
  ·split
   ·split
    ·exact (h1 y).turn _
    ·exact h1 y
   ·split
    ·exact h1 _
    ·split
     ·exact (h2 _).add (h2 y).neg
     ·exact (h2 _).add (h2 y)
theorem gate_loc {o:GOp} {w w':KV} {y:Nat} (h1:w y=w' y) (h2:w (fl o.2.2.2.1 y)=w' (fl o.2.2.2.1 y)):gateK o w y=gateK o w' y:=by
 simp only [gateK,h1,h2]
theorem gate_off {o:GOp} {w:KV} {y:Nat} (h:onesB o.2.2.1 y=false):gateK o w y=w y:=by
 unfold gateK
 rw [if_pos h]
theorem gate_turn {o:GOp} {w:KV} {y:Nat} (h:onesB o.2.2.1 y=true) (hk:o.1=1∨(o.1=4∧bt o.2.2.2.1 y=true)):gateK o w y=K.turn (w y) o.2.1.toNat:=by
 unfold gateK
 rw [if_neg (by simp [h])]
 rcases hk with hk | ⟨hk,hb⟩
 ·rw [if_pos hk]
 ·rw [if_neg (by omega),if_pos hk,if_pos hb]
theorem gate_stay {o:GOp} {w:KV} {y:Nat} (h:onesB o.2.2.1 y=true) (hk:o.1=4) (hb:¬bt o.2.2.2.1 y=true):gateK o w y=w y:=by
 unfold gateK
 rw [if_neg (by simp [h]),if_neg (by omega),if_pos hk,if_neg hb]
theorem gate_flip {o:GOp} {w:KV} {y:Nat} (h:onesB o.2.2.1 y=true) (hk:o.1=2):gateK o w y=w (fl o.2.2.2.1 y):=by
 unfold gateK
 rw [if_neg (by simp [h]),if_neg (by omega),if_neg (by omega),if_pos hk]
theorem gate_had {o:GOp} {w:KV} {y:Nat} (h:onesB o.2.2.1 y=true) (hk:o.1≠1∧o.1≠2∧o.1≠4) :
 gateK o w y=K.add (K.half (w (fl o.2.2.2.1 y))) (if bt o.2.2.2.1 y=true then K.neg (K.half (w y)) else K.half (w y)):=by
 unfold gateK
 rw [if_neg (by simp [h]),if_neg hk.1,if_neg hk.2.2,if_neg hk.2.1]
theorem gate_locP {o:GOp} {w w':KV} {y:Nat} (h1:w y=w' y) (hk:onesB o.2.2.1 y=false∨o.1=1∨o.1=4):gateK o w y=gateK o w' y:=by
 unfold gateK
 split
 ·exact h1
 ·split
  ·rw [h1]
  ·split
   ·rw [h1]
   ·rename_i a b c
    rcases hk with hk | hk | hk
    ·exact absurd hk a
    ·exact absurd hk b
    ·exact absurd hk c
theorem idxN {l:List NumT} {i:Nat} (h:i<l.length):idx l (i:Int)=some (l.getD i z0):=by
 rw [YR]
 simp [h]
theorem kT {l:List NumT} {j y:Nat} {r:NumT} (h:j<l.length):(l.set j r).getD y z0=if y=j then r else l.getD y z0:=by
 by_cases e:y=j
 ·subst e;simp [h]
 ·rw [if_neg e]
  simp [List.getD,List.getElem?_set_ne (Ne.symm e)]
theorem fl_lt {q:Int} {i n:Nat} (hq:0≤q∧q<n) (hi:i<2^n):fl q i<2^n:=
 Nat.xor_lt_two_pow hi (Nat.pow_lt_pow_right (by decide) (by omega))
theorem fl_ne (q:Int) (x:Nat):fl q x≠x:=fun h=>by
 have h1:=VP q x
 rw [h] at h1
 cases hb:bt q x<;>rw [hb] at h1<;>cases h1
theorem turn_toNat (x:K) {k:Int} (h:0≤k):K.turn x (k % 16).toNat=K.turn x k.toNat:=by
 rw [←K.turn_mod x k.toNat]
 congr 1
 omega
structure Ok1 (o:GOp) (n:Nat):Prop where
 q:0≤o.2.2.2.1∧o.2.2.2.1<n
 k:0≤o.2.1
 qs:Qs o.2.2.1
 len:o.2.2.1.length<2^62
 out:o.2.2.2.1∉o.2.2.1
theorem Ok1.ones {o:GOp} {n:Nat} (h:Ok1 o n) (x:Nat):onesB o.2.2.1 (fl o.2.2.2.1 x)=onesB o.2.2.1 x:=
 ones_other (fun q hq=>(h.qs q hq).1) h.q.1 h.out x
end Go.Ql
end
section
namespace Go.Ql
def outK (q:Int) (b:Int) (v:KV):KV:=fun x=>if bt q x=decide (b=1) then v x else K.zero
abbrev SK:=KV×List Int×Nat
def meetK (o:GOp) (b:Int) (s:SK):SK:=
 (if o.1≠5∧b=1 then xK [] o.2.2.2.1 (outK o.2.2.2.1 b s.1) else outK o.2.2.2.1 b s.1,if o.1=5 then s.2.1.set o.2.2.2.2.1.toNat b else s.2.1,s.2.2+1)
def playK (tape:List Int):Nat→List GOp→SK→(Int×Nat)⊕SK
 | _,[],s=>.inr s
 | i,o::l,s=>
   if condK s.2.1 o=false then playK tape (i+1) l s
   else if o.1<5 then playK tape (i+1) l (gateK o s.1,s.2.1,s.2.2)
   else if s.2.2=tape.length then .inl (19,i)
   else if tape.getD s.2.2 0≠0∧tape.getD s.2.2 0≠1 then .inl (20,i)
   else playK tape (i+1) l (meetK o (tape.getD s.2.2 0) s)
theorem Amps.up {l:List NumT} {N t:Nat} {v:KV} (h:Amps l N v t):Amps l N v (t+1):=by
 have hf:∀x,x<N→FitsK (v x) (2*(t+1)+1) (t+1):=fun x hx=>((h.fit x hx).up 1).mono (by omega)
 exact ⟨h.len,fun x hx=>(h.at_ x hx).fit (hf x hx),hf⟩
theorem repl_at (N y:Nat):(List.replicate N z0).getD y z0=z0:=by
 rw [List.getD,List.getElem?_replicate]
 split<;>rfl
def ke (i:Nat):KV:=fun x=>if x=i then K.one else K.zero
theorem one_kv:kv (Ur 1) 0=K.one:=by
 apply K.eq_of<;>simp [kv,Ur,hp,K.one]
structure OkP (o:GOp) (n bn:Nat):Prop where
 gate:Ok1 o n
 ifs:o.2.2.2.2.2.length<2^62
 cond:∀c∈o.2.2.2.2.2,c≠0∧c≤(bn:Int) ∧ -c≤(bn:Int)
 bit:o.1=5→0≤o.2.2.2.2.1∧o.2.2.2.2.1<(bn:Int)
theorem ok1_x {o:GOp} {n:Nat} (h:Ok1 o n):Ok1 (2,0,[],o.2.2.2.1,0,[]) n:=⟨h.q,by simp,fun _ h=>by simp at h,by simp,by simp⟩
end Go.Ql
end
end

section
section
set_option maxRecDepth 100000
namespace Go.Ql
theorem Bd.add1 {v w:Nat→Int} {L:Nat} (h:Bd v L) (g:Bd w L):Bd (fun i=>v i+w i) (L+1):=fun i hi=>by
 have h1:=h i hi
 have h2:=g i hi
 rw [Nat.pow_succ]
 have:=Int.natAbs_add_le (v i) (w i)
 simp only
 omega
theorem nadd_t {a b:List Dg×Int} {k l:K} {L M E F:Nat} (h:Num 4294967296 a k L E) (g:Num 4294967296 b l M F) (hs:L+M+2*(E+F)<79000) :
 ∃r,W.js a b=some r∧Num 4294967296 r (K.add k l) (Max.max (L+F) (M+E)+1) (Max.max E F):=by
 obtain ⟨c,ae⟩:=a
 obtain ⟨d,be⟩:=b
 obtain ⟨v,e,h1,h2,h3,h4,h5,h6⟩:=h.has
 obtain ⟨w,f,g1,g2,g3,g4,g5,g6⟩:=g.has
 simp only at h2 g2
 subst h2
 subst g2
 obtain ⟨x,y,g',q1,q2,q3⟩:=add_align (L:=L) (M:=M) (e:=e) (f:=f) h1 g1 h5 g5 (by omega)
 have b1:=(h5.up (Max.max e f-e)).mono (show L+(Max.max e f-e)≤Max.max (L+F) (M+E) by omega)
 have b2:=(g5.up (Max.max e f-f)).mono (show M+(Max.max e f-f)≤Max.max (L+F) (M+E) by omega)
 obtain ⟨r,r1,r2⟩:=add_loop (L:=Max.max (L+F) (M+E)) q2 q3 b1 b2 (by omega) ((Max.max e f:Nat):Int) g'
 obtain ⟨z,z1,z2⟩:=least_ok (L:=Max.max (L+F) (M+E)+1) r2 (b1.add1 b2) ((Max.max e f:Nat):Int) (by omega)
 unfold W.js
 rw [q1,jb,r1,jb]
 simp only [show ∀z:List Dg×Int,inR (List.length [z]) (0:Int)=some () from fun _=>rfl,show ∀z:List Dg×Int,idx [z] (0:Int)=some z from fun _=>rfl,jb]
 rw [z1,jb]
 refine ⟨z,rfl,?_⟩
 obtain ⟨u,m,u1,u2,u3,u4,u5,u6⟩:=z2.has
 refine Num.mk' u1 u2 u3 ?_ (u5.mono (by omega)) (by omega)
 rw [u4,kvz_nat,←kv_add,←h4,←g4]
 have e1:=kv_up v e (Max.max e f-e)
 have e2:=kv_up w f (Max.max e f-f)
 rw [show e+(Max.max e f-e)=Max.max e f by omega] at e1
 rw [show f+(Max.max e f-f)=Max.max e f by omega] at e2
 rw [e1,e2]
theorem nsub_t {a b:List Dg×Int} {k l:K} {L M E F:Nat} (h:Num 4294967296 a k L E) (g:Num 4294967296 b l M F) (hs:L+M+2*(E+F)<79000) :
 ∃r,W.jW a b=some r∧Num 4294967296 r (K.sub k l) (Max.max (L+F) (M+E)+1) (Max.max E F):=by
 obtain ⟨n,n1,n2⟩:=nneg_ok g (by omega)
 obtain ⟨r,r1,r2⟩:=nadd_t h n2 hs
 refine ⟨r,?_,r2⟩
 unfold W.jW W.jW.c1
 refine VV (x:=[r]) ?_ rfl
 exact VV n1 (VV r1 rfl)
theorem nhalf_t {a:NumT} {k:K} {L E:Nat} (h:Num 4294967296 a k L E) (hL:L+L+2*(E+E)<79000) :
 ∃r,W.jX a=some r∧Num 4294967296 r (K.half k) (L+E+1) (E+1):=by
 obtain ⟨t,t1,t2⟩:=nturn_ok h (by omega) 2 (by decide)
 obtain ⟨u,u1,u2⟩:=nturn_ok h (by omega) 6 (by decide)
 obtain ⟨⟨c,ae⟩,s1,s2⟩:=nsub_t t2 u2 (by omega)
 obtain ⟨v,e,h1,h2,h3,h4,h5,h6⟩:=s2.has
 simp only at h1 h2
 subst h2
 have t1':W.jq a (2:Int)=some t:=t1
 have u1':W.jq a (6:Int)=some u:=u1
 obtain ⟨r,r1,r2⟩:=least_ok h1 h5 ((e+1:Nat):Int) (by omega)
 refine ⟨r,?_,?_⟩
 ·unfold W.jX W.jX.c1
  rw [t1',jb,u1',jb,s1,jb,jb]
  simp only [bx_in,bx_at,jb]
  rw [jz (by omega),show (e:Int)+1=((e+1:Nat):Int) by omega,r1]
  rfl
 ·obtain ⟨w',f',q1,q2,q3,q4,q5,q6⟩:=r2.has
  refine ⟨w',f',q1,q2,q3,?_,q5.mono (by omega),by omega⟩
  rw [q4,kvz_nat,kv_half1,h4]
  rfl
theorem nzero_ok {a:NumT} {k:K} {L E:Nat} (h:Num 4294967296 a k L E):∃t,W.jQ a=some t∧(t=true↔k=K.zero):=by
 obtain ⟨c,ae⟩:=a
 obtain ⟨v,e,h1,h2,h3,h4,h5,h6⟩:=h.has
 simp only at h1 h2
 subst h2
 obtain ⟨x,x1,x2⟩:=JP (f:=fun s:Int↦W.jQ.cc_ c s some) 8
  (fun i s=>s=(i:Int) ∧ ∀j,j<i→v j=0)
  (fun x=>(∃i,x=.inl i ∧ ∃j,j<8∧v j≠0)∨(∃i,x=.inr i ∧ ∀j,j<8→v j=0))
  (by
   rintro i s hi ⟨rfl,p2⟩
   simp only [W.jQ.cc_]
   rw [Jl (by omega),h1.idx hi,jb,show (((c.getD i d0).1,(c.getD i d0).2):Dg)=c.getD i d0 from rfl,sign_ok (h1.at_ i hi),jb]
   by_cases e2:v i=0
   ·rw [Jd (by simp [sgn,e2]),jz (by omega)]
    refine .inl ⟨_,rfl,by omega,fun j hj=>?_⟩
    by_cases e3:j=i
    ·rw [e3];exact e2
    ·exact p2 j (by omega)
   ·have hsg:(sgn (v i) !=0)=true:=by
     simp only [sgn,bne_iff_ne,ne_eq]
     split<;>(try split)<;>omega
    rw [Jv hsg]
    exact .inr ⟨_,rfl,.inl ⟨_,rfl,i,hi,e2⟩⟩)
  (by
   rintro s ⟨rfl,p2⟩
   simp only [W.jQ.cc_]
   rw [Jj (by omega)]
   exact ⟨_,rfl,.inr ⟨_,rfl,p2⟩⟩)
  (s:=(0:Int)) ⟨rfl,fun j hj=>by omega⟩
 unfold W.jQ
 rw [x1,jb]
 rcases x2 with ⟨i,rfl,j,j1,j2⟩ | ⟨i,rfl,hall⟩
 ·refine ⟨false,rfl,?_⟩
  constructor
  ·intro h;cases h
  ·intro hk
   exact absurd (nought_kv.2 (h4.trans hk) j j1) j2
 ·exact ⟨true,rfl,fun _=>h4.symm.trans (nought_kv.1 hall),fun _=>rfl⟩
theorem and15i (k:Int) (h:-9223372036854775808≤k∧k≤9223372036854775807):ibits .and .i64 k 15=((k % 16).toNat:Int):=by
 show IntKind.i64.wrap (((BitVec.ofInt 64 k &&& BitVec.ofInt 64 15).toNat:Nat):Int)=_
 rw [BitVec.toNat_and,BitVec.toNat_ofInt,BitVec.toNat_ofInt,show ((15:Int) % ((2^64:Nat):Int)).toNat=2^4-1 by decide,Nat.and_two_pow_sub_one_eq_mod,show (k % ((2^64:Nat):Int)).toNat % 2^4=(k % 16).toNat by omega,jz (by omega)]
theorem nturn_i {a:List Dg×Int} {x:K} {L E:Nat} (h:Num 4294967296 a x L E) (hL:L<80000) (k:Int) (hk:-9223372036854775808≤k∧k≤9223372036854775807) :
 ∃r,W.jq a k=some r∧Num 4294967296 r (K.turn x (k % 16).toNat) L E:=by
 obtain ⟨r,h1,h2⟩:=nturn_ok h hL (k % 16).toNat (by omega)
 refine ⟨r,?_,h2⟩
 rw [←h1]
 unfold W.jq
 rw [and15i k hk,and15 _ (by omega),show (k % 16).toNat % 16=(k % 16).toNat by omega]
theorem none_ok:∃r,W.kb=some r∧Num 4294967296 r K.one 1 0:=by
 obtain ⟨p,p1,p2,_⟩:=of_ok (n:=1) (by decide)
 refine ⟨((List.replicate 8 d0).set 0 p,(0:Int)),?_,?_⟩
 ·unfold W.kb
  rw [p1,jb]
 ·refine Num.mk' (Reps.zero.set (by decide) p2) (e:=0) rfl (.inl rfl) ?_ ?_ (Nat.le_refl _)
  ·simp [kv,K.one,hp]
  ·intro i _
   show Int.natAbs (if i=0 then 1 else 0)<2^1
   split<;>decide
theorem root_ok (k:Int) (hk:-9223372036854775808≤k∧k≤9223372036854775807):∃r,W.JU k=some r∧Num 4294967296 r (K.turn K.one (k % 16).toNat) 1 0:=by
 obtain ⟨o,o1,o2⟩:=none_ok
 obtain ⟨r,r1,r2⟩:=nturn_i o2 (by decide) k hk
 refine ⟨r,?_,r2⟩
 unfold W.JU
 rw [o1,jb,r1,jb]
end Go.Ql
end
section
namespace Go.Ql
def maskN (l:List Int):Nat:=l.foldl (fun m q=>m ||| 2^q.toNat) 0
theorem maskN_snoc (l:List Int) (q:Int):maskN (l++[q])=maskN l ||| 2^q.toNat:=by simp [maskN]
theorem foldl_bit (l:List Int) (m j:Nat):(l.foldl (fun m q=>m ||| 2^q.toNat) m).testBit j=(m.testBit j||l.any fun q=>decide (q.toNat=j)):=by
 induction l generalizing m with
 | nil=>simp
 | cons q l ih=>
   rw [List.foldl_cons,ih,Nat.testBit_or,Nat.testBit_two_pow,List.any_cons,Bool.or_assoc]
theorem maskN_bit (l:List Int) (j:Nat):(maskN l).testBit j=l.any fun q=>decide (q.toNat=j):=by
 unfold maskN
 rw [foldl_bit,Nat.zero_testBit,Bool.false_or]
theorem maskN_lt {l:List Int} (h:Qs l):maskN l<2^62:=by
 refine Nat.lt_pow_two_of_testBit _ fun j hj=>?_
 rw [maskN_bit,←Bool.not_eq_true,List.any_eq_true]
 rintro ⟨q,hq,e⟩
 have:=h q hq
 have:=of_decide_eq_true e
 omega
theorem mask_ok {l:List Int} (h:Qs l) (hn:l.length<2^62):W.Jg l=some ((maskN l:Nat):Int):=by
 obtain ⟨y,h1,h2⟩:=JP (f:=fun s:Int×Int↦W.Jg.ca_ (Prod.fst s) l (↑(List.length l):Int) (Prod.snd s) some) l.length
  (fun i s=>s.1=((maskN (l.take i):Nat):Int)∧s.2=(i:Int))
  (fun y=>y.1=((maskN l:Nat):Int))
  (by
   rintro i ⟨m,s⟩ hi ⟨p1,p2⟩
   simp only at p1 p2
   subst p1
   subst p2
   have hq:=qs_at h hi
   have e1:l.take (i+1)=l.take i++[l.getD i 0]:=by
    rw [List.take_succ_eq_append_getElem hi]
    simp [hi]
   have hs:Qs (l.take i):=fun q hq=>h q (List.mem_of_mem_take hq)
   have hm:=maskN_lt hs
   have hp:2^(l.getD i 0).toNat<2^63:=Nat.pow_lt_pow_right (by decide) (by omega)
   left
   refine ⟨(((maskN (l.take (i+1)):Nat):Int),((i+1:Nat):Int)),?_,rfl,rfl⟩
   simp only [W.Jg.ca_]
   rw [Jl (by omega),JK i rfl hi,jb,Jc (by simpa using hq.1),jb,pow63 (by omega),iori64 (by omega) hp,jz (by omega),e1,maskN_snoc]
   rfl)
  (by
   rintro ⟨m,s⟩ ⟨p1,p2⟩
   simp only at p1 p2
   subst p1
   subst p2
   refine ⟨(((maskN l:Nat):Int),(l.length:Int)),?_,rfl⟩
   simp only [W.Jg.ca_]
   rw [Jj (by omega),List.take_length])
  (s:=((0:Int),(0:Int))) ⟨rfl,rfl⟩
 unfold W.Jg
 rw [h1,jb,h2]
theorem and_eq_iff (x m:Nat):x &&& m=m ↔ ∀j,m.testBit j=true→x.testBit j=true:=by
 constructor
 ·intro h j hj
  rw [←h,Nat.testBit_and] at hj
  exact (Bool.and_eq_true _ _▸hj).1
 ·intro h
  refine Nat.eq_of_testBit_eq fun j=>?_
  rw [Nat.testBit_and]
  cases hj:m.testBit j with
  | false=>simp
  | true=>rw [h j hj];rfl
theorem mask_ones {l:List Int} {q:Int} {x:Nat}:x &&& (maskN l ||| 2^q.toNat)=maskN l ||| 2^q.toNat↔(bt q x=true∧onesB l x=true):=by
 rw [and_eq_iff]
 constructor
 ·intro h
  refine ⟨h q.toNat (by rw [Nat.testBit_or,Nat.testBit_two_pow];simp),?_⟩
  unfold onesB
  rw [List.all_eq_true]
  intro p hp
  refine h p.toNat ?_
  rw [Nat.testBit_or,maskN_bit,Bool.or_eq_true]
  exact .inl (List.any_eq_true.2 ⟨p,hp,decide_eq_true rfl⟩)
 ·rintro ⟨h1,h2⟩ j hj
  rw [Nat.testBit_or,maskN_bit,Nat.testBit_two_pow,Bool.or_eq_true] at hj
  rcases hj with hj | hj
  ·obtain ⟨p,hp,e⟩:=List.any_eq_true.1 hj
   rw [←of_decide_eq_true e]
   exact List.all_eq_true.1 h2 p hp
  ·rw [←of_decide_eq_true hj]
   exact h1
theorem onesF_ok {m:Nat} (hm:m<2^63):∀(j i:Nat),i+j<2^63 →
 (∀x∈W.onesF (m:Int) j (i:Int),∃z:Nat,x=(z:Int)∧i≤z∧z<i+j∧z &&& m=m) ∧
 (∀z:Nat,i≤z→z<i+j→z &&& m=m→(z:Int)∈W.onesF (m:Int) j (i:Int))∧(W.onesF (m:Int) j (i:Int)).Nodup
 | 0,i,_=>⟨fun x hx=>(by simp [W.onesF] at hx),fun z h1 h2=>by omega,by simp [W.onesF]⟩
 | j+1,i,h=>by
   obtain ⟨h1,h2,h3⟩:=onesF_ok hm j (i+1) (by omega)
   have e:W.onesF (m:Int) (j+1) (i:Int)=(if i &&& m=m then [(i:Int)] else [])++W.onesF (m:Int) j (((i+1:Nat)):Int):=by
    rw [W.onesF,iandi64 (by omega) hm]
    congr 1
    by_cases hc:i &&& m=m
    ·rw [if_pos hc,if_pos (by omega)]
    ·rw [if_neg hc,if_neg (by omega)]
   rw [e]
   refine ⟨fun x hx=>?_,fun z hz1 hz2 hz3=>?_,?_⟩
   ·rw [List.mem_append] at hx
    rcases hx with hx | hx
    ·by_cases hc:i &&& m=m
     ·rw [if_pos hc] at hx
      exact ⟨i,by simpa using hx,by omega,by omega,hc⟩
     ·rw [if_neg hc] at hx
      simp at hx
    ·obtain ⟨z,z1,z2,z3,z4⟩:=h1 x hx
     exact ⟨z,z1,by omega,by omega,z4⟩
   ·rw [List.mem_append]
    by_cases ez:z=i
    ·left
     subst ez
     rw [if_pos hz3]
     simp
    ·exact .inr (h2 z (by omega) (by omega) hz3)
   ·by_cases hc:i &&& m=m
    ·rw [if_pos hc,List.singleton_append,List.nodup_cons]
     refine ⟨fun hx=>?_,h3⟩
     obtain ⟨z,z1,z2,_⟩:=h1 _ hx
     omega
    ·rw [if_neg hc]
     exact h3
theorem iter_seq {α S R:Type} {f:List α×S→Option ((List α×S)⊕R)} (P:List α→S→Prop) (Q:R→Prop)
 (step:∀x r s,P (x::r) s → ∃s',f (x::r,s)=some (.inl (r,s'))∧P r s') (done:∀s,P [] s → ∃y,f ([],s)=some (.inr y)∧Q y) :
 ∀(l:List α) (s:S),P l s → ∃y,iter f (l,s)=some y∧Q y
 | [],s,h=>by
   obtain ⟨y,h1,h2⟩:=done s h
   exact ⟨y,YY h1,h2⟩
 | x::r,s,h=>by
   obtain ⟨s',h1,h2⟩:=step x r s h
   obtain ⟨y,h3,h4⟩:=iter_seq P Q step done r s' h2
   exact ⟨y,iter_inl h1 h3,h4⟩
structure AmpP (l:List NumT) (N:Nat) (v:KV) (t:Nat):Prop where
 len:l.length=N
 at_:∀x,x<N→Num 4294967296 (l.getD x z0) (v x) (2*t+1) t
 fit:∀x,x<N→FitsK (v x) (2*t+1) t
theorem AmpP.up {l:List NumT} {N t:Nat} {v:KV} (h:AmpP l N v t):AmpP l N v (t+1):=by
 have hf:∀x,x<N→FitsK (v x) (2*(t+1)+1) (t+1):=fun x hx=>((h.fit x hx).up 1).mono (by omega)
 exact ⟨h.len,fun x hx=>(h.at_ x hx).fit (hf x hx),hf⟩
theorem AmpP.mono {l:List NumT} {N t u:Nat} {v:KV} (h:AmpP l N v t) (hu:t≤u):AmpP l N v u:=by
 obtain ⟨d,rfl⟩:=Nat.exists_eq_add_of_le hu
 clear hu
 induction d with
 | zero=>exact h
 | succ d ih=>exact ih.up
theorem AmpP.congr {l:List NumT} {N t:Nat} {v w:KV} (h:AmpP l N v t) (e:∀x,x<N→v x=w x):AmpP l N w t:=
 ⟨h.len,fun x hx=>e x hx▸h.at_ x hx,fun x hx=>e x hx▸h.fit x hx⟩
theorem pairs_loop {f:List Int×List NumT→Option ((List Int×List NumT)⊕List NumT)} {v:KV} {o:GOp} {n t:Nat} {l:List NumT} (hv:AmpP l (2^n) v t) (ho:Ok1 o n) (hn:n≤20)
 (hnil:∀s,f ([],s)=some (.inr s))
 (hstep:∀(x:Nat) r s,x<2^n→bt o.2.2.2.1 x=true→onesB o.2.2.1 x=true→s.length=2^n→Num 4294967296 (s.getD x z0) (v x) (2*t+1) t→Num 4294967296 (s.getD (fl o.2.2.2.1 x) z0) (v (fl o.2.2.2.1 x)) (2*t+1) t →
  ∃s',f ((x:Int)::r,s)=some (.inl (r,s'))∧s'.length=2^n∧Num 4294967296 (s'.getD x z0) (gateK o v x) (2*t+3) (t+1) ∧
   Num 4294967296 (s'.getD (fl o.2.2.2.1 x) z0) (gateK o v (fl o.2.2.2.1 x)) (2*t+3) (t+1) ∧ ∀y,y≠x→y≠fl o.2.2.2.1 x→s'.getD y z0=s.getD y z0) :
 ∃r,iter f (W.onesL (((2^n:Nat):Int),((maskN o.2.2.1 ||| 2^o.2.2.2.1.toNat:Nat):Int)),l)=some r∧AmpP r (2^n) (gateK o v) (t+1):=by
 have hN:2^n≤2^20:=Nat.pow_le_pow_right (by decide) hn
 have hq:=ho.q
 have hm:maskN o.2.2.1 ||| 2^o.2.2.2.1.toNat<2^63:=Nat.or_lt_two_pow (Nat.lt_trans (maskN_lt ho.qs) (by decide)) (Nat.pow_lt_pow_right (by decide) (by omega))
 obtain ⟨m1,m2,m3⟩:=onesF_ok hm (2^n) 0 (by omega)
 have hL:W.onesL (((2^n:Nat):Int),((maskN o.2.2.1 ||| 2^o.2.2.2.1.toNat:Nat):Int))=W.onesF ((maskN o.2.2.1 ||| 2^o.2.2.2.1.toNat:Nat):Int) (2^n) ((0:Nat):Int):=by
  unfold W.onesL
  simp only [Int.toNat_natCast]
  rfl
 rw [hL]
 generalize W.onesF ((maskN o.2.2.1 ||| 2^o.2.2.2.1.toNat:Nat):Int) (2^n) ((0:Nat):Int)=L at m1 m2 m3
 have hf3:∀x,x<2^n→FitsK (gateK o v x) (2*t+3) (t+1):=fun x hx=>by
  have hc:gateK o (cut (2^n) v) x=gateK o v x:=gate_loc (if_pos hx) (if_pos (fl_lt hq hx))
  rw [←hc]
  exact gate_fits (L:=2*t+1) (t:=t) (fun x=>by
   unfold cut
   split
   ·exact hv.fit x (by assumption)
   ·exact FitsK.zero _ _) x
 obtain ⟨r,r1,r2⟩:=iter_seq (f:=f)
  (fun rem s=>rem.Nodup∧(∀x∈rem,x∈L)∧s.length=2^n ∧
   ∀y:Nat,y<2^n→((((y:Int)∈rem∨((fl o.2.2.2.1 y:Nat):Int)∈rem)→Num 4294967296 (s.getD y z0) (v y) (2*t+1) t) ∧
    (¬((y:Int)∈rem∨((fl o.2.2.2.1 y:Nat):Int)∈rem)→Num 4294967296 (s.getD y z0) (gateK o v y) (2*t+3) (t+1))))
  (fun r=>r.length=2^n ∧ ∀y,y<2^n→Num 4294967296 (r.getD y z0) (gateK o v y) (2*t+3) (t+1))
  (by
   rintro x rem s ⟨p1,p2,p3,p4⟩
   obtain ⟨x,rfl,_,x1,x2⟩:=m1 x (p2 x (by simp))
   rw [mask_ones] at x2
   have hx:x<2^n:=by omega
   have hfx:=fl_lt hq hx
   obtain ⟨q1,q2⟩:=List.nodup_cons.1 p1
   have hbf:∀z:Nat,(z:Int)∈L→bt o.2.2.2.1 z=true:=fun z hz=>by
    obtain ⟨z',e,_,_,z2⟩:=m1 _ hz
    have:z'=z:=by omega
    rw [mask_ones] at z2
    exact this▸z2.1
   have hnf:((fl o.2.2.2.1 x:Nat):Int)∉rem:=fun hz=>by
    have:=hbf _ (p2 _ (List.mem_cons_of_mem _ hz))
    rw [VP,x2.1] at this
    cases this
   obtain ⟨s',s1,s2,s3,s4,s5⟩:=hstep x rem s hx x2.1 x2.2 p3 ((p4 x hx).1 (.inl (by simp))) ((p4 _ hfx).1 (.inr (by rw [fl_fl];simp)))
   refine ⟨s',s1,q2,fun z hz=>p2 z (List.mem_cons_of_mem _ hz),s2,fun y hy=>?_⟩
   by_cases e1:y=x
   ·subst e1
    refine ⟨fun hh=>?_,fun _=>s3⟩
    rcases hh with hh | hh
    ·exact absurd hh q1
    ·exact absurd hh hnf
   ·by_cases e2:y=fl o.2.2.2.1 x
    ·subst e2
     refine ⟨fun hh=>?_,fun _=>s4⟩
     rw [fl_fl] at hh
     rcases hh with hh | hh
     ·exact absurd hh hnf
     ·exact absurd hh q1
    ·rw [s5 y e1 e2]
     have e3:((y:Int)∈(x:Int)::rem∨((fl o.2.2.2.1 y:Nat):Int)∈(x:Int)::rem)↔((y:Int)∈rem∨((fl o.2.2.2.1 y:Nat):Int)∈rem):=by
      rw [List.mem_cons,List.mem_cons]
      constructor
      ·rintro ((h | h) | (h | h))
       ·exact absurd (by omega) e1
       ·exact .inl h
       ·refine absurd ?_ e2
        have:fl o.2.2.2.1 y=x:=by omega
        rw [←this,fl_fl]
       ·exact .inr h
      ·rintro (h | h)
       ·exact .inl (.inr h)
       ·exact .inr (.inr h)
     have:=p4 y hy
     rw [e3] at this
     exact this)
  (by
   rintro s ⟨p1,p2,p3,p4⟩
   exact ⟨s,hnil s,p3,fun y hy=>(p4 y hy).2 (by simp)⟩)
  L l ⟨m3,fun _ h=>h,hv.len,fun y hy=>⟨fun _=>hv.at_ y hy,fun hno=>by
   have e:gateK o v y=v y:=by
    refine gate_off ?_
    rw [←Bool.not_eq_true]
    intro hon
    by_cases hb:bt o.2.2.2.1 y=true
    ·exact hno (.inl (m2 y (Nat.zero_le _) (by omega) (mask_ones.2 ⟨hb,hon⟩)))
    ·refine hno (.inr (m2 _ (Nat.zero_le _) (by have:=fl_lt hq hy;omega) (mask_ones.2 ⟨?_,by rw [ho.ones];exact hon⟩)))
     rw [VP]
     simpa using hb
   rw [e]
   have:=hf3 y hy
   rw [e] at this
   exact (hv.at_ y hy).fit this⟩⟩
 refine ⟨r,r1,r2.1,fun y hy=>?_,fun y hy=>?_⟩
 ·exact r2.2 y hy
 ·exact hf3 y hy
end Go.Ql
end
section
namespace Go.Ql
theorem YZ {α:Type} (l:List α):part 0 (l.length:Int) l=l:=by
 unfold part
 simp
theorem okR {x N:Nat} (h:x<N):okIf (decide ((0:Int)≤(x:Int))&&decide ((x:Int)<(N:Int)))=some ():=
 Jc (by rw [Bool.and_eq_true,decide_eq_true_iff,decide_eq_true_iff];omega)
theorem idxP {l:List NumT} {x:Nat} (h:x<l.length):idx l ((0:Int)+(x:Int))=some (l.getD x z0):=by
 rw [Int.zero_add];exact idxN h
theorem setP (l:List NumT) (x:Nat) (r:NumT):List.set l (Int.toNat ((0:Int)+(x:Int))) r=l.set x r:=by
 rw [Int.zero_add,Int.toNat_natCast]
theorem apply_walk {l:List NumT} {v:KV} {o:GOp} {n t:Nat} (hv:AmpP l (2^n) v t) (ho:Ok1 o n) (hn:n≤20) (ht:t≤8900) (hk:o.1=1∨o.1=2∨o.1=3∨o.1=4) (hk1:o.1=1→o.2.2.1=[]) (hk2:o.2.1≤9223372036854775807) :
 ∃r,W.ja (0:Int) ((2^n:Nat):Int) o l=some (r,())∧AmpP r (2^n) (gateK o v) (t+1):=by
 have hN:2^n≤2^20:=Nat.pow_le_pow_right (by decide) hn
 have hlen:=hv.len
 have hq:=ho.q
 have hk0:=ho.k
 have hm0:=maskN_lt ho.qs
 have hp0:2^o.2.2.2.1.toNat<2^62:=Nat.pow_lt_pow_right (by decide) (by omega)
 have hmask:=mask_ok ho.qs ho.len
 have hor:ibits BinOp.or IntKind.i64 ((maskN o.2.2.1:Nat):Int) (IntKind.i64.wrap ((1:Int)*(2:Int)^Min.min (Int.toNat o.2.2.2.1) (64:Nat)))=((maskN o.2.2.1 ||| 2^o.2.2.2.1.toNat:Nat):Int):=by
  rw [pow63 (by omega),iori64 (by omega) (by omega)]
 have hxor:∀x:Nat,x<2^n→ibits BinOp.xor IntKind.i64 (x:Int) (IntKind.i64.wrap ((1:Int)*(2:Int)^Min.min (Int.toNat o.2.2.2.1) (64:Nat)))=((fl o.2.2.2.1 x:Nat):Int):=fun x hx=>by
  rw [pow63 (by omega),ixori64 (by omega) (by omega)]
  rfl
 have hf3:∀x,x<2^n→FitsK (gateK o v x) (2*t+3) (t+1):=fun x hx=>by
  have hc:gateK o (cut (2^n) v) x=gateK o v x:=gate_loc (if_pos hx) (if_pos (fl_lt hq hx))
  rw [←hc]
  exact gate_fits (L:=2*t+1) (t:=t) (fun x=>by
   unfold cut
   split
   ·exact hv.fit x (by assumption)
   ·exact FitsK.zero _ _) x
 have hturn:∀{a:NumT} {x:Nat},Num 4294967296 a (v x) (2*t+1) t → ∃r,W.jq a o.2.1=some r∧Num 4294967296 r (K.turn (v x) o.2.1.toNat) (2*t+1) t:=fun {a x} ha=>by
  obtain ⟨r,r1,r2⟩:=nturn_i ha (by omega) o.2.1 (by omega)
  rw [turn_toNat _ hk0] at r2
  exact ⟨r,r1,r2⟩
 unfold W.ja W.ja.c1
 rw [hmask,jb,Jc (by simpa using hq.1),jb,jb]
 rcases hk with hk | hk | hk | hk
 ·
  have hnil:=hk1 hk
  obtain ⟨y,q1,r,q2,q3,q4⟩:=JP (f:=fun s:Int×List NumT↦W.ja.ce_ (↑(List.length (part (0:Int) ((2^n:Nat):Int) l)):Int) (Prod.fst s) (0:Int) ((2^n:Nat):Int) (Prod.fst (Prod.snd o)) (Prod.snd s) some) (2^n)
   (fun i s=>s.1=(i:Int)∧s.2.length=2^n ∧ ∀y,y<2^n→(y<i→Num 4294967296 (s.2.getD y z0) (gateK o v y) (2*t+3) (t+1))∧(¬y<i→Num 4294967296 (s.2.getD y z0) (v y) (2*t+1) t))
   (fun y=>∃r,y=(((2^n:Nat):Int),r)∧r.length=2^n ∧ ∀y,y<2^n→Num 4294967296 (r.getD y z0) (gateK o v y) (2*t+3) (t+1))
   (by
    rintro i ⟨s,out⟩ hi ⟨p1,p2,p3⟩
    simp only at p1 p2 p3
    subst p1
    left
    obtain ⟨r,r1,r2⟩:=hturn ((p3 i hi).2 (Nat.lt_irrefl _))
    refine ⟨(((i+1:Nat):Int),out.set i r),?_,rfl,by simpa using p2,fun y hy=>?_⟩
    ·simp only [W.ja.ce_,W.ja.c7]
     rw [←hlen,YZ,hlen,Jl (by omega),okR hi,jb,idxP (by omega),jb,r1,jb,jb,jb,jb,setP,jz (by omega)]
     rfl
    ·simp only
     rw [kT (by omega)]
     by_cases e:y=i
     ·subst e
      refine ⟨fun _=>?_,fun h=>absurd (Nat.lt_succ_self _) h⟩
      rw [if_pos rfl]
      refine Num.fit (L:=2*t+1) (E:=t) ?_ (hf3 y hy)
      rw [gate_turn (by rw [hnil];rfl) (.inl hk)]
      exact r2
     ·rw [if_neg e]
      exact ⟨fun h=>(p3 y hy).1 (by omega),fun h=>(p3 y hy).2 (by omega)⟩)
   (by
    rintro ⟨s,out⟩ ⟨p1,p2,p3⟩
    simp only at p1 p2 p3
    subst p1
    refine ⟨_,?_,out,rfl,p2,fun y hy=>(p3 y hy).1 hy⟩
    simp only [W.ja.ce_]
    rw [←hlen,YZ,Jj (by omega)])
   (s:=((0:Int),l)) ⟨rfl,hlen,fun y hy=>⟨fun h=>by omega,fun _=>hv.at_ y hy⟩⟩
  subst q2
  rw [Jv (by simpa using hk),q1,jb]
  exact ⟨r,rfl,q3,q4,hf3⟩
 ·
  rw [Jd (by rw [hk];rfl),Jd (by rw [hk];rfl),Jv (by simpa using hk),hor]
  unfold W.jY
  rw [jb]
  obtain ⟨r,r1,r2⟩:=pairs_loop (f:=fun s↦W.ja.cF_ (Prod.fst s) (0:Int) ((2^n:Nat):Int) (IntKind.i64.wrap ((1:Int)*(2:Int)^Min.min (Int.toNat (Prod.fst (Prod.snd (Prod.snd (Prod.snd o))))) (64:Nat))) (Prod.snd s) some) hv ho hn (fun s=>rfl)
   (by
    intro x r s hx hb hon hs hx1 hx2
    have hfx:=fl_lt hq hx
    have hne:=fl_ne o.2.2.2.1 x
    refine ⟨(s.set x (s.getD (fl o.2.2.2.1 x) z0)).set (fl o.2.2.2.1 x) (s.getD x z0),?_,by simpa using hs,?_,?_,fun y h1 h2=>?_⟩
    ·simp only [W.ja.cF_,W.ja.c16]
     rw [Jd (by rfl),show idx ((x:Int)::r) (0:Int)=some (x:Int) from rfl,jb,hxor x hx,okR hfx,jb,idxP (by omega),jb,okR hx,jb,idxP (by omega),jb,jb,jb,jb,setP,setP,idxP (by rw [List.length_set];omega),jb,jb]
     rfl
    ·rw [kT (by rw [List.length_set];omega),if_neg (Ne.symm hne),kT (by omega),if_pos rfl]
     refine Num.fit (L:=2*t+1) (E:=t) ?_ (hf3 x hx)
     rw [gate_flip hon hk]
     exact hx2
    ·rw [kT (by rw [List.length_set];omega),if_pos rfl]
     refine Num.fit (L:=2*t+1) (E:=t) ?_ (hf3 _ hfx)
     rw [gate_flip (by rw [ho.ones];exact hon) hk,fl_fl]
     exact hx1
    ·rw [kT (by rw [List.length_set];omega),if_neg h2,kT (by omega),if_neg h1])
  refine ⟨r,?_,r2⟩
  rw [show SeqC.L W.ones_sc=W.onesL from rfl,r1,jb]
 ·
  rw [Jd (by rw [hk];rfl),Jd (by rw [hk];rfl),Jd (by rw [hk];rfl),Jv (by simpa using hk),hor]
  unfold W.jY
  rw [jb]
  have hk3:o.1≠1∧o.1≠2∧o.1≠4:=by omega
  obtain ⟨r,r1,r2⟩:=pairs_loop (f:=fun s↦W.ja.cy_ (Prod.fst s) (0:Int) ((2^n:Nat):Int) (IntKind.i64.wrap ((1:Int)*(2:Int)^Min.min (Int.toNat (Prod.fst (Prod.snd (Prod.snd (Prod.snd o))))) (64:Nat))) (Prod.snd s) some) hv ho hn (fun s=>rfl)
   (by
    intro x r s hx hb hon hs hx1 hx2
    have hfx:=fl_lt hq hx
    have hne:=fl_ne o.2.2.2.1 x
    have hbf:¬bt o.2.2.2.1 (fl o.2.2.2.1 x)=true:=by rw [VP,hb];decide
    have e1:gateK o v x=K.half (K.sub (v (fl o.2.2.2.1 x)) (v x)):=by
     rw [gate_had hon hk3,if_pos hb,K.sub,K.half_add,K.half_neg]
    have e2:gateK o v (fl o.2.2.2.1 x)=K.half (K.add (v (fl o.2.2.2.1 x)) (v x)):=by
     rw [gate_had (by rw [ho.ones];exact hon) hk3,if_neg hbf,fl_fl,K.half_add,K.add_comm]
    obtain ⟨za,za1,za2⟩:=nzero_ok hx2
    obtain ⟨zb,zb1,zb2⟩:=nzero_ok hx1
    have hc20:W.ja.c20 (x:Int) (0:Int) ((2^n:Nat):Int) (IntKind.i64.wrap ((1:Int)*(2:Int)^Min.min (Int.toNat (Prod.fst (Prod.snd (Prod.snd (Prod.snd o))))) (64:Nat))) s some=some ([s.getD (fl o.2.2.2.1 x) z0],[s.getD x z0]):=by
     unfold W.ja.c20
     rw [hxor x hx,okR hfx,jb,idxP (by omega),jb,okR hx,jb,idxP (by omega),jb]
    have hc21:W.ja.c21 [s.getD (fl o.2.2.2.1 x) z0] [s.getD x z0] some=some (za&&zb):=by
     unfold W.ja.c21
     rw [bx_at,jb,za1,jb,bx_at,jb,zb1]
     cases za<;>rfl
    by_cases hz:(za&&zb)=true
    ·rw [Bool.and_eq_true] at hz
     have hv1:=za2.1 hz.1
     have hv2:=zb2.1 hz.2
     have eg1:gateK o v x=v x:=by rw [e1,hv1,hv2,K.sub_self,K.half_zero]
     have eg2:gateK o v (fl o.2.2.2.1 x)=v (fl o.2.2.2.1 x):=by rw [e2,hv1,hv2,K.add_zero,K.half_zero]
     refine ⟨s,?_,hs,?_,?_,fun _ _ _=>rfl⟩
     ·simp only [W.ja.cy_]
      rw [Jd (by rfl),show idx ((x:Int)::r) (0:Int)=some (x:Int) from rfl,jb,hc20,jb,hc21,jb,Jv (by rw [hz.1,hz.2];rfl)]
      rfl
     ·have:=hf3 x hx
      rw [eg1] at this ⊢
      exact hx1.fit this
     ·have:=hf3 _ hfx
      rw [eg2] at this ⊢
      exact hx2.fit this
    ·have hz':(za&&zb)=false:=by simpa using hz
     have f1:=hv.fit x hx
     have f2:=hv.fit _ hfx
     obtain ⟨a,a1,a2⟩:=nadd_t hx2 hx1 (by omega)
     have a3:=a2.fit (f2.add f1)
     obtain ⟨b,b1,b2⟩:=nhalf_t a3 (by omega)
     obtain ⟨c,c1,c2⟩:=nsub_t hx2 hx1 (by omega)
     have c3:=c2.fit (f2.add f1.neg)
     obtain ⟨d,d1,d2⟩:=nhalf_t c3 (by omega)
     refine ⟨(s.set (fl o.2.2.2.1 x) b).set x d,?_,by simpa using hs,?_,?_,fun y h1 h2=>?_⟩
     ·simp only [W.ja.cy_,W.ja.c22]
      rw [Jd (by rfl),show idx ((x:Int)::r) (0:Int)=some (x:Int) from rfl,jb,hc20,jb,hc21,jb,Jd hz',bx_at,jb,bx_at,jb,a1,jb,b1,jb,jb,jb,c1,jb,d1,jb,hxor x hx,okR hfx,jb,idxP (by omega),jb,okR hx,jb,setP,idxP (by rw [List.length_set];omega),jb,setP,jb]
      rfl
     ·rw [kT (by rw [List.length_set];omega),if_pos rfl]
      have:=hf3 x hx
      rw [e1] at this ⊢
      exact d2.fit this
     ·rw [kT (by rw [List.length_set];omega),if_neg hne,kT (by omega),if_pos rfl]
      have:=hf3 _ hfx
      rw [e2] at this ⊢
      exact b2.fit this
     ·rw [kT (by rw [List.length_set];omega),if_neg h1,kT (by omega),if_neg h2])
  refine ⟨r,?_,r2⟩
  rw [show SeqC.L W.ones_sc=W.onesL from rfl,r1,jb]
 ·
  rw [Jd (by rw [hk];rfl),Jv (by simpa using hk),hor]
  unfold W.jY
  rw [jb]
  obtain ⟨r,r1,r2⟩:=pairs_loop (f:=fun s↦W.ja.cE_ (Prod.fst s) (0:Int) ((2^n:Nat):Int) (Prod.fst (Prod.snd o)) (Prod.snd s) some) hv ho hn (fun s=>rfl)
   (by
    intro x r s hx hb hon hs hx1 hx2
    have hfx:=fl_lt hq hx
    have hne:=fl_ne o.2.2.2.1 x
    have hbf:¬bt o.2.2.2.1 (fl o.2.2.2.1 x)=true:=by rw [VP,hb];decide
    obtain ⟨a,a1,a2⟩:=hturn hx1
    refine ⟨s.set x a,?_,by simpa using hs,?_,?_,fun y h1 h2=>?_⟩
    ·simp only [W.ja.cE_,W.ja.c12]
     rw [Jd (by rfl),show idx ((x:Int)::r) (0:Int)=some (x:Int) from rfl,jb,okR hx,jb,idxP (by omega),jb,a1,jb,jb,jb,setP,jb]
     rfl
    ·rw [kT (by omega),if_pos rfl]
     refine Num.fit (L:=2*t+1) (E:=t) ?_ (hf3 x hx)
     rw [gate_turn hon (.inr ⟨hk,hb⟩)]
     exact a2
    ·rw [kT (by omega),if_neg hne]
     have:=hf3 _ hfx
     rw [gate_stay (by rw [ho.ones];exact hon) hk hbf] at this ⊢
     exact hx2.fit this
    ·rw [kT (by omega),if_neg h1])
  refine ⟨r,?_,r2⟩
  rw [show SeqC.L W.ones_sc=W.onesL from rfl,r1,jb]
end Go.Ql
end
section
namespace Go.Ql
structure OkS (o:GOp) (n bn:Nat):Prop where
 p:OkP o n bn
 kind:1≤o.1∧o.1≤6
 ph:o.1=1→o.2.2.1=[]
 k15:o.2.1≤15
theorem oks_good {o:Op} {n bn:Nat} (h:GoodOp o (n:Int) (bn:Int)) (hw:WOp o) (hn:n≤12):OkS o n bn:=by
 have h1:=ctlBad_zero.mp h.ctls
 have hl:=hw.1
 refine ⟨⟨⟨h.q,h.k.1,fun q hq=>?_,by omega,fun hm=>(h1.1 _ hm).2.2.1 rfl⟩,by have:=h.ifs;omega,fun c hc=>?_,fun h5=>?_⟩,h.kind,fun hk=>?_,h.k.2⟩
 ·have:=h1.1 q hq;omega
 ·have hcond:=h.cond
  unfold ifBad at hcond
  have:¬(c=0∨(bn:Int)<c∨c < -(bn:Int)):=fun hh=>hcond ⟨c,hc,hh⟩
  omega
 ·rcases h.bit with hb | hb
  ·exact hb.2
  ·exact absurd h5 hb.1
 ·rcases h.ctl with e | e
  ·exact e
  ·omega
def B01 (bits:List Int):Prop:=∀j,bits.getD j 0=0∨bits.getD j 0=1
theorem B01.zero (n:Nat):B01 (List.replicate n 0):=fun j=>by
 left
 rw [List.getD,List.getElem?_replicate]
 split<;>rfl
theorem B01.set {bits:List Int} (h:B01 bits) (i:Nat) {b:Int} (hb:b=0∨b=1):B01 (bits.set i b):=fun j=>by
 rw [List.getD,List.getElem?_set]
 by_cases e:i=j
 ·rw [if_pos e]
  split
  ·exact hb
  ·exact .inl rfl
 ·rw [if_neg e];exact h j
theorem holds_ok {o:GOp} {bits:List Int} {q b u a:Int} {ops:List GOp} {l:List NumT} (hn:o.2.2.2.2.2.length<2^62) (hb:bits.length<2^62) (hc:∀c∈o.2.2.2.2.2,c≠0∧c≤bits.length ∧ -c≤bits.length) (h01:B01 bits) :
 W.jt o q b ops u a l bits=some (condK bits o,q,b,ops,u,a,l,bits,()):=by
 obtain ⟨o0,o1,o2,o3,o4,cl⟩:=o
 simp only at *
 obtain ⟨y,h1,h2⟩:=JP (f:=fun s:Int↦W.jt.cc_ cl (↑(List.length cl):Int) s bits some) cl.length
  (fun i s=>s=(i:Int) ∧ ∀j,j<i→((decide (cl.getD j 0≤0)||bits.getD (cl.getD j 0-1).toNat 0==1)&&(decide (0≤cl.getD j 0)||bits.getD (-cl.getD j 0-1).toNat 0==0))=true)
  (fun y=>(∃i,y=.inl i∧condK bits (o0,o1,o2,o3,o4,cl)=false)∨(∃i,y=.inr i∧condK bits (o0,o1,o2,o3,o4,cl)=true))
  (by
   rintro i s hi ⟨rfl,h2⟩
   have hm:cl.getD i 0∈cl:=by
    have e:cl.getD i 0=cl[i]:=by simp [hi]
    rw [e];exact List.getElem_mem hi
   obtain ⟨c0,c1,c2⟩:=hc _ hm
   have hbad:((decide (cl.getD i 0≤0)||bits.getD (cl.getD i 0-1).toNat 0==1)&&(decide (0≤cl.getD i 0)||bits.getD (-cl.getD i 0-1).toNat 0==0))=false→condK bits (o0,o1,o2,o3,o4,cl)=false:=fun hf=>by
    rw [←Bool.not_eq_true]
    intro ht
    unfold condK at ht
    rw [List.all_eq_true] at ht
    have:=ht _ hm
    rw [hf] at this
    cases this
   have hgo:((decide (cl.getD i 0≤0)||bits.getD (cl.getD i 0-1).toNat 0==1)&&(decide (0≤cl.getD i 0)||bits.getD (-cl.getD i 0-1).toNat 0==0))=true → ∀j,j<i+1→((decide (cl.getD j 0≤0)||bits.getD (cl.getD j 0-1).toNat 0==1)&&(decide (0≤cl.getD j 0)||bits.getD (-cl.getD j 0-1).toNat 0==0))=true:=fun ht j hj=>by
    by_cases e:j=i
    ·rw [e];exact ht
    ·exact h2 j (by omega)
   simp only [W.jt.cc_,W.jt.c4]
   rw [Jl (by omega),JK i rfl hi,jb]
   generalize cl.getD i 0=c at *
   by_cases hp:c>0
   ·rw [Jl hp,jz (by omega),kR (by omega) (by omega),jb,JK (c-1).toNat (by omega) (by omega),jb]
    have e2:decide (0≤c)=true:=decide_eq_true (by omega)
    have e1:decide (c≤0)=false:=decide_eq_false (by omega)
    rw [e1,e2] at hbad hgo
    rcases h01 (c-1).toNat with hv | hv
    ·rw [Jv (by rw [hv];rfl),jb,Jv rfl]
     exact .inr ⟨_,rfl,.inl ⟨_,rfl,hbad (by rw [hv];rfl)⟩⟩
    ·rw [Jd (by rw [hv];rfl),Jj (by omega),jb,Jd rfl,jz (by omega)]
     exact .inl ⟨_,rfl,by omega,hgo (by rw [hv];rfl)⟩
   ·rw [Jj hp,Jl (by omega),jz (x:=0-c) (by omega),jz (by omega),Int.zero_sub,kR (by omega) (by omega),jb,JK (-c-1).toNat (by omega) (by omega),jb]
    have e2:decide (0≤c)=false:=decide_eq_false (by omega)
    have e1:decide (c≤0)=true:=decide_eq_true (by omega)
    rw [e1,e2] at hbad hgo
    rcases h01 (-c-1).toNat with hv | hv
    ·rw [jb,Jd (by rw [hv];rfl),jz (by omega)]
     exact .inl ⟨_,rfl,by omega,hgo (by rw [hv];rfl)⟩
    ·rw [jb,Jv (by rw [hv];rfl)]
     exact .inr ⟨_,rfl,.inl ⟨_,rfl,hbad (by rw [hv];rfl)⟩⟩)
  (by
   rintro s ⟨rfl,h2⟩
   refine ⟨.inr (cl.length:Int),?_,.inr ⟨_,rfl,?_⟩⟩
   ·simp only [W.jt.cc_]
    rw [Jj (by omega)]
   ·unfold condK
    rw [List.all_eq_true]
    intro c hc
    obtain ⟨j,hj,rfl⟩:=List.mem_iff_getElem.1 hc
    have:=h2 j hj
    rw [show cl.getD j 0=cl[j] by simp [hj]] at this
    exact this)
  (s:=(0:Int)) ⟨rfl,fun j hj=>absurd hj (Nat.not_lt_zero _)⟩
 unfold W.jt
 refine VV h1 ?_
 rcases h2 with ⟨i,rfl,e⟩ | ⟨i,rfl,e⟩
 ·rw [kF,e]
 ·rw [Yb,e]
theorem bit_val {x:Nat} {q:Int} (hx:x<2^63) (hq:0≤q∧q<64):ibits BinOp.and IntKind.i64 (Int.fdiv (x:Int) ((2:Int)^Min.min (Int.toNat q) (64:Nat))) (1:Int)=if bt q x=true then 1 else 0:=by
 have h1:Int.fdiv (x:Int) ((2:Int)^Min.min (Int.toNat q) (64:Nat))=((x / 2^q.toNat:Nat):Int):=by
  rw [Nat.min_eq_left (by omega),Int.fdiv_eq_ediv_of_nonneg _ (by have:(0:Int)≤((2^q.toNat:Nat):Int):=Int.natCast_nonneg _;simpa using this)]
  norm_cast
 have h2:=iandi64 (a:=x / 2^q.toNat) (b:=1) (Nat.lt_of_le_of_lt (Nat.div_le_self _ _) hx) (by decide)
 rw [show ((1:Nat):Int)=1 from rfl] at h2
 rw [h1,h2]
 have h3:x / 2^q.toNat &&& 1=x / 2^q.toNat % 2:=Nat.and_one_is_mod _
 have h4:bt q x=decide (x / 2^q.toNat % 2=1):=by
  unfold bt
  rw [Nat.testBit,Nat.shiftRight_eq_div_pow,Nat.and_comm 1,h3]
  have:x / 2^q.toNat % 2=0∨x / 2^q.toNat % 2=1:=by omega
  rcases this with h | h<;>rw [h]<;>rfl
 rw [h3,h4]
 have:x / 2^q.toNat % 2=0∨x / 2^q.toNat % 2=1:=by omega
 rcases this with h | h<;>rw [h]<;>rfl
theorem keep_walk {l:List NumT} {v:KV} {n t:Nat} {q b:Int} (hv:AmpP l (2^n) v t) (hn:n≤20) (hq:0≤q∧q<62) (hb:b=0∨b=1) :
 ∃r,W.jo (0:Int) ((2^n:Nat):Int) q b l=some (r,())∧AmpP r (2^n) (outK q b v) t:=by
 have hN:2^n≤2^20:=Nat.pow_le_pow_right (by decide) hn
 have hlen:=hv.len
 obtain ⟨y,q1,r,q2,q3,q4⟩:=JP (f:=fun s:Int×List NumT↦W.jo.cd_ (0:Int) ((2^n:Nat):Int) q b (↑(List.length (part (0:Int) ((2^n:Nat):Int) l)):Int) (Prod.fst s) (Prod.snd s) some) (2^n)
  (fun i s=>s.1=(i:Int)∧s.2.length=2^n ∧ ∀y,y<2^n→Num 4294967296 (s.2.getD y z0) (if y<i then outK q b v y else v y) (2*t+1) t)
  (fun y=>∃r,y=(((2^n:Nat):Int),r)∧r.length=2^n ∧ ∀y,y<2^n→Num 4294967296 (r.getD y z0) (outK q b v y) (2*t+1) t)
  (by
   rintro i ⟨s,out⟩ hi ⟨p1,p2,p3⟩
   simp only at p1 p2 p3
   subst p1
   left
   obtain ⟨r,r1,r2,r3⟩:∃r,W.jo.cm_ (0:Int) ((2^n:Nat):Int) q b (i:Int) out some=some r∧r.length=2^n ∧ ∀y,y<2^n→Num 4294967296 (r.getD y z0) (if y<i+1 then outK q b v y else v y) (2*t+1) t:=by
    unfold W.jo.cm_
    rw [Jc (by simpa using hq.1),jb,bit_val (by omega) (by omega)]
    by_cases e:bt q i=decide (b=1)
    ·have hbb:((if bt q i=true then 1 else 0:Int) !=b)=false:=by
      rw [e];rcases hb with rfl | rfl<;>decide
     rw [Jd hbb]
     refine ⟨_,rfl,p2,fun y hy=>?_⟩
     by_cases ey:y=i
     ·subst ey
      have:=p3 y hy
      rw [if_neg (Nat.lt_irrefl _)] at this
      rw [if_pos (Nat.lt_succ_self _)]
      unfold outK
      rw [if_pos e]
      exact this
     ·have:=p3 y hy
      by_cases hyi:y<i
      ·rw [if_pos hyi] at this
       rw [if_pos (by omega)]
       exact this
      ·rw [if_neg hyi] at this
       rw [if_neg (by omega)]
       exact this
    ·have hbb:((if bt q i=true then 1 else 0:Int) !=b)=true:=by
      rcases hb with rfl | rfl<;>cases hx:bt q i<;>rw [hx] at e<;>first | rfl | exact absurd rfl e
     rw [Jv hbb,okR hi,jb,idxP (by omega),jb,setP]
     refine ⟨_,rfl,by simpa using p2,fun y hy=>?_⟩
     rw [kT (by omega)]
     by_cases ey:y=i
     ·subst ey
      rw [if_pos rfl,if_pos (Nat.lt_succ_self _)]
      unfold outK
      rw [if_neg e]
      exact num_zero
     ·rw [if_neg ey]
      have:=p3 y hy
      by_cases hyi:y<i
      ·rw [if_pos hyi] at this
       rw [if_pos (by omega)]
       exact this
      ·rw [if_neg hyi] at this
       rw [if_neg (by omega)]
       exact this
   refine ⟨(((i+1:Nat):Int),r),?_,rfl,r2,r3⟩
   simp only [W.jo.cd_]
   rw [←hlen,YZ,hlen,Jl (by omega),r1,jb,jz (by omega)]
   rfl)
  (by
   rintro ⟨s,out⟩ ⟨p1,p2,p3⟩
   simp only at p1 p2 p3
   subst p1
   refine ⟨_,?_,out,rfl,p2,fun y hy=>?_⟩
   ·simp only [W.jo.cd_]
    rw [←hlen,YZ,Jj (by omega)]
   ·have:=p3 y hy
    rw [if_pos hy] at this
    exact this)
  (s:=((0:Int),l)) ⟨rfl,hlen,fun y hy=>by rw [if_neg (Nat.not_lt_zero _)];exact hv.at_ y hy⟩
 subst q2
 unfold W.jo
 rw [q1,jb]
 refine ⟨r,rfl,q3,q4,fun y hy=>?_⟩
 unfold outK
 split
 ·exact hv.fit y hy
 ·exact FitsK.zero _ _
theorem pbasis_walk {n i:Nat} (hn:n≤20) (hi:i<2^n):∃r,W.JA (n:Int) (i:Int)=some (r,())∧AmpP r (2^n) (ke i) 0:=by
 have hN:2^n≤2^20:=Nat.pow_le_pow_right (by decide) hn
 obtain ⟨z,z1,z2⟩:=root_ok 0 (by decide)
 have hp:=pow63 (q:=(n:Int)) (by omega)
 rw [Int.toNat_natCast] at hp
 unfold W.JA
 rw [Jc (by simp),jb]
 simp only [Int.toNat_natCast] at hp ⊢
 simp only [hp,Int.toNat_natCast]
 rw [Jc (by rw [Bool.and_eq_true,Bool.and_eq_true,Bool.and_eq_true,decide_eq_true_iff,decide_eq_true_iff,decide_eq_true_iff,decide_eq_true_iff];omega),jb,z1,jb]
 rw [show (List.replicate (2^n) (List.replicate (8:Nat) (false,([]:List (Ty.den (Ty.int IntKind.u32)))),(0:Int)))=List.replicate (2^n) z0 from rfl,VL (by simpa using hi),jb,idxN (by simpa using hi),jb]
 have h1:FitsK K.one (2*0+1) 0:=⟨Ur 1,one_kv,single_bd (by decide)⟩
 refine ⟨_,rfl,by simp,fun y hy=>?_,fun y hy=>?_⟩
 ·rw [kT (by simpa using hi),repl_at]
  unfold ke
  by_cases e:y=i
  ·rw [if_pos e,if_pos e]
   exact z2
  ·rw [if_neg e,if_neg e]
   exact num_zero
 ·unfold ke
  split
  ·exact h1
  ·exact FitsK.zero _ _
end Go.Ql
end
section
namespace Go.Ql
theorem onward_walk {n bn:Nat} {ops:List GOp} {tape:List Int} {q b u:Int} {us:Nat} {bits:List Int} (hn:n≤12) (hbn:bn<2^40) (hl:ops.length≤8000) (hops:∀o∈ops,OkS o n bn) (hb:bits.length=bn) (h01:B01 bits)
 {i:Nat} {l:List NumT} {v:KV} (hv:AmpP l (2^n) v i) (hi:i≤ops.length) :
 ∃(c:Bool) (j:Nat) (l':List NumT) (v':KV),W.je q b ops u (i:Int) l bits=some (c,q,b,ops,u,(j:Int),l',bits,())∧AmpP l' (2^n) v' j∧i≤j∧j≤ops.length ∧
  playK tape i (ops.drop i) (v,bits,us)=playK tape j (ops.drop j) (v',bits,us)∧(c=false→j=ops.length)∧(c=true → ∃h:j<ops.length,condK bits ops[j]=true ∧ ¬ops[j].1<5):=by
 obtain ⟨y,y1,y2⟩:=JZ (f:=fun s:Int×Int×List GOp×Int×Int×List NumT×List Int↦W.je.cd_ (Prod.fst s) (Prod.fst (Prod.snd s)) (Prod.fst (Prod.snd (Prod.snd s))) (Prod.fst (Prod.snd (Prod.snd (Prod.snd s)))) (Prod.fst (Prod.snd (Prod.snd (Prod.snd (Prod.snd s))))) (Prod.fst (Prod.snd (Prod.snd (Prod.snd (Prod.snd (Prod.snd s)))))) (Prod.snd (Prod.snd (Prod.snd (Prod.snd (Prod.snd (Prod.snd s)))))) some)
  (J:=fun s=>∃(j:Nat) (l':List NumT) (v':KV),s=(q,b,ops,u,(j:Int),l',bits)∧AmpP l' (2^n) v' j∧i≤j∧j≤ops.length∧playK tape i (ops.drop i) (v,bits,us)=playK tape j (ops.drop j) (v',bits,us))
  (Q:=fun y=>∃(j:Nat) (l':List NumT) (v':KV),AmpP l' (2^n) v' j∧i≤j∧j≤ops.length∧playK tape i (ops.drop i) (v,bits,us)=playK tape j (ops.drop j) (v',bits,us) ∧
   ((y=.inl (q,b,ops,u,(j:Int),l',bits) ∧ ∃h:j<ops.length,condK bits ops[j]=true ∧ ¬ops[j].1<5)∨(y=.inr (q,b,ops,u,(j:Int),l',bits)∧j=ops.length)))
  (fun s=>ops.length-s.2.2.2.2.1.toNat)
  (by
   rintro s ⟨j,l',v',rfl,p1,p2,p3,p4⟩
   simp only [W.je.cd_,W.je.c1,jb]
   by_cases hj:j<ops.length
   ·have hd:ops.drop j=ops[j]::ops.drop (j+1):=List.drop_eq_getElem_cons hj
    have hm:ops[j]∈ops:=List.getElem_mem hj
    have hk:=hops _ hm
    have hidx:idx ops (j:Int)=some ops[j]:=Yu hj
    have hcond:=holds_ok (o:=ops[j]) (bits:=bits) (q:=q) (b:=b) (u:=u) (a:=(j:Int)) (ops:=ops) (l:=l') hk.p.ifs (by rw [hb];omega) (by rw [hb];exact hk.p.cond) h01
    rw [Jl (by omega)]
    unfold W.je.cv_ W.je.c3
    rw [hidx,jb,jb,show (ops[j].1,ops[j].2.1,ops[j].2.2.1,ops[j].2.2.2.1,ops[j].2.2.2.2.1,ops[j].2.2.2.2.2)=ops[j] from rfl,hcond,jb]
    have p4':=p4
    rw [hd] at p4
    simp only [playK] at p4
    have hw:IntKind.i64.wrap ((j:Int)+1)=((j+1:Nat):Int):=by rw [jz (by omega)];omega
    by_cases hc:condK bits ops[j]=false
    ·rw [if_pos hc] at p4
     rw [hc,show (!false)=true from rfl,br_tt,jb,kF]
     simp only
     rw [hw]
     exact .inr ⟨_,rfl,⟨j+1,l',v',rfl,p1.up,by omega,hj,p4⟩,by simp only [Int.toNat_natCast];omega⟩
    ·rw [if_neg hc] at p4
     have hc':condK bits ops[j]=true:=by simpa using hc
     rw [hc',show (!true)=false from rfl,br_ff]
     unfold W.je.c5
     by_cases h5:ops[j].1<5
     ·rw [if_pos h5] at p4
      obtain ⟨r,r1,r2⟩:=apply_walk p1 hk.p.gate (by omega) (by omega) (by have:=hk.kind;omega) hk.ph (by have:=hk.k15;omega)
      have hlen:=p1.len
      unfold W.je.c7
      rw [Jd (beq_false_of_ne (by omega)),beq_false_of_ne (show ops[j].1≠(6:Int) by omega),jb,br_ff,show (ops[j].1,ops[j].2.1,ops[j].2.2.1,ops[j].2.2.2.1,ops[j].2.2.2.2.1,ops[j].2.2.2.2.2)=ops[j] from rfl]
      simp only
      rw [hlen,r1,jb,jb,jb,kF]
      simp only
      rw [hw]
      exact .inr ⟨_,rfl,⟨j+1,r,_,rfl,r2,by omega,hj,p4⟩,by simp only [Int.toNat_natCast];omega⟩
     ·have h56:ops[j].1=5∨ops[j].1=6:=by have:=hk.kind;omega
      have hbr:br (ops[j].1==(5:Int)) (some true) (some (ops[j].1==(6:Int)))=some true:=by
       rcases h56 with e | e<;>rw [e]<;>rfl
      rw [hbr,jb,br_tt,jb,Yb]
      exact .inl ⟨_,rfl,j,l',v',p1,p2,p3,p4',.inl ⟨rfl,hj,hc',h5⟩⟩
   ·rw [Jj (by omega)]
    exact .inl ⟨_,rfl,j,l',v',p1,p2,p3,p4,.inr ⟨rfl,by omega⟩⟩)
  (s:=(q,b,ops,u,(i:Int),l,bits)) ⟨i,l,v,rfl,hv,Nat.le_refl _,hi,rfl⟩
 obtain ⟨j,l',v',q1,q2,q3,q4,q5⟩:=y2
 unfold W.je
 rw [y1,jb]
 rcases q5 with ⟨rfl,q5⟩ | ⟨rfl,q5⟩
 ·refine ⟨true,j,l',v',?_,q1,q2,q3,q4,fun h=>(by cases h),fun _=>q5⟩
  rw [kF]
 ·refine ⟨false,j,l',v',?_,q1,q2,q3,q4,fun _=>q5,fun h=>(by cases h)⟩
  rw [Yb]
theorem meet_walk {n bn:Nat} {ops:List GOp} {q b x:Int} {us:Nat} {bits:List Int} (hn:n≤12) (hl:ops.length≤8000) (hb:bits.length=bn) {i:Nat} {l:List NumT} {v:KV} (hv:AmpP l (2^n) v i) (hi:i<ops.length)
 (ho:OkS ops[i] n bn) (h5:¬ops[i].1<5) (hx:x=0∨x=1) (hu:us<2^62) :
 ∃l',W.jg x q b ops (us:Int) (i:Int) l bits=some (q,b,ops,((us+1:Nat):Int),((i+1:Nat):Int),l',(meetK ops[i] x (v,bits,us)).2.1,())∧AmpP l' (2^n) (meetK ops[i] x (v,bits,us)).1 (i+1)∧(meetK ops[i] x (v,bits,us)).2.2=us+1∧(meetK ops[i] x (v,bits,us)).2.1.length=bn:=by
 have hq:=ho.p.gate.q
 have hidx:idx ops (i:Int)=some ops[i]:=Yu hi
 obtain ⟨r,r1,r2⟩:=keep_walk (q:=ops[i].2.2.2.1) (b:=x) hv (by omega) (by omega) hx
 have hlr:=r2.len
 have hw:IntKind.i64.wrap ((i:Int)+1)=((i+1:Nat):Int):=by rw [jz (by omega)];omega
 have hw2:IntKind.i64.wrap ((us:Int)+1)=((us+1:Nat):Int):=by rw [jz (by omega)];omega
 unfold W.jg W.jg.c0
 rw [hidx,jb,jb]
 unfold W.jg.c1
 simp only
 rw [hv.len,r1,jb,jb,hw,hw2]
 unfold W.jg.cG_
 by_cases hm5:ops[i].1=5
 ·have hbit:=ho.p.bit hm5
  unfold W.jg.c3
  rw [Jv (by simpa using hm5),kR hbit.1 (by rw [hb];exact hbit.2),jb,JK ops[i].2.2.2.2.1.toNat (by omega) (by rw [hb];omega),jb,jb,jb]
  unfold meetK
  rw [if_neg (fun h=>h.1 hm5),if_pos hm5]
  exact ⟨r,rfl,r2.up,rfl,by rw [List.length_set];exact hb⟩
 ·rw [Jd (by simpa using hm5)]
  unfold meetK
  simp only
  rw [if_neg hm5]
  by_cases hb1:x=1
  ·rw [Jv (by simpa using hb1),if_pos ⟨hm5,hb1⟩,←gate_x [] 0 ops[i].2.2.2.1 0 []]
   obtain ⟨s,s1,s2⟩:=apply_walk r2 (ok1_x ho.p.gate) (by omega) (by omega) (.inr (.inl rfl)) (fun h=>rfl) (by show (0:Int)≤9223372036854775807;decide)
   unfold W.jg.c5
   rw [hlr,s1,jb,jb,jb]
   exact ⟨s,rfl,s2,trivial,hb⟩
  ·rw [Jd (by simpa using hb1),jb,if_neg (fun h=>hb1 h.2)]
   exact ⟨r,rfl,r2.up,trivial,hb⟩
theorem meet_01 {o:GOp} {x:Int} {s:SK} (h:B01 s.2.1) (hx:x=0∨x=1):B01 (meetK o x s).2.1:=by
 unfold meetK
 simp only
 split
 ·exact h.set _ hx
 ·exact h
theorem played_good {n bn:Nat} {ops:List GOp} {tape:List Int} {i0:Nat} (hn:n≤12) (hbn:bn<2^40) (hl:ops.length≤8000) (ht:tape.length<2^62) (hi:i0<2^n) (hops:∀o∈ops,OkS o n bn)
 (hck:W.jw ((n:Int),(bn:Int),ops)=some ((0:Int),(0:Int))) :
 (∀x,playK tape 0 ops (ke i0,List.replicate bn 0,0)=.inl x→x.1≠0∧W.ji ((n:Int),(bn:Int),ops) (i0:Int) tape=some (.inr ((),(x.1,(x.2:Int)),()))) ∧
 (∀s,playK tape 0 ops (ke i0,List.replicate bn 0,0)=.inr s → ∃l,W.ji ((n:Int),(bn:Int),ops) (i0:Int) tape=some (.inl (((0:Int),(0:Int)),(n:Int),(bn:Int),ops,(s.2.2:Int),(ops.length:Int),l,s.2.1,()))∧AmpP l (2^n) s.1 ops.length):=by
 have hN:2^n≤2^20:=Nat.pow_le_pow_right (by decide) (by omega)
 obtain ⟨l0,b1,b2⟩:=pbasis_walk (show n≤20 by omega) hi
 obtain ⟨R,hR⟩:∃R,playK tape 0 ops (ke i0,List.replicate bn 0,0)=R:=⟨_,rfl⟩
 obtain ⟨y,y1,y2⟩:=JZ (f:=fun s:Int×Int×List GOp×Int×Int×List NumT×List Int↦W.ji.cb_ tape (Prod.fst s) (Prod.fst (Prod.snd s)) (Prod.fst (Prod.snd (Prod.snd s))) (Prod.fst (Prod.snd (Prod.snd (Prod.snd s)))) (Prod.fst (Prod.snd (Prod.snd (Prod.snd (Prod.snd s))))) (Prod.fst (Prod.snd (Prod.snd (Prod.snd (Prod.snd (Prod.snd s)))))) (Prod.snd (Prod.snd (Prod.snd (Prod.snd (Prod.snd (Prod.snd s)))))) some)
  (J:=fun s=>∃(j us:Nat) (l:List NumT) (v:KV) (bits:List Int),s=((n:Int),(bn:Int),ops,(us:Int),(j:Int),l,bits)∧AmpP l (2^n) v j∧j≤ops.length∧bits.length=bn∧B01 bits∧us≤tape.length∧playK tape j (ops.drop j) (v,bits,us)=R)
  (Q:=fun y=>(∃u:Int×Int×Int×Int×List GOp×Int×Int×List NumT×List Int,∃x:Int×Nat,y=.inl u∧R=.inl x∧u.1=x.1∧u.2.1=(x.2:Int)∧x.1≠0) ∨
   (∃(s:SK) (l:List NumT),R=.inr s∧y=.inr ((n:Int),(bn:Int),ops,(s.2.2:Int),(ops.length:Int),l,s.2.1)∧AmpP l (2^n) s.1 ops.length))
  (fun s=>ops.length-s.2.2.2.2.1.toNat)
  (by
   rintro s ⟨j,us,l,v,bits,rfl,p1,p2,p3,p4,p5,p6⟩
   obtain ⟨c,k,l',v',o1,o2,o3,o4,o5,o6,o7⟩:=onward_walk (tape:=tape) (us:=us) (q:=(n:Int)) (b:=(bn:Int)) (u:=(us:Int)) hn hbn hl hops p3 p4 p1 p2
   rw [p6] at o5
   simp only [W.ji.cb_]
   rw [o1,jb]
   cases c with
   | false=>
     have hk:=o6 rfl
     subst hk
     rw [List.drop_length] at o5
     simp only [playK] at o5
     rw [br_ff]
     exact .inl ⟨_,rfl,.inr ⟨_,l',o5,rfl,o2⟩⟩
   | true=>
     obtain ⟨hk,hc,h5⟩:=o7 rfl
     have hm:ops[k]∈ops:=List.getElem_mem hk
     rw [List.drop_eq_getElem_cons hk] at o5
     simp only [playK] at o5
     rw [if_neg (by rw [hc];decide),if_neg h5] at o5
     rw [br_tt]
     dsimp only
     by_cases hu:us=tape.length
     ·rw [if_pos hu] at o5
      rw [Jv (by simp [hu]),show W.JB (19:Int) (k:Int)=some (19,(k:Int)) from rfl,jb]
      exact .inl ⟨_,rfl,.inl ⟨_,_,rfl,o5,rfl,rfl,(by first | (show (19:Int)≠0;decide) | (show (20:Int)≠0;decide))⟩⟩
     ·rw [if_neg hu] at o5
      rw [Jd (beq_false_of_ne (by omega)),JK us rfl (by omega),jb]
      unfold W.ji.c8
      obtain ⟨b,hb⟩:∃b,tape.getD us 0=b:=⟨_,rfl⟩
      rw [hb] at o5 ⊢
      by_cases hbad:b≠0∧b≠1
      ·rw [if_pos hbad] at o5
       rw [Jv (by simpa using hbad.1),jb,Jv (by simpa using hbad.2),show W.JB (20:Int) (k:Int)=some (20,(k:Int)) from rfl,jb]
       exact .inl ⟨_,rfl,.inl ⟨_,_,rfl,o5,rfl,rfl,(by first | (show (19:Int)≠0;decide) | (show (20:Int)≠0;decide))⟩⟩
      ·rw [if_neg hbad] at o5
       have hb01:b=0∨b=1:=by omega
       have hc19:(br (b !=(0:Int)) (some (b !=(1:Int))) (some false))=some false:=by rcases hb01 with rfl | rfl<;>rfl
       rw [hc19,jb,br_ff]
       obtain ⟨m,m1,m2,m3,m4⟩:=meet_walk (q:=(n:Int)) (b:=(bn:Int)) (us:=us) hn hl p3 o2 hk (hops _ hm) h5 hb01 (by omega)
       rw [m1,jb]
       refine .inr ⟨_,rfl,⟨k+1,us+1,m,_,_,rfl,m2,hk,m4,meet_01 p4 hb01,by omega,?_⟩,by simp only [Int.toNat_natCast];omega⟩
       rw [o5,←m3])
  (s:=((n:Int),(bn:Int),ops,(0:Int),(0:Int),l0,List.replicate bn 0)) ⟨0,0,l0,ke i0,List.replicate bn 0,rfl,b2,Nat.zero_le _,by simp,B01.zero _,Nat.zero_le _,hR⟩
 have hp:=pow63 (q:=(n:Int)) (by omega)
 have hbeg:W.jx ((n:Int),(bn:Int),ops) (i0:Int)=some (.inl (((0:Int),(0:Int)),(n:Int),(bn:Int),ops,(0:Int),(0:Int),l0,List.replicate bn 0,())):=by
  unfold W.jx W.jx.c4 W.jx.c6
  simp only
  rw [hck,jb,Jd (by decide),Jj (by omega),Jc (by simp),jb,hp,Int.toNat_natCast,decide_eq_false (by omega),jb,br_ff,b1,jb,
   Jc (by rw [Bool.and_eq_true,Bool.and_eq_true,Bool.and_eq_true,decide_eq_true_iff,decide_eq_true_iff,decide_eq_true_iff,decide_eq_true_iff];omega),jb,jb,Int.toNat_natCast]
 have hrun:W.ji ((n:Int),(bn:Int),ops) (i0:Int) tape=sel y (fun u_1=>some (Sum.inr ((),(Prod.fst u_1,Prod.fst (Prod.snd u_1)),())))
  (fun v_1=>some (Sum.inl (((0:Int),(0:Int)),Prod.fst v_1,Prod.fst (Prod.snd v_1),Prod.fst (Prod.snd (Prod.snd v_1)),Prod.fst (Prod.snd (Prod.snd (Prod.snd v_1))),Prod.fst (Prod.snd (Prod.snd (Prod.snd (Prod.snd v_1)))),Prod.fst (Prod.snd (Prod.snd (Prod.snd (Prod.snd (Prod.snd v_1))))),Prod.snd (Prod.snd (Prod.snd (Prod.snd (Prod.snd (Prod.snd v_1))))),()))):=by
  unfold W.ji
  simp only
  rw [hbeg,jb,kF,Jd (by rfl),y1,jb]
 rw [hR]
 rcases y2 with ⟨u,x,rfl,e,e1,e2,e3⟩ | ⟨s,l,e,rfl,e1⟩
 ·subst e
  refine ⟨fun x' hx=>?_,fun s hs=>(by cases hs)⟩
  cases hx
  rw [hrun,kF,e1,e2]
  exact ⟨e3,rfl⟩
 ·subst e
  refine ⟨fun x' hx=>(by cases hx),fun s' hs=>?_⟩
  cases hs
  rw [hrun,Yb]
  exact ⟨l,rfl,e1⟩
end Go.Ql
end
section
namespace Go.Ql
def TxtsK (v:KV) (N:Nat) (T:List (List UInt8)):Prop:=T.length=N ∧ ∀x,x<N→KTxt (v x) (T.getD x [])
theorem TxtsK.one {v:KV} {N:Nat} {T U:List (List UInt8)} (h:TxtsK v N T) (g:TxtsK v N U):T=U:=by
 refine List.ext_getElem (h.1.trans g.1.symm) fun x h1 h2=>?_
 have a:=h.2 x (h.1▸h1)
 have b:=g.2 x (h.1▸h1)
 rw [show T.getD x []=T[x] by simp [h1]] at a
 rw [show U.getD x []=U[x] by simp [h2]] at b
 exact KTxt.one a b
theorem texts_walk {l:List NumT} {v:KV} {n t:Nat} (hv:AmpP l (2^n) v t) (hn:n≤20) (ht:t≤9000):∃T,W.jF (0:Int) ((2^n:Nat):Int) l=some (T,l,())∧TxtsK v (2^n) T:=by
 have hN:2^n≤2^20:=Nat.pow_le_pow_right (by decide) hn
 have hlen:=hv.len
 obtain ⟨y,q1,r,q2,q3,q4⟩:=JP (f:=fun s:Int×List (List UInt8)↦W.jF.ca_ (0:Int) ((2^n:Nat):Int) (↑(List.length (part (0:Int) ((2^n:Nat):Int) l)):Int) (Prod.fst s) (Prod.snd s) l some) (2^n)
  (fun i s=>s.1=(i:Int)∧s.2.length=2^n ∧ ∀x,x<i→KTxt (v x) (s.2.getD x []))
  (fun y=>∃r,y=(((2^n:Nat):Int),r)∧r.length=2^n ∧ ∀x,x<2^n→KTxt (v x) (r.getD x []))
  (by
   rintro i ⟨s,out⟩ hi ⟨p1,p2,p3⟩
   simp only at p1 p2 p3
   subst p1
   left
   obtain ⟨r,r1,r2⟩:=ntext_ok (hv.at_ i hi) (by omega) (by omega)
   refine ⟨(((i+1:Nat):Int),out.set i r),?_,rfl,by simpa using p2,fun x hx=>?_⟩
   ·simp only [W.jF.ca_]
    rw [←hlen,YZ,hlen,Jl (by omega),okR hi,jb,idxP (by omega),jb,r1,jb,VL (by omega),jb,Yu (by omega),jb,Int.toNat_natCast,jz (by omega)]
    rfl
   ·simp only
    by_cases e:x=i
    ·subst e
     rw [List.getD,List.getElem?_set_self (by omega)]
     exact r2
    ·rw [List.getD,List.getElem?_set_ne (Ne.symm e)]
     exact p3 x (by omega))
  (by
   rintro ⟨s,out⟩ ⟨p1,p2,p3⟩
   simp only at p1 p2 p3
   subst p1
   refine ⟨_,?_,out,rfl,p2,p3⟩
   simp only [W.jF.ca_]
   rw [←hlen,YZ,Jj (by omega)])
  (s:=((0:Int),List.replicate (2^n) [])) ⟨rfl,by simp,fun x hx=>by omega⟩
 subst q2
 have hpl:part (0:Int) ((2^n:Nat):Int) l=l:=by rw [←hlen,YZ]
 unfold W.jF
 rw [hpl] at q1 ⊢
 rw [hlen] at q1 ⊢
 rw [Jc (by rw [Bool.and_eq_true,Bool.and_eq_true,Bool.and_eq_true,decide_eq_true_iff,decide_eq_true_iff,decide_eq_true_iff,decide_eq_true_iff];omega),jb,Int.toNat_natCast,q1,jb]
 exact ⟨r,rfl,q3,q4⟩
theorem FitsK.norm {k:K} {L t:Nat} (h:FitsK k L t):FitsK (K.mul k (K.conj k)) (L+L+8) (t+t):=by
 obtain ⟨w,rfl,hb⟩:=h
 exact ⟨rows w (cv w) 8,by rw [←kv_mul,kv_conj],rows_bd hb (cv_bd hb) 8 (Nat.le_refl _)⟩
end Go.Ql
end
section
namespace Go.Ql
theorem sameTexts_self (a:List (List UInt8)) (ha:a.length≤8796093022208):W.jJ a a=some true:=by
 simp only [W.jJ,br_if]
 rw [if_neg (by simp),iter_count (s0:=(0:Int)) a.length (fun k=>(k:Int)) (.inr (a.length:Int))]
 ·rfl
 ·intro i hi
  simp only [W.jJ.cb_,W.jJ.c6,br_if,Yu hi,jb]
  rw [if_pos (by simpa using hi),if_neg (by simp),jz (by omega)]
  rfl
 ·simp only [W.jJ.cb_,br_if]
  rw [if_neg (by simp)]
 ·rfl
theorem sameShot_self (a:List (List UInt8)) (b:List Int) (u:Int) (ha:a.length≤8796093022208) (hb:b.length≤17592186043904):W.Ji (a,b,u) (a,b,u)=some true:=by
 unfold W.Ji W.Ji.c1
 simp only
 rw [sameTexts_self a ha,jb,br_tt,sameInts_ok b b hb,jb,decide_eq_true rfl,br_tt,jb]
 simp
def begC:Cir:=(2,1,[(3,0,[],0,0,[]),(2,0,[0],1,0,[]),(5,0,[],1,0,[-1])])
def bell:KV:=fun x=>if x=3 then ⟨0,0,1 / 2,0,0,0,-1 / 2,0⟩ else K.zero
theorem beg_w:WCir begC:=by
 refine ⟨by decide,fun o ho=>?_⟩
 simp only [begC,List.mem_cons,List.not_mem_nil,or_false] at ho
 rcases ho with rfl | rfl | rfl<;>exact ⟨by decide,by decide⟩
theorem small_play:∃s,playK [1] 0 begC.2.2 (ke 0,List.replicate 1 0,0)=.inr s∧s.2.1=[1]∧s.2.2=1 ∧ ∀x,x<4→s.1 x=bell x:=by
 refine ⟨meetK (5,0,[],1,0,[-1]) 1 (gateK (2,0,[0],1,0,[]) (gateK (3,0,[],0,0,[]) (ke 0)),[0],0),rfl,rfl,rfl,fun x hx=>?_⟩
 have h:x=0∨x=1∨x=2∨x=3:=by omega
 rcases h with rfl | rfl | rfl | rfl<;>refine K.eq_of ?_ ?_ ?_ ?_ ?_ ?_ ?_ ?_<;>decide +kernel
def bellT:List (List UInt8):=[[48],[48],[48],[48,44,48,44,49,44,48,44,48,44,48,44,45,49,47,49]]
theorem ktxt_zero:KTxt K.zero [48]:=⟨fun _=>0,0,.inl rfl,Vy 0,by decide +kernel⟩
theorem ktxt_bell:KTxt (bell 3) [48,44,48,44,49,44,48,44,48,44,48,44,45,49,47,49]:=
 ⟨fun i=>if i=2 then 1 else if i=6 then -1 else 0,1,.inr ⟨2,by decide,by decide⟩,by refine K.eq_of ?_ ?_ ?_ ?_ ?_ ?_ ?_ ?_<;>decide +kernel,by decide +kernel⟩
theorem begun_run:W.jD begC 0 [1]=some ((bellT,[1],1),(0,0)):=by
 have hops:∀o∈begC.2.2,OkS o 2 1:=fun o ho=>by
  have hw:=beg_w.2 o ho
  refine oks_good (VK ?_) hw (by decide)
  simp only [begC,List.mem_cons,List.not_mem_nil,or_false] at ho
  have hf:¬ifBad 1 ([-1]:List Int):=by unfold ifBad;simp
  have hf0:∀b,¬ifBad b ([]:List Int):=by intro b;unfold ifBad;simp
  rcases ho with rfl | rfl | rfl
  ·unfold opBad;simp [hf0,JX]
  ·unfold opBad;simp [hf0,JX]
  ·unfold opBad;simp [hf,JX]
 have hck:W.jw begC=some ((0:Int),(0:Int)):=by
  rw [Vv begC beg_w]
  have hg:GoodC begC:=⟨by decide,by decide,by decide,fun o ho=>by
   simp only [begC,List.mem_cons,List.not_mem_nil,or_false] at ho
   have hf:¬ifBad 1 ([-1]:List Int):=by unfold ifBad;simp
   have hf0:∀b,¬ifBad b ([]:List Int):=by intro b;unfold ifBad;simp
   rcases ho with rfl | rfl | rfl
   ·unfold opBad;simp [hf0,JX,begC]
   ·unfold opBad;simp [hf0,JX,begC]
   ·unfold opBad;simp [hf,JX,begC]⟩
  rw [hg.chk]
 obtain ⟨s,s1,s2,s3,s4⟩:=small_play
 obtain ⟨_,p2⟩:=played_good (n:=2) (bn:=1) (ops:=begC.2.2) (tape:=[1]) (i0:=0) (by decide) (by decide) (by decide) (by decide) (by decide) hops hck
 obtain ⟨l,l1,l2⟩:=p2 s s1
 obtain ⟨T,t1,t2⟩:=texts_walk l2 (by decide) (by decide)
 have hb:TxtsK s.1 (2^2) bellT:=⟨rfl,fun x hx=>by
  rw [s4 x hx]
  have h:x=0∨x=1∨x=2∨x=3:=by omega
  rcases h with rfl | rfl | rfl | rfl
  ·exact ktxt_zero
  ·exact ktxt_zero
  ·exact ktxt_zero
  ·exact ktxt_bell⟩
 have e:=t2.one hb
 subst e
 have l1':W.ji begC 0 [1]=_:=l1
 unfold W.jD W.jD.c4
 rw [show (begC.1,begC.2.1,begC.2.2)=begC from rfl,l1',jb,kF]
 rw [Jd (by rfl)]
 simp only
 rw [l2.len,t1,jb,jb,s2,s3]
 rfl
theorem begun_ok:W.jT=some true:=by
 unfold W.jT
 rw [show W.JW=some begC from rfl,jb,begun_run,jb]
 unfold W.jT.c2
 rw [Jv (by rfl)]
 have h:W.Ji (bellT,[1],1) (bellT,[1],1)=some true:=sameShot_self _ _ _ (by decide) (by decide)
 refine VV ?_ rfl
 exact VV h rfl
end Go.Ql
end
end

section
namespace Go.Ql
theorem playK_pure (tape:List Int):∀{l:List GOp},(∀o∈l,o.1<5∧o.2.2.2.2.2=[]) → ∀(i:Nat) (v:KV) (bits:List Int) (u:Nat),playK tape i l (v,bits,u)=.inr (runK l v,bits,u)
 | [],_,_,_,_,_=>rfl
 | o::l,h,i,v,bits,u=>by
   have ho:=h o (List.mem_cons_self ..)
   have hc:condK bits o=true:=by unfold condK;rw [ho.2];rfl
   rw [playK,if_neg (by simp [hc]),if_pos ho.1,runK]
   exact playK_pure tape (fun a ha=>h a (List.mem_cons_of_mem _ ha)) _ _ _ _
theorem turnZ_16 (a:K) {k:Int} (h:k % 16=0):turnZ a k=a:=by
 unfold turnZ
 rw [h]
 rfl
theorem pK_back (l:List Int) (v:KV) (k:Int):pK l ((16-k) % 16) (pK l k v)=v:=by
 funext x
 unfold pK
 by_cases h:onesB l x=true
 ·rw [if_pos h,if_pos h,turnZ_add,turnZ_16 _ (by omega)]
 ·rw [if_neg h,if_neg h]
theorem xK_back {l:List Int} {q:Int} (hl:Nn l) (hq:0≤q) (h:q∉l) (v:KV):xK l q (xK l q v)=v:=by
 funext x
 unfold xK
 rw [ones_other hl hq h,fl_fl]
 cases onesB l x<;>rfl
theorem hK_hK (q:Int) (v:KV):hK q (hK q v)=v:=by
 funext x
 simp only [hK,fl_fl,VP]
 generalize v x=a
 generalize v (fl q x)=b
 cases bt q x<;>simp only [Bool.not_true,Bool.not_false,if_true,if_false,Bool.false_eq_true]
 ·apply K.eq_of<;>simp only [K.half,K.sm,K.sub,K.turn,K.turn1,K.neg,K.add]<;>grind
 ·apply K.eq_of<;>simp only [K.half,K.sm,K.sub,K.turn,K.turn1,K.neg,K.add]<;>grind
theorem hC_back {l:List Int} {q:Int} (hl:Nn l) (hq:0≤q) (h:q∉l) (v:KV):(fun x=>if onesB l x=true then hK q (fun y=>if onesB l y=true then hK q v y else v y) x else (fun y=>if onesB l y=true then hK q v y else v y) x)=v:=by
 funext x
 by_cases hx:onesB l x=true
 ·have h2:onesB l (fl q x)=true:=by rw [ones_other hl hq h];exact hx
  rw [if_pos hx]
  have e:=congrFun (hK_hK q v) x
  rw [←e]
  unfold hK
  simp only [if_pos hx,if_pos h2]
 ·rw [if_neg hx]
  simp only
  rw [if_neg hx]
theorem gate_back {n bn:Nat} {o:GOp} (h:OkS o n bn) (hk:o.1<5) (v:KV):gateK (invOp o) (gateK o v)=v:=by
 have h1:=h.p.gate
 have hkind:=h.kind
 have hph:=h.ph
 have h15:=h.k15
 have hk0:=h1.k
 have hq:=h1.q.1
 have hl:Nn o.2.2.1:=fun c hc=>(h1.qs c hc).1
 have hnl:=h1.out
 obtain ⟨k,K1,l,q,b,on⟩:=o
 simp only at *
 have hk2:0≤(16-K1) % 16:=by omega
 show gateK (k,(16-K1) % 16,l,q,b,on) _=v
 have hc:k=1∨k=2∨k=3∨k=4:=by omega
 rcases hc with rfl | rfl | rfl | rfl
 ·rw [hph rfl,gate_phase _ _ _ _ _ hk2,gate_phase _ _ _ _ _ hk0];exact pK_back _ v K1
 ·rw [gate_x,gate_x];exact xK_back hl hq hnl v
 ·rw [gate_h,gate_h];exact hC_back hl hq hnl v
 ·rw [gate_p _ _ _ _ _ _ hk2,gate_p _ _ _ _ _ _ hk0];exact pK_back _ v K1
theorem runK_snoc (l:List GOp) (o:GOp) (v:KV):runK (l++[o]) v=gateK o (runK l v):=runK_app l [o] v
theorem run_back {n bn:Nat}:∀{l:List GOp},(∀o∈l,OkS o n bn∧o.1<5) → ∀v,runK (l.map invOp).reverse (runK l v)=v
 | [],_,_=>rfl
 | o::l,h,v=>by
   rw [List.map_cons,List.reverse_cons,runK_snoc]
   show gateK (invOp o) (runK (l.map invOp).reverse (runK l (gateK o v)))=v
   rw [run_back (fun a ha=>h a (List.mem_cons_of_mem _ ha)),gate_back (h o (List.mem_cons_self ..)).1 (h o (List.mem_cons_self ..)).2]
def ctlOp (q:Int) (o:GOp):GOp:=if o.1=1 then (4,o.2.1,[],q,0,[]) else (o.1,o.2.1,q::o.2.2.1,o.2.2.2.1,o.2.2.2.2.1,o.2.2.2.2.2)
theorem ctl_gate {q:Int} {o:GOp} (hph:o.1=1→o.2.2.1=[]) (v:KV):gateK (ctlOp q o) v=fun x=>if bt q x=true then gateK o v x else v x:=by
 funext x
 unfold ctlOp
 by_cases h1:o.1=1
 ·rw [if_pos h1]
  have e:onesB o.2.2.1 x=true:=by rw [hph h1];rfl
  simp only [gateK,e,h1]
  rfl
 ·rw [if_neg h1]
  by_cases hb:bt q x=true
  ·simp only [gateK,ones_cons,hb,Bool.true_and,if_true]
  ·have hb':bt q x=false:=by simpa using hb
   rw [if_neg hb]
   simp only [gateK,ones_cons,hb',Bool.false_and,if_true]
def Free (q:Int) (o:GOp):Prop:=o.1=1∨(0≤o.2.2.2.1∧o.2.2.2.1≠q)
theorem free_gate {q:Int} (hq:0≤q) {o:GOp} (ho:Free q o) {b:Bool} {v w:KV} (h:∀x,bt q x=b→v x=w x):∀x,bt q x=b→gateK o v x=gateK o w x:=by
 intro x hx
 rcases ho with ho | ⟨h0,h1⟩
 ·exact gate_locP (h x hx) (.inr (.inl ho))
 ·exact gate_loc (h x hx) (h _ (by rw [bt_other hq h0 (Ne.symm h1)];exact hx))
theorem free_run {q:Int} (hq:0≤q):∀{l:List GOp},(∀o∈l,Free q o) → ∀{b:Bool} {v w:KV},(∀x,bt q x=b→v x=w x) → ∀x,bt q x=b→runK l v x=runK l w x
 | [],_,_,_,_,h,x,hx=>h x hx
 | o::l,ho,b,v,w,h,x,hx=>free_run hq (fun a ha=>ho a (List.mem_cons_of_mem _ ha)) (free_gate hq (ho o (List.mem_cons_self ..)) h) x hx
theorem gate_nought (o:GOp):gateK o (fun _=>K.zero)=fun _=>K.zero:=by
 funext x
 have hneg:K.neg K.zero=K.zero:=by rw [←K.turn_eight,K.turn_zero]
 simp only [gateK,K.turn_zero,K.half_zero,hneg]
 split
 ·rfl
 ·split
  ·rfl
  ·split
   ·split<;>rfl
   ·split
    ·rfl
    ·split<;>exact K.add_zero _
theorem run_nought:∀l:List GOp,runK l (fun _=>K.zero)=fun _=>K.zero
 | []=>rfl
 | o::l=>by rw [runK,gate_nought,run_nought l]
theorem ctl_run {q:Int} (hq:0≤q):∀{l:List GOp},(∀o∈l,Free q o∧(o.1=1→o.2.2.1=[])) → ∀v,runK (l.map (ctlOp q)) v=fun x=>if bt q x=true then runK l v x else v x
 | [],_,v=>by
   funext x
   simp only [List.map_nil,runK]
   split<;>rfl
 | o::l,h,v=>by
   have ho:=h o (List.mem_cons_self ..)
   rw [List.map_cons,runK,ctl_run hq (fun a ha=>h a (List.mem_cons_of_mem _ ha)),ctl_gate ho.2]
   funext x
   by_cases hb:bt q x=true
   ·rw [if_pos hb,if_pos hb]
    refine free_run hq (fun a ha=>(h a (List.mem_cons_of_mem _ ha)).1) (fun y hy=>?_) x hb
    rw [if_pos hy]
   ·rw [if_neg hb,if_neg hb]
    simp only
    rw [if_neg hb]
theorem basis_off {q:Int} {i:Nat} {b:Bool} (h:bt q i≠b):∀x,bt q x=b→ke i x=K.zero:=fun x hx=>by
 unfold ke
 rw [if_neg (show ¬x=i from fun e=>h (by rw [←e];exact hx))]
theorem ctl_zero {q:Int} (hq:0≤q) {l:List GOp} (h:∀o∈l,Free q o∧(o.1=1→o.2.2.1=[])) {i:Nat} (hi:bt q i=false):runK (l.map (ctlOp q)) (ke i)=ke i:=by
 rw [ctl_run hq h]
 funext x
 by_cases hb:bt q x=true
 ·rw [if_pos hb,free_run hq (fun a ha=>(h a ha).1) (basis_off (b:=true) (by rw [hi];decide)) x hb,run_nought,basis_off (b:=true) (by rw [hi];decide) x hb]
 ·rw [if_neg hb]
theorem ctl_one {q:Int} (hq:0≤q) {l:List GOp} (h:∀o∈l,Free q o∧(o.1=1→o.2.2.1=[])) {i:Nat} (hi:bt q i=true):runK (l.map (ctlOp q)) (ke i)=runK l (ke i):=by
 rw [ctl_run hq h]
 funext x
 by_cases hb:bt q x=true
 ·rw [if_pos hb]
 ·have hb':bt q x=false:=by simpa using hb
  rw [if_neg hb,free_run hq (fun a ha=>(h a ha).1) (basis_off (b:=false) (by rw [hi];decide)) x hb',run_nought,basis_off (b:=false) (by rw [hi];decide) x hb']
end Go.Ql
end

section
namespace Go.Ql
theorem invOp_good {o:Op} {qn bn:Int} (h:GoodOp o qn bn):GoodOp (invOp o) qn bn:=by
 obtain ⟨h1,h2,h3,h4,h5,h6,h7,h8,h9,h10⟩:=h
 exact ⟨h1,by show 0≤(16-o.2.1) % 16∧(16-o.2.1) % 16≤15;omega,by show (o.1=1∨o.1=4)∨(16-o.2.1) % 16=0;omega,h4,h5,h6,h7,h8,h9,h10⟩
theorem inv_good {c:Cir} (h:GoodC c):GoodC (inv c):=by
 refine ⟨h.q,h.b,by simpa [inv] using h.n,fun o ho=>?_⟩
 simp only [inv,List.mem_reverse,List.mem_map] at ho
 obtain ⟨o',h1,rfl⟩:=ho
 exact (invOp_good (VK (h.ops o' h1))).bad
theorem inv_w {c:Cir} (h:WCir c):WCir (inv c):=by
 refine ⟨by simpa [inv] using h.1,fun o ho=>?_⟩
 simp only [inv,List.mem_reverse,List.mem_map] at ho
 obtain ⟨o',h1,rfl⟩:=ho
 exact invOp_w (h.2 o' h1)
abbrev Plain (l:List Op):Prop:=∀o∈l,¬(o.1=5∨o.1=6∨o.2.2.2.2.2≠[])
theorem inv_plain {l:List Op} (h:Plain l):Plain (l.map invOp).reverse:=by
 intro o ho
 simp only [List.mem_reverse,List.mem_map] at ho
 obtain ⟨o',h1,rfl⟩:=ho
 exact h o' h1
theorem plain_ok {c:Cir} {n m:Nat} (h:GoodC c) (hw:WCir c) (hp:Plain c.2.2) (hn:c.1=(n:Int)) (hm:c.2.1=(m:Int)):∀o∈c.2.2,OkS o n m∧o.1<5∧o.2.2.2.2.2=[]:=fun o ho=>by
 have hg:=VK (h.ops o ho)
 rw [hn,hm] at hg
 have hq:=h.q
 have hpo:=hp o ho
 have hk:=hg.kind
 refine ⟨oks_good hg (hw.2 o ho) (by omega),by omega,?_⟩
 by_cases e:o.2.2.2.2.2=[]
 ·exact e
 ·exact absurd (.inr (.inr e)) hpo
theorem run_plain {c:Cir} (h:GoodC c) (hw:WCir c) (hp:Plain c.2.2) {n:Nat} (hn:c.1=(n:Int)) {i:Nat} (hi:i<2^n) :
 ∃(T:List (List UInt8)) (bits:List Int) (u:Int),W.jD c (i:Int) []=some ((T,bits,u),(0,0))∧TxtsK (runK c.2.2 (ke i)) (2^n) T:=by
 have h1:=h.q
 have h2:=h.b
 have h3:=h.n
 obtain ⟨m,hm⟩:=Int.eq_ofNat_of_zero_le h2.1
 have hok:=plain_ok h hw hp hn hm
 have hck:=Vv c hw
 rw [h.chk] at hck
 obtain ⟨qn,bn,ops⟩:=c
 simp only at hn hm h1 h2 h3 hok
 subst hn
 subst hm
 obtain ⟨_,p2⟩:=played_good (n:=n) (bn:=m) (ops:=ops) (tape:=[]) (i0:=i) (by omega) (by omega) (by omega) (by decide) hi (fun o ho=>(hok o ho).1) hck
 obtain ⟨l,l1,l2⟩:=p2 _ (playK_pure [] (fun o ho=>(hok o ho).2) 0 _ _ _)
 obtain ⟨T,t1,t2⟩:=texts_walk l2 (by omega) (by omega)
 refine ⟨T,List.replicate m 0,((0:Nat):Int),?_,t2⟩
 unfold W.jD W.jD.c4
 simp only
 rw [l1,jb,kF]
 rw [Jd (by rfl)]
 simp only
 rw [l2.len,t1,jb,jb]
theorem ktxt_one:KTxt K.one [49]:=⟨fun i=>if i=0 then 1 else 0,0,.inl rfl,by refine K.eq_of ?_ ?_ ?_ ?_ ?_ ?_ ?_ ?_<;>decide +kernel,by decide +kernel⟩
theorem txt_ne:(([49]:List UInt8)==[48])=false∧(([48]:List UInt8)==[49])=false:=by decide
theorem only_ok {T:List (List UInt8)} {n i:Nat} (hn:n≤20) (h:TxtsK (ke i) (2^n) T) (hi:i<2^n):W.jZ T (i:Int)=some true:=by
 have hN:2^n≤2^20:=Nat.pow_le_pow_right (by decide) hn
 obtain ⟨h1,h2⟩:=h
 have hT:∀x,(hx:x<T.length)→T[x]=if x=i then [49] else [48]:=fun x hx=>by
  have a:=h2 x (by omega)
  rw [show T.getD x []=T[x] by simp [hx]] at a
  unfold ke at a
  by_cases e:x=i
  ·rw [if_pos e] at a ⊢
   exact KTxt.one a ktxt_one
  ·rw [if_neg e] at a ⊢
   exact KTxt.one a ktxt_zero
 unfold W.jZ
 rw [iter_count (s0:=(0:Int)) T.length (fun k=>(k:Int)) (.inr (.inr (T.length:Int)) |> fun (_:Int⊕(Int⊕Int))=>(.inr (T.length:Int):Int⊕Int))]
 ·rw [jb,Yb,decide_eq_true (by omega)]
 ·intro x hx
  simp only [W.jZ.cc_]
  rw [Jl (by omega),Yu hx,jb,hT x hx]
  unfold W.jZ.c4
  by_cases e:x=i
  ·subst e
   rw [if_pos rfl,show Array.toList (ByteArray.data (ByteArray.mk #[(49:UInt8)]))=[49] from rfl]
   rw [show (((x:Int))==(x:Int))=true by simp,show (([49]:List UInt8)==[49])=true by decide,show (!(true==true))=false from rfl,br_ff,show (((x:Int)) !=(x:Int))=false by simp,br_ff,jb,br_ff,jz (by omega)]
   rfl
  ·have e1:((x:Int)==(i:Int))=false:=beq_false_of_ne (by omega)
   have e2:((x:Int) !=(i:Int))=true:=bne_iff_ne.2 (by omega)
   rw [if_neg e,show Array.toList (ByteArray.data (ByteArray.mk #[(49:UInt8)]))=[49] from rfl,show Array.toList (ByteArray.data (ByteArray.mk #[(48:UInt8)]))=[48] from rfl]
   rw [e1,txt_ne.2,show (!(false==false))=false from rfl,br_ff,e2,br_tt,show (!(([48]:List UInt8)==[48]))=false by decide,jb,br_ff,jz (by omega)]
   rfl
 ·simp only [W.jZ.cc_]
  rw [Jj (by omega)]
 ·rfl
theorem contains_ok (l:List Int) (v:Int) (hl:l.length≤17592186043904):W.Jh l v=some (decide (v∈l)):=by
 unfold W.Jh W.jK
 obtain ⟨y,h1,h2⟩:=JP (f:=fun s:Int↦W.jK.cc_ l v (↑(List.length l):Int) s some) l.length
  (fun i s=>s=(i:Int)∧v∉l.take i)
  (fun y=>(∃i:Nat,y=.inl ((i:Int),(i:Int))∧v∈l)∨(∃i,y=.inr i∧v∉l))
  (by
   rintro i s hi ⟨rfl,h2⟩
   simp only [W.jK.cc_]
   rw [Jl (by omega),Yu hi,jb]
   by_cases e:v=l[i]
   ·rw [Jv (by simpa using e)]
    exact .inr ⟨_,rfl,.inl ⟨i,rfl,by rw [e];exact List.getElem_mem hi⟩⟩
   ·rw [Jd (by simpa using e),jz (by omega)]
    refine .inl ⟨_,rfl,by omega,?_⟩
    rw [List.take_succ_eq_append_getElem hi,List.mem_append]
    rintro (h | h)
    ·exact h2 h
    ·exact e (List.mem_singleton.1 h))
  (by
   rintro s ⟨rfl,h2⟩
   refine ⟨.inr (l.length:Int),?_,.inr ⟨_,rfl,by rw [List.take_length] at h2;exact h2⟩⟩
   simp only [W.jK.cc_]
   rw [Jj (by omega)])
  (s:=(0:Int)) ⟨rfl,by simp⟩
 rcases h2 with ⟨i,rfl,e⟩ | ⟨i,rfl,e⟩
 ·rw [h1,jb,kF,jb,decide_eq_true e,decide_eq_true (by simp)]
 ·rw [h1,jb,Yb,jb,decide_eq_false e]
  rfl
def ctl (q:Int) (c:Cir):Cir:=(c.1,c.2.1,c.2.2.map (ctlOp q))
theorem each_ctl (c:Cir) (q:Int) (hc:WCir c) (hb:∀o∈c.2.2,o.1=1→True):W.jy c q=some (ctl q c,q,()):=by
 have hlen:=hc.1
 obtain ⟨y,h1,h2⟩:=JP (f:=fun s:Int×List Op×Int↦W.jy.ca_ c.2.2 (↑(List.length c.2.2):Int) (Prod.fst s) (Prod.fst (Prod.snd s)) (Prod.snd (Prod.snd s)) some) c.2.2.length
  (fun i s=>s=((i:Int),(c.2.2.take i).map (ctlOp q),q))
  (fun y=>y=((c.2.2.length:Int),c.2.2.map (ctlOp q),q))
  (by
   rintro i s hi rfl
   left
   have hm:c.2.2[i]∈c.2.2:=List.getElem_mem hi
   have hw:=hc.2 _ hm
   refine ⟨_,?_,rfl⟩
   have e1:(c.2.2.take (i+1)).map (ctlOp q)=(c.2.2.take i).map (ctlOp q)++[ctlOp q c.2.2[i]]:=by
    rw [List.take_succ_eq_append_getElem hi,List.map_append];rfl
   have hl:((c.2.2.take i).map (ctlOp q)).length≤1759218604390:=by
    rw [List.length_map,List.length_take];omega
   have hcl:W.Jp c.2.2[i] q=some (ctlOp q c.2.2[i],q,()):=by
    unfold W.Jp ctlOp
    by_cases h1:(c.2.2[i]).1=1
    ·rw [Jv (by simpa using h1),if_pos h1]
    ·have:=hw.1
     rw [Jd (by simpa using h1),if_neg h1,Jc (by rw [Bool.and_eq_true,decide_eq_true_iff,decide_eq_true_iff];omega),jb]
     rfl
   simp only [W.jy.ca_,W.jy.c5]
   rw [Jl (by omega),Yu hi,jb,WOp.eta,copied_ok _ hw,jb,hcl,jb,Jc (by rw [Bool.and_eq_true,decide_eq_true_iff,decide_eq_true_iff];omega),jb,jb,e1,jz (by omega)]
   rfl)
  (by
   rintro s rfl
   refine ⟨_,?_,rfl⟩
   simp only [W.jy.ca_]
   rw [Jj (by omega),List.take_length])
  (s:=((0:Int),[],q)) rfl
 subst h2
 unfold W.jy
 rw [h1,jb]
 rfl
theorem control_ok (c:Cir) (q:Int) (hc:WCir c) (hg:(pur c).1=0) :
 (∃x f,W.jj c q=some (x,f)∧f.1≠0)∨(W.jj c q=some (ctl q c,(0,0))∧0≤q∧q<c.1 ∧ ∀o∈c.2.2,o.1≠1→o.2.2.2.1≠q∧q∉o.2.2.1):=by
 obtain ⟨g1,g2,g3⟩:=pur_zero hg
 have hck:=Vv c hc
 rw [g1.chk] at hck
 have hpu:=pure_ok c hc
 rw [g2] at hpu
 have hlen:=hc.1
 by_cases hq:q<0∨c.1≤q
 ·left
  refine ⟨(0,0,[]),(10,0),?_,by decide⟩
  unfold W.jj W.jj.c4
  rw [WCir.eta,hck,jb,Jd (by rfl)]
  rcases hq with h | h
  ·rw [Jl h,jb,br_tt];rfl
  ·by_cases h0:q<0
   ·rw [Jl h0,jb,br_tt];rfl
   ·rw [Jj h0,decide_eq_true (by omega),jb,br_tt];rfl
 ·obtain ⟨y,h1,h2⟩:=JP (f:=fun s:Int↦W.jj.cg_ c.2.2 (↑(List.length c.2.2):Int) s q some) c.2.2.length
   (fun i s=>s=(i:Int) ∧ ∀j,(hj:j<c.2.2.length)→j<i→(c.2.2[j]).1≠1→(c.2.2[j]).2.2.2.1≠q∧q∉(c.2.2[j]).2.2.1)
   (fun y=>(∃i,y=.inl (i,12,i))∨(∃i,y=.inr i ∧ ∀o∈c.2.2,o.1≠1→o.2.2.2.1≠q∧q∉o.2.2.1))
   (by
    rintro i s hi ⟨rfl,p2⟩
    have hw:=hc.2 _ (List.getElem_mem hi)
    have h12:W.jj.c12 q (c.2.2[i]).1 (c.2.2[i]).2.2.1 (c.2.2[i]).2.2.2.1 some=some (decide ((c.2.2[i]).1≠1∧((c.2.2[i]).2.2.2.1=q∨q∈(c.2.2[i]).2.2.1))):=by
     unfold W.jj.c12
     by_cases a:(c.2.2[i]).1=1
     ·rw [Jd (by simp [a]),decide_eq_false (fun h=>h.1 a)]
     ·rw [Jv (by simpa using a)]
      by_cases b:(c.2.2[i]).2.2.2.1=q
      ·rw [Jv (by simpa using b),decide_eq_true ⟨a,.inl b⟩]
      ·rw [Jd (by simpa using b),contains_ok _ _ hw.1,jb]
       congr 1
       by_cases d:q∈(c.2.2[i]).2.2.1
       ·rw [decide_eq_true d,decide_eq_true ⟨a,.inr d⟩]
       ·rw [decide_eq_false d,decide_eq_false (fun h=>h.2.elim b d)]
    simp only [W.jj.cg_]
    rw [Jl (by omega),Yu hi,jb,h12,jb]
    by_cases e:(c.2.2[i]).1≠1∧((c.2.2[i]).2.2.2.1=q∨q∈(c.2.2[i]).2.2.1)
    ·rw [decide_eq_true e,br_tt,VX,jb]
     exact .inr ⟨_,rfl,.inl ⟨_,rfl⟩⟩
    ·rw [decide_eq_false e,br_ff,jz (by omega)]
     refine .inl ⟨_,rfl,by omega,fun j hj hji h1=>?_⟩
     by_cases ej:j=i
     ·subst ej
      exact ⟨fun h=>e ⟨h1,.inl h⟩,fun h=>e ⟨h1,.inr h⟩⟩
     ·exact p2 j hj (by omega) h1)
   (by
    rintro s ⟨rfl,p2⟩
    refine ⟨.inr (c.2.2.length:Int),?_,.inr ⟨_,rfl,fun o ho h1=>?_⟩⟩
    ·simp only [W.jj.cg_]
     rw [Jj (by omega)]
    ·obtain ⟨j,hj,rfl⟩:=List.mem_iff_getElem.1 ho
     exact p2 j hj hj h1)
   (s:=(0:Int)) ⟨rfl,fun j hj h=>absurd h (Nat.not_lt_zero _)⟩
  have hrun:W.jj c q=sel y (fun u=>some (((0:Int),(0:Int),[]),Prod.fst (Prod.snd u),Prod.snd (Prod.snd u))) (fun v=>bnd (W.jy (Prod.fst c,Prod.fst (Prod.snd c),Prod.snd (Prod.snd c)) q) fun y_7=>
   some ((Prod.fst (Prod.fst y_7),Prod.fst (Prod.snd (Prod.fst y_7)),Prod.snd (Prod.snd (Prod.fst y_7))),(0:Int),(0:Int))):=by
   unfold W.jj W.jj.c4
   rw [WCir.eta,hck,jb,Jd (by rfl),Jj (by omega),decide_eq_false (by omega),jb,br_ff,hpu,jb,Jd (by rfl),h1,jb]
  rcases h2 with ⟨i,rfl⟩ | ⟨i,rfl,hall⟩
  ·left
   rw [hrun,kF]
   exact ⟨_,_,rfl,by show (12:Int)≠0;decide⟩
  ·right
   refine ⟨?_,by omega,by omega,hall⟩
   rw [hrun,Yb,WCir.eta,each_ctl c q hc (fun _ _ _=>trivial),jb]
theorem ctl_good {c:Cir} {q:Int} (h:GoodC c) (hp:Plain c.2.2) (hq:0≤q∧q<c.1) (hf:∀o∈c.2.2,o.1≠1→o.2.2.2.1≠q∧q∉o.2.2.1):GoodC (ctl q c)∧Plain (ctl q c).2.2 ∧ ∀o∈(ctl q c).2.2,o.2.2.1.length≤12∧o.2.2.2.2.2=[]:=by
 have hnew:∀o∈c.2.2,GoodOp (ctlOp q o) c.1 c.2.1 ∧ ¬((ctlOp q o).1=5∨(ctlOp q o).1=6∨(ctlOp q o).2.2.2.2.2≠[]):=fun o ho=>by
  have hg:=VK (h.ops o ho)
  have hpo:=hp o ho
  have e0:o.2.2.2.2.2=[]:=by
   by_cases e:o.2.2.2.2.2=[]
   ·exact e
   ·exact absurd (.inr (.inr e)) hpo
  unfold ctlOp
  by_cases h1:o.1=1
  ·rw [if_pos h1]
   refine ⟨⟨by simp,hg.k,.inl (.inr rfl),hq,by simp,.inl rfl,ctlBad_zero.2 ⟨by simp,by simp⟩,.inr ⟨by simp,rfl⟩,by simp,?_⟩,by simp⟩
   unfold ifBad
   simp
  ·rw [if_neg h1]
   have hk:=hg.kind
   have hc:=ctlBad_zero.1 hg.ctls
   obtain ⟨f1,f2⟩:=hf o ho h1
   refine ⟨⟨hk,hg.k,hg.k0,hg.q,hg.q0,.inr (by show o.1=2∨o.1=3∨o.1=4;omega),?_,hg.bit,hg.ifs,hg.cond⟩,hpo⟩
   refine ctlBad_zero.2 ⟨fun p hm=>?_,List.nodup_cons.2 ⟨f2,hc.2⟩⟩
   rcases List.mem_cons.1 hm with rfl | hm
   ·exact ⟨hq.1,hq.2,Ne.symm f1,by simp⟩
   ·exact hc.1 p hm
 have hgc:GoodC (ctl q c):=⟨h.q,h.b,by simpa [ctl] using h.n,fun o ho=>by
  obtain ⟨o',h1,rfl⟩:=List.mem_map.1 ho
  exact (hnew o' h1).1.bad⟩
 refine ⟨hgc,fun o ho=>?_,fun o ho=>?_⟩
 ·obtain ⟨o',h1,rfl⟩:=List.mem_map.1 ho
  exact (hnew o' h1).2
 ·obtain ⟨o',h1,rfl⟩:=List.mem_map.1 ho
  obtain ⟨g,p⟩:=hnew o' h1
  have hc:=ctlBad_zero.1 g.ctls
  have hq12:=h.q.2
  refine ⟨nodup_len 12 hc.2 (fun x hx=>?_),?_⟩
  ·have:=hc.1 x hx;omega
  ·by_cases e:(ctlOp q o').2.2.2.2.2=[]
   ·exact e
   ·exact absurd (.inr (.inr e)) p
theorem ctl_w {c:Cir} {q:Int} (hw:WCir c) (h:∀o∈(ctl q c).2.2,o.2.2.1.length≤12∧o.2.2.2.2.2=[]):WCir (ctl q c):=
 ⟨by simpa [ctl] using hw.1,fun o ho=>⟨by have:=(h o ho).1;omega,by rw [(h o ho).2];decide⟩⟩
end Go.Ql
end

section
namespace Go.Ql
theorem eqT_any (f:Int×Int):Ty.eqT (Ty.pair (Ty.int IntKind.i64) (Ty.int IntKind.i64)) (f.1,f.2) f=true:=by
 simp [Ty.eqT]
theorem circPure_ok (c:Cir) (hc:WCir c):W.JS c=some (pur c):=by
 unfold W.JS
 rw [WCir.eta,pure_ok c hc,jb]
theorem undoes_law (c:Cir) (hc:WCir c) (q i:Int):W.jf c q i=some true:=by
 unfold W.jf
 rw [begun_ok,jb,show (!true)=false from rfl,br_ff,WCir.eta,inverse_ok c hc,jb]
 unfold inverse
 by_cases hp:(pur c).1=0
 ·rw [if_neg (by simpa using hp),Jd (by rfl)]
  obtain ⟨g1,g2,g3⟩:=pur_zero hp
  have h1:=g1.q
  have h2:=g1.b
  obtain ⟨n,hn⟩:=Int.eq_ofNat_of_zero_le (show (0:Int)≤c.1 by omega)
  obtain ⟨m,hm⟩:=Int.eq_ofNat_of_zero_le h2.1
  have hn:c.1=(n:Int):=hn
  have hok:=plain_ok g1 hc g3 hn hm
  have hN:2^n≤2^12:=Nat.pow_le_pow_right (by decide) (by omega)
  have hpw:=pow63 (q:=(n:Int)) (by omega)
  rw [Int.toNat_natCast] at hpw
  
  have hA:W.jf.cq_ i c.1 c.2.1 c.2.2 (inv c).1 (inv c).2.1 (inv c).2.2 some=some (.inr ()):=by
   unfold W.jf.cq_
   rw [WCir.eta,WCir.eta,then_ok c (inv c) hc (inv_w hc),jb]
   unfold W.jf.c7
   by_cases ht:(thenF c (inv c)).1=0
   ·have e:thenC c (inv c)=((c.1,c.2.1,c.2.2++(inv c).2.2),(0,0)):=by
     unfold thenC
     rw [if_neg (by simpa using ht)]
    rw [e]
    simp only
    rw [Jv (by rfl)]
    by_cases h0:0≤i
    ·rw [Jl (show i≥0 from h0),Jc (by simp;omega),jb,hn,Int.toNat_natCast,hpw]
     by_cases hi:i<((2^n:Nat):Int)
     ·rw [decide_eq_true hi,jb,br_tt]
      obtain ⟨i0,rfl⟩:=Int.eq_ofNat_of_zero_le h0
      have hlen:c.2.2.length+(inv c).2.2.length≤4096:=by
       unfold thenF at ht
       rw [if_neg (by rw [g1.chk];simp),if_neg (by rw [(inv_good g1).chk];simp),if_neg (by simp [inv])] at ht
       split at ht
       ·cases ht
       ·omega
      have hgood:GoodC (c.1,c.2.1,c.2.2++(inv c).2.2):=⟨g1.q,g1.b,by rw [List.length_append];exact hlen,fun o ho=>by
       rcases List.mem_append.1 ho with h | h
       ·exact g1.ops o h
       ·exact (inv_good g1).ops o h⟩
      have hw:WCir (c.1,c.2.1,c.2.2++(inv c).2.2):=⟨by
       show (c.2.2++(inv c).2.2).length≤_
       rw [List.length_append];omega,fun o ho=>by
       rcases List.mem_append.1 ho with h | h
       ·exact hc.2 o h
       ·exact (inv_w hc).2 o h⟩
      have hpl:Plain (c.2.2++(inv c).2.2):=fun o ho=>by
       rcases List.mem_append.1 ho with h | h
       ·exact g3 o h
       ·exact inv_plain g3 o h
      obtain ⟨T,bits,u,r1,r2⟩:=run_plain hgood hw hpl hn (i:=i0) (by omega)
      have hback:runK (c.2.2++(inv c).2.2) (ke i0)=ke i0:=by
       rw [runK_app]
       exact run_back (fun o ho=>⟨(hok o ho).1,(hok o ho).2.1⟩) _
      have r2':TxtsK (ke i0) (2^n) T:=by rw [←hback];exact r2
      rw [←hn]
      rw [r1,jb]
      unfold W.jf.c9
      simp only
      rw [Jd (by rfl),only_ok (by omega) r2' (by omega),jb]
      rfl
     ·rw [decide_eq_false hi,jb,br_ff]
    ·rw [Jj (show ¬i≥0 from h0),jb,br_ff]
   ·have e:(thenC c (inv c)).2=thenF c (inv c):=by
     unfold thenC
     rw [if_pos ht]
    rw [e,Jd (by simpa using ht),jb,br_ff]
  simp only
  rw [hA,jb,Yb]
  unfold W.jf.c12
  rcases control_ok c q hc hp with ⟨x,f,f1,f2⟩ | ⟨k1,k2,k3,k4⟩
  ·rw [f1,jb,Jv (by simpa using f2),jb,br_tt]
  ·rw [k1,jb,Jd (by rfl)]
   by_cases h0:i<0
   ·rw [Jl h0,jb,br_tt]
   ·rw [Jj h0,Jc (by simp;omega),jb,hn,Int.toNat_natCast,hpw]
    by_cases hi:i≥((2^n:Nat):Int)
    ·rw [decide_eq_true hi,jb,br_tt]
    ·rw [decide_eq_false hi,jb,br_ff]
     obtain ⟨i0,rfl⟩:=Int.eq_ofNat_of_zero_le (show (0:Int)≤i by omega)
     obtain ⟨d1,d2,d3⟩:=ctl_good g1 g3 ⟨k2,k3⟩ k4
     have dw:=ctl_w hc d3
     have hi0:i0<2^n:=by omega
     obtain ⟨T,bits,u,r1,r2⟩:=run_plain d1 dw d2 (show (ctl q c).1=(n:Int) from hn) hi0
     have hfree:∀o∈c.2.2,Free q o∧(o.1=1→o.2.2.1=[]):=fun o ho=>by
      refine ⟨?_,(hok o ho).1.ph⟩
      by_cases e:o.1=1
      ·exact .inl e
      ·exact .inr ⟨(hok o ho).1.p.gate.q.1,(k4 o ho e).1⟩
     rw [show ((ctl q c).1,(ctl q c).2.1,(ctl q c).2.2)=ctl q c from rfl,r1,jb,Jd (by rfl),Jc (by simpa using k2),jb,bit_val (by omega) (by omega)]
     cases hb:bt q i0 with
     | false=>
       rw [if_neg (by decide),Jv (by rfl)]
       have r2':TxtsK (ke i0) (2^n) T:=by
        rw [←ctl_zero k2 hfree hb];exact r2
       simp only
       rw [only_ok (by omega) r2' hi0,jb]
     | true=>
       rw [if_pos rfl,Jd (by rfl)]
       have r2':TxtsK (runK c.2.2 (ke i0)) (2^n) T:=by
        rw [←ctl_one k2 hfree hb];exact r2
       obtain ⟨U,bits',u',s1,s2⟩:=run_plain g1 hc g3 hn hi0
       have e:=r2'.one s2
       subst e
       rw [s1,jb]
       unfold W.jf.c20
       simp only
       have hl:=r2.1
       rw [Jv (by rfl),sameTexts_self T (by omega),jb,jb]
 ·rw [if_pos hp,Jv (by simpa using hp)]
  unfold W.jf.c5
  rw [WCir.eta,circPure_ok c hc,jb,jb,eqT_any]
end Go.Ql
end

section
namespace Go.Ql
theorem undoes_wf:∀x:dens [cirTy,.int .i64,.int .i64],WfL [cirTy,.int .i64,.int .i64] x→W.jf.ce.F x=some true:=by
 rintro ⟨c,q,i⟩ ⟨h1,_,_⟩
 exact undoes_law c (wcir_of h1) q i
end Go.Ql
end
