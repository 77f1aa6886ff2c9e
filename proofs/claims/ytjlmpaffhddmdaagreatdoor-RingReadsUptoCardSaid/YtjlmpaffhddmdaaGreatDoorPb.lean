/- Plain laws: what the numbers keep; what is read. -/
import Derived.Test.YtjlmpaffhddmdaaGreatDoorPa
import Derived.Test.YtjlmpaffhddmdaaGreatDoorGa
set_option linter.all false
section
set_option maxRecDepth 100000
namespace Go.Ql
theorem Bd.add1 {v w:Nat→Int} {L:Nat} (h:Bd v L) (g:Bd w L):Bd (fun i=>v i+w i) (L+1):=fun i hi=>by
 have h1:=h i hi
 have h2:=g i hi
 rw [Nat.pow_succ]
 have:=Int.natAbs_add_le (v i) (w i)
 simp only
 omega
theorem nadd_t {a b:List Dg×Int} {k l:K} {L M E F:Nat} (h:Num 4294967296 a k L E) (g:Num 4294967296 b l M F) (hs:L+M+2*(E+F)<79000) :
 ∃r,W.jy a b=some r∧Num 4294967296 r (K.add k l) (Max.max (L+F) (M+E)+1) (Max.max E F):=by
 obtain ⟨c,ae⟩:=a
 obtain ⟨d,be⟩:=b
 obtain ⟨v,e,h1,h2,h3,h4,h5,h6⟩:=h.has
 obtain ⟨w,f,g1,g2,g3,g4,g5,g6⟩:=g.has
 simp only at h2 g2
 subst h2
 subst g2
 obtain ⟨x,y,g',q1,q2,q3⟩:=add_align (L:=L) (M:=M) (e:=e) (f:=f) h1 g1 h5 g5 (by omega)
 have b1:=(h5.up (Max.max e f-e)).mono (show L+(Max.max e f-e)≤Max.max (L+F) (M+E) by omega)
 have b2:=(g5.up (Max.max e f-f)).mono (show M+(Max.max e f-f)≤Max.max (L+F) (M+E) by omega)
 obtain ⟨r,r1,r2⟩:=add_loop (L:=Max.max (L+F) (M+E)) q2 q3 b1 b2 (by omega) ((Max.max e f:Nat):Int) g'
 obtain ⟨z,z1,z2⟩:=least_ok (L:=Max.max (L+F) (M+E)+1) r2 (b1.add1 b2) ((Max.max e f:Nat):Int) (by omega)
 unfold W.jy
 rw [q1,ja,r1,ja]
 simp only [show ∀z:List Dg×Int,inR (List.length [z]) (0:Int)=some () from fun _=>rfl,show ∀z:List Dg×Int,idx [z] (0:Int)=some z from fun _=>rfl,ja]
 rw [z1,ja]
 refine ⟨z,rfl,?_⟩
 obtain ⟨u,m,u1,u2,u3,u4,u5,u6⟩:=z2.has
 refine Num.mk' u1 u2 u3 ?_ (u5.mono (by omega)) (by omega)
 rw [u4,kvz_nat,←kv_add,←h4,←g4]
 have e1:=kv_up v e (Max.max e f-e)
 have e2:=kv_up w f (Max.max e f-f)
 rw [show e+(Max.max e f-e)=Max.max e f by omega] at e1
 rw [show f+(Max.max e f-f)=Max.max e f by omega] at e2
 rw [e1,e2]
theorem nsub_t {a b:List Dg×Int} {k l:K} {L M E F:Nat} (h:Num 4294967296 a k L E) (g:Num 4294967296 b l M F) (hs:L+M+2*(E+F)<79000) :
 ∃r,W.Jc a b=some r∧Num 4294967296 r (K.sub k l) (Max.max (L+F) (M+E)+1) (Max.max E F):=by
 obtain ⟨n,n1,n2⟩:=nneg_ok g (by omega)
 obtain ⟨r,r1,r2⟩:=nadd_t h n2 hs
 refine ⟨r,?_,r2⟩
 unfold W.Jc W.Jc.c1
 refine VR (x:=[r]) ?_ rfl
 exact VR n1 (VR r1 rfl)
theorem nhalf_t {a:NumT} {k:K} {L E:Nat} (h:Num 4294967296 a k L E) (hL:L+L+2*(E+E)<79000) :
 ∃r,W.Je a=some r∧Num 4294967296 r (K.half k) (L+E+1) (E+1):=by
 obtain ⟨t,t1,t2⟩:=Vk h (by omega) 2 (by decide)
 obtain ⟨u,u1,u2⟩:=Vk h (by omega) 6 (by decide)
 obtain ⟨⟨c,ae⟩,s1,s2⟩:=nsub_t t2 u2 (by omega)
 obtain ⟨v,e,h1,h2,h3,h4,h5,h6⟩:=s2.has
 simp only at h1 h2
 subst h2
 have t1':W.jq a (2:Int)=some t:=t1
 have u1':W.jq a (6:Int)=some u:=u1
 obtain ⟨r,r1,r2⟩:=least_ok h1 h5 ((e+1:Nat):Int) (by omega)
 refine ⟨r,?_,?_⟩
 ·unfold W.Je W.Je.c1
  rw [t1',ja,u1',ja,s1,ja,ja]
  simp only [bx_in,bx_at,ja]
  rw [jg (by omega),show (e:Int)+1=((e+1:Nat):Int) by omega,r1]
  rfl
 ·obtain ⟨w',f',q1,q2,q3,q4,q5,q6⟩:=r2.has
  refine ⟨w',f',q1,q2,q3,?_,q5.mono (by omega),by omega⟩
  rw [q4,kvz_nat,VC,h4]
  rfl
theorem nzero_ok {a:NumT} {k:K} {L E:Nat} (h:Num 4294967296 a k L E):∃t,W.jW a=some t∧(t=true↔k=K.zero):=by
 obtain ⟨c,ae⟩:=a
 obtain ⟨v,e,h1,h2,h3,h4,h5,h6⟩:=h.has
 simp only at h1 h2
 subst h2
 obtain ⟨x,x1,x2⟩:=kG (f:=fun s:Int↦W.jW.ca_ c s some) 8
  (fun i s=>s=(i:Int) ∧ ∀j,j<i→v j=0)
  (fun x=>(∃i,x=.inl i ∧ ∃j,j<8∧v j≠0)∨(∃i,x=.inr i ∧ ∀j,j<8→v j=0))
  (by
   rintro i s hi ⟨rfl,p2⟩
   simp only [W.jW.ca_]
   rw [jt (by omega),h1.idx hi,ja,show (((c.getD i d0).1,(c.getD i d0).2):Dg)=c.getD i d0 from rfl,VM (h1.at_ i hi),ja]
   by_cases e2:v i=0
   ·rw [JG (by simp [sgn,e2]),jg (by omega)]
    refine .inl ⟨_,rfl,by omega,fun j hj=>?_⟩
    by_cases e3:j=i
    ·rw [e3];exact e2
    ·exact p2 j (by omega)
   ·have hsg:(sgn (v i) !=0)=true:=by
     simp only [sgn,bne_iff_ne,ne_eq]
     split<;>(try split)<;>omega
    rw [JT hsg]
    exact .inr ⟨_,rfl,.inl ⟨_,rfl,i,hi,e2⟩⟩)
  (by
   rintro s ⟨rfl,p2⟩
   simp only [W.jW.ca_]
   rw [jx (by omega)]
   exact ⟨_,rfl,.inr ⟨_,rfl,p2⟩⟩)
  (s:=(0:Int)) ⟨rfl,fun j hj=>by omega⟩
 unfold W.jW
 rw [x1,ja]
 rcases x2 with ⟨i,rfl,j,j1,j2⟩ | ⟨i,rfl,hall⟩
 ·refine ⟨false,rfl,?_⟩
  constructor
  ·intro h;cases h
  ·intro hk
   exact absurd (Yz.2 (h4.trans hk) j j1) j2
 ·exact ⟨true,rfl,fun _=>h4.symm.trans (Yz.1 hall),fun _=>rfl⟩
theorem and15i (k:Int) (h:-9223372036854775808≤k∧k≤9223372036854775807):ibits .and .i64 k 15=((k % 16).toNat:Int):=by
 show IntKind.i64.wrap (((BitVec.ofInt 64 k &&& BitVec.ofInt 64 15).toNat:Nat):Int)=_
 rw [BitVec.toNat_and,BitVec.toNat_ofInt,BitVec.toNat_ofInt,show ((15:Int) % ((2^64:Nat):Int)).toNat=2^4-1 by decide,Nat.and_two_pow_sub_one_eq_mod,show (k % ((2^64:Nat):Int)).toNat % 2^4=(k % 16).toNat by omega,jg (by omega)]
theorem nturn_i {a:List Dg×Int} {x:K} {L E:Nat} (h:Num 4294967296 a x L E) (hL:L<80000) (k:Int) (hk:-9223372036854775808≤k∧k≤9223372036854775807) :
 ∃r,W.jq a k=some r∧Num 4294967296 r (K.turn x (k % 16).toNat) L E:=by
 obtain ⟨r,h1,h2⟩:=Vk h hL (k % 16).toNat (by omega)
 refine ⟨r,?_,h2⟩
 rw [←h1]
 unfold W.jq
 rw [and15i k hk,and15 _ (by omega),show (k % 16).toNat % 16=(k % 16).toNat by omega]
theorem one_ok:∃r,W.kA=some r∧Num 4294967296 r K.one 1 0:=by
 obtain ⟨p,p1,p2,_⟩:=of_ok (n:=1) (by decide)
 refine ⟨((List.replicate 8 d0).set 0 p,(0:Int)),?_,?_⟩
 ·unfold W.kA
  rw [p1,ja]
 ·refine Num.mk' (Reps.zero.set (by decide) p2) (e:=0) rfl (.inl rfl) ?_ ?_ (Nat.le_refl _)
  ·simp [kv,K.one,hp]
  ·intro i _
   show Int.natAbs (if i=0 then 1 else 0)<2^1
   split<;>decide
theorem root_ok (k:Int) (hk:-9223372036854775808≤k∧k≤9223372036854775807):∃r,W.kh k=some r∧Num 4294967296 r (K.turn K.one (k % 16).toNat) 1 0:=by
 obtain ⟨o,o1,o2⟩:=one_ok
 obtain ⟨r,r1,r2⟩:=nturn_i o2 (by decide) k hk
 refine ⟨r,?_,r2⟩
 unfold W.kh
 rw [o1,ja,r1,ja]
end Go.Ql
end

section
set_option maxRecDepth 100000
namespace Go.Ql
theorem itoa_chars {n:Int}:∀c∈Go.Lib.itoa n,JI c=true∨c=45:=by
 intro c hc
 rcases VX n with ⟨_,e⟩ | ⟨_,D,hd,e⟩
 ·rw [e] at hc;rw [List.mem_singleton.1 hc];exact .inl rfl
 ·rw [e,List.mem_append] at hc
  rcases hc with hc | hc
  ·split at hc
   ·rw [List.mem_singleton.1 hc];exact .inr rfl
   ·cases hc
  ·exact .inl (hd.1 c hc)
theorem VI (n:Int) {c:UInt8} (h:c=44∨c=47):c∉Go.Lib.itoa n:=by
 intro hc
 have:=itoa_chars c hc
 rcases h with rfl | rfl
 ·revert this;decide
 ·revert this;decide
theorem itoa_inj {n m:Int} (h:Go.Lib.itoa n=Go.Lib.itoa m):n=m:=by
 have d48:dec [48]=0:=by decide
 have key:∀{l:List UInt8} {v:Int},Txt v l→v=(if l.head?=some 45 then-dec l.tail else dec l):=by
  intro l v ht
  rcases ht with ⟨h1,h2⟩ | ⟨h1,D,hd,h2⟩
  ·rw [h1,h2];rfl
  ·by_cases hv:v<0
   ·rw [if_pos hv] at h2
    rw [h2]
    simp only [List.singleton_append,List.head?_cons,List.tail_cons,if_true]
    rw [hd.2.2.2]
    omega
   ·rw [if_neg hv,List.nil_append] at h2
    rw [h2]
    have hh:D.head? ≠ some 45:=by
     intro e
     cases D with
     | nil=>cases e
     | cons c r=>
       simp only [List.head?_cons,Option.some.injEq] at e
       have:=hd.1 c (by simp)
       rw [e] at this
       revert this;decide
    rw [if_neg hh,hd.2.2.2]
    omega
 have h1:=key (VX n)
 have h2:=key (VX m)
 rw [h] at h1
 exact h1.trans h2.symm
theorem last_split {c:UInt8} {A B X Y:List UInt8} (hX:c∉X) (hY:c∉Y) (h:A++c::X=B++c::Y):A=B∧X=Y:=by
 rcases List.append_eq_append_iff.1 h with ⟨xs,h1,h2⟩ | ⟨bs,h1,h2⟩
 ·cases xs with
  | nil=>simp at h1 h2;exact ⟨h1.symm,h2⟩
  | cons d r=>
    simp only [List.cons_append,List.cons.injEq] at h2
    exact absurd (by rw [h2.2];simp) hX
 ·cases bs with
  | nil=>simp at h1 h2;exact ⟨h1,h2.symm⟩
  | cons d r=>
    simp only [List.cons_append,List.cons.injEq] at h2
    exact absurd (by rw [h2.2];simp) hY
theorem bodyT_inj {v w:Nat→Int}:∀n m,bodyT v n=bodyT w m→n=m ∧ ∀i,i≤n→v i=w i
 | 0,0,h=>⟨rfl,fun i hi=>by rw [show i=0 by omega];exact itoa_inj h⟩
 | 0,m+1,h=>by
   simp only [bodyT] at h
   exact absurd (by rw [h];simp) (VI (v 0) (c:=44) (.inl rfl))
 | n+1,0,h=>by
   simp only [bodyT] at h
   exact absurd (by rw [←h];simp) (VI (w 0) (c:=44) (.inl rfl))
 | n+1,m+1,h=>by
   simp only [bodyT] at h
   obtain ⟨h1,h2⟩:=last_split (VI _ (.inl rfl)) (VI _ (.inl rfl)) h
   obtain ⟨e,h3⟩:=bodyT_inj n m h1
   subst e
   refine ⟨rfl,fun i hi=>?_⟩
   by_cases e:i=n+1
   ·rw [e];exact itoa_inj h2
   ·exact h3 i (by omega)
theorem bodyT_no {v:Nat→Int}:∀n,(47:UInt8)∉bodyT v n
 | 0=>VI _ (.inr rfl)
 | n+1=>by
   simp only [bodyT,List.mem_append,List.mem_cons,not_or]
   exact ⟨bodyT_no n,by decide,VI _ (.inr rfl)⟩
theorem lastTo_zero {v:Nat→Int}:∀n i,kr v n<i→i<n→v i=0
 | 0,i,_,h=>by omega
 | n+1,i,h1,h2=>by
   unfold kr at h1
   split at h1
   ·omega
   ·rename_i h0
    by_cases e:i=n
    ·rw [e];simpa using h0
    ·exact lastTo_zero n i h1 (by omega)
theorem ntext_inj {v w:Nat→Int} {e f:Nat} (h:ntext v e=ntext w f):e=f ∧ ∀i,i<8→v i=w i:=by
 have key:bodyT v (kr v 8)=bodyT w (kr w 8)∧e=f:=by
  unfold ntext at h
  by_cases he:e=0<;>by_cases hf:f=0
  ·rw [if_pos he,if_pos hf,List.append_nil,List.append_nil] at h
   exact ⟨h,by omega⟩
  ·rw [if_pos he,if_neg hf,List.append_nil] at h
   exact absurd (by rw [h];simp) (bodyT_no (v:=v) (kr v 8))
  ·rw [if_neg he,if_pos hf,List.append_nil] at h
   exact absurd (by rw [←h];simp) (bodyT_no (v:=w) (kr w 8))
  ·rw [if_neg he,if_neg hf] at h
   obtain ⟨h1,h2⟩:=last_split (VI _ (.inr rfl)) (VI _ (.inr rfl)) h
   have:=itoa_inj h2
   exact ⟨h1,by omega⟩
 obtain ⟨h1,h2⟩:=key
 obtain ⟨h3,h4⟩:=bodyT_inj _ _ h1
 refine ⟨h2,fun i hi=>?_⟩
 by_cases hl:i≤kr v 8
 ·exact h4 i hl
 ·rw [lastTo_zero (v:=v) 8 i (by omega) hi,lastTo_zero (v:=w) 8 i (by omega) hi]
theorem KTxt.inj {k l:K} {t:List UInt8} (h:KTxt k t) (g:KTxt l t):k=l:=by
 obtain ⟨v,e,_,h2,h3⟩:=h
 obtain ⟨w,f,_,g2,g3⟩:=g
 obtain ⟨rfl,hv⟩:=ntext_inj (h3.symm.trans g3)
 rw [←h2,←g2]
 exact YZ hv
end Go.Ql
end

section
set_option maxRecDepth 100000
set_option maxHeartbeats 1000000
namespace Go.Ql
def dlen (nought:Bool) (l:List UInt8):Nat:=if l.head? == some 48 then (if nought then 1 else 0) else (l.takeWhile JI).length
theorem dlen_le (nought:Bool) (l:List UInt8):dlen nought l≤l.length:=by
 unfold dlen
 split
 ·rename_i h
  cases l with
  | nil=>simp at h
  | cons=>split<;>simp
 ·exact tw_le _ _
section
variable {text:List UInt8} (hL:text.length≤281474976710656)
theorem digit_at (p:Nat) (hp:p≤text.length):W.jd.c2 text (p:Int) some=some (if h:p<text.length then JI text[p] else false):=by
 unfold W.jd.c2
 by_cases h:p<text.length
 ·rw [jt (by omega),YE text p h,ja,ja,dif_pos h]
  unfold JI
  by_cases h5:(48:Nat)≤text[p].toNat
  ·rw [jt (by omega)];simp [h5];omega
  ·rw [jx (by omega)];simp [h5]
 ·rw [jx (by omega),dif_neg h]
theorem head_at {p:Nat} (h:p<text.length):(text.drop p).head?=some text[p]:=by
 rw [List.head?_drop,List.getElem?_eq_getElem h]
theorem byte48 (c:UInt8):((↑(UInt8.toNat c):Int)==48)=(some c==some 48):=by
 by_cases h:c=48
 ·subst h;rfl
 ·have e2:(some c==some (48:UInt8))=false:=beq_false_of_ne (fun e=>h (Option.some.inj e))
  rw [e2]
  apply beq_false_of_ne
  intro e
  apply h
  apply UInt8.toNat_inj.1
  show c.toNat=48
  omega
include hL
theorem rdigits_ok (nought:Bool) (p:Nat) (hp:p≤text.length) :
 W.jd nought text (p:Int)=some (if 0<dlen nought (text.drop p) then .inl ((text.drop p).take (dlen nought (text.drop p)),text,((p+dlen nought (text.drop p):Nat):Int),()) else .inr ((1,(p:Int)),text,(p:Int),())):=by
 obtain ⟨r,h1,h2⟩:=Jg (f:=fun s↦W.jd.ca_ nought (p:Int) text s some)
  (J:=fun s=>∃k:Nat,s=(k:Int)∧p≤k∧k≤text.length∧((text.drop p).head?=some 48→k=p∨(nought=true∧k=p+1))∧((text.drop p).head? ≠ some 48→p+((text.drop p).takeWhile JI).length=k+((text.drop k).takeWhile JI).length))
  (Q:=fun s:Int=>s=((p+dlen nought (text.drop p):Nat):Int))
  (fun s=>text.length-s.toNat) (fun s ⟨k,hs,hpk,hk,ha,hb⟩=>by
   subst hs
   simp only [W.jd.ca_]
   rw [digit_at k hk,ja]
   by_cases h:k<text.length
   ·rw [dif_pos h]
    by_cases hdk:JI text[k]=true
    ·rw [hdk,br_tt]
     have hpl:p<text.length:=by omega
     have hh:=head_at (text:=text) hpl
     unfold W.jd.c3
     rw [YE _ p hpl,ja,byte48]
     by_cases h48:text[p]=48
     ·rw [h48,JT (by rfl)]
      have hhd:(text.drop p).head?=some 48:=by rw [hh,h48]
      cases nought
      ·rw [Bool.not_false,br_tt,ja,br_tt]
       refine Or.inl ⟨_,rfl,?_⟩
       rcases ha hhd with rfl | ⟨h,_⟩
       ·unfold dlen;rw [if_pos (by simp [hhd])];simp
       ·cases h
      ·rw [Bool.not_true,br_ff]
       rcases ha hhd with rfl | ⟨_,rfl⟩
       ·rw [decide_eq_false (by omega),ja,br_ff]
        refine Or.inr ⟨((k+1:Nat):Int),by rw [jg (by omega)];rfl,⟨k+1,rfl,by omega,by omega,fun _=>.inr ⟨rfl,rfl⟩,fun hn=>absurd hhd hn⟩,by omega⟩
       ·rw [decide_eq_true (by omega),ja,br_tt]
        refine Or.inl ⟨_,rfl,?_⟩
        unfold dlen;rw [if_pos (by simp [hhd])];simp
     ·rw [JG (beq_false_of_ne (by simpa using h48)),ja,br_ff]
      have hhd:(text.drop p).head? ≠ some 48:=by rw [hh];simpa using h48
      refine Or.inr ⟨((k+1:Nat):Int),by rw [jg (by omega)];rfl,⟨k+1,rfl,by omega,by omega,fun hn=>absurd hn hhd,fun _=>?_⟩,by omega⟩
      rw [hb hhd,List.drop_eq_getElem_cons h,List.takeWhile_cons_of_pos hdk]
      simp;omega
    ·rw [eq_false_of_ne_true hdk,br_ff]
     refine Or.inl ⟨_,rfl,?_⟩
     unfold dlen
     by_cases hhd:(text.drop p).head?=some 48
     ·rcases ha hhd with rfl | ⟨hn,rfl⟩
      ·have hh:=head_at (text:=text) h
       rw [hh] at hhd
       have:=Option.some.inj hhd
       rw [this] at hdk
       exact absurd (by decide) hdk
      ·rw [if_pos (by simp [hhd]),hn];simp
     ·rw [if_neg (by simpa using hhd),hb hhd,List.drop_eq_getElem_cons h,List.takeWhile_cons_of_neg hdk]
      simp
   ·rw [dif_neg h,br_ff]
    refine Or.inl ⟨_,rfl,?_⟩
    have hke:k=text.length:=by omega
    unfold dlen
    by_cases hhd:(text.drop p).head?=some 48
    ·rcases ha hhd with rfl | ⟨hn,rfl⟩
     ·rw [hke,List.drop_length] at hhd
      cases hhd
     ·rw [if_pos (by simp [hhd]),hn];simp
    ·rw [if_neg (by simpa using hhd),hb hhd,hke,List.drop_length]
     simp)
  (s:=(p:Int)) ⟨p,rfl,Nat.le_refl _,hp,fun _=>.inl rfl,fun _=>rfl⟩
 subst h2
 have hle:=dlen_le nought (text.drop p)
 rw [List.length_drop] at hle
 unfold W.jd W.jd.cJ_ W.jd.c7
 rw [h1,ja]
 by_cases e:0<dlen nought (text.drop p)
 ·rw [JG (beq_false_of_ne (by omega)),ja,if_pos e]
  simp only [sel]
  rw [jD (by simp;omega),ja,ja,Int.toNat_natCast,Int.toNat_natCast,List.drop_take,Nat.add_sub_cancel_left]
 ·have e0:dlen nought (text.drop p)=0:=by omega
  rw [e0,if_neg (by omega),JT (by simp),ja]
  rfl
end
end Go.Ql
end

section
set_option maxRecDepth 100000
set_option maxHeartbeats 1000000
namespace Go.Ql
theorem numLen_true (l:List UInt8):JP true l=((if l.head? == some 45 then 1 else 0)+dlen (!(l.head? == some 45)) (l.drop (if l.head? == some 45 then 1 else 0)),decide (0<dlen (!(l.head? == some 45)) (l.drop (if l.head? == some 45 then 1 else 0)))):=by
 unfold JP dlen
 cases l.head? == some 45<;>simp only [Bool.true_and,if_true,Bool.false_eq_true,if_false,Bool.not_true,Bool.not_false]<;>split<;>simp
theorem numLen_false (l:List UInt8):JP false l=(dlen false l,decide (0<dlen false l)):=by
 unfold JP dlen
 simp only [Bool.false_and,Bool.false_eq_true,if_false,List.drop_zero]
 split<;>simp
def scan (text:List UInt8):Nat→Nat→List (List UInt8)→Nat⊕(List (List UInt8)×Nat)
 | 0,p,cs=>.inr (cs,p)
 | n+1,p,cs=>
   if (JP true (text.drop p)).2 then
    (if n=0 then .inr (cs++[(text.drop p).take (JP true (text.drop p)).1],p+(JP true (text.drop p)).1)
     else if text[p+(JP true (text.drop p)).1]?=some 44 then scan text n (p+(JP true (text.drop p)).1+1) (cs++[(text.drop p).take (JP true (text.drop p)).1])
     else .inr (cs++[(text.drop p).take (JP true (text.drop p)).1],p+(JP true (text.drop p)).1))
   else .inl (p+(JP true (text.drop p)).1)
def YC (text:List UInt8) (q:Nat):Nat⊕(List UInt8×Nat):=
 if text[q]?=some 47 then
  (if (JP false (text.drop (q+1))).2 then .inr ((text.drop (q+1)).take (JP false (text.drop (q+1))).1,q+1+(JP false (text.drop (q+1))).1) else .inl (q+1+(JP false (text.drop (q+1))).1))
 else .inr ([],q)
def Uc (text:List UInt8):Nat⊕(List (List UInt8)×List UInt8):=match scan text 8 0 [] with
 | .inl p=>.inl p
 | .inr (cs,q)=>match YC text q with
   | .inl p=>.inl p
   | .inr (low,u)=>if u<text.length then .inl u else .inr (cs,low)
theorem byte_is (c d:UInt8):((↑(UInt8.toNat c):Int)==(↑(UInt8.toNat d):Int))=(c==d):=by
 by_cases h:c=d
 ·subst h;simp
 ·rw [beq_false_of_ne h]
  apply beq_false_of_ne
  intro e
  apply h
  apply UInt8.toNat_inj.1
  omega
section
variable {text:List UInt8} (hL:text.length≤281474976710656)
include hL
theorem meets_ok (c:UInt8) (p:Nat) (hp:p≤text.length):W.jK (↑(UInt8.toNat c):Int) text (p:Int)=some (text[p]? == some c,text,((p+(if text[p]? == some c then 1 else 0):Nat):Int),()):=by
 unfold W.jK W.jK.c1
 by_cases h:p<text.length
 ·rw [jt (by omega),YE _ p h,ja,ja,byte_is,List.getElem?_eq_getElem h]
  have e:(some text[p]==some c)=(text[p]==c):=rfl
  rw [e]
  cases text[p]==c
  ·rw [br_ff];simp
  ·rw [br_tt,jg (by omega)];simp
 ·rw [jx (by omega),ja,br_ff,List.getElem?_eq_none (by omega)]
  rfl
theorem coeffs_scan:∃y,iter (fun s↦W.jf.ca_ (Prod.fst s) (Prod.fst (Prod.snd s)) (Prod.snd (Prod.snd s)) some) ([],text,(0:Int))=some y ∧
 ((∃(cs:List (List UInt8)) (q:Nat),y=.inl (cs,text,(q:Int))∧scan text 8 0 []=.inr (cs,q)∧q≤text.length) ∨ ∃(cs:List (List UInt8)) (q:Nat),y=.inr (cs,(1,(q:Int)),text,(q:Int))∧scan text 8 0 []=.inl q):=by
 obtain ⟨S,hS⟩:∃S,scan text 8 0 []=S:=⟨_,rfl⟩
 rw [hS]
 obtain ⟨r,h1,h2⟩:=Jg (f:=fun s↦W.jf.ca_ (Prod.fst s) (Prod.fst (Prod.snd s)) (Prod.snd (Prod.snd s)) some)
  (J:=fun s=>∃k n:Nat,s.2=(text,(k:Int))∧k≤text.length∧s.1.length+n+1=8∧scan text (n+1) k s.1=S)
  (Q:=fun y=>(∃(cs:List (List UInt8)) (q:Nat),y=.inl (cs,text,(q:Int))∧S=.inr (cs,q)∧q≤text.length) ∨ ∃(cs:List (List UInt8)) (q:Nat),y=.inr (cs,(1,(q:Int)),text,(q:Int))∧S=.inl q)
  (fun s=>8-s.1.length) (fun ⟨cs,t,z⟩ ⟨k,n,hs,hk,hl,hc⟩=>by
   simp only [Prod.mk.injEq] at hs
   obtain ⟨rfl,rfl⟩:=hs
   replace hl:cs.length+n+1=8:=hl
   replace hc:scan t (n+1) k cs=S:=hc
   simp only [W.jf.ca_,W.jf.cI_]
   have hm:=meets_ok hL 45 k hk
   rw [show (45:Int)=(↑(UInt8.toNat (45:UInt8)):Int) from rfl,hm,ja]
   have hhd:(t.drop k).head?=t[k]?:=by rw [List.head?_drop]
   obtain ⟨b,hb⟩:∃b,(t[k]? == some (45:UInt8))=b:=⟨_,rfl⟩
   have hkb:k+(if b then 1 else 0)≤t.length:=by
    cases b
    ·simpa using hk
    ·simp only [if_true]
     have:k<t.length:=by
      rcases Nat.lt_or_ge k t.length with h | h
      ·exact h
      ·rw [List.getElem?_eq_none h] at hb;cases hb
     omega
   have hnl:=numLen_true (t.drop k)
   rw [hhd,hb,List.drop_drop] at hnl
   simp only [hb]
   have hsg:br b (some ((Array.toList (ByteArray.data (ByteArray.mk #[(45:UInt8)]))),t,((k+(if b then 1 else 0):Nat):Int))) (some ((Array.toList (ByteArray.data (ByteArray.mk #[]))),t,((k+(if b then 1 else 0):Nat):Int)))=some ((if b then [45] else []),t,((k+(if b then 1 else 0):Nat):Int)):=by
    cases b<;>rfl
   rw [hsg,ja]
   simp only
   have hno:((if b then ([45]:List UInt8) else [])==Array.toList (ByteArray.data (ByteArray.mk #[])))=!b:=by cases b<;>rfl
   rw [hno,rdigits_ok hL (!b) _ hkb,ja]
   obtain ⟨m,hm2⟩:∃m,dlen (!b) (t.drop (k+(if b then 1 else 0)))=m:=⟨_,rfl⟩
   rw [hm2] at hnl ⊢
   have hml:k+(if b then 1 else 0)+m≤t.length:=by
    have:=dlen_le (!b) (t.drop (k+(if b then 1 else 0)))
    rw [hm2,List.length_drop] at this
    omega
   rw [scan,hnl] at hc
   simp only at hc
   by_cases h0:0<m
   ·rw [if_pos h0]
    rw [if_pos (by simpa using h0)] at hc
    have hword:(if b then ([45]:List UInt8) else [])++(t.drop (k+(if b then 1 else 0))).take m=(t.drop k).take ((if b then 1 else 0)+m):=by
     cases b
     ·simp
     ·have hk':k<t.length:=by simp only [if_true] at hkb;omega
      rw [List.getElem?_eq_getElem hk'] at hb
      have h45:t[k]=45:=by simpa using hb
      rw [List.drop_eq_getElem_cons hk',h45]
      simp [Nat.add_comm 1 m]
    have hwl:((if b then ([45]:List UInt8) else [])++(t.drop (k+(if b then 1 else 0))).take m).length≤281474976710656:=by
     rw [hword,List.length_take,List.length_drop];omega
    rw [List.length_append] at hwl
    simp only [sel]
    rw [jD (by simp only [decide_eq_true_eq];omega),ja,jD (by simp;omega),ja,hword]
    have hw2:((t.drop (k+(if b then 1 else 0))).take m).length=m:=by rw [List.length_take,List.length_drop];omega
    have hpos:((k+(if b then 1 else 0)+m:Nat))=k+((if b then 1 else 0)+m):=by omega
    rw [hpos]
    unfold W.jf.c6
    by_cases hn:n=0
    ·subst hn
     rw [if_pos rfl] at hc
     rw [JT (by simp;omega),ja,br_tt]
     exact Or.inl ⟨_,rfl,.inl ⟨_,_,rfl,hc.symm,by omega⟩⟩
    ·rw [if_neg hn] at hc
     have hm44:=meets_ok hL 44 (k+((if b then 1 else 0)+m)) (by omega)
     rw [JG (by simp;omega),show (44:Int)=(↑(UInt8.toNat (44:UInt8)):Int) from rfl,hm44,ja]
     by_cases h44:t[k+((if b then 1 else 0)+m)]?=some 44
     ·rw [if_pos h44] at hc
      simp only [h44,beq_self_eq_true,if_true,Bool.not_true,ja,br_ff]
      have hk4:k+((if b then 1 else 0)+m)<t.length:=by
       rcases Nat.lt_or_ge (k+((if b then 1 else 0)+m)) t.length with h | h
       ·exact h
       ·rw [List.getElem?_eq_none h] at h44;cases h44
      obtain ⟨n',rfl⟩:∃n',n=n'+1:=⟨n-1,by omega⟩
      exact Or.inr ⟨_,rfl,⟨_,n',rfl,by omega,by simp;omega,hc⟩,by simp;omega⟩
     ·rw [if_neg h44] at hc
      rw [beq_false_of_ne h44]
      simp only [Bool.false_eq_true,if_false,Nat.add_zero,Bool.not_false,ja,br_tt]
      exact Or.inl ⟨_,rfl,.inl ⟨_,_,rfl,hc.symm,by omega⟩⟩
   ·rw [if_neg h0]
    rw [if_neg (by simpa using h0)] at hc
    have hm0:m=0:=by omega
    subst hm0
    exact Or.inl ⟨_,rfl,.inr ⟨cs,_,rfl,by rw [←hc,Nat.add_zero]⟩⟩)
  (s:=([],text,(0:Int))) ⟨0,7,rfl,by omega,rfl,hS⟩
 exact ⟨r,h1,h2⟩
end
end Go.Ql
end

section
set_option maxRecDepth 100000
set_option maxHeartbeats 1000000
namespace Go.Ql
section
variable {text:List UInt8} (hL:text.length≤281474976710656)
include hL
theorem all_scan:(∃p r:Int,∃q:Nat,Uc text=.inl q∧p=(q:Int)∧W.jf text 0=some (.inr ((1,p),text,r,()))) ∨
 ∃cs low,∃r:Int,Uc text=.inr (cs,low)∧W.jf text 0=some (.inl (cs,low,text,r,())):=by
 obtain ⟨y,h1,h2⟩:=coeffs_scan hL
 unfold W.jf Uc
 rw [h1,ja]
 rcases h2 with ⟨cs,q,rfl,hS,hq⟩ | ⟨cs,q,rfl,hS⟩
 ·rw [hS]
  simp only [sel]
  unfold W.jf.cj_
  rw [show (47:Int)=(↑(UInt8.toNat (47:UInt8)):Int) from rfl,meets_ok hL 47 q hq,ja]
  unfold W.jf.cn_ W.jf.c10
  by_cases h47:text[q]?=some 47
  ·have hk4:q<text.length:=by
    rcases Nat.lt_or_ge q text.length with h | h
    ·exact h
    ·rw [List.getElem?_eq_none h] at h47;cases h47
   unfold YC
   rw [if_pos h47,numLen_false]
   simp only [h47,beq_self_eq_true,if_true,br_tt]
   rw [rdigits_ok hL false (q+1) (by omega),ja]
   have hle:=dlen_le false (text.drop (q+1))
   rw [List.length_drop] at hle
   by_cases h0:0<dlen false (text.drop (q+1))
   ·rw [if_pos h0,if_pos (by simpa using h0)]
    simp only [sel,ja]
    by_cases hend:q+1+dlen false (text.drop (q+1))<text.length
    ·rw [if_pos hend,jt (by omega),ja]
     exact .inl ⟨_,_,_,rfl,rfl,rfl⟩
    ·rw [if_neg hend,jx (by omega),ja]
     exact .inr ⟨_,_,_,rfl,rfl⟩
   ·rw [if_neg h0,if_neg (by simpa using h0)]
    simp only [sel,ja]
    exact .inl ⟨_,_,_,rfl,by omega,rfl⟩
  ·unfold YC
   rw [if_neg h47,beq_false_of_ne h47]
   simp only [Bool.false_eq_true,if_false,Nat.add_zero,br_ff,ja]
   by_cases hend:q<text.length
   ·rw [if_pos hend,jt (by omega),ja]
    exact .inl ⟨_,_,_,rfl,rfl,rfl⟩
   ·rw [if_neg hend,jx (by omega),ja]
    exact .inr ⟨_,_,_,rfl,rfl⟩
 ·rw [hS]
  exact .inl ⟨_,_,_,rfl,rfl,rfl⟩
end
end Go.Ql
end

section
set_option maxRecDepth 100000
set_option maxHeartbeats 1000000
namespace Go.Ql
def ndig (c:List UInt8):Nat:=c.length-(if c.head? == some 45 then 1 else 0)
def nval (c:List UInt8):Int:=if c.head? == some 45 then-dec (c.drop 1) else dec c
theorem word_one {text:List UInt8} (h:Canon text) (hL:text.length≤281474976710656) :
 W.Jv text=some ((ndig text:Nat):Int)∧(1000<ndig text→W.whole_Parse text=some ((false,[]),(2,0))) ∧
  (ndig text≤1000 → ∃x z,W.whole_Parse text=some (x,(0,0))∧W.ju text=some z∧Rep 4294967296 x (nval text)∧Rep 10000 z (nval text)∧x.2.length≤1000∧z.2.length≤1000):=by
 have hw:=(number_ok true text (by omega)).1
 rw [h.whole] at hw
 obtain ⟨neg,ds,p1,p2,p3⟩:=h.parts
 have hh:(text.head? == some 45)=neg:=by
  rw [p3]
  cases neg
  ·exact beq_false_of_ne (Vs p2)
  ·rfl
 have hlen:text.length=(if neg then 1 else 0)+ds.length:=by rw [p3];cases neg<;>simp<;>omega
 have htrim:W.Jq text (Array.toList (ByteArray.data (ByteArray.mk #[(45:UInt8)])))=some ds:=by
  show W.Jq text [45]=some ds
  rw [trim_ok text (by omega)]
  cases neg
  ·rw [if_neg (by simpa using hh),p3];rfl
  ·rw [if_pos (by simpa using hh),p3];rfl
 have hdo:W.Jv text=some (ds.length:Int):=by
  unfold W.Jv
  rw [(sign_test text).2,ja,hh]
  cases neg
  ·rw [br_ff,hlen];simp
  ·rw [br_tt,jg (by omega),hlen];simp;omega
 have c2:W.whole_Parse.c2 text (text.length:Int) true Option.some=some false:=by
  unfold W.whole_Parse.c2
  simp [br]
 have e1:ndig text=ds.length:=by
  unfold ndig;rw [hh,hlen];cases neg<;>simp
 have e2:nval text=if neg then-dec ds else dec ds:=by
  unfold nval;rw [hh,p3];cases neg<;>simp
 rw [e1,e2]
 refine ⟨hdo,fun hlong=>?_,fun hshort=>?_⟩
 ·unfold W.whole_Parse
  rw [hw,ja,c2,ja,br_ff,htrim,ja,jt (by omega)]
 ·obtain ⟨m,q1,q2,q3,q4⟩:=digits_ok ds p2 hshort
  obtain ⟨r,s1,s2,s3⟩:=Ye (decide ((ds.length:Int)<(text.length:Int))) m q2 (by omega)
  have hneg:decide ((ds.length:Int)<(text.length:Int))=neg:=by
   rw [hlen];cases neg<;>simp<;>omega
  obtain ⟨w,t1,t2,t3,t4⟩:=zdigits_ok ds p2 hshort
  obtain ⟨z,u1,u2,u3⟩:=Yc neg w.2 t2 (by omega)
  refine ⟨r,z,?_,?_,by rw [hneg,q4] at s2;exact s2,by rw [t4] at u2;exact u2,by omega,by omega⟩
  ·unfold W.whole_Parse
   rw [hw,ja,c2,ja,br_ff,htrim,ja,jx (by omega),q1,ja,s1]
   rfl
  ·unfold W.ju
   rw [(sign_test text).1,ja,hh]
   have:W.ju.cg_ text neg Option.some=some ds:=by
    unfold W.ju.cg_
    cases neg
    ·rw [br_ff,p3];rfl
    ·rw [br_tt,jD (by rw [hlen];simp;omega),ja,Int.toNat_natCast,List.take_length,p3];rfl
   rw [this,ja,t1,ja,u1];rfl
def cval (cs:List (List UInt8)) (j:Nat):Int:=if ndig (cs.getD j [])≤1000 then nval (cs.getD j []) else 0
theorem cval_far {cs:List (List UInt8)} {j:Nat} (h:cs.length≤j):cval cs j=0:=by
 unfold cval
 rw [show cs.getD j []=[] by simp [List.getD,List.getElem?_eq_none h]]
 rfl
theorem cval_snoc (cs:List (List UInt8)) (w:List UInt8) (j:Nat):cval (cs++[w]) j=if j=cs.length then (if ndig w≤1000 then nval w else 0) else cval cs j:=by
 unfold cval
 by_cases h:j=cs.length
 ·subst h;rw [if_pos rfl];simp [List.getD]
 ·rw [if_neg h]
  have:(cs++[w]).getD j []=cs.getD j []:=by
   simp only [List.getD]
   rcases Nat.lt_or_ge j cs.length with hj | hj
   ·rw [List.getElem?_append_left hj]
   ·rw [List.getElem?_eq_none (by simp;omega),List.getElem?_eq_none hj]
  rw [this]
theorem ours_coeffs {cs:List (List UInt8)} (hl:cs.length≤8) (hc:∀c∈cs,Canon c∧c.length≤281474976710656) :
 ∃y,iter (fun s↦W.je.cc_ cs (↑(List.length cs):Int) (Prod.fst s) (Prod.snd s) some) ((0:Int),List.replicate 8 d0)=some y ∧
  ((∃i c,y=.inl (i,c,((2:Int),(0:Int))) ∧ ∃w∈cs,1000<ndig w) ∨ ∃i c,y=.inr (i,c)∧Reps 4294967296 c (cval cs)∧(∀w∈cs,ndig w≤1000)):=by
 obtain ⟨r,h1,h2⟩:=Jg (f:=fun s:Int×List Dg↦W.je.cc_ cs (↑(List.length cs):Int) (Prod.fst s) (Prod.snd s) some)
  (J:=fun s=>∃i:Nat,s.1=(i:Int)∧i≤cs.length∧Reps 4294967296 s.2 (fun j=>if j<i then cval cs j else 0) ∧ ∀j (h:j<cs.length),j<i→ndig cs[j]≤1000)
  (Q:=fun y=>(∃i c,y=.inl (i,c,((2:Int),(0:Int))) ∧ ∃w∈cs,1000<ndig w) ∨ ∃i c,y=.inr (i,c)∧Reps 4294967296 c (cval cs)∧(∀w∈cs,ndig w≤1000))
  (fun s=>cs.length-s.1.toNat) (fun ⟨t,c⟩ ⟨i,hs,hi0,h1,h2⟩=>by
   simp only at hs h1
   subst hs
   simp only [W.je.cc_,W.je.cj_]
   by_cases hi:i<cs.length
   ·obtain ⟨hx1,hx2⟩:=hc cs[i] (List.getElem_mem hi)
    obtain ⟨_,p1,p2⟩:=word_one hx1 hx2
    have hidx:idx cs (i:Int)=some cs[i]:=by unfold idx;simp [hi]
    rw [jt (by omega),hidx,ja]
    by_cases hd:ndig cs[i]≤1000
    ·obtain ⟨x,z,q1,_,q3,_,_,_⟩:=p2 hd
     rw [q1,ja,JG (by rfl),ja]
     simp only [sel]
     have h8:i<8:=by omega
     rw [jD (by simp;omega),ja,inR_at (by rw [h1.len];exact h8),ja,h1.idx h8,ja,jg (by omega)]
     have hcv:cval cs i=nval cs[i]:=by
      unfold cval
      rw [show cs.getD i []=cs[i] by simp [List.getD,hi],if_pos hd]
     refine Or.inr ⟨_,rfl,⟨i+1,by simp,by omega,(h1.set h8 q3).congr (fun j hj=>?_),fun j hj hji=>?_⟩,by simp only;omega⟩
     ·by_cases e:j=i
      ·rw [if_pos e,if_pos (by omega),e,hcv]
      ·rw [if_neg e]
       by_cases e3:j<i
       ·rw [if_pos e3,if_pos (by omega)]
       ·rw [if_neg e3,if_neg (by omega)]
     ·by_cases e:j=i
      ·subst e;exact hd
      ·exact h2 j hj (by omega)
    ·rw [p1 (by omega),ja,JT (by rfl),ja]
     exact Or.inl ⟨_,rfl,.inl ⟨_,_,rfl,cs[i],List.getElem_mem hi,by omega⟩⟩
   ·rw [jx (by omega)]
    refine Or.inl ⟨_,rfl,.inr ⟨_,_,rfl,h1.congr (fun j hj=>?_),fun w hw=>?_⟩⟩
    ·by_cases e:j<i
     ·rw [if_pos e]
     ·rw [if_neg e,cval_far (by omega)]
    ·obtain ⟨j,hj,rfl⟩:=List.getElem_of_mem hw
     exact h2 j hj (by omega))
  (s:=((0:Int),List.replicate 8 d0)) ⟨0,rfl,by omega,Reps.zero.congr (fun j _=>by rw [if_neg (by omega)]),fun j _ h=>by omega⟩
 exact ⟨r,h1,h2⟩
end Go.Ql
end

section
set_option maxRecDepth 100000
set_option maxHeartbeats 2000000
namespace Go.Ql
def longs (cs:List (List UInt8)):Bool:=cs.any fun w=>decide (1000<ndig w)
theorem longs_snoc (cs:List (List UInt8)) (w:List UInt8):longs (cs++[w])=(longs cs||decide (1000<ndig w)):=by simp [longs]
section
variable {text:List UInt8} (hL:text.length≤281474976710656)
include hL
theorem ref_store {c:List Dg} {cs:List (List UInt8)} {w:List UInt8} {i k m:Nat} (hi:cs.length=i) (h8:i<8) (hk:k+m≤text.length) (hw:(text.drop k).take m=w) (hcan:Canon w) (hr:Reps 10000 c (cval cs)) :
 ∃c',W.ji.cn_ text (k:Int) (longs cs) (i:Int) (m:Int) [(c,(0:Int))] some=some (longs (cs++[w]),[(c',(0:Int))])∧Reps 10000 c' (cval (cs++[w])):=by
 have hwl:w.length≤281474976710656:=by rw [←hw,List.length_take,List.length_drop];omega
 obtain ⟨e1,_,e3⟩:=word_one hcan hwl
 unfold W.ji.cn_
 rw [jg (by omega),show (k:Int)+(m:Int)=((k+m:Nat):Int) by omega,jD (by simp;omega),ja,Int.toNat_natCast,Int.toNat_natCast,List.drop_take,Nat.add_sub_cancel_left,hw,e1,ja,longs_snoc]
 by_cases hd:ndig w≤1000
 ·obtain ⟨x,z,_,z2,_,z4,_,_⟩:=e3 hd
  rw [jx (by omega),ja,z2,ja,bx_in,ja,jD (by simp;omega),ja,bx_at,ja,hr.idx h8,ja,decide_eq_false (by omega),Bool.or_false]
  refine ⟨c.set i z,rfl,(hr.set h8 z4).congr (fun j hj=>?_)⟩
  rw [cval_snoc,hi,if_pos hd]
 ·rw [jt (by omega),decide_eq_true (by omega),Bool.or_true]
  refine ⟨c,rfl,hr.congr (fun j hj=>?_)⟩
  rw [cval_snoc,hi,if_neg hd]
  by_cases e:j=i
  ·rw [if_pos e,cval_far (by omega)]
  ·rw [if_neg e]
omit hL in
theorem ref_stop {k i n:Nat} (hk:k≤text.length) (hn:i+n+1=8):W.ji.c14 text (k:Int) (i:Int) some=some (decide (n=0∨text[k]? ≠ some 44)):=by
 unfold W.ji.c14
 by_cases h0:n=0
 ·rw [JT (by simp;omega),decide_eq_true (.inl h0)]
 ·rw [JG (beq_false_of_ne (by omega))]
  by_cases hke:k=text.length
  ·rw [JT (by simp [hke]),decide_eq_true (.inr (by rw [List.getElem?_eq_none (by omega)];simp))]
  ·have hlt:k<text.length:=by omega
   rw [JG (beq_false_of_ne (by omega)),YE _ k hlt,ja,List.getElem?_eq_getElem hlt]
   congr 1
   rw [show (44:Int)=(↑(UInt8.toNat (44:UInt8)):Int) from rfl,bne,byte_is]
   by_cases e:text[k]=44
   ·simp [e,h0]
   ·simp [e]
theorem ref_scan:∃y,iter (fun s↦W.ji.cc_ text (Prod.fst s) (Prod.fst (Prod.snd s)) (Prod.fst (Prod.snd (Prod.snd s))) [(List.replicate (8:Nat) (false,[]),(0:Int))] (Prod.snd (Prod.snd (Prod.snd s))) some) ((0:Int),false,(0:Int),[(List.replicate (8:Nat) (false,[]),(0:Int))])=some y ∧
 ((∃k l i a,∃q:Nat,y=.inl (k,l,i,(q:Int),a)∧scan text 8 0 []=.inl q) ∨ ∃(cs:List (List UInt8)) (q:Nat) (i:Int) (c:List Dg),y=.inr ((q:Int),longs cs,i,[(c,(0:Int))])∧scan text 8 0 []=.inr (cs,q)∧q≤text.length∧Reps 10000 c (cval cs)∧(∀w∈cs,Canon w∧w.length≤text.length)∧cs.length≤8):=by
 obtain ⟨S,hS⟩:∃S,scan text 8 0 []=S:=⟨_,rfl⟩
 rw [hS]
 obtain ⟨r,h1,h2⟩:=Jg (f:=fun s↦W.ji.cc_ text (Prod.fst s) (Prod.fst (Prod.snd s)) (Prod.fst (Prod.snd (Prod.snd s))) [(List.replicate (8:Nat) (false,[]),(0:Int))] (Prod.snd (Prod.snd (Prod.snd s))) some)
  (J:=fun s=>∃(k n:Nat) (cs:List (List UInt8)) (c:List Dg),s=((k:Int),longs cs,(cs.length:Int),[(c,(0:Int))])∧k≤text.length∧cs.length+n+1=8∧scan text (n+1) k cs=S∧Reps 10000 c (cval cs) ∧ ∀w∈cs,Canon w∧w.length≤text.length)
  (Q:=fun y=>(∃k l i a,∃q:Nat,y=.inl (k,l,i,(q:Int),a)∧S=.inl q) ∨ ∃(cs:List (List UInt8)) (q:Nat) (i:Int) (c:List Dg),y=.inr ((q:Int),longs cs,i,[(c,(0:Int))])∧S=.inr (cs,q)∧q≤text.length∧Reps 10000 c (cval cs)∧(∀w∈cs,Canon w∧w.length≤text.length)∧cs.length≤8)
  (fun s=>8-s.2.2.1.toNat) (fun s ⟨k,n,cs,c,hs,hk,hl,hc,hr,hcan⟩=>by
   subst hs
   simp only [W.ji.cc_]
   rw [jt (by omega),jD (by simp;omega),ja]
   rw [show List.drop (Int.toNat (k:Int)) (List.take (Int.toNat ((List.length text:Nat):Int)) text)=text.drop k by rw [Int.toNat_natCast,Int.toNat_natCast,List.take_length]]
   rw [(number_ok true (text.drop k) (by rw [List.length_drop];omega)).2,ja]
   have hle:=numLen_le true (text.drop k)
   rw [List.length_drop] at hle
   have hcw:=@numLen_canon true (text.drop k)
   rw [scan] at hc
   generalize hnl:JP true (text.drop k)=nl at hle hcw hc ⊢
   obtain ⟨m,ok⟩:=nl
   simp only at hle hcw hc ⊢
   rw [jg (by omega),show (k:Int)+(m:Int)=((k+m:Nat):Int) by omega]
   cases ok
   ·rw [Bool.not_false,br_tt,bx_at,ja]
    rw [if_neg (by simp)] at hc
    exact Or.inl ⟨_,rfl,.inl ⟨_,_,_,_,_,rfl,hc.symm⟩⟩
   ·rw [Bool.not_true,br_ff]
    rw [if_pos rfl] at hc
    obtain ⟨w,hw⟩:∃w,(text.drop k).take m=w:=⟨_,rfl⟩
    rw [hw] at hc
    have hcan1:Canon w:=by rw [←hw];exact (hcw rfl).1
    have hwl:w.length≤text.length:=by rw [←hw,List.length_take,List.length_drop];omega
    obtain ⟨c',s1,s2⟩:=ref_store hL (i:=cs.length) rfl (by omega) (k:=k) (m:=m) (by omega) hw hcan1 hr
    rw [s1,ja,ref_stop (k:=k+m) (i:=cs.length) (n:=n) (by omega) hl,ja]
    have hall:∀u∈cs++[w],Canon u∧u.length≤text.length:=by
     intro u hu
     rw [List.mem_append,List.mem_singleton] at hu
     rcases hu with hu | rfl
     ·exact hcan u hu
     ·exact ⟨hcan1,hwl⟩
    by_cases hst:n=0∨text[k+m]? ≠ some 44
    ·rw [decide_eq_true hst,br_tt]
     refine Or.inl ⟨_,rfl,.inr ⟨cs++[w],k+m,_,c',rfl,?_,by omega,s2,hall,by simp;omega⟩⟩
     rcases hst with h | h
     ·rw [if_pos h] at hc;exact hc.symm
     ·by_cases h0:n=0
      ·rw [if_pos h0] at hc;exact hc.symm
      ·rw [if_neg h0,if_neg h] at hc;exact hc.symm
    ·rw [decide_eq_false hst,br_ff]
     have h0:¬n=0:=fun h=>hst (.inl h)
     have h44:text[k+m]?=some 44:=Classical.not_not.1 fun h=>hst (.inr h)
     rw [if_neg h0,if_pos h44] at hc
     have hk4:k+m<text.length:=by
      rcases Nat.lt_or_ge (k+m) text.length with h | h
      ·exact h
      ·rw [List.getElem?_eq_none h] at h44;cases h44
     obtain ⟨n',rfl⟩:∃n',n=n'+1:=⟨n-1,by omega⟩
     refine Or.inr ⟨_,rfl,⟨k+m+1,n',cs++[w],c',?_,by omega,by simp;omega,hc,s2,hall⟩,?_⟩
     ·rw [jg (by omega),jg (by omega)]
      simp
     ·simp only
      rw [jg (x:=(cs.length:Int)+1) (by omega)]
      omega)
  (s:=((0:Int),false,(0:Int),[(List.replicate (8:Nat) (false,[]),(0:Int))])) ⟨0,7,[],List.replicate 8 d0,rfl,by omega,rfl,hS,Reps.zero.congr (fun j _=>(cval_far (by simp)).symm),by simp⟩
 exact ⟨r,h1,h2⟩
end
end Go.Ql
end

section
set_option maxRecDepth 100000
set_option maxHeartbeats 2000000
namespace Go.Ql
theorem four_big (text:List UInt8) (h:JU text) (i:Nat) (hi:i≤text.length) (hL:text.length≤2000000) :
 ∃r:Int×Int,Go.Ql.iter (fun s:Int×Int↦W.ju.ck_ text (i:Int) (Prod.fst s) (Prod.snd s) Option.some) ((0:Int),(i:Int)-4)=some r∧r.1=dec ((text.take i).drop (i-4)):=
 Jg
  (f:=fun s:Int×Int↦W.ju.ck_ text (i:Int) (Prod.fst s) (Prod.snd s) Option.some)
  (J:=fun s=>(i:Int)-4≤s.2∧s.2≤i∧s.1=dec ((text.take s.2.toNat).drop (i-4)))
  (Q:=fun r=>r.1=dec ((text.take i).drop (i-4)))
  (fun s=>((i:Int)-s.2).toNat) (fun ⟨n,j⟩ ⟨h1,h2,h3⟩=>by
   simp only at h1 h2 h3 ⊢
   simp only [W.ju.ck_]
   by_cases h0:j<i
   ·have hw:IntKind.i64.wrap (j+1)=j+1:=jg (by omega)
    by_cases h4:0≤j
    ·obtain ⟨k,rfl⟩:∃k:Nat,j=k:=⟨j.toNat,by omega⟩
     rw [Int.toNat_natCast] at h3
     have hk:k<text.length:=by omega
     have hd:=dg_of (h _ (List.getElem_mem hk))
     have hb:=kE (l:=(text.take k).drop (i-4)) (fun c hc=>h c (List.mem_of_mem_take (List.mem_of_mem_drop hc)))
     have h8:(10:Int)^((text.take k).drop (i-4)).length≤10^4:=kX (by decide) (by rw [List.length_drop,List.length_take];omega)
     have h9:(10:Int)^4=10000:=by decide
     rw [←h3] at hb
     unfold dg at hd
     have e:W.ju.cw_ text n (k:Int) Option.some=some (n*10+((text[k].toNat:Int)-48)):=by
      unfold W.ju.cw_
      rw [jt (by omega),YE _ k hk,ja,show IntKind.u8.wrap ((text[k].toNat:Int)-48)=(text[k].toNat:Int)-48 from IntWalk.u8_in _ (by omega),jg (x:=(text[k].toNat:Int)-48) (by omega),jg (x:=n*10) (by omega),jg (by omega)]
     refine Or.inr ⟨(_,_),by rw [jt h0,e,ja,hw],⟨by simp only;omega,by simp only;omega,?_⟩,by simp only;omega⟩
     simp only
     rw [show ((k:Int)+1).toNat=k+1 by omega,take_snoc hk,List.drop_append_of_le_length (by rw [List.length_take];omega),Us,h3];rfl
    ·have e:W.ju.cw_ text n j Option.some=some n:=by
      unfold W.ju.cw_
      rw [jx (by omega)]
     refine Or.inr ⟨(_,_),by rw [jt h0,e,ja,hw],⟨by simp only;omega,by simp only;omega,?_⟩,by simp only;omega⟩
     simp only
     rw [h3,show j.toNat=0 by omega,show (j+1).toNat=0 by omega]
   ·refine Or.inl ⟨(_,_),by rw [jx h0],?_⟩
    simp only
    rw [h3,show j.toNat=i by omega])
  (s:=((0:Int),(i:Int)-4)) ⟨by simp,by simp only;omega,by
   simp only
   rw [show ((i:Int)-4).toNat=i-4 by omega,List.drop_of_length_le (by rw [List.length_take];omega)];rfl⟩
theorem zdigits_big (text:List UInt8) (h:JU text) (hL:text.length≤2000000) :
 ∃r:Int×List Int,Go.Ql.iter (fun s:Int×List Int↦W.ju.ch_ text (Prod.fst s) (Prod.snd s) Option.some) ((text.length:Int),[])=some r∧Dig 10000 r.2∧r.2.length≤text.length∧val 10000 r.2=dec text:=
 Jg
  (f:=fun s:Int×List Int↦W.ju.ch_ text (Prod.fst s) (Prod.snd s) Option.some)
  (J:=fun s=>s.1=(text.length:Int)-4*s.2.length ∧ -4<s.1∧Dig 10000 s.2∧s.2.length≤text.length∧dec text=dec (text.take s.1.toNat)*10000^s.2.length+val 10000 s.2)
  (Q:=fun r=>Dig 10000 r.2∧r.2.length≤text.length∧val 10000 r.2=dec text)
  (fun s=>s.1.toNat) (fun ⟨i',d⟩ ⟨h1,h2,h3,h4,h5⟩=>by
   simp only at h1 h2 h3 h4 h5 ⊢
   simp only [W.ju.ch_]
   by_cases h0:i'>0
   ·obtain ⟨i,rfl⟩:∃k:Nat,i'=k:=⟨i'.toNat,by omega⟩
    rw [Int.toNat_natCast] at h5
    have hi:i≤text.length:=by omega
    obtain ⟨⟨n,j⟩,h6,h7⟩:=four_big text h i hi (by omega)
    simp only at h7
    have hdg:JU ((text.take i).drop (i-4)):=fun c hc=>h c (List.mem_of_mem_take (List.mem_of_mem_drop hc))
    have hb:=kE hdg
    have h8:(10:Int)^((text.take i).drop (i-4)).length≤10^4:=kX (by decide) (by rw [List.length_drop,List.length_take];omega)
    have h9:(10:Int)^4=10000:=by decide
    rw [←h7] at hb
    have hdec:dec (text.take i)=dec (text.take (i-4))*10000+n:=by
     have e1:text.take i=(text.take i).take (i-4)++(text.take i).drop (i-4):=(List.take_append_drop _ _).symm
     rw [e1,YX,←h7,List.take_take,Nat.min_eq_left (by omega)]
     by_cases h10:4≤i
     ·rw [show ((text.take i).drop (i-4)).length=4 by rw [List.length_drop,List.length_take];omega];rfl
     ·rw [show i-4=0 by omega];simp [dec]
    rw [jt h0,jg (x:=(i:Int)-4) (by omega),h6,ja]
    refine Or.inr ⟨(_,_),by rw [jD (by simp;omega),ja],⟨by simp;omega,by simp only;omega,h3.append (Dig.cons (by simp only;omega) Dig.nil),by simp;omega,?_⟩,by simp only;omega⟩
    simp only [List.length_append,List.length_singleton,Int.pow_succ]
    rw [VF,show ((i:Int)-4).toNat=i-4 by omega,h5,hdec]
    generalize (10000:Int)^d.length=P at *
    grind
   ·refine Or.inl ⟨(_,_),by rw [jx h0],h3,h4,?_⟩
    rw [show i'.toNat=0 by omega,show dec (text.take 0)=0 from rfl] at h5
    simp only
    omega)
  (s:=((text.length:Int),[])) ⟨by simp,by simp only;omega,Dig.nil,by simp,by simp [val]⟩
theorem digits_head {l:List UInt8} (h:JU l):(l.head? == some 45)=false:=beq_false_of_ne (Vs h)
theorem zread_digits {l:List UInt8} (h:JU l) (hL:l.length≤2000000):∃z,W.ju l=some z∧Rep 10000 z (dec l)∧z.2.length≤l.length:=by
 obtain ⟨w,t1,t2,t3,t4⟩:=zdigits_big l h hL
 obtain ⟨z,u1,u2,u3⟩:=Yc false w.2 t2 (by omega)
 refine ⟨z,?_,by rw [t4] at u2;exact u2,by omega⟩
 unfold W.ju
 rw [(sign_test l).1,ja,digits_head h]
 have:W.ju.cg_ l false Option.some=some l:=by unfold W.ju.cg_;rw [br_ff]
 rw [this,ja,t1,ja,u1]
 rfl
theorem dec_foldr_uint:∀(l:List UInt8) (acc:Nat),JU l→(∃u:Nat,Go.Lib.parseUint10 acc l=.ok u∧(u:Int)=l.foldl (fun n c=>n*10+dg c) (acc:Int))∨(Go.Lib.parseUint10 acc l=.range∧10000<l.foldl (fun n c=>n*10+dg c) (acc:Int))
 | [],acc,_=>.inl ⟨acc,rfl,rfl⟩
 | c::r,acc,h=>by
   have hc:=h c (by simp)
   have hr:JU r:=fun x hx=>h x (by simp [hx])
   have hc2:48≤c.toNat∧c.toNat≤57:=by
    unfold JI at hc
    simpa using hc
   have hdg:dg c=((c.toNat-48:Nat):Int):=by unfold dg;omega
   have hgrow:∀(l:List UInt8) (a:Int),JU l→10000<a→10000<l.foldl (fun n c=>n*10+dg c) a:=by
    intro l
    induction l with
    | nil=>intro a _ h;exact h
    | cons x t ih=>
      intro a hd h
      have:=dg_of (hd x (by simp))
      exact ih _ (fun y hy=>hd y (by simp [hy])) (by show 10000<a*10+dg x;omega)
   simp only [Go.Lib.parseUint10,List.foldl_cons]
   rw [if_pos hc2]
   by_cases h1:1844674407370955162≤acc
   ·rw [if_pos h1]
    exact .inr ⟨rfl,hgrow r _ hr (by rw [hdg];omega)⟩
   ·rw [if_neg h1]
    by_cases h2:18446744073709551616≤acc*10+(c.toNat-48)
    ·rw [if_pos h2]
     exact .inr ⟨rfl,hgrow r _ hr (by rw [hdg];omega)⟩
    ·rw [if_neg h2]
     have:=dec_foldr_uint r (acc*10+(c.toNat-48)) hr
     rw [show ((acc*10+(c.toNat-48):Nat):Int)=(acc:Int)*10+dg c by rw [hdg];omega] at this
     exact this
theorem atoi_digits {l:List UInt8} (h:JU l) (hn:l≠[]) (hL:l.length≤281474976710656):W.ky l=some (dec l,false)∨((∃n,W.ky l=some (n,true))∧10000<dec l):=by
 unfold W.ky
 rw [decide_eq_true hL,cond_true]
 cases l with
 | nil=>exact absurd rfl hn
 | cons c r=>
   have hc:=h c (by simp)
   have hc2:48≤c.toNat∧c.toNat≤57:=by
    unfold JI at hc
    simpa using hc
   unfold Go.Lib.atoiAll
   simp only
   rw [if_neg (by omega)]
   unfold Go.Lib.parseMag
   rw [if_neg (by simp)]
   have hneg:¬c.toNat=45:=by omega
   rcases dec_foldr_uint (c::r) 0 h with ⟨u,hu,he⟩ | ⟨hu,he⟩
   ·rw [hu]
    simp only [hneg,not_false_eq_true,true_and,false_and,if_false]
    have hd:(u:Int)=dec (c::r):=he
    by_cases hb:9223372036854775808≤u
    ·rw [if_pos hb]
     exact .inr ⟨⟨_,rfl⟩,by omega⟩
    ·rw [if_neg hb]
     exact .inl (by rw [hd])
   ·rw [hu]
    exact .inr ⟨⟨_,rfl⟩,he⟩
end Go.Ql
end

section
set_option maxRecDepth 100000
set_option maxHeartbeats 2000000
namespace Go.Ql
def LowOk (text:List UInt8) (q:Nat) (low:List UInt8) (u:Nat):Prop:=
 (text[q]? ≠ some 47∧low=[]∧u=q)∨(text[q]?=some 47∧JU low∧low.head? ≠ some 48∧low≠[]∧u=q+1+low.length∧(text.drop (q+1)).take low.length=low)
abbrev zeroN':NumT:=(List.replicate 8 (false,[]),(0:Int))
theorem scanLow_ok {text:List UInt8} {q:Nat} {low:List UInt8} {u:Nat} (h:YC text q=.inr (low,u)):LowOk text q low u:=by
 unfold YC at h
 by_cases h47:text[q]?=some 47
 ·rw [if_pos h47] at h
  by_cases ho:(JP false (text.drop (q+1))).2=true
  ·rw [if_pos ho] at h
   have hc:=(numLen_canon ho).2 rfl
   have hle:=numLen_le false (text.drop (q+1))
   simp only [Sum.inr.injEq,Prod.mk.injEq] at h
   obtain ⟨h1,h2⟩:=h
   have hl:low.length=(JP false (text.drop (q+1))).1:=by rw [←h1,List.length_take];omega
   rw [h1] at hc
   exact .inr ⟨h47,hc.1,hc.2.1,hc.2.2,by omega,by rw [hl];exact h1⟩
  ·rw [if_neg ho] at h;cases h
 ·rw [if_neg h47] at h
  cases h
  exact .inl ⟨h47,rfl,rfl⟩
theorem pow5:(10:Int)^5=100000:=by decide
theorem dec_long {l:List UInt8} (h:JU l) (h0:l.head? ≠ some 48) (hl:5<l.length):10000<dec l:=by
 have h1:=UM h (by intro e;rw [e] at hl;simp at hl) h0
 have h2:(10:Int)^5≤10^(l.length-1):=by
  have h3:10^5≤10^(l.length-1):=Nat.pow_le_pow_right (by decide) (by omega)
  exact_mod_cast h3
 rw [pow5] at h2
 omega
theorem ours_low {low:List UInt8} (hd:JU low) (hl:low.length≤2000000) :
 W.je.cx_ low 0 some=some (if 10000<dec low then .inl () else .inr (dec low)):=by
 unfold W.je.cx_
 by_cases h0:low=[]
 ·subst h0;rfl
 ·rw [JT (by simpa using h0)]
  unfold W.je.cu_ W.je.c15
  rcases atoi_digits hd h0 (by omega) with ha | ⟨⟨n,ha⟩,hb⟩
  ·rw [ha,ja]
   simp only [Bool.not_false,Bool.not_true,br_ff,ja]
   by_cases hn:10000<dec low
   ·rw [jt hn,if_pos hn,ja];rfl
   ·rw [jx hn,if_neg hn,ja];rfl
  ·rw [ha,ja,if_pos hb]
   simp only [Bool.not_true,Bool.not_false,br_tt,ja]
   rfl
section
variable {text:List UInt8} (hL:text.length≤1048576)
include hL
theorem ref_low {q:Nat} (hq:q≤text.length) (lg:Bool) {c:List Dg} {t2:NumT} :
 (∃p:Nat,YC text q=.inl p∧W.ji.cA_ text (q:Int) lg [t2] [(c,(0:Int))] some=some (.inl (p:Int))) ∨
 ∃low u,YC text q=.inr (low,u)∧W.ji.cA_ text (q:Int) lg [t2] [(c,(0:Int))] some=some (.inr ((u:Int),(lg||decide (10000<dec low)),[(c,if 10000<dec low then 0 else dec low)])):=by
 have c16:W.ji.c16 text (q:Int) some=some (text[q]? == some 47):=by
  unfold W.ji.c16
  by_cases h:q<text.length
  ·rw [jt (by omega),YE _ q h,ja,List.getElem?_eq_getElem h,show (47:Int)=(↑(UInt8.toNat (47:UInt8)):Int) from rfl,byte_is]
   rfl
  ·rw [jx (by omega),List.getElem?_eq_none (by omega)];rfl
 unfold W.ji.cA_
 rw [c16,ja]
 by_cases h47:text[q]?=some 47
 ·have hk4:q<text.length:=by
   rcases Nat.lt_or_ge q text.length with h | h
   ·exact h
   ·rw [List.getElem?_eq_none h] at h47;cases h47
  rw [JT (by simp [h47]),jg (x:=(q:Int)+1) (by omega),show (q:Int)+1=((q+1:Nat):Int) by omega,jD (by simp;omega),ja]
  rw [show List.drop (Int.toNat ((q+1:Nat):Int)) (List.take (Int.toNat ((List.length text:Nat):Int)) text)=text.drop (q+1) by rw [Int.toNat_natCast,Int.toNat_natCast,List.take_length]]
  rw [(number_ok false (text.drop (q+1)) (by rw [List.length_drop];omega)).2,ja]
  have hle:=numLen_le false (text.drop (q+1))
  rw [List.length_drop] at hle
  by_cases ho:(JP false (text.drop (q+1))).2=true
  ·right
   obtain ⟨low,u,hs⟩:∃low u,YC text q=.inr (low,u):=by
    unfold YC;rw [if_pos h47,if_pos ho];exact ⟨_,_,rfl⟩
   refine ⟨low,u,hs,?_⟩
   have hlo:=scanLow_ok hs
   rcases hlo with ⟨hn,_⟩ | ⟨_,l1,l2,l3,l4,l5⟩
   ·exact absurd h47 hn
   have hm:(JP false (text.drop (q+1))).1=low.length:=by
    unfold YC at hs
    rw [if_pos h47,if_pos ho] at hs
    simp only [Sum.inr.injEq,Prod.mk.injEq] at hs
    rw [←hs.1,List.length_take,List.length_drop];omega
   rw [hm] at hle ⊢
   rw [ho,Bool.not_true,br_ff,jg (x:=((q+1:Nat):Int)+(low.length:Int)) (by omega),show ((q+1:Nat):Int)+(low.length:Int)=((q+1+low.length:Nat):Int) by omega,jD (by simp;omega),ja,Int.toNat_natCast,Int.toNat_natCast,List.drop_take,Nat.add_sub_cancel_left,l5]
   obtain ⟨z,z1,z2,z3⟩:=zread_digits l1 (by omega)
   rw [z1,ja]
   have hc21:W.ji.c21 (low.length:Int) z.1 z.2 some=some (decide (10000<dec low)):=by
    unfold W.ji.c21
    by_cases h5:(low.length:Int)>5
    ·rw [jt h5,decide_eq_true (dec_long l1 l2 (by omega))]
    ·obtain ⟨o,o1,o2,o3⟩:=Vr (n:=10000) (by decide)
     rw [jx h5,o1,ja,show ((z.1,z.2):Dg)=z from rfl,zcmp_ok z2 o2 (by omega) (by omega),ja]
     congr 1
     rw [decide_eq_decide]
     unfold sgn
     split<;>(try split)<;>omega
   unfold W.ji.cW_
   rw [hc21,ja]
   by_cases hb:10000<dec low
   ·rw [jt hb,ja,if_pos hb,decide_eq_true hb,Bool.or_true,jg (x:=1+(low.length:Int)) (by omega),jg (by omega),l4]
    simp only
    congr 3
    omega
   ·have hl5:low.length≤5:=Nat.le_of_not_lt fun h=>hb (dec_long l1 l2 h)
    have hpos:=(kE l1).1
    have hsm:small (dec low)=(dec low,true):=by unfold small;rw [if_pos (by omega)]
    rw [jx hb,if_neg hb,decide_eq_false hb,Bool.or_false,show ((z.1,z.2):Dg)=z from rfl,zsmall_ok z2 (by omega),hsm,ja,bx_in,ja,bx_at,ja,ja,jg (x:=1+(low.length:Int)) (by omega),jg (by omega),l4]
    simp only
    congr 3
    omega
  ·left
   refine ⟨q+1+(JP false (text.drop (q+1))).1,by unfold YC;rw [if_pos h47,if_neg ho],?_⟩
   rw [eq_false_of_ne_true ho,Bool.not_false,br_tt,bx_at,ja,jg (by omega)]
   simp
 ·right
  refine ⟨[],q,by unfold YC;rw [if_neg h47],?_⟩
  rw [JG (beq_false_of_ne h47)]
  have:¬(10000:Int)<dec []:=by decide
  rw [if_neg this,decide_eq_false this,Bool.or_false]
  rfl
omit hL in
theorem scan_words:∀{cs:List (List UInt8)} {low:List UInt8},Uc text=.inr (cs,low) → ∃q u,scan text 8 0 []=.inr (cs,q)∧YC text q=.inr (low,u) ∧ ¬u<text.length:=by
 intro cs low h
 unfold Uc at h
 split at h
 ·cases h
 ·rename_i cs' q hs
  split at h
  ·cases h
  ·rename_i low' u hl
   split at h
   ·cases h
   ·rename_i hu
    cases h
    exact ⟨q,u,hs,hl,hu⟩
omit hL in
theorem nval_lt {m:Nat} (hm:4000≤m) {w:List UInt8} (h:Canon w) (hd:ndig w≤1000):(nval w).natAbs<2^m:=by
 obtain ⟨neg,ds,p1,p2,p3⟩:=h.parts
 have hh:(w.head? == some 45)=neg:=by
  rw [p3]
  cases neg
  ·exact beq_false_of_ne (Vs p2)
  ·rfl
 have e1:ndig w=ds.length:=by
  unfold ndig;rw [hh,p3];cases neg<;>simp
 have e2:(nval w).natAbs=(dec ds).natAbs:=by
  unfold nval;rw [hh,p3];cases neg<;>simp
 rw [e1] at hd
 have hb:=kE p2
 have h1:(dec ds).natAbs<10^ds.length:=by
  have h2:(10:Int)^ds.length=((10^ds.length:Nat):Int):=by simp
  rw [h2] at hb
  omega
 have h3:10^ds.length≤2^(4*ds.length):=by
  rw [Nat.pow_mul]
  exact Nat.pow_le_pow_left (by decide) _
 rw [e2]
 exact Nat.lt_of_lt_of_le (Nat.lt_of_lt_of_le h1 h3) (Nat.pow_le_pow_right (by decide) (by omega))
omit hL in
theorem cval_bd {m:Nat} (hm:4000≤m) {cs:List (List UInt8)} (hc:∀w∈cs,Canon w∧w.length≤text.length):Bd (cval cs) m:=by
 intro j hj
 unfold cval
 by_cases hj2:j<cs.length
 ·have hw:=hc cs[j] (List.getElem_mem hj2)
  rw [show cs.getD j []=cs[j] by simp [List.getD,hj2]]
  by_cases hd:ndig cs[j]≤1000
  ·rw [if_pos hd]
   exact nval_lt hm hw.1 hd
  ·rw [if_neg hd];exact Nat.pow_pos (by decide)
 ·rw [show cs.getD j []=[] by simp [List.getD,List.getElem?_eq_none (by omega:cs.length≤j)]]
  have:(if ndig []≤1000 then nval [] else 0)=0:=by decide
  rw [this]
  exact Nat.pow_pos (by decide)
theorem parse_both:∃a b f K L E,W.ke text=some (a,f)∧W.ji text=some (b,f)∧Num 4294967296 a K L E∧Num 10000 b K L E∧L≤4000∧E≤10000∧(f.1=0→KTxt K text):=by
 have hL2:text.length≤281474976710656:=by omega
 have zn:∀B:Int,Num B (List.replicate 8 (false,[]),(0:Int)) K.zero 0 0:=fun B=>num_zero
 have nought:∀{f:Int×Int},f.1≠0→W.ke text=some ((List.replicate 8 (false,[]),(0:Int)),f)→W.ji text=some ((List.replicate 8 (false,[]),(0:Int)),f) →
  ∃a b f K L E,W.ke text=some (a,f)∧W.ji text=some (b,f)∧Num 4294967296 a K L E∧Num 10000 b K L E∧L≤4000∧E≤10000∧(f.1=0→KTxt K text):=
  fun hf h1 h2=>⟨_,_,_,K.zero,0,0,h1,h2,zn _,zn _,by decide,by decide,fun h=>absurd h hf⟩
 obtain ⟨y,y1,y2⟩:=ref_scan (text:=text) hL2
 rcases all_scan hL2 with ⟨p,r,q,a1,rfl,a2⟩ | ⟨cs,low,r,a1,a2⟩
 ·
  refine nought (f:=(1,(q:Int))) (by simp) ?_ ?_
  ·unfold W.ke W.je
   rw [a2,ja]
   rfl
  ·unfold W.ji
   rw [y1,ja]
   rcases y2 with ⟨k,l,i,a,q',rfl,hS⟩ | ⟨cs,q',i,c,rfl,hS,hq,_⟩
   ·unfold Uc at a1
    rw [hS] at a1
    cases a1
    rfl
   ·unfold Uc at a1
    rw [hS] at a1
    simp only at a1
    simp only [sel]
    rcases ref_low hL hq (longs cs) (c:=c) (t2:=(List.replicate 8 (false,[]),(0:Int))) with ⟨p',h1,h2⟩ | ⟨low,u,h1,h2⟩
    ·rw [h2,ja]
     rw [h1] at a1
     cases a1
     rfl
    ·rw [h2,ja]
     rw [h1] at a1
     simp only at a1
     by_cases hu:u<text.length
     ·rw [if_pos hu] at a1
      cases a1
      simp only
      rw [jt (by omega)]
     ·rw [if_neg hu] at a1;cases a1
 ·obtain ⟨q,u,hs,hl,hu⟩:=scan_words a1
  rcases y2 with ⟨k,l,i,a,q',rfl,hS⟩ | ⟨cs',q',i,c,rfl,hS,hq,hr,hcan,h8⟩
  ·rw [hs] at hS;cases hS
  rw [hs] at hS
  cases hS
  obtain ⟨z,z1,z2⟩:=ours_coeffs h8 (fun w hw=>⟨(hcan w hw).1,by have:=(hcan w hw).2;omega⟩)
  have hlow:=scanLow_ok hl
  have hd:JU low:=by
   rcases hlow with ⟨_,h,_⟩ | ⟨_,h,_⟩
   ·rw [h];intro c hc;cases hc
   ·exact h
  have hll:low.length≤text.length:=by
   rcases hlow with ⟨_,h,_⟩ | ⟨_,_,_,_,_,h⟩
   ·rw [h];simp
   ·rw [←h,List.length_take,List.length_drop];omega
  have hq2:¬((u:Int)<(text.length:Int)):=by omega
  have refL:W.ji text=br (longs cs||decide (10000<dec low)) (some ((List.replicate (8:Nat) (false,[]),(0:Int)),(2:Int),(0:Int)))
   (bnd (W.ji.cL_ [(c,if 10000<dec low then 0 else dec low)] some) fun y_2=>
    bnd (idx y_2 (0:Int)) fun y_3=>
    bnd (W.jH y_3) fun y_4=>
    br (!y_4==text)
     (some ((List.replicate (8:Nat) (false,[]),(0:Int)),(3:Int),(0:Int)))
     (bnd (idx y_2 (0:Int)) fun y_5=>
      some (y_5,(0:Int),(0:Int)))):=by
   unfold W.ji
   rw [y1,ja]
   simp only [sel]
   rcases ref_low hL hq (longs cs) (c:=c) (t2:=(List.replicate 8 (false,[]),(0:Int))) with ⟨p',h1,h2⟩ | ⟨low',u',h1,h2⟩
   ·rw [hl] at h1;cases h1
   ·rw [hl] at h1
    cases h1
    rw [h2,ja]
    simp only
    rw [jx hq2]
  have oursl:W.ke text=bnd (sel z (fun u_1=>some (Sum.inr (Prod.snd (Prod.snd u_1)))) (fun v_1=>bnd (W.je.cx_ low (0:Int) some) fun y_2=>
   sel y_2
    (fun u_2=>some (Sum.inr ((2:Int),(0:Int))))
    (fun v_2=>bnd (W.je.cE_ text v_2 (Prod.snd v_1) [zeroN'] some) fun y_3=>
     sel y_3
      (fun u_3=>some (Sum.inr ((3:Int),(0:Int))))
      (fun v_3=>bnd (W.je.c21 v_3 some) fun y_4=>
       bnd (idx y_4 (0:Int)) fun y_5=>
       some (Sum.inl (y_5,(0:Int),(0:Int))))))) fun y=>sel y (fun u=>some u) (fun v=>some (zeroN',v)):=by
   unfold W.ke W.je
   rw [a2,ja]
   simp only [sel]
   rw [show iter (fun s↦W.je.cc_ cs (↑(List.length cs):Int) (Prod.fst s) (Prod.snd s) some) ((0:Int),List.replicate (8:Nat) (false,[]))=some z from z1,ja]
  have hlongs:longs cs=true ↔ ∃w∈cs,1000<ndig w:=by simp [longs]
  have hol:=ours_low hd (by omega)
  rcases z2 with ⟨j,c',rfl,hw⟩ | ⟨j,c',rfl,hr',hall⟩
  ·refine nought (f:=(2,0)) (by decide) ?_ ?_
   ·rw [oursl];rfl
   ·rw [refL,hlongs.2 hw,Bool.true_or,br_tt]
  ·have hlf:longs cs=false:=by
    cases hq:longs cs
    ·rfl
    ·obtain ⟨w,h1,h2⟩:=hlongs.1 hq
     have:=hall w h1
     omega
   by_cases hb:10000<dec low
   ·refine nought (f:=(2,0)) (by decide) ?_ ?_
    ·rw [oursl]
     simp only [sel]
     rw [hol,if_pos hb]
     rfl
    ·rw [refL,hlf,decide_eq_true hb,Bool.false_or,br_tt]
   ·have he0:0≤dec low:=(kE hd).1
    obtain ⟨e,he⟩:∃e:Nat,dec low=(e:Int):=⟨(dec low).toNat,by omega⟩
    rw [he] at hb
    have hbd:=cval_bd (m:=4000) (Nat.le_refl _) hcan
    obtain ⟨a,b1,b2⟩:=least_ok hr' hbd (e:Int) (by omega)
    rw [kvz_nat,show 4000+(-(e:Int)).toNat=4000 by omega,Int.toNat_natCast] at b2
    obtain ⟨t,t1,t2⟩:=ntext_ok b2 (by omega) (by omega)
    obtain ⟨b,d1,d2⟩:∃b,W.ji.cL_ [(c,(e:Int))] some=some [b]∧Num 10000 b (kv (cval cs) e) 4000 e:=by
     unfold W.ji.cL_
     rw [bx_at,ja,Vn hr,ja]
     by_cases hn:YM (cval cs)
     ·rw [decide_eq_true hn,Bool.not_true,br_ff,ja]
      exact ⟨_,rfl,num_zero.eq_of (Yz.1 hn).symm⟩
     ·rw [decide_eq_false hn,Bool.not_false,br_tt,ja]
      obtain ⟨b,d1,d2⟩:=rleast_ok hr hbd (by omega) e (by omega)
      rw [d1,ja,ja]
      exact ⟨b,rfl,d2⟩
    obtain ⟨t',t3,t4⟩:=rtext_ok d2 (by omega) (by omega)
    have htt:=t2.one t4
    subst htt
    have ours2:W.ke text=if t=text then some (a,(0,0)) else some (zeroN',(3,0)):=by
     rw [oursl]
     simp only [sel]
     rw [hol,he,if_neg hb,ja]
     simp only [W.je.cE_,W.je.c21]
     rw [jD (by simp [hr'.len]),ja,b1,ja]
     simp only [show ∀a:NumT,idx [a] (0:Int)=some a from fun _=>rfl,show ∀a b:NumT,List.set [a] 0 b=[b] from fun _ _=>rfl,ja,t1]
     by_cases ht:t=text
     ·rw [JG (by simp [ht]),if_pos ht]
      simp only [ja,show ∀a:NumT,idx [a] (0:Int)=some a from fun _=>rfl]
      rfl
     ·rw [JT (by simp [ht]),if_neg ht]
      rfl
    have ref2:W.ji text=if t=text then some (b,(0,0)) else some (zeroN',(3,0)):=by
     rw [refL,hlf,he,decide_eq_false hb,Bool.false_or,br_ff,if_neg hb,d1,ja,bx_at,ja,t3,ja]
     by_cases ht:t=text
     ·rw [JG (by simp [ht]),if_pos ht];rfl
     ·rw [JT (by simp [ht]),if_neg ht]
    by_cases ht:t=text
    ·rw [if_pos ht] at ours2 ref2
     refine ⟨a,b,(0,0),_,4000,e,ours2,ref2,b2,d2,Nat.le_refl _,by omega,fun _=>ht▸t2⟩
    ·rw [if_neg ht] at ours2 ref2
     exact nought (f:=(3,0)) (by decide) ours2 ref2
end
end Go.Ql
end

section
set_option maxRecDepth 100000
set_option maxHeartbeats 2000000
namespace Go.Ql
theorem rhalf_ok {a:NumT} {k:K} {L E:Nat} (h:Num 10000 a k L E) (hL:L+L+E+E<70000) (hE:E≤10000) :
 ∃r,W.JO a=some r∧Num 10000 r (K.half k) (L+L+E+E+1) (E+1):=by
 obtain ⟨t,t1,t2⟩:=Ub h (by omega) 2
 obtain ⟨u,u1,u2⟩:=Ub h (by omega) 6
 obtain ⟨⟨c,ae⟩,s1,s2⟩:=rsub_ok t2 u2 (by omega) (by omega)
 obtain ⟨v,e,h1,h2,h3,h4,h5,h6⟩:=s2.has
 simp only at h1 h2
 subst h2
 have hk:K.half k=K.sm (1 / 2) (kv v e):=by rw [h4];rfl
 unfold W.JO W.JO.c1
 rw [t1,ja,u1,ja,s1,ja]
 simp only [bx_in,bx_at,ja]
 rw [Vn h1,ja]
 by_cases hz:YM v
 ·rw [jt hz]
  refine ⟨_,rfl,?_⟩
  have e0:K.half k=kv v e:=by
   rw [hk,(Yz (e:=e)).1 hz]
   apply K.eq_of<;>simp only [K.sm,K.zero]<;>grind
  rw [e0]
  exact Num.mk' h1 rfl h3 rfl (h5.mono (by omega)) (by omega)
 ·rw [jx hz,jg (by omega),show (e:Int)+1=((e+1:Nat):Int) by omega]
  simp only [List.set_cons_zero,bx_at,ja]
  obtain ⟨r,r1,r2⟩:=rleast_ok h1 h5 (by omega) (e+1) (by omega)
  rw [r1,ja]
  refine ⟨r,rfl,?_⟩
  obtain ⟨w,f,q1,q2,q3,q4,q5,q6⟩:=r2.has
  refine ⟨w,f,q1,q2,q3,?_,q5.mono (by omega),by omega⟩
  rw [q4,VC,hk]
section
variable {a b:NumT} {K0:K} {L E:Nat}
theorem turn_texts (ha:Num 4294967296 a K0 L E) (hb:Num 10000 b K0 L E) (hs:L≤4000∧E≤10000) (k:Int) (hk:-9223372036854775808≤k∧k≤9223372036854775807) :
 ∃x y t,W.jq a k=some x∧W.jO b k=some y∧W.jj x=some t∧W.jH y=some t:=by
 obtain ⟨x,x1,x2⟩:=nturn_i ha (by omega) k hk
 obtain ⟨y,y1,y2⟩:=Ub hb (by omega) k
 obtain ⟨t,t1,t2⟩:=same_text x2 y2 rfl (by omega) (by omega)
 exact ⟨x,y,t,x1,y1,t1,t2⟩
theorem root_texts (k:Int) (hk:-9223372036854775808≤k∧k≤9223372036854775807) :
 ∃x y t,W.kh k=some x∧W.kP k=some y∧W.jj x=some t∧W.jH y=some t:=by
 obtain ⟨x,x1,x2⟩:=root_ok k hk
 obtain ⟨o,o1,o2,_⟩:=Vr (n:=1) (by decide)
 have hn:Num 10000 ((List.replicate 8 d0).set 0 o,(0:Int)) K.one 1 0:=by
  refine Num.mk' (Reps.zero.set (by decide) o2) (e:=0) rfl (.inl rfl) ?_ ?_ (Nat.le_refl _)
  ·simp [kv,K.one,hp]
  ·intro i _
   show Int.natAbs (if i=0 then 1 else 0)<2^1
   split<;>decide
 obtain ⟨y,y1,y2⟩:=Ub hn (by decide) k
 obtain ⟨t,t1,t2⟩:=same_text x2 y2 rfl (by omega) (by omega)
 refine ⟨x,y,t,x1,?_,t1,t2⟩
 unfold W.kP W.Yk
 rw [o1,ja,show idx (List.replicate 8 (false,([]:List (Ty.den (Ty.int IntKind.i64))))) (0:Int)=some d0 from rfl,ja,ja]
 exact VR y1 rfl
theorem half_texts (ha:Num 4294967296 a K0 L E) (hb:Num 10000 b K0 L E) (hs:L≤4000∧E≤10000) :
 ∃x y t,W.Je a=some x∧W.JO b=some y∧W.jj x=some t∧W.jH y=some t:=by
 obtain ⟨x,x1,x2⟩:=nhalf_t ha (by omega)
 obtain ⟨y,y1,y2⟩:=rhalf_ok hb (by omega) (by omega)
 obtain ⟨t,t1,t2⟩:=same_text x2 y2 rfl (by omega) (by omega)
 exact ⟨x,y,t,x1,y1,t1,t2⟩
theorem zero_same (ha:Num 4294967296 a K0 L E) (hb:Num 10000 b K0 L E):∃t,W.jW a=some t∧W.Jk b=some t:=by
 obtain ⟨t,t1,t2⟩:=nzero_ok ha
 obtain ⟨c,e⟩:=b
 obtain ⟨v,f,h1,h2,h3,h4,h5,h6⟩:=hb.has
 refine ⟨t,t1,?_⟩
 rw [Vn h1]
 congr 1
 rw [Bool.eq_iff_iff,decide_eq_true_iff,t2,←h4]
 exact Yz
theorem even_same (ha:Num 4294967296 a K0 L E) (hb:Num 10000 b K0 L E) (hs:L≤4000):∃t,W.Jd a=some t∧W.kO b=some t:=by
 obtain ⟨v,e,h1,h2,h3,h4,h5,h6⟩:=ha.has
 obtain ⟨w,f,g1,g2,g3,g4,g5,g6⟩:=hb.has
 obtain ⟨rfl,hvw⟩:=UN (h4.trans g4.symm) h3 g3
 have s:∀i,i<8→W.whole_Int_Sign (a.1.getD i d0)=some (sgn (v i)):=fun i hi=>VM (h1.at_ i hi)
 have sz:∀x:Int,(sgn x==0)=decide (x=0):=by
  intro x
  by_cases hx:x=0
  ·subst hx;rfl
  ·rw [decide_eq_false hx]
   apply beq_false_of_ne
   unfold sgn
   split<;>(try split)<;>omega
 have lz:∀i,i<8→((b.1.getD i d0).2.length=0↔v i=0):=by
  intro i hi
  have hp:=(g1.at_ i hi).pos_of (by decide)
  rw [←hvw i hi] at hp
  constructor
  ·intro h0
   by_cases hx:v i=0
   ·exact hx
   ·have:=hp.2 hx;omega
  ·intro h0
   rcases Nat.eq_zero_or_pos (b.1.getD i d0).2.length with h | h
   ·exact h
   ·exact absurd h0 (hp.1 (by omega))
 have fw:∀i,i<8→(b.1.getD i d0).2.length≤L:=fun i hi=>g1.few (by decide) g5 hi
 refine ⟨decide (v 1=0∧v 3=0∧v 5=0∧v 7=0),?_,?_⟩
 ·unfold W.Jd W.Jd.c1
  rw [show idx a.1 (1:Int)=_ from h1.idx (i:=1) (by decide),ja,s 1 (by decide),ja,sz,show idx a.1 (3:Int)=_ from h1.idx (i:=3) (by decide),ja,s 3 (by decide),ja,sz,show idx a.1 (5:Int)=_ from h1.idx (i:=5) (by decide),ja,s 5 (by decide),ja,sz,show idx a.1 (7:Int)=_ from h1.idx (i:=7) (by decide),ja,s 7 (by decide),ja,sz]
  by_cases q1:v 1=0<;>by_cases q3:v 3=0<;>by_cases q5:v 5=0<;>by_cases q7:v 7=0<;>simp [q1,q3,q5,q7,br_tt,br_ff,ja]
 ·unfold W.kO
  have f1:=fw 1 (by decide);have f3:=fw 3 (by decide);have f5:=fw 5 (by decide);have f7:=fw 7 (by decide)
  have l1:=lz 1 (by decide);have l3:=lz 3 (by decide);have l5:=lz 5 (by decide);have l7:=lz 7 (by decide)
  rw [show idx b.1 (1:Int)=_ from g1.idx (i:=1) (by decide),ja,show idx b.1 (3:Int)=_ from g1.idx (i:=3) (by decide),ja,show idx b.1 (5:Int)=_ from g1.idx (i:=5) (by decide),ja,show idx b.1 (7:Int)=_ from g1.idx (i:=7) (by decide),ja]
  generalize (b.1.getD 1 d0).2.length=n1 at f1 l1 ⊢
  generalize (b.1.getD 3 d0).2.length=n3 at f3 l3 ⊢
  generalize (b.1.getD 5 d0).2.length=n5 at f5 l5 ⊢
  generalize (b.1.getD 7 d0).2.length=n7 at f7 l7 ⊢
  rw [jg (x:=(n1:Int)+n3) (by omega),jg (x:=(n1:Int)+n3+n5) (by omega),jg (x:=(n1:Int)+n3+n5+n7) (by omega)]
  congr 1
  rw [Bool.eq_iff_iff,beq_iff_eq,decide_eq_true_iff]
  omega
end
end Go.Ql
end

section
set_option maxRecDepth 100000
set_option maxHeartbeats 2000000
namespace Go.Ql
def r2 (k:K):K:=K.sub (K.turn k 2) (K.turn k 6)
def r2v (v:Nat→Int):Nat→Int:=fun i=>tv v 2 i-tv v 6 i
theorem kv_r2 (v:Nat→Int) (e:Nat):r2 (kv v e)=kv (r2v v) e:=by
 unfold r2
 rw [←UF,←UF]
 apply K.eq_of<;>simp only [K.sub,K.add,K.neg,kv,r2v]<;>simp [Rat.intCast_sub]<;>grind
theorem r2v_r2v (v:Nat→Int) (e:Nat):kv (r2v (r2v v)) (e+1)=kv v e:=by
 rw [←kv_r2,←kv_r2,VC]
 generalize kv v e=k
 apply K.eq_of<;>simp only [r2,K.sub,K.add,K.neg,K.turn,K.turn1,K.sm]<;>grind
theorem r2v_bd {v:Nat→Int} {L:Nat} (h:Bd v L):Bd (r2v v) (L+1):=by
 intro i hi
 have h1:=tv_bd h 2 i hi
 have h2:=tv_bd h 6 i hi
 unfold r2v
 rw [Nat.pow_succ]
 have:=Int.natAbs_sub_le (tv v 2 i) (tv v 6 i)
 omega
theorem kv_down {v w:Nat→Int} {e f:Nat} (h:kv v e=kv w f):∀j,j≤e→j≤f→kv v (e-j)=kv w (f-j)
 | 0,_,_=>h
 | j+1,h1,h2=>by
   have ih:=kv_down h j (by omega) (by omega)
   have e1:=VC v (e-(j+1))
   have e2:=VC w (f-(j+1))
   rw [show e-(j+1)+1=e-j by omega] at e1
   rw [show f-(j+1)+1=f-j by omega] at e2
   rw [e1,e2] at ih
   simp only [K.sm,K.mk.injEq] at ih
   obtain ⟨a0,a1,a2,a3,a4,a5,a6,a7⟩:=ih
   apply K.eq_of<;>grind
theorem KCan.down {v:Nat→Int} {e:Nat} (h:KCan v e) (j:Nat):KCan v (e-j):=by
 rcases h with h | h
 ·exact .inl (by omega)
 ·exact .inr h
theorem KCan.le_of {v w:Nat→Int} {e f:Nat} (h:kv v e=kv w f) (hv:KCan v e):e≤f:=KCan.least h hv
theorem Num.exp {B:Int} {x:NumT} {k:K} {L E e:Nat} {v:Nat→Int} (h:Num B x k L E) (hk:kv v e=k) (hc:KCan v e):x.2=(e:Int):=by
 obtain ⟨w,f,h1,h2,h3,h4,_⟩:=h.has
 rw [h2,(UN (h4.trans hk.symm) h3 hc).1]
theorem depth_ours {a:NumT} {v:Nat→Int} {e L E:Nat} (ha:Num 4294967296 a (kv v e) L E) (hv:KCan v e) {w:Nat→Int} {f:Nat} (hw:KCan w f) (hwf:kv w f=kv (r2v v) e) (hs:L≤4000∧E≤10000) (he:e≤10000) :
 W.jZ a=some (if e=0 then 0 else if f<e then 2*(e:Int)-1 else 2*(e:Int)):=by
 have h2:=ha.exp rfl hv
 unfold W.jZ
 by_cases h0:e=0
 ·rw [JT (by rw [h2,h0];rfl),if_pos h0]
 ·rw [JG (beq_false_of_ne (by rw [h2];omega)),if_neg h0]
  obtain ⟨t,t1,t2⟩:=Vk ha (by omega) 2 (by decide)
  obtain ⟨u,u1,u2⟩:=Vk ha (by omega) 6 (by decide)
  obtain ⟨x,s1,s2⟩:=nsub_t t2 u2 (by omega)
  have hx:x.2=(f:Int):=s2.exp (hwf.trans (kv_r2 v e).symm) hw
  have t1':W.jq a (2:Int)=some t:=t1
  have u1':W.jq a (6:Int)=some u:=u1
  unfold W.jZ.c3
  rw [t1',ja,u1',ja,s1,ja,ja,bx_in,ja,bx_at,ja,h2,hx]
  by_cases hf:f<e
  ·rw [jt (by omega),if_pos hf,jg (x:=2*(e:Int)) (by omega),jg (by omega)]
  ·rw [jx (by omega),if_neg hf,jg (by omega)]
theorem depth_ref {b:NumT} {v:Nat→Int} {e L E:Nat} (hb:Num 10000 b (kv v e) L E) (hv:KCan v e) (hbd:Bd v L) {w:Nat→Int} {f:Nat} (hw:KCan w f) (hwf:kv w f=kv (r2v v) e) (hs:L≤4000∧E≤10000) (he:e≤10000) :
 W.Jh b=some (if e=0 then 0 else if f<e then 2*(e:Int)-1 else 2*(e:Int)):=by
 have hfe:f≤e:=KCan.le_of hwf hw
 have hef:e≤f+1:=by
  have h1:kv v e=kv (r2v w) (f+1):=by
   have h2:kv (r2v w) f=kv (r2v (r2v v)) e:=by rw [←kv_r2,hwf,kv_r2]
   have h3:=r2v_r2v v e
   rw [←h3,VC (r2v w),h2,←VC]
  exact KCan.le_of h1 hv
 have step:∀{x:NumT} {u:Nat→Int} {g M:Nat},Num 10000 x (kv u g) M g→Bd u M→M≤4001→g≤10000 → ∃y,W.Jh.c3 [x] some=some [y]∧Num 10000 y (kv (r2v u) g) (M+1) g:=by
  intro x u g M hx hu hM hg
  obtain ⟨t,t1,t2⟩:=Ub hx (by omega) 2
  obtain ⟨q,u1,u2⟩:=Ub hx (by omega) 6
  obtain ⟨y,s1,s2⟩:=rsub_ok t2 u2 (by omega) (by omega)
  refine ⟨y,?_,?_⟩
  ·unfold W.Jh.c3
   rw [bx_at,ja,t1,ja,ja,u1,ja,s1,ja,ja]
   rfl
  ·have hk:kv (r2v u) g=K.sub (K.turn (kv u g) ((2:Int) % 16).toNat) (K.turn (kv u g) ((6:Int) % 16).toNat):=(kv_r2 u g).symm
   rw [hk]
   exact s2.tight hk (r2v_bd hu)
 obtain ⟨r,h1,h2⟩:=Jg (f:=fun s↦W.Jh.ca_ (Prod.fst s) (Prod.snd s) some)
  (J:=fun s=>∃(j:Nat) (x:NumT),(s=(2*(j:Int),[x])∧j≤f∧Num 10000 x (kv v (e-j)) L (e-j))∨(s=(2*(j:Int)+1,[x])∧j<e∧Num 10000 x (kv (r2v v) (e-j)) (L+1) (e-j)))
  (Q:=fun s:Int×List NumT=>s.1=(if e=0 then 0 else if f<e then 2*(e:Int)-1 else 2*(e:Int)))
  (fun s=>(2*e+2-s.1.toNat)) (fun s ⟨j,x,hs⟩=>by
   rcases hs with ⟨rfl,hj,hx⟩ | ⟨rfl,hj,hx⟩
   ·have hex:x.2=((e-j:Nat):Int):=hx.exp rfl (hv.down j)
    simp only [W.Jh.ca_]
    rw [bx_in,ja,bx_at,ja,hex]
    by_cases h0:e-j=0
    ·rw [jx (by omega)]
     refine Or.inl ⟨_,rfl,?_⟩
     simp only
     by_cases he0:e=0
     ·rw [if_pos he0];omega
     ·rw [if_neg he0,if_neg (by omega)];omega
    ·rw [jt (by omega)]
     obtain ⟨y,y1,y2⟩:=step hx hbd (by omega) (by omega)
     rw [y1,ja,jg (by omega)]
     exact Or.inr ⟨_,rfl,⟨j,y,.inr ⟨rfl,by omega,y2⟩⟩,by simp only;omega⟩
   ·have hjf:j≤f:=by omega
    have hkw:kv w (f-j)=kv (r2v v) (e-j):=kv_down hwf j hjf (by omega)
    have hex:x.2=((f-j:Nat):Int):=hx.exp hkw (hw.down j)
    simp only [W.Jh.ca_]
    rw [bx_in,ja,bx_at,ja,hex]
    by_cases h0:f-j=0
    ·rw [jx (by omega)]
     refine Or.inl ⟨_,rfl,?_⟩
     simp only
     rw [if_neg (by omega)]
     by_cases hf:f<e
     ·rw [if_pos hf];omega
     ·omega
    ·rw [jt (by omega)]
     obtain ⟨y,y1,y2⟩:=step hx (r2v_bd hbd) (by omega) (by omega)
     rw [y1,ja,jg (by omega)]
     refine Or.inr ⟨_,rfl,⟨j+1,y,.inl ⟨?_,by omega,?_⟩⟩,by simp only;omega⟩
     ·congr 1
     ·have hk:kv v (e-(j+1))=kv (r2v (r2v v)) (e-j):=by
       rw [←r2v_r2v,show e-(j+1)+1=e-j by omega]
      rw [←hk] at y2
      exact y2.tight rfl hbd)
  (s:=((0:Int),[b])) ⟨0,b,.inl ⟨rfl,by omega,(hb.tight rfl hbd)⟩⟩
 unfold W.Jh
 rw [h1,ja,h2]
end Go.Ql
end

section
set_option maxRecDepth 100000
set_option maxHeartbeats 2000000
namespace Go.Ql
def Lone (v:Nat→Int):Prop:=∀i,i<8→i≠0→v i=0
theorem lone_ours {c:List Dg} {v:Nat→Int} (h1:Reps 4294967296 c v) :
 ∃y,iter (fun s↦W.jr.ca_ (List.drop (1:Nat) (List.take (8:Nat) c)) (↑(List.length (List.drop (1:Nat) (List.take (8:Nat) c))):Int) s some) (0:Int)=some y∧((∃i,y=.inl i ∧ ¬Lone v) ∨ ∃i,y=.inr i∧Lone v):=by
 have hlen:(List.drop (1:Nat) (List.take (8:Nat) c)).length=7:=by rw [List.length_drop,List.length_take,h1.len];rfl
 have hat:∀i:Nat,i<7→idx (List.drop (1:Nat) (List.take (8:Nat) c)) (i:Int)=some (c.getD (i+1) d0):=by
  intro i hi
  have:=h1.idx (i:=i+1) (by omega)
  rw [UE] at this ⊢
  rw [List.getElem?_drop,List.getElem?_take,if_pos (by omega),Nat.add_comm 1 i]
  exact this
 obtain ⟨x,x1,x2⟩:=kG (f:=fun s:Int↦W.jr.ca_ (List.drop (1:Nat) (List.take (8:Nat) c)) (↑(List.length (List.drop (1:Nat) (List.take (8:Nat) c))):Int) s some) 7
  (fun i s=>s=(i:Int) ∧ ∀j,j<i→v (j+1)=0)
  (fun x=>(∃i,x=.inl i ∧ ¬Lone v)∨(∃i,x=.inr i∧Lone v))
  (by
   rintro i s hi ⟨rfl,p2⟩
   simp only [W.jr.ca_]
   rw [jt (by rw [hlen];omega),hat i hi,ja,show (((c.getD (i+1) d0).1,(c.getD (i+1) d0).2):Dg)=c.getD (i+1) d0 from rfl,VM (h1.at_ (i+1) (by omega)),ja]
   by_cases e2:v (i+1)=0
   ·rw [JG (by simp [sgn,e2]),jg (by omega)]
    refine .inl ⟨_,rfl,by omega,fun j hj=>?_⟩
    by_cases e3:j=i
    ·rw [e3];exact e2
    ·exact p2 j (by omega)
   ·have hsg:(sgn (v (i+1)) !=0)=true:=by
     simp only [sgn,bne_iff_ne,ne_eq]
     split<;>(try split)<;>omega
    rw [JT hsg]
    exact .inr ⟨_,rfl,.inl ⟨_,rfl,fun hl=>e2 (hl (i+1) (by omega) (by omega))⟩⟩)
  (by
   rintro s ⟨rfl,p2⟩
   simp only [W.jr.ca_]
   rw [jx (by rw [hlen];omega)]
   refine ⟨_,rfl,.inr ⟨_,rfl,fun i hi h0=>?_⟩⟩
   have:=p2 (i-1) (by omega)
   rw [show i-1+1=i by omega] at this
   exact this)
  (s:=(0:Int)) ⟨rfl,fun j hj=>by omega⟩
 exact ⟨x,x1,x2⟩
theorem rational_same {a b:NumT} {K0:K} {L E:Nat} (ha:Num 4294967296 a K0 L E) (hb:Num 10000 b K0 L E) (hs:L≤4000∧E≤10000) :
 ∃x g is t,W.jr a=some (x,is)∧W.jP b=some (g,is)∧W.whole_Frac_Text x=some t∧W.JH g=some t:=by
 obtain ⟨c,ae⟩:=a
 obtain ⟨d,be⟩:=b
 obtain ⟨v,e,h1,h2,h3,h4,h5,h6⟩:=ha.has
 obtain ⟨w,f,g1,g2,g3,g4,g5,g6⟩:=hb.has
 obtain ⟨rfl,hvw⟩:=UN (h4.trans g4.symm) h3 g3
 simp only at h1 g1 h2 g2
 subst h2
 subst g2
 have g1':Reps 10000 d v:=g1.congr (fun i hi=>(hvw i hi).symm)
 obtain ⟨y,y1,y2⟩:=lone_ours h1
 have hd0:=g1'.at_ 0 (by decide)
 have hc0:=h1.at_ 0 (by decide)
 have hm:Num 10000 (d,(0:Int)) (kv v 0) L 0:=Num.mk' g1' (e:=0) rfl (.inl rfl) rfl h5 (Nat.le_refl _)
 have ho:Num 10000 ((List.replicate 8 d0).set 0 (d.getD 0 d0),(0:Int)) (kv (Uk (v 0)) 0) L 0:=Num.mk' (single_reps hd0) (e:=0) rfl (.inl rfl) rfl (single_bd (h5 0 (by decide))) (Nat.le_refl _)
 obtain ⟨r,r1,r2⟩:=rsub_ok hm ho (by omega) (by omega)
 obtain ⟨rc,re⟩:=r
 obtain ⟨u,k,q1,q2,q3,q4,q5,q6⟩:=r2.has
 have hz:YM u↔Lone v:=by
  rw [Yz (e:=k),q4,K.sub_zero]
  constructor
  ·intro h i hi h0
   have:=kv_at h i hi
   simp only [Uk,if_neg h0] at this
   have h5:=hp_ne 0
   have:(v i:Rat)=0:=by grind
   exact_mod_cast this
  ·intro h
   refine YZ (fun i hi=>?_)
   simp only [Uk]
   by_cases h0:i=0
   ·rw [if_pos h0,h0]
   ·rw [if_neg h0];exact h i hi h0
 have c1:W.jP.c1 (d,(e:Int)) some=some (!decide (YM u)):=by
  unfold W.jP.c1 W.Yk
  rw [show idx (d,(e:Int)).1 (0:Int)=_ from g1'.idx (i:=0) (by decide),ja,show idx (List.replicate (8:Nat) (false,([]:List (Ty.den (Ty.int IntKind.i64))))) (0:Int)=some d0 from rfl,ja,ja]
  rw [show ((d.getD 0 d0).1,(d.getD 0 d0).2)=d.getD 0 d0 from rfl]
  refine VR r1 ?_
  rw [Vn q1,ja]
 unfold W.jr W.jP
 rw [c1,ja]
 simp only
 rw [y1,ja]
 rcases y2 with ⟨i,rfl,hl⟩ | ⟨i,rfl,hl⟩
 ·rw [decide_eq_false (fun h=>hl (hz.1 h)),Bool.not_false,br_tt]
  obtain ⟨g,o1,o2⟩:=one_ff
  obtain ⟨t,t1,t2,_⟩:=ftext_ff o2 (by decide)
  refine ⟨_,_,_,t,rfl,?_,t1,t2⟩
  rw [o1,ja]
 ·rw [decide_eq_true (hz.2 hl),Bool.not_true,br_ff]
  obtain ⟨o,o1,o2,o3⟩:=of_ok (n:=1) (by decide)
  obtain ⟨p,p1,p2⟩:=down_ok (single_reps o2) (single_bd (L:=1) (by decide)) (-(e:Int)) (by omega)
  have hdn:dn 1 (-(e:Int))=2^e:=by
   unfold dn
   by_cases h0:e=0
   ·subst h0;simp
   ·rw [if_neg (by omega),show (- -(e:Int)).toNat=e by omega,Int.one_mul]
  have hp0:Rep 4294967296 (p.getD 0 d0) (2^e):=by
   have:=p2.at_ 0 (by decide)
   simp only [Uk,if_true] at this
   rwa [hdn] at this
  obtain ⟨z,z1,z2,z3⟩:=zpow2_ok e (by omega)
  have hpos:(0:Int)<2^e:=Int.pow_pos (by decide)
  obtain ⟨x,g,l1,l2,l3⟩:=lowest_ff (L:=10001) hc0 hp0 hd0 z2 (by have:=h1.few (by decide) h5 (i:=0) (by decide);omega) (by have:=hp0.few (by decide);omega) (by have:=g1'.few (by decide) h5 (i:=0) (by decide);omega) (by omega) (by omega) (by omega)
  obtain ⟨t,t1,t2,_⟩:=ftext_ff l3 (by decide)
  refine ⟨x,g,true,t,?_,?_,t1,t2⟩
  ·simp only [sel]
   rw [o1,ja,jD (by simp),ja,jg (by omega),show (0:Int)-(e:Int)=-(e:Int) by omega,show W.jG (-(e:Int)) (List.set (List.replicate (8:Nat) (false,([]:List (Ty.den (Ty.int IntKind.u32))))) (0:Nat) o)=_ from p1,ja,show idx c (0:Int)=_ from h1.idx (i:=0) (by decide),ja,show inR (List.length p) (0:Int)=some () from inR_at (i:=0) (by rw [p2.len];decide),ja,show idx p (0:Int)=_ from p2.idx (i:=0) (by decide),ja]
   unfold W.whole_Over W.jr.c10
   rw [show ((((p.getD 0 d0).1,(p.getD 0 d0).2)):Dg)=p.getD 0 d0 from rfl,VM hp0,ja,JG (by simp [sgn];omega),show ((((c.getD 0 d0).1,(c.getD 0 d0).2)):Dg)=c.getD 0 d0 from rfl,l1]
   rfl
  ·unfold W.jP.c3
   rw [show idx (d,(e:Int)).1 (0:Int)=_ from g1'.idx (i:=0) (by decide),ja,z1,ja,fover_of l2,ja,ja]
end Go.Ql
end

section
set_option maxRecDepth 100000
set_option maxHeartbeats 2000000
namespace Go.Ql
theorem reads_law (text:List UInt8) (k:Int) (hL:text.length≤1048576) (hk:-9223372036854775808≤k∧k≤9223372036854775807):W.jw text k=some true:=by
 obtain ⟨a,b,f,K0,L,E,p1,p2,na,nb,hl,he,hf⟩:=parse_both hL
 obtain ⟨t,t1,t2⟩:=same_text na nb rfl (by omega) (by omega)
 obtain ⟨x,g,is,q,r1,r2,r3,r4⟩:=rational_same na nb ⟨hl,he⟩
 obtain ⟨z,z1,z2⟩:=zero_same na nb
 obtain ⟨v,v1,v2⟩:=even_same na nb hl
 obtain ⟨x1,y1,s1,a1,a2,a3,a4⟩:=turn_texts na nb ⟨hl,he⟩ k hk
 obtain ⟨x2,y2,s2,b1,b2,b3,b4⟩:=half_texts na nb ⟨hl,he⟩
 obtain ⟨x3,y3,s3,c1,c2,c3,c4⟩:=root_texts k hk
 obtain ⟨n,d1,d2⟩:∃n,W.jZ a=some n∧W.Jh b=some n:=by
  obtain ⟨u,e,u1,u2,u3,u4,u5,u6⟩:=na.has
  obtain ⟨w,m,w1,w2⟩:∃w m,KCan w m∧kv w m=kv (r2v u) e:=by
   obtain ⟨t,_,t2⟩:=Vk na (by omega) 2 (by decide)
   obtain ⟨q,_,q2⟩:=Vk na (by omega) 6 (by decide)
   obtain ⟨y,_,s2⟩:=nsub_t t2 q2 (by omega)
   obtain ⟨w,m,_,_,w3,w4,_⟩:=s2.has
   refine ⟨w,m,w3,?_⟩
   rw [w4,←u4]
   exact kv_r2 u e
  rw [←u4] at na nb
  exact ⟨_,depth_ours na u3 w1 w2 ⟨hl,he⟩ (by omega),depth_ref nb u3 u5 w1 w2 ⟨hl,he⟩ (by omega)⟩
 have ht:f.1=0→t=text:=by
  intro h0
  obtain ⟨t',t3,t4⟩:=ntext_ok na (by omega) (by omega)
  rw [t1] at t3
  cases t3
  exact t4.one (hf h0)
 have e3:W.jw.c3 text [a] f.1 f.2 [b] f.1 f.2 some=some false:=by
  unfold W.jw.c3
  rw [begun_ring,ja,Bool.not_true,br_ff]
  rw [show Ql.Ty.eqT (.pair (.int .i64) (.int .i64)) (f.1,f.2) (f.1,f.2)=true by simp [Ql.Ty.eqT],Bool.not_true,br_ff]
  simp only [bx_at,ja,t1,t2,beq_self_eq_true,Bool.not_true,br_ff]
  by_cases h0:f.1=0
  ·rw [JT (by simp [h0]),ht h0];simp
  ·rw [JG (by simp [h0])]
 unfold W.jw
 rw [p1,ja,p2,ja]
 simp only
 rw [e3,ja,br_ff,r1,ja,r2,ja]
 unfold W.jw.c7 W.jw.c9
 simp only [bx_at,ja,r3,r4,z1,z2,v1,v2,d1,d2,a1,a2,a3,a4,b1,b2,b3,b4,c1,c2,c3,c4,beq_self_eq_true,bne_self_eq_false,Bool.not_true,br_ff,br_tt]
end Go.Ql
end

section
namespace Go.Ql
theorem reads_wf:∀x:dens [.str,.int .i64],WfNL 1048576 [.str,.int .i64] x→W.jw.ce.F x=some true:=by
 intro x ⟨h1,h2⟩
 have h:(Lit.int .i64 x.2).wf=true:=h2
 simp only [Lit.wf,Bool.and_eq_true,decide_eq_true_eq] at h
 exact reads_law x.1 x.2 h1.1 ⟨h.1,h.2⟩
end Go.Ql
end
