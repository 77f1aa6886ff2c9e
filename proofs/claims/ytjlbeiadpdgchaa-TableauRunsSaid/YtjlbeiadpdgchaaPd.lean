/- The reference's numbers, gates and runs. -/
import Derived.Test.YtjlbeiadpdgchaaWc
import Derived.Test.YtjlbeiadpdgchaaPc
import Derived.Test.YtjlbeiadpdgchaaPa
import Derived.Lib.Join
import Derived.Lib.ItoaNum
set_option linter.all false
section
section
section
namespace Go.Ql
structure Rep (B:Int) (x:Bool×List Int) (v:Int):Prop where
 dig:Dig B x.2
 last:x.2≠[]→x.2.getD (x.2.length - 1) 0≠0
 neg:x.1=true→x.2≠[]
 val:v=if x.1 then - val B x.2 else val B x.2
theorem Yw (B:Int) {l:List Int} {n:Nat} (h:l.length≤n):val B (l.take n)=val B l:=by rw [List.take_of_length_le h]
theorem VY {B:Int} (neg:Bool) (mag:List Int) (h:Dig B mag) (hl:mag.length < 1000000000000) :
 ∃ r,W.Jq neg mag=some r∧Rep B r (if neg then - val B mag else val B mag)∧r.2.length≤mag.length:=by
 obtain ⟨n,h1,k,rfl,hk,hv,hz⟩:=Ye (f:=fun s↦W.Jq.c100002 mag s Option.some)
  (J:=fun n:Int => ∃ k:Nat,n=k∧k≤mag.length∧val B (mag.take k)=val B mag)
  (Q:=fun n:Int => ∃ k:Nat,n=k∧k≤mag.length∧val B (mag.take k)=val B mag∧(k≠0→mag.getD (k - 1) 0≠0))
  Int.toNat (fun s ⟨k,hs,hk,hv⟩=>by
   subst hs
   simp only [W.Jq.c100002,W.Jq.c2]
   by_cases h0:k=0
   ·subst h0
    exact Or.inl ⟨_,by simp [br_ff,je],0,rfl,hk,hv,fun h=>absurd rfl h⟩
   ·have hw:IntKind.i64.wrap ((k:Int) - 1)=((k - 1:Nat):Int):=by rw [js (by omega)];omega
    have e1:=kA (xs:=mag) (k - 1) hw (by omega)
    rw [e1,hw]
    simp only [je,decide_eq_true (by omega:(k:Int) > 0),br_tt]
    by_cases hz:mag.getD (k - 1) 0=0
    ·refine Or.inr ⟨_,by rw [hz];rfl,⟨k - 1,rfl,by omega,?_⟩,by omega⟩
     have:=kr B (k - 1) mag
     rw [hz,show k - 1+1=k by omega,Int.mul_zero] at this
     omega
    ·exact Or.inl ⟨_,by rw [beq_false_of_ne hz];rfl,k,rfl,hk,hv,fun _=>hz⟩)
  (s:=(mag.length:Int)) ⟨mag.length,rfl,Nat.le_refl _,Yw B (Nat.le_refl _)⟩
 unfold W.Jq
 rw [h1]
 simp only [je]
 by_cases h0:k=0
 ·subst h0
  refine ⟨(false,[]),by simp [br_tt],⟨Dig.nil,by simp,by simp,?_⟩,by simp⟩
  simp only [List.take_zero,val] at hv
  rw [← hv];simp [val]
 ·refine ⟨(neg,mag.take k),?_,⟨h.take k,fun _ => ?_,fun _ e => ?_,?_⟩,by simp only [List.length_take];omega⟩
  ·have:((k:Int) == 0)=false:=beq_false_of_ne (by omega)
   simp only [this,br_ff]
   rw [Jf (by simp;omega)]
   rfl
  ·have hlen:(mag.take k).length=k:=by rw [List.length_take];omega
   have:=hz h0
   rw [hlen]
   simp only [List.getD,List.getElem?_take] at this ⊢
   rw [if_pos (by omega)]
   exact this
  ·have:(mag.take k).length=0:=congrArg List.length e
   rw [List.length_take] at this
   omega
  ·simp only [hv]
end Go.Ql
end
section
namespace Go.Ql
end Go.Ql
end
section
namespace Go.Ql
theorem VG {x d:Int} (h:0≤x):Int.tdiv x d=x / d:=Int.tdiv_eq_ediv_of_nonneg h
theorem Vq {x d:Int} (h:0≤x):Int.tmod x d=x % d:=Int.tmod_eq_emod_of_nonneg h
theorem Vm {l:List Int} {i:Nat} (h:l.length≤i):l.getD i 0=0:=by rw [List.getD,List.getElem?_eq_none h];rfl
theorem dadd_ok (a b:List Int) (ha:Dig 10000 a) (hb:Dig 10000 b) (la:a.length < 1000000000) (lb:b.length < 1000000000) :
 ∃ t,W.Je a b=some t∧Dig 10000 t∧t.length≤a.length+b.length+1∧val 10000 t=val 10000 a+val 10000 b:=by
 obtain ⟨⟨c,i,t⟩,h1,hd,hl,hv⟩:=Ye
  (f:=fun s:Int×Int×List Int↦W.Je.c100004 a b (Prod.fst s) (Prod.fst (Prod.snd s)) (Prod.snd (Prod.snd s)) Option.some)
  (J:=fun s=>(0≤s.1∧s.1≤1)∧s.2.1=s.2.2.length∧Dig 10000 s.2.2∧s.2.2.length≤max a.length b.length+1∧(s.2.2.length=max a.length b.length+1→s.1=0)∧val 10000 s.2.2+s.1*10000 ^ s.2.2.length=val 10000 (a.take s.2.2.length)+val 10000 (b.take s.2.2.length))
  (Q:=fun s=>Dig 10000 s.2.2∧s.2.2.length≤a.length+b.length+1∧val 10000 s.2.2=val 10000 a+val 10000 b)
  (fun s=>2*(max a.length b.length+1 - s.2.2.length)+s.1.toNat) (fun ⟨c,i',t⟩ ⟨hc,hi,hd,hl,hl0,hv⟩=>by
   simp only at hc hi hd hl hl0 hv ⊢
   subst hi
   simp only [W.Je.c100004]
   have e4:W.Je.c4 a b c (t.length:Int) Option.some=some (decide (t.length < a.length∨t.length < b.length∨0 < c)):=by
    unfold W.Je.c4
    by_cases h1:t.length < a.length
    ·rw [jY (by omega)];simp [h1]
    ·rw [jP (by omega)]
     by_cases h2:t.length < b.length
     ·rw [jY (by omega)];simp [h2]
     ·rw [jP (by omega)];simp [h1,h2]
   rw [e4,je]
   have dx:=ha.getD (by decide) t.length
   have dy:=hb.getD (by decide) t.length
   have e5:W.Je.c224581 a c (t.length:Int) Option.some=some (c+a.getD t.length 0):=by
    unfold W.Je.c224581
    by_cases h1:t.length < a.length
    ·rw [jY (by omega),kA t.length rfl h1,je,js (by omega)]
    ·rw [jP (by omega),Vm (by omega)];simp
   have e6:W.Je.c232773 b (c+a.getD t.length 0) (t.length:Int) Option.some=some (c+a.getD t.length 0+b.getD t.length 0):=by
    unfold W.Je.c232773
    by_cases h1:t.length < b.length
    ·rw [jY (by omega),kA t.length rfl h1,je,js (by omega)]
    ·rw [jP (by omega),Vm (l:=b) (by omega)];simp
   by_cases h0:t.length < a.length∨t.length < b.length∨0 < c
   ·rw [jY h0]
    refine Or.inr ⟨(_,_,_),by rw [e5,je,e6,je,Jf (by simp;omega),je,Vq (by omega),VG (by omega),js (by omega)],⟨?_,?_,?_,?_,?_,?_⟩,?_⟩
    ·simp only;omega
    ·simp only [List.length_append,List.length_singleton];rw [js (by omega)];omega
    ·exact hd.append (Dig.cons (by omega) Dig.nil)
    ·simp only [List.length_append,List.length_singleton];omega
    ·simp only [List.length_append,List.length_singleton]
     intro h2
     have h3:a.getD t.length 0=0:=Vm (by omega)
     have h4:b.getD t.length 0=0:=Vm (by omega)
     rw [h3,h4];omega
    ·have v1:=kr 10000 t.length a
     have v2:=kr 10000 t.length b
     have v3:=val_snoc 10000 t ((c+a.getD t.length 0+b.getD t.length 0) % 10000)
     have v5:c+a.getD t.length 0+b.getD t.length 0=(c+a.getD t.length 0+b.getD t.length 0) % 10000+10000*((c+a.getD t.length 0+b.getD t.length 0) / 10000):=(Int.emod_add_mul_ediv _ _).symm
     simp only [List.length_append,List.length_singleton,Int.pow_succ]
     rw [v1,v2,v3]
     generalize (10000:Int) ^ t.length=P at *
     generalize (c+a.getD t.length 0+b.getD t.length 0) % 10000=r at *
     generalize (c+a.getD t.length 0+b.getD t.length 0) / 10000=q at *
     generalize a.getD t.length 0=x at *
     generalize b.getD t.length 0=y at *
     grind
    ·simp only [List.length_append,List.length_singleton]
     by_cases h2:t.length < max a.length b.length
     ·omega
     ·have h3:a.getD t.length 0=0:=Vm (by omega)
      have h4:b.getD t.length 0=0:=Vm (by omega)
      rw [h3,h4];omega
   ·rw [jP h0]
    refine Or.inl ⟨(_,_,_),rfl,hd,by simp only;omega,?_⟩
    have hc0:c=0:=by omega
    subst hc0
    rw [Yw _ (by omega),Yw _ (by omega)] at hv
    simp only
    omega)
  (s:=((0:Int),(0:Int),[])) ⟨by simp,rfl,Dig.nil,by simp,by simp,by simp [val]⟩
 unfold W.Je
 rw [h1]
 exact ⟨t,rfl,hd,hl,hv⟩
theorem dsub_ok (a b:List Int) (ha:Dig 10000 a) (hb:Dig 10000 b) (la:a.length < 1000000000) (lb:b.length≤a.length) (hab:val 10000 b≤val 10000 a) :
 ∃ t,W.Ju a b=some t∧Dig 10000 t∧t.length=a.length∧val 10000 t=val 10000 a - val 10000 b:=by
 obtain ⟨⟨c,i,t⟩,h1,hc,hd,hl,hv⟩:=Ye
  (f:=fun s:Int×Int×List Int↦W.Ju.c100004 a b (Prod.fst s) (Prod.fst (Prod.snd s)) (Prod.snd (Prod.snd s)) Option.some)
  (J:=fun s=>(0≤s.1∧s.1≤1)∧s.2.1=s.2.2.length∧Dig 10000 s.2.2∧s.2.2.length≤a.length∧val 10000 s.2.2=val 10000 (a.take s.2.2.length) - val 10000 (b.take s.2.2.length)+s.1*10000 ^ s.2.2.length)
  (Q:=fun s=>(0≤s.1∧s.1≤1)∧Dig 10000 s.2.2∧s.2.2.length=a.length∧val 10000 s.2.2=val 10000 a - val 10000 b+s.1*10000 ^ a.length)
  (fun s=>a.length - s.2.2.length) (fun ⟨c,i',t⟩ ⟨hc,hi,hd,hl,hv⟩=>by
   simp only at hc hi hd hl hv ⊢
   subst hi
   simp only [W.Ju.c100004]
   have dx:=ha.getD (by decide) t.length
   have dy:=hb.getD (by decide) t.length
   by_cases h0:t.length < a.length
   ·have e5:W.Ju.c228677 b (t.length:Int) (a.getD t.length 0 - c) Option.some=some (a.getD t.length 0 - c - b.getD t.length 0):=by
     unfold W.Ju.c228677
     by_cases h1:t.length < b.length
     ·rw [jY (by omega),kA t.length rfl h1,je,js (by omega)]
     ·rw [jP (by omega),Vm (l:=b) (by omega)];simp
    have e6:W.Ju.c240967 0 (a.getD t.length 0 - c - b.getD t.length 0) Option.some=some (-((a.getD t.length 0 - c - b.getD t.length 0) / 10000),(a.getD t.length 0 - c - b.getD t.length 0) % 10000):=by
     unfold W.Ju.c240967
     by_cases h1:a.getD t.length 0 - c - b.getD t.length 0 < 0
     ·rw [jY h1,js (by omega)]
      congr 1
      ext <;> simp only <;> omega
     ·rw [jP h1]
      congr 1
      ext <;> simp only <;> omega
    rw [jY (by omega)]
    refine Or.inr ⟨(_,_,_),by rw [kA t.length rfl h0,je,js (x:=a.getD t.length 0 - c) (by omega),e5,je,e6,je,Jf (by simp;omega),je],⟨?_,?_,?_,?_,?_⟩,?_⟩
    ·simp only;omega
    ·simp only [List.length_append,List.length_singleton];rw [js (by omega)];omega
    ·exact hd.append (Dig.cons (by simp only;omega) Dig.nil)
    ·simp only [List.length_append,List.length_singleton];omega
    ·have v1:=kr 10000 t.length a
     have v2:=kr 10000 t.length b
     have v3:=val_snoc 10000 t ((a.getD t.length 0 - c - b.getD t.length 0) % 10000)
     have v5:a.getD t.length 0 - c - b.getD t.length 0=(a.getD t.length 0 - c - b.getD t.length 0) % 10000+10000*((a.getD t.length 0 - c - b.getD t.length 0) / 10000):=(Int.emod_add_mul_ediv _ _).symm
     simp only [List.length_append,List.length_singleton,Int.pow_succ]
     rw [v1,v2,v3]
     generalize (10000:Int) ^ t.length=P at *
     generalize (a.getD t.length 0 - c - b.getD t.length 0) % 10000=r at *
     generalize (a.getD t.length 0 - c - b.getD t.length 0) / 10000=q at *
     generalize a.getD t.length 0=x at *
     generalize b.getD t.length 0=y at *
     grind
    ·simp only [List.length_append,List.length_singleton];omega
   ·rw [jP (by omega)]
    have hl':t.length=a.length:=by omega
    rw [hl',Yw _ (Nat.le_refl _),Yw _ lb] at hv
    exact Or.inl ⟨(_,_,_),rfl,hc,hd,hl',hv⟩)
  (s:=((0:Int),(0:Int),[])) ⟨by simp,rfl,Dig.nil,by simp,by simp [val]⟩
 unfold W.Ju
 rw [h1]
 simp only at hc hd hl hv
 have h2:=val_lt (by decide) hd
 rw [hl] at h2
 have hc0:c=0:=by
  rcases (by omega:c=0∨c=1) with h | h
  ·exact h
  ·subst h;omega
 subst hc0
 exact ⟨t,rfl,hd,hl,by omega⟩
end Go.Ql
end
section
namespace Go.Ql
end Go.Ql
end
section
namespace Go.Ql
def Trim (l:List Int):Prop:=l≠[]→l.getD (l.length - 1) 0≠0
theorem val_ge {B:Int} (hB:1 < B) {l:List Int} (h:Dig B l) (ht:Trim l) (hn:l≠[]):B ^ (l.length - 1)≤val B l:=by
 have h0:l.length≠0:=fun e=>hn (List.eq_nil_of_length_eq_zero e)
 have h1:=kr B (l.length - 1) l
 rw [show l.length - 1+1=l.length by omega,List.take_length] at h1
 have h2:=h.getD (by omega) (l.length - 1)
 have h3:=ht hn
 have h4:=YY (by omega) (h.take (l.length - 1))
 have h5:B ^ (l.length - 1)*1≤B ^ (l.length - 1)*l.getD (l.length - 1) 0:=Int.mul_le_mul_of_nonneg_left (by omega) (Int.le_of_lt (Int.pow_pos (by omega)))
 omega
theorem Hj {B:Int} (hB:1 < B) {m n:Nat} (h:m≤n):B ^ m≤B ^ n:=by
 induction n with
 | zero=>rw [show m=0 by omega];exact Int.le_refl _
 | succ n ih=>
   by_cases e:m=n+1
   ·rw [e];exact Int.le_refl _
   ·have h1:=ih (by omega)
    have h2:0 < B ^ n:=Int.pow_pos (by omega)
    rw [Int.pow_succ]
    have h3:B ^ n*1≤B ^ n*B:=Int.mul_le_mul_of_nonneg_left (by omega) (by omega)
    omega
theorem val_lt_of_len {B:Int} (hB:1 < B) {a b:List Int} (ha:Dig B a) (hb:Dig B b) (tb:Trim b) (h:a.length < b.length):val B a < val B b:=by
 have h1:=val_lt (by omega) ha
 have h2:=val_ge hB hb tb (by intro e;rw [e] at h;simp at h)
 have h3:=Hj hB (show a.length≤b.length - 1 by omega)
 omega
theorem len_le {B:Int} (hB:1 < B) {a b:List Int} (ha:Dig B a) (hb:Dig B b) (tb:Trim b) (h:val B b≤val B a):b.length≤a.length:=by
 by_cases h1:b.length≤a.length
 ·exact h1
 ·have:=val_lt_of_len hB ha hb tb (by omega);omega
theorem top_lt {B:Int} (hB:1 < B) {a b:List Int} (ha:Dig B a) (hb:Dig B b) (k:Nat) (h:a.getD k 0 < b.getD k 0):val B (a.take (k+1)) < val B (b.take (k+1)):=by
 have h1:=kr B k a
 have h2:=kr B k b
 have h3:=val_lt (by omega) (ha.take k)
 have h4:=YY (by omega) (hb.take k)
 have h5:=Hj hB (show (a.take k).length≤k by rw [List.length_take];omega)
 have h6:B ^ k*(a.getD k 0+1)≤B ^ k*b.getD k 0:=Int.mul_le_mul_of_nonneg_left (by omega) (Int.le_of_lt (Int.pow_pos (by omega)))
 rw [Int.mul_add] at h6
 omega
def Ordered (x y c:Int):Prop:=(c = -1∧x < y)∨(c=0∧x=y)∨(c=1∧y < x)
theorem dcmp_ok (a b:List Int) (ha:Dig 10000 a) (hb:Dig 10000 b) (ta:Trim a) (tb:Trim b) (la:a.length < 1000000000) (lb:b.length < 1000000000) :
 ∃ c,W.Jt a b=some c∧Ordered (val 10000 a) (val 10000 b) c:=by
 unfold W.Jt
 by_cases h1:a.length < b.length
 ·rw [jN (bne_iff_ne.2 (by omega)),jY (by omega)]
  exact ⟨_,rfl,Or.inl ⟨rfl,val_lt_of_len (by decide) ha hb tb h1⟩⟩
 by_cases h2:b.length < a.length
 ·rw [jN (bne_iff_ne.2 (by omega)),jP (by omega)]
  exact ⟨_,rfl,Or.inr (Or.inr ⟨rfl,val_lt_of_len (by decide) hb ha ta h2⟩)⟩
 have hl:a.length=b.length:=by omega
 obtain ⟨r,h3,h4⟩:=Ye (f:=fun s:Int↦W.Jt.c100006 a b s Option.some)
  (J:=fun i => ∃ k:Nat,i=(k:Int) - 1∧k≤a.length∧val 10000 a - val 10000 b=val 10000 (a.take k) - val 10000 (b.take k))
  (Q:=fun r=>Ordered (val 10000 a) (val 10000 b) (match r with | .inl u=>u.1 | .inr _=>0))
  (fun i=>(i+1).toNat) (fun i ⟨k,hi,hk,hv⟩=>by
   subst hi
   simp only [W.Jt.c100006]
   by_cases h0:k=0
   ·subst h0
    rw [jP (by omega)]
    refine Or.inl ⟨_,rfl,Or.inr (Or.inl ⟨rfl,?_⟩)⟩
    simp [val] at hv
    omega
   ·rw [jY (by omega)]
    have hk1:k - 1+1=k:=by omega
    have e8:W.Jt.c8 a b ((k:Int) - 1) Option.some=some (decide (a.getD (k - 1) 0 < b.getD (k - 1) 0)):=by
     unfold W.Jt.c8
     rw [kA (k - 1) (by omega) (by omega),je,kA (k - 1) (by omega) (by omega),je]
    have e10:W.Jt.c10 a b ((k:Int) - 1) Option.some=some (decide (b.getD (k - 1) 0 < a.getD (k - 1) 0)):=by
     unfold W.Jt.c10
     rw [kA (k - 1) (by omega) (by omega),je,kA (k - 1) (by omega) (by omega),je]
    rw [e8,je]
    by_cases h5:a.getD (k - 1) 0 < b.getD (k - 1) 0
    ·have h6:=top_lt (by decide) ha hb (k - 1) h5
     rw [hk1] at h6
     rw [jY h5]
     exact Or.inl ⟨_,rfl,Or.inl ⟨rfl,by omega⟩⟩
    ·rw [jP h5,e10,je]
     by_cases h7:b.getD (k - 1) 0 < a.getD (k - 1) 0
     ·have h6:=top_lt (by decide) hb ha (k - 1) h7
      rw [hk1] at h6
      rw [jY h7]
      exact Or.inl ⟨_,rfl,Or.inr (Or.inr ⟨rfl,by omega⟩)⟩
     ·rw [jP h7,js (by omega)]
      refine Or.inr ⟨(k:Int) - 1 - 1,rfl,⟨k - 1,by omega,by omega,?_⟩,by omega⟩
      have v1:=kr 10000 (k - 1) a
      have v2:=kr 10000 (k - 1) b
      have v3:a.getD (k - 1) 0=b.getD (k - 1) 0:=by omega
      rw [hk1] at v1 v2
      rw [v3] at v1
      omega)
  (s:=(a.length:Int) - 1) ⟨a.length,rfl,Nat.le_refl _,by rw [Yw _ (Nat.le_refl _),Yw _ (by omega)]⟩
 rw [jq (by simp [hl]),js (by omega),h3,je]
 refine ⟨_,?_,h4⟩
 cases r <;> rfl
end Go.Ql
end
section
namespace Go.Ql
theorem zadd_ok {a b:Bool×List Int} {u v:Int} (ha:Rep 10000 a u) (hb:Rep 10000 b v) (la:a.2.length < 100000000) (lb:b.2.length < 100000000) :
 ∃ r,W.Jr a b=some r∧Rep 10000 r (u+v)∧r.2.length≤a.2.length+b.2.length+1:=by
 obtain ⟨a0,a1⟩:=a
 obtain ⟨b0,b1⟩:=b
 simp only at la lb
 have va:=ha.val
 have vb:=hb.val
 simp only at va vb
 unfold W.Jr
 by_cases za:a1=[]
 ·subst za
  refine ⟨(b0,b1),rfl,?_,by simp only;omega⟩
  have:u=0:=by rw [va];simp [val]
  rw [this,Int.zero_add]
  exact hb
 have za':a1.length≠0:=fun e=>za (List.eq_nil_of_length_eq_zero e)
 rw [jq (beq_false_of_ne (by show ((a1.length:Nat):Int)≠0;omega))]
 by_cases zb:b1=[]
 ·subst zb
  refine ⟨(a0,a1),rfl,?_,by simp only;omega⟩
  have:v=0:=by rw [vb];simp [val]
  rw [this,Int.add_zero]
  exact ha
 have zb':b1.length≠0:=fun e=>zb (List.eq_nil_of_length_eq_zero e)
 rw [jq (beq_false_of_ne (by show ((b1.length:Nat):Int)≠0;omega))]
 by_cases h0:a0=b0
 ·subst h0
  obtain ⟨t,h1,h2,h3,h4⟩:=dadd_ok a1 b1 ha.dig hb.dig (by omega) (by omega)
  obtain ⟨r,h5,h6,h7⟩:=VY a0 t h2 (by omega)
  refine ⟨r,?_,?_,by show r.2.length≤a1.length+b1.length+1;omega⟩
  ·rw [jN (beq_self_eq_true a0)]
   unfold W.Jr.c6
   rw [h1,je,h5];rfl
  ·have:u+v=if a0=true then -val 10000 t else val 10000 t:=by rw [va,vb,h4];split <;> omega
   rw [this];exact h6
 ·have hb0:b0 = !a0:=by cases a0 <;> cases b0 <;> simp_all
  rw [jq (beq_false_of_ne h0)]
  obtain ⟨c,h1,h2⟩:=dcmp_ok a1 b1 ha.dig hb.dig ha.last hb.last (by omega) (by omega)
  rw [h1,je]
  by_cases hc:c≥0
  ·have hle:val 10000 b1≤val 10000 a1:=by rcases h2 with h | h | h <;> omega
   obtain ⟨t,h3,h4,h5,h6⟩:=dsub_ok a1 b1 ha.dig hb.dig (by omega) (len_le (by decide) ha.dig hb.dig hb.last hle) hle
   obtain ⟨r,h7,h8,h9⟩:=VY a0 t h4 (by omega)
   refine ⟨r,?_,?_,by show r.2.length≤a1.length+b1.length+1;omega⟩
   ·rw [jY hc]
    unfold W.Jr.c8
    rw [h3,je,h7];rfl
   ·have:u+v=if a0=true then -val 10000 t else val 10000 t:=by rw [va,vb,h6,hb0];cases a0 <;> simp <;> omega
    rw [this];exact h8
  ·have hle:val 10000 a1≤val 10000 b1:=by rcases h2 with h | h | h <;> omega
   obtain ⟨t,h3,h4,h5,h6⟩:=dsub_ok b1 a1 hb.dig ha.dig (by omega) (len_le (by decide) hb.dig ha.dig ha.last hle) hle
   obtain ⟨r,h7,h8,h9⟩:=VY b0 t h4 (by omega)
   refine ⟨r,?_,?_,by show r.2.length≤a1.length+b1.length+1;omega⟩
   ·rw [jP hc]
    unfold W.Jr.c9
    rw [h3,je,h7];rfl
   ·have:u+v=if b0=true then -val 10000 t else val 10000 t:=by rw [va,vb,h6,hb0];cases a0 <;> simp <;> omega
    rw [this];exact h8
theorem zneg_ok {a:Bool×List Int} {u:Int} (ha:Rep 10000 a u) (la:a.2.length < 100000000) :
 ∃ r,W.kI a=some r∧Rep 10000 r (-u)∧r.2.length≤a.2.length:=by
 obtain ⟨r,h1,h2,h3⟩:=VY (!a.1) a.2 ha.dig (by omega)
 refine ⟨r,by unfold W.kI;rw [h1];rfl,?_,h3⟩
 have : -u=if (!a.1)=true then -val 10000 a.2 else val 10000 a.2:=by rw [ha.val];cases a.1 <;> simp
 rw [this];exact h2
def qsgn (v:Int):Int:=if v < 0 then -1 else if v=0 then 0 else 1
theorem Rep.pos {B:Int} (hB:1 < B) {x:Bool×List Int} {v:Int} (h:Rep B x v) (hn:x.2≠[]):0 < Ql.val B x.2:=by
 have h1:=val_ge hB h.dig h.last hn
 have h2:0 < B ^ (x.2.length - 1):=Int.pow_pos (by omega)
 omega
theorem Rep.sgn {B:Int} (hB:1 < B) {x:Bool×List Int} {v:Int} (h:Rep B x v) :
 qsgn v=if x.2.length=0 then 0 else if x.1 then -1 else 1:=by
 by_cases hn:x.2=[]
 ·have h1:=h.val
  rw [hn] at h1 ⊢
  have:v=0:=by rw [h1];simp [Ql.val]
  simp [this,Ql.qsgn]
 ·have h1:=h.pos hB hn
  have h2:x.2.length≠0:=fun e=>hn (List.eq_nil_of_length_eq_zero e)
  have h3:=h.val
  rw [if_neg h2]
  unfold Ql.qsgn
  cases hx:x.1 <;> simp only [hx,Bool.false_eq_true,if_false,if_true] at h3 ⊢ <;> split <;> (try split) <;> omega
end Go.Ql
end
section
namespace Go.Ql
theorem mul_le {a b A:Int} (h0:0≤a) (h1:a≤A) (k0:0≤b) (k1:b≤A):0≤a*b∧a*b≤A*A:=
 ⟨Int.mul_nonneg h0 k0,Int.le_trans (Int.mul_le_mul_of_nonneg_right h1 k0) (Int.mul_le_mul_of_nonneg_left k1 (by omega))⟩
end Go.Ql
end
section
namespace Go.Ql
theorem zmul_in (i:Nat) (a b t0:List Int) (ha:Dig 10000 a) (hb:Dig 10000 b) (hi:i < a.length) (h0:Dig 10000 t0) (hl:i+b.length+1 < t0.length) (hL:t0.length < 1000000000) (hz : ∀ k,i+b.length≤k→t0.getD k 0=0) :
 ∃ r,Go.Ql.iter (fun s:Int×Int×List Int↦W.jQ.c100007 (i:Int) (Prod.fst s) (Prod.fst (Prod.snd s)) a b (Prod.snd (Prod.snd s)) Option.some) ((0:Int),(0:Int),t0)=some r ∧
  r.2.2.length=t0.length∧Dig 10000 r.2.2∧(∀ k,i+b.length+1≤k→r.2.2.getD k 0=0)∧val 10000 r.2.2=val 10000 t0+10000 ^ i*a.getD i 0*val 10000 b:=
 Ye
  (f:=fun s:Int×Int×List Int↦W.jQ.c100007 (i:Int) (Prod.fst s) (Prod.fst (Prod.snd s)) a b (Prod.snd (Prod.snd s)) Option.some)
  (J:=fun s=>(0≤s.1∧s.1 < 10000) ∧ ∃ j:Nat,s.2.1=j∧j≤b.length+1∧(j=b.length+1→s.1=0)∧s.2.2.length=t0.length∧Dig 10000 s.2.2∧(∀ k,i+b.length≤k→i+j≤k→s.2.2.getD k 0=0)∧val 10000 s.2.2+s.1*10000 ^ (i+j)=val 10000 t0+10000 ^ i*a.getD i 0*val 10000 (b.take j))
  (Q:=fun r=>r.2.2.length=t0.length∧Dig 10000 r.2.2∧(∀ k,i+b.length+1≤k→r.2.2.getD k 0=0)∧val 10000 r.2.2=val 10000 t0+10000 ^ i*a.getD i 0*val 10000 b)
  (fun s=>b.length+2 - s.2.1.toNat) (fun ⟨c,j',t⟩ ⟨hc,j,hj,hjl,hj0,ht,hd,hz,hv⟩=>by
   simp only at hc hj ht hd hz hv hj0 ⊢
   subst hj
   simp only [W.jQ.c100007]
   have dx:=ha.getD (by decide) i
   have dy:=hb.getD (by decide) j
   have dt:=hd.getD (by decide) (i+j)
   have hxy:=mul_le (A:=9999) dx.1 (by omega) dy.1 (by omega)
   have e7:W.jQ.c7 c (j:Int) b Option.some=some (decide (j < b.length∨0 < c)):=by
    unfold W.jQ.c7
    by_cases h1:j < b.length
    ·rw [jY (by omega)];simp [h1]
    ·rw [jP (by omega)];simp [h1]
   have e2:W.jQ.c240965 (i:Int) (c+t.getD (i+j) 0) (j:Int) a b Option.some=some (c+t.getD (i+j) 0+a.getD i 0*b.getD j 0):=by
    unfold W.jQ.c240965 W.jQ.c11
    by_cases h1:j < b.length
    ·rw [jY (by omega),kA i rfl hi,je,kA j rfl h1,je,je,js (x:=a.getD i 0*b.getD j 0) (by omega),js (by omega)]
    ·rw [jP (by omega),Vm (l:=b) (by omega)];simp
   rw [e7,je]
   by_cases h0:j < b.length∨0 < c
   ·have hjb:j≤b.length:=by
     rcases h0 with h | h
     ·omega
     ·by_cases e:j=b.length+1
      ·have:=hj0 e;omega
      ·omega
    have hw:IntKind.i64.wrap ((j:Int)+1)=((j+1:Nat):Int):=by rw [js (by omega)];omega
    have hw2:IntKind.i64.wrap ((i:Int)+j)=((i+j:Nat):Int):=by rw [js (by omega)];omega
    rw [jY h0]
    refine Or.inr ⟨(_,_,_),by rw [hw2,HA (by omega) (by omega),je,kA (i+j) rfl (by omega),je,js (x:=c+t.getD (i+j) 0) (by omega),e2,je,je,je,hw,Int.toNat_natCast,VG (by omega),Vq (by omega),js (by omega)],⟨?_,j+1,rfl,by omega,?_,by simpa using ht,?_,?_,?_⟩,by show b.length+2 - ((j+1:Nat):Int).toNat < b.length+2 - (j:Int).toNat;omega⟩
    ·simp only;omega
    ·intro hj1
     have h3:b.getD j 0=0:=Vm (by omega)
     have h4:=hz (i+j) (by omega) (by omega)
     simp only [h3,h4]
     omega
    ·exact hd.set (by omega) _
    ·intro k hk hk2
     simp only
     rw [getD_set (by omega),if_neg (by omega)]
     exact hz k hk (by omega)
    ·have v2:=kr 10000 j b
     have v3:=val_set 10000 ((c+t.getD (i+j) 0+a.getD i 0*b.getD j 0) % 10000) (i+j) t (by omega)
     have v5:c+t.getD (i+j) 0+a.getD i 0*b.getD j 0=(c+t.getD (i+j) 0+a.getD i 0*b.getD j 0) % 10000+10000*((c+t.getD (i+j) 0+a.getD i 0*b.getD j 0) / 10000):=(Int.emod_add_mul_ediv _ _).symm
     simp only [← Nat.add_assoc,Int.pow_succ]
     rw [v2,v3]
     rw [Int.pow_add] at hv ⊢
     generalize (10000:Int) ^ i=P at *
     generalize (10000:Int) ^ j=R at *
     generalize (c+t.getD (i+j) 0+a.getD i 0*b.getD j 0) % 10000=r at *
     generalize (c+t.getD (i+j) 0+a.getD i 0*b.getD j 0) / 10000=q at *
     generalize a.getD i 0=x at *
     generalize b.getD j 0=y at *
     generalize t.getD (i+j) 0=z at *
     grind
   ·rw [jP h0]
    have hc0:c=0:=by omega
    subst hc0
    refine Or.inl ⟨(_,_,_),rfl,ht,hd,fun k hk=>hz k (by omega) (by omega),?_⟩
    rw [Yw _ (by omega)] at hv
    simp only
    omega)
  (s:=((0:Int),(0:Int),t0)) ⟨by simp,0,rfl,by omega,by omega,rfl,h0,fun k hk _=>hz k hk,by simp [val]⟩
theorem zmul_ok {a b:Bool×List Int} {u v:Int} (ha:Rep 10000 a u) (hb:Rep 10000 b v) (la:a.2.length < 100000000) (lb:b.2.length < 100000000) :
 ∃ r,W.jQ a b=some r∧Rep 10000 r (u*v)∧r.2.length≤a.2.length+b.2.length+1:=by
 obtain ⟨⟨i,t⟩,h1,ht,hd,hv⟩:=Ye
  (f:=fun s:Int×List Int↦W.jQ.c100003 (Prod.fst s) a.2 b.2 (Prod.snd s) Option.some)
  (J:=fun s => ∃ i:Nat,s.1=i∧i≤a.2.length∧s.2.length=a.2.length+b.2.length+1∧Dig 10000 s.2∧(∀ k,i+b.2.length≤k→s.2.getD k 0=0)∧val 10000 s.2=val 10000 (a.2.take i)*val 10000 b.2)
  (Q:=fun s=>s.2.length=a.2.length+b.2.length+1∧Dig 10000 s.2∧val 10000 s.2=val 10000 a.2*val 10000 b.2)
  (fun s=>a.2.length - s.1.toNat) (fun ⟨i',t⟩ ⟨i,hi,hil,ht,hd,hz,hv⟩=>by
   simp only at hi ht hd hz hv ⊢
   subst hi
   simp only [W.jQ.c100003]
   by_cases h0:i < a.2.length
   ·obtain ⟨⟨c,j,t'⟩,h2,ht',hd',hz',hv'⟩:=zmul_in i a.2 b.2 t ha.dig hb.dig h0 hd (by omega) (by omega) hz
    simp only at ht' hd' hz' hv'
    have hw:IntKind.i64.wrap ((i:Int)+1)=((i+1:Nat):Int):=by rw [js (by omega)];omega
    refine Or.inr ⟨(_,_),by rw [jY (by omega),h2,je,hw],⟨i+1,rfl,by omega,ht'.trans ht,hd',fun k hk=>hz' k (by omega),?_⟩,by show a.2.length - ((i+1:Nat):Int).toNat < a.2.length - (i:Int).toNat;omega⟩
    have v1:=kr 10000 i a.2
    simp only
    rw [v1,hv',hv]
    grind
   ·have e:i=a.2.length:=by omega
    subst e
    refine Or.inl ⟨(_,_),by rw [jP (by omega)],ht,hd,?_⟩
    rw [List.take_length] at hv
    exact hv)
  (s:=((0:Int),List.replicate (Int.toNat (IntKind.i64.wrap (IntKind.i64.wrap ((a.2.length:Int)+(b.2.length:Int))+1))) (0:Int)))
  ⟨0,rfl,by omega,by rw [js (x:=(a.2.length:Int)+(b.2.length:Int)) (by omega),js (by omega)];simp <;> omega,Dig.replicate (by decide) _,fun j _=>getD_replicate _ _,by simp [val_replicate,val]⟩
 simp only at ht hd hv
 obtain ⟨r,h2,h3,h4⟩:=VY (!(a.1 == b.1)) t hd (by omega)
 refine ⟨r,?_,?_,by omega⟩
 ·unfold W.jQ
  rw [Jf (by rw [js (x:=(a.2.length:Int)+(b.2.length:Int)) (by omega),js (by omega)];simp;try omega),je,h1,je,h2];rfl
 ·have:u*v=if (!(a.1 == b.1))=true then -val 10000 t else val 10000 t:=by
   rw [ha.val,hb.val,hv];cases a.1 <;> cases b.1 <;> simp [Int.neg_mul,Int.mul_neg]
  rw [this];exact h3
end Go.Ql
end
section
namespace Go.Ql
def UR (c:UInt8):Bool:=decide (48≤c.toNat) && decide (c.toNat≤57)
def Canon (text:List UInt8):Prop:=text=[48] ∨ ∃ (neg:Bool) (ds:List UInt8),ds≠[]∧(∀ c∈ds,UR c=true)∧ds.head? ≠ some 48∧text=(if neg then [45] else [])++ds
end Go.Ql
end
section
namespace Go.Ql
def dg (c:UInt8):Int:=(c.toNat:Int) - 48
def qdec (l:List UInt8):Int:=l.foldl (fun n c=>n*10+dg c) 0
theorem dec_from (n:Int) (l:List UInt8):l.foldl (fun n c=>n*10+dg c) n=n*10 ^ l.length+qdec l:=by
 induction l generalizing n with
 | nil=>simp [qdec]
 | cons c l ih=>
   have h1:=ih (n*10+dg c)
   have h2:=ih (0*10+dg c)
   simp only [qdec,List.foldl_cons,List.length_cons,Int.pow_succ] at h1 h2 ⊢
   rw [h1,h2]
   grind
theorem dec_append (l m:List UInt8):qdec (l++m)=qdec l*10 ^ m.length+qdec m:=by
 unfold qdec
 rw [List.foldl_append,dec_from];rfl
theorem dec_snoc (l:List UInt8) (c:UInt8):qdec (l++[c])=qdec l*10+dg c:=by
 rw [dec_append];simp [qdec]
def YR (l:List UInt8):Prop:=∀ c∈l,UR c=true
theorem dg_of {c:UInt8} (h:UR c=true):0≤dg c∧dg c≤9:=by
 simp only [UR,Bool.and_eq_true,decide_eq_true_eq] at h
 unfold dg;omega
theorem Ua : ∀ {l:List UInt8},YR l→0≤qdec l∧qdec l < 10 ^ l.length
 | [],_=>by simp [qdec]
 | c::l,h=>by
   have h1:=Ua (l:=l) (fun x hx=>h x (List.mem_cons_of_mem _ hx))
   have h2:=dg_of (h c (List.mem_cons_self ..))
   have h3:=dec_append [c] l
   have h4:qdec [c]=dg c:=by simp [qdec]
   rw [List.singleton_append,h4] at h3
   have h5:0 < (10:Int) ^ l.length:=Int.pow_pos (by decide)
   have h6:dg c*10 ^ l.length≤9*10 ^ l.length:=Int.mul_le_mul_of_nonneg_right h2.2 (by omega)
   have h7:0≤dg c*10 ^ l.length:=Int.mul_nonneg h2.1 (by omega)
   simp only [List.length_cons,Int.pow_succ]
   omega
end Go.Ql
end
section
namespace Go.Ql
end Go.Ql
end
section
namespace Go.Ql
end Go.Ql
end
section
namespace Go.Ql
end Go.Ql
end
section
namespace Go.Ql
theorem Canon.parts {text:List UInt8} (h:Canon text) : ∃ (neg:Bool) (ds:List UInt8),ds≠[]∧YR ds∧text=(if neg then [45] else [])++ds:=by
 rcases h with rfl | ⟨neg,ds,h1,h2,_,h4⟩
 ·exact ⟨false,[48],by simp,fun c hc=>by simp at hc;subst hc;rfl,rfl⟩
 ·exact ⟨neg,ds,h1,h2,h4⟩
end Go.Ql
end
section
namespace Go.Ql
theorem dg_inj {c d:UInt8} (h:dg c=dg d):c=d:=by
 apply UInt8.toNat_inj.1
 unfold dg at h;omega
theorem dec_cons (c:UInt8) (l:List UInt8):qdec (c::l)=dg c*10 ^ l.length+qdec l:=by
 have h3:=dec_append [c] l
 have h4:qdec [c]=dg c:=by simp [qdec]
 rw [List.singleton_append,h4] at h3
 exact h3
theorem dec_inj : ∀ {l m:List UInt8},YR l→YR m→l.length=m.length→qdec l=qdec m→l=m
 | [],[],_,_,_,_=>rfl
 | c::l,d::m,hl,hm,e,h=>by
   have hl':YR l:=fun x hx=>hl x (List.mem_cons_of_mem _ hx)
   have hm':YR m:=fun x hx=>hm x (List.mem_cons_of_mem _ hx)
   have e':l.length=m.length:=by simpa using e
   have b1:=Ua hl'
   have b2:=Ua hm'
   rw [dec_cons,dec_cons,e'] at h
   rw [e'] at b1
   have hP:(0:Int) < 10 ^ m.length:=Int.pow_pos (by decide)
   have hc:dg c=dg d:=by
    rcases Int.lt_trichotomy (dg c) (dg d) with h1 | h1 | h1
    ·have:=Int.mul_le_mul_of_nonneg_right (show dg c+1≤dg d by omega) (Int.le_of_lt hP)
     rw [Int.add_mul] at this;omega
    ·exact h1
    ·have:=Int.mul_le_mul_of_nonneg_right (show dg d+1≤dg c by omega) (Int.le_of_lt hP)
     rw [Int.add_mul] at this;omega
   rw [hc] at h
   rw [dg_inj hc,dec_inj hl' hm' e' (by omega)]
 | [],_::_,_,_,e,_=>by simp at e
 | _::_,[],_,_,e,_=>by simp at e
theorem dec_ge {l:List UInt8} (h:YR l) (hn:l≠[]) (h0:l.head? ≠ some 48):10 ^ (l.length - 1)≤qdec l:=by
 cases l with
 | nil=>exact absurd rfl hn
 | cons c l=>
   have hl':YR l:=fun x hx=>h x (List.mem_cons_of_mem _ hx)
   have b1:=Ua hl'
   have hd:=dg_of (h c (List.mem_cons_self ..))
   have h1:dg c≠0:=fun e=>h0 (by
    have:dg c=dg 48:=by rw [e];rfl
    rw [dg_inj this];rfl)
   rw [dec_cons]
   have hP:(0:Int) < 10 ^ l.length:=Int.pow_pos (by decide)
   have:=Int.mul_le_mul_of_nonneg_right (show 1≤dg c by omega) (Int.le_of_lt hP)
   simp only [List.length_cons,Nat.add_sub_cancel]
   omega
theorem dec_one {l m:List UInt8} (hl:YR l) (hm:YR m) (nl:l≠[]) (nm:m≠[]) (l0:l.head? ≠ some 48) (m0:m.head? ≠ some 48) (h:qdec l=qdec m):l=m:=by
 have ll:l.length≠0:=fun e=>nl (List.eq_nil_of_length_eq_zero e)
 have lm:m.length≠0:=fun e=>nm (List.eq_nil_of_length_eq_zero e)
 have g1:=dec_ge hl nl l0
 have g2:=dec_ge hm nm m0
 have b1:=(Ua hl).2
 have b2:=(Ua hm).2
 refine dec_inj hl hm ?_ h
 rcases Nat.lt_trichotomy l.length m.length with e | e | e
 ·have:=Hj (B:=10) (by decide) (show l.length≤m.length - 1 by omega);omega
 ·exact e
 ·have:=Hj (B:=10) (by decide) (show m.length≤l.length - 1 by omega);omega
end Go.Ql
end
section
namespace Go.Ql
theorem val_drop (B:Int) : ∀ (i:Nat) (l:List Int),i < l.length→val B (l.drop i)=l.getD i 0+B*val B (l.drop (i+1))
 | _,[],h=>by simp at h
 | 0,d::l,_=>by simp [val]
 | i+1,d::l,h=>by
   have:=val_drop B i l (by simpa using h)
   simpa using this
def bytes (l:List Int):List UInt8:=l.map fun n↦UInt8.ofNat (Int.toNat n)
theorem UP {d:Int} (h:0≤d∧d≤9):UR (UInt8.ofNat (Int.toNat (48+d)))=true∧dg (UInt8.ofNat (Int.toNat (48+d)))=d:=by
 have h1:(UInt8.ofNat (Int.toNat (48+d))).toNat=Int.toNat (48+d):=by
  rw [UInt8.toNat_ofNat'];omega
 unfold UR dg
 rw [h1]
 constructor
 ·simp;omega
 ·omega
def IsDec (l:List UInt8) (v:Int):Prop:=YR l∧l≠[]∧l.head? ≠ some 48∧qdec l=v
def four (d:Int):List Int:=[48+d / 1000,48+d / 100 % 10,48+d / 10 % 10,48+d % 10]
theorem four_digits {d:Int} (h:0≤d∧d < 10000):YR (bytes (four d))∧qdec (bytes (four d))=d:=by
 have a:=UP (d:=d / 1000) (by omega)
 have b:=UP (d:=d / 100 % 10) (by omega)
 have c:=UP (d:=d / 10 % 10) (by omega)
 have e:=UP (d:=d % 10) (by omega)
 constructor
 ·intro x hx
  simp only [bytes,four,List.map_cons,List.map_nil,List.mem_cons,List.not_mem_nil,or_false] at hx
  rcases hx with rfl | rfl | rfl | rfl
  ·exact a.1
  ·exact b.1
  ·exact c.1
  ·exact e.1
 ·simp only [bytes,four,List.map_cons,List.map_nil,qdec,List.foldl_cons,List.foldl_nil,a.2,b.2,c.2,e.2]
  omega
theorem c9_ok {a1:List Int} (h:Dig 10000 a1) (i:Nat) (hi:i < a1.length):W.jF.c9 (i:Int) a1 Option.some=some (four (a1.getD i 0)):=by
 have hd:=h.getD (by decide) i
 unfold W.jF.c9
 rw [kA i rfl hi]
 simp only [je]
 generalize a1.getD i 0=d at *
 rw [VG hd.1,VG hd.1,VG hd.1,js (x:=d / 1000) (by omega),js (x:=d / 100) (by omega),js (x:=d / 10) (by omega),Vq (by omega),Vq (by omega),Vq (by omega)]
 rw [js (x:=48+d / 1000) (by omega),js (x:=48+d / 100 % 10) (by omega),js (x:=48+d / 10 % 10) (by omega),js (x:=48+d % 10) (by omega)]
 rw [IntWalk.u8_in (48+d / 1000) (by omega),IntWalk.u8_in (48+d / 100 % 10) (by omega),IntWalk.u8_in (48+d / 10 % 10) (by omega),IntWalk.u8_in (48+d % 10) (by omega)]
 rfl
end Go.Ql
end
section
namespace Go.Ql
theorem strip_ok (a1:List Int) (i:Nat) (hi:i < a1.length) (hL:a1.length < 1000000) (F:List Int) (hF:F.length=4) :
 ∃ k:Nat,iter (fun s↦W.jF.c100011 (i:Int) F s a1 Option.some) (0:Int)=some (k:Int)∧k≤3∧(i+1≠a1.length→k=0)∧(∀ j,j < k→F.getD j 0=48)∧(i+1=a1.length→k < 3→F.getD k 0≠48):=by
 obtain ⟨r,h1,k,h2,h3⟩:=Ye (f:=fun s:Int↦W.jF.c100011 (i:Int) F s a1 Option.some)
  (J:=fun s => ∃ k:Nat,s=k∧k≤3∧(i+1≠a1.length→k=0)∧(∀ j,j < k→F.getD j 0=48))
  (Q:=fun s => ∃ k:Nat,s=k∧k≤3∧(i+1≠a1.length→k=0)∧(∀ j,j < k→F.getD j 0=48)∧(i+1=a1.length→k < 3→F.getD k 0≠48))
  (fun s=>3 - s.toNat) (fun s ⟨k,hs,hk,hk0,hz⟩=>by
   subst hs
   simp only [W.jF.c100011]
   have e:W.jF.c11 (i:Int) F (k:Int) a1 Option.some=some (decide (i+1=a1.length∧k < 3∧F.getD k 0=48)):=by
    unfold W.jF.c11
    rw [js (by omega)]
    by_cases h:i+1=a1.length
    ·rw [jN (beq_iff_eq.2 (by omega))]
     by_cases h4:k < 3
     ·rw [jY (by omega),kA k rfl (by omega),je]
      congr 1
      by_cases h5:F.getD k 0=48
      ·rw [h5];simp [h,h4]
      ·rw [beq_false_of_ne h5,decide_eq_false (fun h6=>h5 h6.2.2)]
     ·rw [jP (by omega),decide_eq_false (by omega)]
    ·rw [jq (beq_false_of_ne (by omega)),decide_eq_false (by omega)]
   rw [e,je]
   by_cases h:i+1=a1.length∧k < 3∧F.getD k 0=48
   ·rw [jY h]
    refine Or.inr ⟨((k+1:Nat):Int),by rw [js (by omega)];rfl,⟨k+1,rfl,by omega,fun h'=>absurd h.1 h',fun j hj => ?_⟩,by omega⟩
    by_cases h8:j=k
    ·subst h8;exact h.2.2
    ·exact hz j (by omega)
   ·rw [jP h]
    exact Or.inl ⟨_,rfl,k,rfl,hk,hk0,hz,fun h1 h2 h3=>h ⟨h1,h2,h3⟩⟩)
  (s:=(0:Int)) ⟨0,rfl,by omega,fun _=>rfl,fun j hj=>by omega⟩
 exact ⟨k,by rw [h1,h2],h3⟩
end Go.Ql
end
section
namespace Go.Ql
theorem bytes_drop (l:List Int) (k:Nat):bytes (l.drop k)=(bytes l).drop k:=by simp [bytes]
theorem bytes_len (l:List Int):(bytes l).length=l.length:=by simp [bytes]
theorem dec_skip : ∀ (k:Nat) (l:List UInt8),(∀ j (h:j < l.length),j < k→l[j]=48)→qdec (l.drop k)=qdec l
 | 0,_,_=>rfl
 | k+1,[],_=>by simp
 | k+1,c::l,h=>by
   have h0:c=48:=h 0 (by simp) (by omega)
   rw [List.drop_succ_cons,dec_skip k l (fun j hj hk=>h (j+1) (by simpa using hj) (by omega)),dec_cons,h0]
   simp [dg]
theorem IsDec.snoc {l:List UInt8} {v d:Int} (h:IsDec l v) (hd:0≤d∧d < 10000):IsDec (l++bytes (four d)) (d+10000*v):=by
 obtain ⟨h1,h2,h3,h4⟩:=h
 have hf:=four_digits hd
 refine ⟨fun c hc => ?_,by simp [h2],?_,?_⟩
 ·rcases List.mem_append.1 hc with hc | hc
  ·exact h1 c hc
  ·exact hf.1 c hc
 ·cases l with
  | nil=>exact absurd rfl h2
  | cons c l=>exact h3
 ·rw [dec_append,hf.2,h4,bytes_len]
  show v*10 ^ 4+d=_
  omega
theorem getD_byte (F:List Int) (j:Nat) (h:j < (bytes F).length):(bytes F)[j]=UInt8.ofNat (F.getD j 0).toNat:=by
 have h':j < F.length:=by rwa [bytes_len] at h
 simp [bytes,List.getD,h']
theorem IsDec.first {d:Int} (hd:0≤d∧d < 10000) (h0:d≠0) {k:Nat} (hk:k≤3) (hz : ∀ j,j < k→(four d).getD j 0=48) (hn:k < 3→(four d).getD k 0≠48):IsDec ((bytes (four d)).drop k) d:=by
 have hf:=four_digits hd
 have hl:(bytes (four d)).length=4:=by rw [bytes_len];rfl
 have hdec:qdec ((bytes (four d)).drop k)=d:=by
  rw [dec_skip k _ (fun j hj hjk=>by rw [getD_byte,hz j hjk];rfl),hf.2]
 have hne:(bytes (four d)).drop k≠[]:=by
  intro e
  have:=congrArg List.length e
  rw [List.length_drop,hl] at this
  simp at this;omega
 refine ⟨fun c hc=>hf.1 c (List.mem_of_mem_drop hc),hne,fun e => ?_,hdec⟩
 by_cases h3:k < 3
 ·rw [List.head?_drop,List.getElem?_eq_getElem (by omega),getD_byte] at e
  have h5:=Option.some.inj e
  have hg:48≤(four d).getD k 0∧(four d).getD k 0≤57:=by
   rcases (by omega:k=0∨k=1∨k=2) with rfl | rfl | rfl <;> simp [four] <;> omega
  apply hn h3
  have h6:=congrArg UInt8.toNat h5
  rw [UInt8.toNat_ofNat'] at h6
  have h7:(48:UInt8).toNat=48:=rfl
  rw [h7] at h6
  omega
 ·have : ∃ c,(bytes (four d)).drop k=[c]:=by
   have hx:((bytes (four d)).drop k).length=1:=by rw [List.length_drop,hl];omega
   exact List.length_eq_one_iff.1 hx
  obtain ⟨c,hc⟩:=this
  rw [hc] at e hdec
  simp at e
  rw [e] at hdec
  apply h0
  rw [← hdec];rfl
def Txt (v:Int) (l:List UInt8):Prop:=(v=0∧l=[48])∨(v≠0 ∧ ∃ D,IsDec D (v.natAbs:Int)∧l=(if v < 0 then [45] else [])++D)
theorem Txt.one {v:Int} {l m:List UInt8} (h:Txt v l) (k:Txt v m):l=m:=by
 rcases h with ⟨h1,h2⟩ | ⟨h1,D,h2,h3⟩ <;> rcases k with ⟨k1,k2⟩ | ⟨k1,E,k2,k3⟩
 ·rw [h2,k2]
 ·exact absurd h1 k1
 ·exact absurd k1 h1
 ·rw [h3,k3,dec_one h2.1 k2.1 h2.2.1 k2.2.1 h2.2.2.1 k2.2.2.1 (h2.2.2.2.trans k2.2.2.2.symm)]
end Go.Ql
end
section
namespace Go.Ql
theorem ztext_loop (sg:List UInt8) (a1:List Int) (hd:Dig 10000 a1) (ht:Trim a1) (hn:a1≠[]) (hL:a1.length < 1000000) (hs:sg.length≤1) :
 ∃ r:List UInt8×Int,iter (fun s:List UInt8×Int↦W.jF.c100007 (Prod.fst s) (Prod.snd s) a1 Option.some) (sg,(a1.length:Int) - 1)=some r ∧ ∃ l,r.1=sg++l∧IsDec l (val 10000 a1):=by
 have hlen:a1.length≠0:=fun e=>hn (List.eq_nil_of_length_eq_zero e)
 exact Ye (f:=fun s:List UInt8×Int↦W.jF.c100007 (Prod.fst s) (Prod.snd s) a1 Option.some)
  (J:=fun s => ∃ k:Nat,s.2=(k:Int) - 1∧k≤a1.length ∧ ∃ l,s.1=sg++l∧l.length≤4*(a1.length - k)∧((k=a1.length∧l=[])∨(k < a1.length∧IsDec l (val 10000 (a1.drop k)))))
  (Q:=fun r => ∃ l,r.1=sg++l∧IsDec l (val 10000 a1))
  (fun s=>(s.2+1).toNat) (fun ⟨text,i'⟩ ⟨k,hi,hk,l,hl,hll,hc⟩=>by
   simp only at hi hl ⊢
   subst hi
   simp only [W.jF.c100007]
   by_cases h0:k=0
   ·subst h0
    rw [jP (by omega)]
    rcases hc with ⟨h1,_⟩ | ⟨h1,h2⟩
    ·omega
    ·exact Or.inl ⟨(_,_),rfl,l,hl,h2⟩
   ·obtain ⟨i,rfl⟩ : ∃ i:Nat,k=i+1:=⟨k - 1,by omega⟩
    have hi:i < a1.length:=by omega
    have hdi:=hd.getD (by decide) i
    obtain ⟨t,h1,h2,h3,h4,h5⟩:=strip_ok a1 i hi hL (four (a1.getD i 0)) rfl
    rw [jY (by omega),show ((i+1:Nat):Int) - 1=(i:Int) by omega,c9_ok hd i hi,je,h1,je]
    have e4:(four (a1.getD i 0)).length=4:=rfl
    rw [Jf (by rw [e4];simp;omega),je,Int.toNat_natCast,Int.toNat_natCast,List.take_length]
    have hpl:(List.map (fun n↦UInt8.ofNat (Int.toNat n)) (List.drop t (four (a1.getD i 0)))).length≤4:=by
     rw [List.length_map,List.length_drop,e4];omega
    have htl:text.length≤1+4*a1.length:=by rw [hl,List.length_append];omega
    rw [Jf (by simp only [decide_eq_true_eq];omega),je,js (by omega)]
    refine Or.inr ⟨(_,_),rfl,⟨i,rfl,by omega,l++(bytes (four (a1.getD i 0))).drop t,?_,?_,Or.inr ⟨hi,?_⟩⟩,by simp only;omega⟩
    ·simp only
     rw [hl,← bytes_drop,List.append_assoc];rfl
    ·rw [List.length_append,List.length_drop,bytes_len,e4];omega
    ·rw [val_drop 10000 i a1 hi]
     rcases hc with ⟨h6,h7⟩ | ⟨h6,h7⟩
     ·have hd0:a1.getD i 0≠0:=by
       have:=ht hn
       rwa [show a1.length - 1=i by omega] at this
      have h8:a1.drop (i+1)=[]:=List.drop_of_length_le (by omega)
      rw [h8,h7,List.nil_append]
      have:=IsDec.first hdi hd0 h2 h4 (h5 h6)
      simpa [val] using this
     ·have h9:=h3 (by omega)
      subst h9
      rw [List.drop_zero]
      exact h7.snoc hdi)
  (s:=(sg,(a1.length:Int) - 1)) ⟨a1.length,rfl,Nat.le_refl _,[],by simp,by simp,Or.inl ⟨rfl,rfl⟩⟩
theorem ztext_ok {a:Bool×List Int} {v:Int} (ha:Rep 10000 a v) (la:a.2.length < 1000000) : ∃ l,W.jF a=some l∧Txt v l:=by
 unfold W.jF
 by_cases h0:a.2=[]
 ·rw [h0]
  refine ⟨[48],rfl,Or.inl ⟨?_,rfl⟩⟩
  rw [ha.val,h0];simp [val]
 ·have hn:a.2.length≠0:=fun e=>h0 (List.eq_nil_of_length_eq_zero e)
  rw [jq (beq_false_of_ne (by omega))]
  have e1:W.jF.c216389 (Array.toList (ByteArray.data (ByteArray.mk #[]))) a.1 Option.some=some (if a.1 then [45] else []):=by
   unfold W.jF.c216389
   cases a.1 <;> rfl
  obtain ⟨r,h1,l,h2,h3⟩:=ztext_loop (if a.1 then [45] else []) a.2 ha.dig ha.last h0 la (by split <;> simp)
  rw [e1,je,js (by omega),h1,je]
  have hp:=ha.pos (by decide) h0
  have hv:=ha.val
  refine ⟨_,rfl,Or.inr ⟨?_,l,?_,?_⟩⟩
  ·cases hx:a.1 <;> simp only [hx,Bool.false_eq_true,if_false,if_true] at hv <;> omega
  ·have:(v.natAbs:Int)=val 10000 a.2:=by
    cases hx:a.1 <;> simp only [hx,Bool.false_eq_true,if_false,if_true] at hv <;> omega
   rw [this];exact h3
  ·rw [h2]
   congr 1
   cases hx:a.1 <;> simp only [hx,Bool.false_eq_true,if_false,if_true] at hv ⊢
   ·rw [if_neg (by omega)]
   ·rw [if_pos (by omega)]
end Go.Ql
end
section
namespace Go.Ql
end Go.Ql
end
section
namespace Go.Ql
end Go.Ql
end
section
namespace Go.Ql
end Go.Ql
end
section
namespace Go.Ql
theorem u64_mod {x:Int}:IntKind.u64.wrap x=x % 18446744073709551616:=by
 simp [IntKind.wrap,IntKind.signed,IntKind.bits]
end Go.Ql
end
section
namespace Go.Ql
end Go.Ql
end
section
namespace Go.Ql
end Go.Ql
end
section
namespace Go.Ql
theorem Rep.nil {B:Int}:Rep B (false,[]) 0:=⟨Dig.nil,by simp,by simp,by simp [Ql.val]⟩
theorem Rep.absval {B:Int} (hB:0≤B) {x:Bool×List Int} {v:Int} (h:Rep B x v):Ql.val B x.2=(v.natAbs:Int):=by
 have h1:=YY hB h.dig
 have h2:=h.val
 cases h0:x.1 <;> simp only [h0,Bool.false_eq_true,if_false,if_true] at h2 <;> omega
theorem Rep.zero_iff {B:Int} (hB:1 < B) {x:Bool×List Int} {v:Int} (h:Rep B x v):x.2=[]↔v=0:=by
 constructor
 ·intro h0
  have:=h.absval (by omega)
  rw [h0] at this
  simp only [Ql.val] at this
  omega
 ·intro h0
  rcases Classical.em (x.2=[]) with h1 | h1
  ·exact h1
  ·have:=h.pos hB h1
   have:=h.absval (by omega)
   omega
theorem Rep.short {B:Int} (hB:1 < B) {x y:Bool×List Int} {u v:Int} (hx:Rep B x u) (hy:Rep B y v) (h:u.natAbs≤v.natAbs):x.2.length≤y.2.length:=by
 apply len_le hB hy.dig hx.dig hx.last
 rw [hx.absval (by omega),hy.absval (by omega)]
 omega
theorem Rep.eq_of {B:Int} {x:Bool×List Int} {u v:Int} (h:Rep B x u) (e:u=v):Rep B x v:=e ▸ h
end Go.Ql
end
section
namespace Go.Ql
theorem Rep.pos_of {B:Int} (hB:1 < B) {x:Bool×List Int} {v:Int} (h:Rep B x v):(x.2.length:Int) > 0↔v≠0:=by
 constructor
 ·intro h1 h2
  rw [(h.zero_iff hB).2 h2] at h1
  simp at h1
 ·intro h1
  have:x.2.length≠0:=fun e=>h1 ((h.zero_iff hB).1 (List.eq_nil_of_length_eq_zero e))
  omega
end Go.Ql
end
section
namespace Go.Ql
theorem zof_ok {n:Int} (h : -9223372036854775808≤n∧n≤9223372036854775807) :
 ∃ r,W.JK n=some r∧Rep 10000 r n∧r.2.length≤5:=by
 unfold W.JK
 have e:W.JK.c208197 n (IntKind.u64.wrap n) Option.some=some (n.natAbs:Int):=by
  unfold W.JK.c208197
  by_cases h0:n < 0
  ·rw [jY h0,u64_mod,u64_mod];congr 1;omega
  ·rw [jP h0,u64_mod];congr 1;omega
 rw [e,je]
 have hB:(0:Int) < 10000:=by decide
 obtain ⟨⟨u,d⟩,l1,l2,l3,l4⟩:=Ye
  (f:=fun s:Int×List Int↦W.JK.c100005 (Prod.fst s) (Prod.snd s) Option.some)
  (J:=fun s=>0≤s.1∧s.1 < 10000 ^ (5 - s.2.length)∧s.2.length≤5∧Dig 10000 s.2∧val 10000 s.2+10000 ^ s.2.length*s.1=(n.natAbs:Int))
  (Q:=fun s=>s.2.length≤5∧Dig 10000 s.2∧val 10000 s.2=(n.natAbs:Int))
  (fun s=>s.1.toNat) (fun ⟨u,d⟩ ⟨h1,h2,h3,h4,h5⟩=>by
   simp only at h1 h2 h3 h4 h5 ⊢
   unfold W.JK.c100005
   by_cases h0:u > 0
   ·have hl:d.length≠5:=fun e=>by rw [e] at h2;simp at h2;omega
    rw [jY h0,Vq h1,VG h1,js (by omega),VX (by
     have:(10000:Int) ^ (5 - d.length)≤10000 ^ 5:=Hj (by decide) (by omega)
     rw [show (10000:Int) ^ 5=100000000000000000000 from rfl] at this
     have h7:u≤(n.natAbs:Int):=by
      have:1*u≤10000 ^ d.length*u:=Int.mul_le_mul_of_nonneg_right (by have:=pow_pos hB d.length;omega) h1
      have:=YY (B:=10000) (by decide) h4
      omega
     omega),Jf (by simp;omega),je]
    refine Or.inr ⟨(_,_),rfl,⟨by simp only;omega,?_,by simp;omega,h4.append (Dig.cons (by omega) Dig.nil),?_⟩,by simp only;omega⟩
    ·simp only [List.length_append,List.length_cons,List.length_nil]
     have e5:5 - d.length=(5 - (d.length+(0+1)))+1:=by omega
     rw [e5,Int.pow_succ] at h2
     omega
    ·simp only [List.length_append,List.length_cons,List.length_nil]
     rw [val_snoc,Int.pow_succ,← h5]
     have:u=10000*(u / 10000)+u % 10000:=by omega
     generalize u / 10000=q at *
     generalize u % 10000=r at *
     subst this
     grind
   ·rw [jP h0]
    have:u=0:=by omega
    subst this
    exact Or.inl ⟨(_,_),rfl,h3,h4,by simpa using h5⟩)
  (s:=((n.natAbs:Int),[])) ⟨by simp,by simp only [List.length_nil];rw [show (10000:Int) ^ (5 - 0)=100000000000000000000 from rfl];omega,by simp,Dig.nil,by simp [val]⟩
 simp only at l2 l3 l4
 obtain ⟨r,r1,r2,r3⟩:=VY (B:=10000) (decide (n < 0)) d l3 (by omega)
 rw [l1,je,r1]
 refine ⟨r,rfl,r2.eq_of ?_,by omega⟩
 rw [l4]
 by_cases h0:n < 0
 ·rw [if_pos (decide_eq_true h0)];omega
 ·rw [if_neg (by simpa using h0)];omega
theorem Rep.few {B:Int} (hB:1 < B) {x:Bool×List Int} {e:Nat} (h:Rep B x (2 ^ e)):x.2.length≤e+1:=by
 have h2:(0:Int) < 2 ^ e:=Int.pow_pos (by decide)
 have hn:x.2≠[]:=fun h0=>by have:=(h.zero_iff hB).1 h0;omega
 have h1:=val_ge hB h.dig h.last hn
 rw [h.absval (by omega)] at h1
 rcases Nat.lt_or_ge e (x.2.length - 1) with hc | hc
 ·have h3:(2:Int) ^ (x.2.length - 1)≤B ^ (x.2.length - 1):=by
   have : ∀ k:Nat,(2:Int) ^ k≤B ^ k:=by
    intro k
    induction k with
    | zero=>simp
    | succ k ih=>
      rw [Int.pow_succ,Int.pow_succ]
      exact Int.mul_le_mul ih (by omega) (by decide) (Int.le_of_lt (pow_pos (by omega) k))
   exact this _
  have h4:(2:Int) ^ (e+1)≤2 ^ (x.2.length - 1):=Hj (by decide) (by omega)
  rw [Int.pow_succ] at h4
  omega
 ·omega
theorem zpow2_ok (n:Nat) (hn:n≤10000) : ∃ r,W.Jz (n:Int)=some r∧Rep 10000 r (2 ^ n)∧r.2.length≤n+1:=by
 have hB:(1:Int) < 10000:=by decide
 obtain ⟨o,o1,o2,o3⟩:=zof_ok (n:=1) (by decide)
 obtain ⟨t,t1,t2,t3⟩:=zof_ok (n:=2) (by decide)
 obtain ⟨⟨m,x0,x1,y0,y1⟩,l1,l2⟩:=Ye
  (f:=fun s:Int×Bool×List Int×Bool×List Int↦W.Jz.c100003 (Prod.fst s) (Prod.fst (Prod.snd s)) (Prod.fst (Prod.snd (Prod.snd s))) (Prod.fst (Prod.snd (Prod.snd (Prod.snd s)))) (Prod.snd (Prod.snd (Prod.snd (Prod.snd s)))) Option.some)
  (J:=fun s => ∃ m e f:Nat,s.1=m∧m≤n∧Rep 10000 (s.2.1,s.2.2.1) (2 ^ f)∧Rep 10000 (s.2.2.2.1,s.2.2.2.2) (2 ^ e)∧f+e*m=n)
  (Q:=fun s=>Rep 10000 (s.2.1,s.2.2.1) (2 ^ n))
  (fun s=>s.1.toNat) (fun ⟨m',x0,x1,y0,y1⟩ ⟨m,e,f,h1,hm,h2,h3,h4⟩=>by
   simp only at h1 h2 h3 h4 ⊢
   subst h1
   unfold W.Jz.c100003
   by_cases h0:(m:Int) > 0
   ·have he:e*1≤e*m:=Nat.mul_le_mul_left e (by omega)
    have hx:=h2.few hB
    have hy:=h3.few hB
    simp only at hx hy
    rw [jY h0]
    obtain ⟨p,p1,p2,p3⟩:=zmul_ok h3 h3 (by simp only;omega) (by simp only;omega)
    rw [← Int.pow_add] at p2
    have c : ∃ z:Bool×List Int,W.Jz.c216389 (m:Int) x0 x1 y0 y1 Option.some=some (z.1,z.2)∧Rep 10000 z (2 ^ (f+e*(m % 2))):=by
     unfold W.Jz.c216389
     rw [Vq (by omega)]
     by_cases hm:m % 2=1
     ·obtain ⟨z,z1,z2,z3⟩:=zmul_ok h2 h3 (by simp only;omega) (by simp only;omega)
      rw [show ((m:Int) % 2 == 1)=true by simp;omega,br_tt,z1,je]
      rw [← Int.pow_add] at z2
      exact ⟨z,rfl,by rw [hm,Nat.mul_one];exact z2⟩
     ·rw [show ((m:Int) % 2 == 1)=false by simp;omega,br_ff]
      exact ⟨(x0,x1),rfl,by rw [show m % 2=0 by omega];exact h2⟩
    obtain ⟨z,z1,z2⟩:=c
    rw [z1,je,p1,je,VG (by omega),js (by omega)]
    refine Or.inr ⟨_,rfl,⟨m / 2,e+e,f+e*(m % 2),by simp only;omega,by omega,z2,p2,?_⟩,by simp only;omega⟩
    have:e*m=e*(2*(m / 2)+m % 2):=by rw [Nat.div_add_mod]
    rw [Nat.mul_add] at this
    rw [← h4,this,Nat.add_mul,← Nat.two_mul,← Nat.mul_assoc e 2,Nat.mul_comm e 2,Nat.mul_assoc]
    omega
   ·rw [jP h0]
    have:m=0:=by omega
    subst this
    refine Or.inl ⟨_,rfl,?_⟩
    simp only
    rw [← h4]
    simpa using h2)
  (s:=((n:Int),o.1,o.2,t.1,t.2)) ⟨n,1,0,rfl,Nat.le_refl _,o2.eq_of (by simp),t2.eq_of (by simp),by omega⟩
 simp only at l2
 unfold W.Jz
 rw [o1,je,t1,je,l1,je]
 exact ⟨(x0,x1),rfl,l2,l2.few hB⟩
end Go.Ql
end
section
namespace Go.Ql
end Go.Ql
end
section
namespace Go.Ql
def small (v:Int):Int×Bool:=if -9223372036854775808≤v∧v≤9223372036854775807 then (v,true) else (0,false)
end Go.Ql
end
section
namespace Go.Ql
theorem twos_unique : ∀ {n k:Nat} {m l:Nat},2 ^ n*(2*m+1)=2 ^ k*(2*l+1)→n=k
 | 0,0,_,_,_=>rfl
 | 0,k+1,m,l,h=>by
   rw [Nat.pow_zero,Nat.one_mul,Nat.pow_succ,Nat.mul_comm (2 ^ k) 2,Nat.mul_assoc] at h
   omega
 | n+1,0,m,l,h=>by
   rw [Nat.pow_zero,Nat.one_mul,Nat.pow_succ,Nat.mul_comm (2 ^ n) 2,Nat.mul_assoc] at h
   omega
 | n+1,k+1,m,l,h=>by
   rw [Nat.pow_succ,Nat.pow_succ,Nat.mul_comm (2 ^ n) 2,Nat.mul_comm (2 ^ k) 2,Nat.mul_assoc,Nat.mul_assoc] at h
   rw [twos_unique (n:=n) (k:=k) (m:=m) (l:=l) (by omega)]
def Twos (v:Nat) (n:Nat):Prop:=(v=0→n=0)∧(v≠0 → ∃ m,v=2 ^ n*(2*m+1))
theorem Twos.one {v n k:Nat} (h:Twos v n) (g:Twos v k):n=k:=by
 by_cases hv:v=0
 ·rw [h.1 hv,g.1 hv]
 ·obtain ⟨m,h1⟩:=h.2 hv
  obtain ⟨l,h2⟩:=g.2 hv
  exact twos_unique (h1.symm.trans h2)
end Go.Ql
end
section
namespace Go.Ql
theorem zhalf_sign {a:Bool×List Int} {u:Int} (ha:Rep 10000 a u) (la:a.2.length < 1000000) :
 ∃ r o,W.JR a=some (r,o) ∧ ∃ w,Rep 10000 r w∧(w.natAbs=u.natAbs / 2∧(0≤u→0≤w)∧(u≤0→w≤0))∧r.2.length≤a.2.length:=by
 have h6:=ha.absval (by decide)
 obtain ⟨⟨c,i,t⟩,l1,l2,l3,l4,l5⟩:=Ye
  (f:=fun s:Int×Int×List Int↦W.JR.c100004 (Prod.fst s) (Prod.fst (Prod.snd s)) a.2 (Prod.snd (Prod.snd s)) some)
  (J:=fun s => ∃ k:Nat,s.2.1=(k:Int) - 1∧k≤a.2.length∧0≤s.1∧s.1 < 2∧Dig 10000 s.2.2∧s.2.2.length=a.2.length∧(∀ x,x < k→s.2.2.getD x 0=0) ∧
   val 10000 a.2=val 10000 (a.2.take k)+2*val 10000 s.2.2+10000 ^ k*s.1)
  (Q:=fun s=>0≤s.1∧s.1 < 2∧Dig 10000 s.2.2∧s.2.2.length=a.2.length∧val 10000 a.2=2*val 10000 s.2.2+s.1)
  (fun s=>(s.2.1+1).toNat) (fun ⟨c,i,t⟩ ⟨k,k1,k2,k3,k4,k5,k6,k7,k8⟩=>by
   simp only at k1 k3 k4 k5 k6 k7 k8 ⊢
   subst k1
   unfold W.JR.c100004
   by_cases h0:k=0
   ·subst h0
    rw [jP (by omega)]
    refine Or.inl ⟨_,rfl,k3,k4,k5,k6,?_⟩
    simp only [List.take_zero,val,Int.pow_zero,Int.one_mul,Int.zero_add] at k8 ⊢
    exact k8
   ·obtain ⟨j,rfl⟩ : ∃ j,k=j+1:=⟨k - 1,by omega⟩
    have hdg:=ha.dig.getD (by decide) j
    have ej:((j+1:Nat):Int) - 1=j:=by omega
    have htk:=kr 10000 j a.2
    rw [ej,jY (by omega),kA j rfl (by omega),je,HA (by omega) (by omega),je,kA j rfl (by omega),je,js (x:=c*10000) (by omega),js (x:=c*10000+a.2.getD j 0) (by omega),Vq (by omega),VG (by omega),
     js (x:=(c*10000+a.2.getD j 0) / 2) (by omega),js (by omega),Int.toNat_natCast]
    refine Or.inr ⟨_,rfl,⟨j,by simp only,by omega,by simp only;omega,by simp only;omega,k5.set ⟨by omega,by omega⟩ j,by simp only [List.length_set];exact k6,fun x hx => ?_,?_⟩,by simp only;omega⟩
    ·simp only
     rw [getD_set (by omega),if_neg (by omega)]
     exact k7 x (by omega)
    ·simp only
     have hdm:=Int.mul_ediv_add_emod (c*10000+a.2.getD j 0) 2
     rw [val_set _ _ _ _ (by omega),k7 j (by omega),k8,htk,Int.pow_succ]
     generalize (c*10000+a.2.getD j 0) / 2=q at *
     generalize (c*10000+a.2.getD j 0) % 2=m at *
     generalize (10000:Int) ^ j=P at *
     grind)
  (s:=((0:Int),(a.2.length:Int) - 1,List.replicate a.2.length 0))
  ⟨a.2.length,rfl,Nat.le_refl _,by simp,by simp,Dig.replicate (by decide) _,by simp,fun x _=>getD_replicate _ _,by simp [val_replicate]⟩
 simp only at l2 l3 l4 l5
 obtain ⟨z,z1,z2,z3⟩:=VY (B:=10000) a.1 t l4 (by omega)
 have hz : ∃ w,Rep 10000 z w∧(w.natAbs=u.natAbs / 2∧(0≤u→0≤w)∧(u≤0→w≤0)):=by
  have h7:=YY (B:=10000) (by decide) l4
  have h8:=YY (B:=10000) (by decide) ha.dig
  have h9:=ha.val
  refine ⟨_,z2,?_⟩
  revert h9
  split <;> intro h9 <;> omega
 obtain ⟨w,w1,w2⟩:=hz
 unfold W.JR
 rw [Jf (by simp;omega),je,js (by omega),Int.toNat_natCast,l1,je]
 simp only
 rw [z1,je]
 exact ⟨z,_,rfl,w,w1,w2,by omega⟩
theorem zodd_ok {a:Bool×List Int} {u:Int} (ha:Rep 10000 a u):W.kj a=some (decide (u.natAbs % 2=1)):=by
 have h6:=ha.absval (by decide)
 unfold W.kj W.kj.c1
 cases hl:a.2 with
 | nil=>
   rw [hl] at h6
   simp only [val] at h6
   rw [jP (by simp),je,show u.natAbs=0 by omega]
   rfl
 | cons d l=>
   rw [hl] at h6
   have hd:0≤d∧d < 10000:=ha.dig d (by rw [hl];simp)
   have hn:=YY (B:=10000) (by decide) (l:=l) (fun x hx=>ha.dig x (by rw [hl];simp [hx]))
   simp only [val] at h6
   rw [jY (by simp),show idx (d::l) (0:Int)=some d from rfl,je,je,Vq hd.1]
   congr 1
   rw [Bool.eq_iff_iff,beq_iff_eq,decide_eq_true_iff]
   omega
end Go.Ql
end
end
section
namespace Go.Ql
abbrev Dg:=Bool×List Int
abbrev d0:Dg:=(false,[])
theorem Rep.len_le {B:Int} (hB:1 < B) {x:Dg} {v:Int} {L:Nat} (h:Rep B x v) (hv:v.natAbs < 2 ^ L):x.2.length≤L:=by
 by_cases hn:x.2=[]
 ·rw [hn];simp
 ·have h1:=val_ge hB h.dig h.last hn
  rw [h.absval (by omega)] at h1
  rcases Nat.lt_or_ge L x.2.length with hc | hc
  ·have h3:(2:Int) ^ (x.2.length - 1)≤B ^ (x.2.length - 1):=by
    have : ∀ k:Nat,(2:Int) ^ k≤B ^ k:=by
     intro k
     induction k with
     | zero=>simp
     | succ k ih=>
       rw [Int.pow_succ,Int.pow_succ]
       exact Int.mul_le_mul ih (by omega) (by decide) (Int.le_of_lt (Int.pow_pos (by omega)))
    exact this _
   have h4:(2:Int) ^ L≤2 ^ (x.2.length - 1):=Hj (by decide) (by omega)
   have h5:((v.natAbs:Nat):Int) < ((2 ^ L:Nat):Int):=by exact_mod_cast hv
   have h6:((2 ^ L:Nat):Int)=(2:Int) ^ L:=by simp
   omega
  ·exact hc
structure Reps (B:Int) (c:List Dg) (v:Nat→Int):Prop where
 len:c.length=8
 at_ : ∀ i,i < 8→Rep B (c.getD i d0) (v i)
def Bd (v:Nat→Int) (L:Nat):Prop:=∀ i,i < 8→(v i).natAbs < 2 ^ L
section
variable {B:Int} {c:List Dg} {v w:Nat→Int} {L:Nat}
theorem Bd.mono {M:Nat} (h:Bd v L) (hm:L≤M):Bd v M:=fun i hi=>Nat.lt_of_lt_of_le (h i hi) (Nat.pow_le_pow_right (by omega) hm)
theorem Reps.few (hB:1 < B) (h:Reps B c v) (hb:Bd v L) {i:Nat} (hi:i < 8):(c.getD i d0).2.length≤L:=(h.at_ i hi).len_le hB (hb i hi)
theorem Reps.idx (h:Reps B c v) {i:Nat} (hi:i < 8):Ql.idx c (i:Int)=some (c.getD i d0):=by
 rw [Hq]
 have:i < c.length:=by rw [h.len];exact hi
 simp [this]
theorem Reps.congr (h:Reps B c v) (e : ∀ i,i < 8→v i=w i):Reps B c w:=⟨h.len,fun i hi=>e i hi ▸ h.at_ i hi⟩
theorem Reps.set (h:Reps B c v) {i:Nat} (hi:i < 8) {x:Dg} {u:Int} (hx:Rep B x u):Reps B (c.set i x) (fun j=>if j=i then u else v j):=by
 refine ⟨by rw [List.length_set];exact h.len,fun j hj => ?_⟩
 by_cases e:j=i
 ·subst e
  have:j < c.length:=by rw [h.len];exact hj
  simp only [if_pos rfl]
  have e2:(c.set j x).getD j d0=x:=by simp [this]
  rw [e2];exact hx
 ·simp only [if_neg e]
  have e2:(c.set i x).getD j d0=c.getD j d0:=by
   simp [List.getD,List.getElem?_set_ne (Ne.symm e)]
  rw [e2];exact h.at_ j hj
theorem Reps.zero:Reps B (List.replicate 8 d0) (fun _=>0):=by
 refine ⟨by simp,fun i hi => ?_⟩
 have:(List.replicate 8 d0).getD i d0=d0:=match i,hi with
  | 0,_=>rfl
  | 1,_=>rfl
  | 2,_=>rfl
  | 3,_=>rfl
  | 4,_=>rfl
  | 5,_=>rfl
  | 6,_=>rfl
  | 7,_=>rfl
 rw [this];exact Rep.nil
theorem Bd.zero:Bd (fun _=>0) L:=fun _ _=>by simp;exact Nat.pow_pos (by omega)
theorem Reps.one (h:Reps B c v) (h':Reps B c w) (hB:0≤B) : ∀ i,i < 8→v i=w i:=fun i hi=>by
 rw [(h.at_ i hi).val,(h'.at_ i hi).val]
end
structure Num (B:Int) (x:List Dg×Int) (k:K) (L E:Nat):Prop where
 has : ∃ v e,Reps B x.1 v∧x.2=((e:Nat):Int)∧KCan v e∧kv v e=k∧Bd v L∧e≤E
theorem Num.mk' {B:Int} {x:List Dg×Int} {k:K} {L E:Nat} {v:Nat→Int} {e:Nat} (h:Reps B x.1 v) (he:x.2=(e:Int)) (hc:KCan v e) (hk:kv v e=k) (hb:Bd v L) (hE:e≤E):Num B x k L E:=⟨v,e,h,he,hc,hk,hb,hE⟩
theorem Num.eq_of {B:Int} {x:List Dg×Int} {k l:K} {L E:Nat} (h:Num B x k L E) (e:k=l):Num B x l L E:=e ▸ h
theorem KCan.zero:KCan (fun _=>0) 0:=.inl rfl
theorem UT (e:Nat):kv (fun _=>0) e=K.zero:=by simp [kv,K.zero]
theorem num_zero {B:Int} {L E:Nat}:Num B (List.replicate 8 d0,0) K.zero L E:=Num.mk' Reps.zero rfl KCan.zero (UT 0) Bd.zero (Nat.zero_le E)
theorem Num.same {B C:Int} {x y:List Dg×Int} {k:K} {L E M F:Nat} (h:Num B x k L E) (g:Num C y k M F) :
 ∃ v e,Reps B x.1 v∧Reps C y.1 v∧x.2=((e:Nat):Int)∧y.2=(e:Int)∧Bd v L∧e≤E:=by
 obtain ⟨v,e,h1,h2,h3,h4,h5,h6⟩:=h.has
 obtain ⟨w,f,g1,g2,g3,g4,_,_⟩:=g.has
 obtain ⟨ef,hvw⟩:=kv_inj (h4.trans g4.symm) h3 g3
 subst ef
 exact ⟨v,e,h1,g1.congr (fun i hi=>(hvw i hi).symm),h2,g2,h5,h6⟩
end Go.Ql
end
section
namespace Go.Ql
def dn (u:Int) (n:Int):Int:=if 0≤n then u / 2 ^ n.toNat else u*2 ^ (-n).toNat
end Go.Ql
end
section
namespace Go.Ql
theorem getD_self {c:List Dg} {i:Nat} (h:i < c.length):c.set i (c.getD i d0)=c:=by
 have:c.getD i d0=c[i]:=by simp [h]
 rw [this,List.set_getElem_self]
end Go.Ql
end
section
namespace Go.Ql
end Go.Ql
end
section
namespace Go.Ql
end Go.Ql
end
section
namespace Go.Ql
end Go.Ql
end
section
namespace Go.Ql
theorem kv_add (v w:Nat→Int) (e:Nat):K.add (kv v e) (kv w e)=kv (fun i=>v i+w i) e:=by
 simp only [K.add,kv,Rat.intCast_add,K.mk.injEq]
 refine ⟨?_,?_,?_,?_,?_,?_,?_,?_⟩ <;> grind
theorem Bd.add {v w:Nat→Int} {L M:Nat} (h:Bd v L) (g:Bd w M):Bd (fun i=>v i+w i) (L+M+1):=fun i hi=>by
 have h1:=h i hi
 have h2:=g i hi
 have h3:2 ^ L≤2 ^ (L+M):=Nat.pow_le_pow_right (by decide) (by omega)
 have h4:2 ^ M≤2 ^ (L+M):=Nat.pow_le_pow_right (by decide) (by omega)
 rw [Nat.pow_succ]
 have:=Int.natAbs_add_le (v i) (w i)
 simp only
 omega
theorem Bd.up {v:Nat→Int} {L:Nat} (h:Bd v L) (n:Nat):Bd (fun i=>v i*2 ^ n) (L+n):=fun i hi=>by
 have:=h i hi
 simp only
 rw [Int.natAbs_mul,Int.natAbs_pow,Nat.pow_add]
 exact Nat.mul_lt_mul_of_pos_right this (Nat.pow_pos (by decide))
end Go.Ql
end
section
namespace Go.Ql
end Go.Ql
end
section
namespace Go.Ql
def tv1 (v:Nat→Int):Nat→Int:=fun j=>if j=0 then - v 7 else v (j - 1)
def tv (v:Nat→Int):Nat→Nat→Int
 | 0=>v
 | n+1=>tv1 (tv v n)
theorem kv_turn1 (v:Nat→Int) (e:Nat):kv (tv1 v) e=K.turn1 (kv v e):=by
 simp only [kv,tv1,K.turn1,K.mk.injEq,Rat.intCast_neg]
 refine ⟨?_,rfl,rfl,rfl,rfl,rfl,rfl,rfl⟩
 simp only [if_true]
 grind
theorem kv_turn (v:Nat→Int) (e:Nat) : ∀ n,kv (tv v n) e=K.turn (kv v e) n
 | 0=>rfl
 | n+1=>by rw [tv,kv_turn1,kv_turn v e n];rfl
theorem tv_at (v:Nat→Int) (i:Nat) (hi:i < 8) : ∀ n,tv v n ((i+n) % 8)=if (i+n) / 8 % 2=1 then - v i else v i
 | 0=>by rw [Nat.add_zero,Nat.mod_eq_of_lt hi,if_neg (by omega)];rfl
 | n+1=>by
   have ih:=tv_at v i hi n
   simp only [tv,tv1]
   by_cases h:(i+(n+1)) % 8=0
   ·rw [if_pos h]
    rw [show (i+n) % 8=7 by omega] at ih
    rw [ih]
    by_cases h2:(i+n) / 8 % 2=1
    ·rw [if_pos h2,if_neg (by omega),Int.neg_neg]
    ·rw [if_neg h2,if_pos (by omega)]
   ·rw [if_neg h,show (i+(n+1)) % 8 - 1=(i+n) % 8 by omega,ih]
    by_cases h2:(i+n) / 8 % 2=1
    ·rw [if_pos h2,if_pos (by omega)]
    ·rw [if_neg h2,if_neg (by omega)]
theorem tv_bd {v:Nat→Int} {L:Nat} (h:Bd v L) : ∀ n,Bd (tv v n) L
 | 0=>h
 | n+1=>fun i hi=>by
   have ih:=tv_bd h n
   simp only [tv,tv1]
   split
   ·rw [Int.natAbs_neg];exact ih 7 (by omega)
   ·exact ih (i - 1) (by omega)
theorem tv_canon {v:Nat→Int} {e:Nat} (h:KCan v e) : ∀ n,KCan (tv v n) e
 | 0=>h
 | n+1=>by
   rcases tv_canon h n with ih | ⟨i,hi,ho⟩
   ·exact .inl ih
   ·refine .inr ?_
    by_cases h7:i=7
    ·exact ⟨0,by omega,by simp only [tv,tv1,if_true];subst h7;omega⟩
    ·exact ⟨i+1,by omega,by simp only [tv,tv1];rw [if_neg (by omega),Nat.add_sub_cancel];exact ho⟩
end Go.Ql
end
section
namespace Go.Ql
end Go.Ql
end
section
namespace Go.Ql
end Go.Ql
end
section
namespace Go.Ql
def rows (v w:Nat→Int):Nat→Nat→Int
 | 0=>fun _=>0
 | n+1=>fun p=>rows v w n p+v n*tv w n p
theorem kv_mul (v w:Nat→Int) (e f:Nat):K.mul (kv v e) (kv w f)=kv (rows v w 8) (e+f):=by
 apply K.eq_of <;> simp only [K.mul,kv,rows,tv,tv1,hp_add] <;> simp [Rat.intCast_add,Rat.intCast_mul,Rat.intCast_neg] <;> grind
def cv (v:Nat→Int):Nat→Int:=fun j=>if j=0 then v 0 else - v (8 - j)
theorem kv_conj (v:Nat→Int) (e:Nat):kv (cv v) e=K.conj (kv v e):=by
 apply K.eq_of <;> simp only [K.conj,kv,cv] <;> simp [Rat.intCast_neg] <;> grind
end Go.Ql
end
section
namespace Go.Ql
end Go.Ql
end
section
namespace Go.Ql
theorem rows_bd {v w:Nat→Int} {L M:Nat} (hv:Bd v L) (hw:Bd w M) : ∀ n,n≤8→Bd (rows v w n) (L+M+n)
 | 0,_=>fun i _=>by simp only [rows];exact Nat.pow_pos (by decide)
 | n+1,hn=>fun i hi=>by
   have h1:=rows_bd hv hw n (by omega) i hi
   have h2:=hv n (by omega)
   have h3:=tv_bd hw n i hi
   have h4:(v n*tv w n i).natAbs < 2 ^ (L+M):=by
    rw [Int.natAbs_mul,Nat.pow_add]
    exact Nat.mul_lt_mul'' h2 h3
   have h5:2 ^ (L+M)≤2 ^ (L+M+n):=Nat.pow_le_pow_right (by decide) (by omega)
   have:=Int.natAbs_add_le (rows v w n i) (v n*tv w n i)
   simp only [rows]
   rw [show L+M+(n+1)=(L+M+n)+1 by omega,Nat.pow_succ]
   omega
end Go.Ql
end
section
namespace Go.Ql
end Go.Ql
end
section
namespace Go.Ql
abbrev NumT:=List Dg×Int
theorem bx_in (z:NumT):inR (List.length [z]) (0:Int)=some ():=rfl
theorem bx_at (z:NumT):idx [z] (0:Int)=some z:=rfl
theorem idx8 {c:List Dg} {i:Nat} (h:c.length=8) (hi:i < 8):idx c (i:Int)=some (c.getD i d0):=by
 rw [Hq]
 have:i < c.length:=by omega
 simp [this]
theorem map8 {f:Int×List NumT→Option ((Int×List NumT)⊕(Int×List NumT))} {v w:Nat→Int} {B:Int} {c:List Dg} {e:Int}
 (h:Reps B c v)
 (step : ∀ (i:Nat) (c':List Dg),i < 8→c'.length=8→Rep B (c'.getD i d0) (v i) → ∃ r,f ((i:Int),[(c',e)])=some (.inl (((i+1:Nat):Int),[(c'.set i r,e)]))∧Rep B r (w i))
 (done : ∀ c',f ((8:Int),[(c',e)])=some (.inr ((8:Int),[(c',e)]))) :
 ∃ r,iter f ((0:Int),[(c,e)])=some ((8:Int),[(r,e)])∧Reps B r w:=by
 obtain ⟨x,h1,r,h2,h3⟩:=JJ (f:=f) 8
  (fun i s=>s.1=(i:Int) ∧ ∃ c',s.2=[(c',e)]∧Reps B c' (fun j=>if j < i then w j else v j))
  (fun x => ∃ r,x=((8:Int),[(r,e)])∧Reps B r w)
  (by
   rintro i ⟨t,l⟩ hi ⟨h1,c',h1',h2⟩
   simp only at h1 h1'
   subst h1
   subst h1'
   left
   have hri:=h2.at_ i hi
   rw [if_neg (by omega)] at hri
   obtain ⟨r,r1,r2⟩:=step i c' hi h2.len hri
   refine ⟨_,r1,rfl,_,rfl,(h2.set hi r2).congr (fun j hj => ?_)⟩
   by_cases e2:j=i
   ·subst e2;simp
   ·simp only [if_neg e2]
    by_cases e3:j < i
    ·rw [if_pos e3,if_pos (by omega)]
    ·rw [if_neg e3,if_neg (by omega)])
  (by
   rintro ⟨t,l⟩ ⟨h1,c',h1',h2⟩
   simp only at h1 h1'
   subst h1
   subst h1'
   exact ⟨_,done c',c',rfl,h2.congr (fun j hj=>by rw [if_pos hj])⟩)
  (s:=((0:Int),[(c,e)])) ⟨rfl,c,rfl,h.congr (fun j hj=>by rw [if_neg (by omega)])⟩
 subst h2
 exact ⟨r,h1,h3⟩
def YS (v:Nat→Int):Prop:=∀ i,i < 8→v i=0
instance {v:Nat→Int}:Decidable (YS v):=by unfold YS;infer_instance
theorem Ve {c:List Dg} {v:Nat→Int} (h:Reps 10000 c v) (e:Int):W.Jn (c,e)=some (decide (YS v)):=by
 obtain ⟨x,h1,h2⟩:=JJ (f:=fun s:Int↦W.Jn.c100002 (c,e) s some) 8
  (fun i s=>s=(i:Int) ∧ ∀ j,j < i→v j=0)
  (fun x=>(∃ i,x = .inl i ∧ ¬ YS v)∨(∃ i,x = .inr i∧YS v))
  (by
   rintro i s hi ⟨rfl,h2⟩
   simp only [W.Jn.c100002]
   rw [jY (by omega),h.idx hi,je]
   have hp:=(h.at_ i hi).pos_of (by decide)
   by_cases h0:v i=0
   ·rw [jP (by rw [hp];simpa using h0),js (by omega)]
    refine .inl ⟨_,rfl,by omega,fun j hj => ?_⟩
    by_cases e2:j=i
    ·rw [e2];exact h0
    ·exact h2 j (by omega)
   ·rw [jY (hp.2 h0)]
    exact .inr ⟨_,rfl,.inl ⟨_,rfl,fun hn=>h0 (hn i hi)⟩⟩)
  (by
   rintro s ⟨rfl,h2⟩
   simp only [W.Jn.c100002]
   rw [jP (by omega)]
   exact ⟨_,rfl,.inr ⟨_,rfl,h2⟩⟩)
  (s:=(0:Int)) ⟨rfl,fun j hj=>by omega⟩
 unfold W.Jn
 rw [h1,je]
 rcases h2 with ⟨i,rfl,h3⟩ | ⟨i,rfl,h3⟩
 ·rw [JS,decide_eq_false h3]
 ·rw [JZ,decide_eq_true h3]
theorem YE {v:Nat→Int} {e:Nat}:YS v↔kv v e=K.zero:=by
 constructor
 ·intro h
  rw [Hf h,UT]
 ·intro h i hi
  have h2:=kv_at (h.trans (UT e).symm) i hi
  have h3:=hp_ne e
  have h4:((v i:Int):Rat)=((0:Int):Rat):=by
   generalize ((v i:Int):Rat)=a at h2 ⊢
   generalize (((0:Int):Int):Rat)=b at h2 ⊢
   generalize hp e=c at h2 h3
   grind
  exact_mod_cast h4
structure PNum (B:Int) (x:NumT) (k:K) (L E:Nat):Prop where
 has : ∃ v e,Reps B x.1 v∧x.2=((e:Nat):Int)∧kv v e=k∧Bd v L∧e≤E
theorem Num.pre {B:Int} {x:NumT} {k:K} {L E:Nat} (h:Num B x k L E):PNum B x k L E:=by
 obtain ⟨v,e,h1,h2,_,h4,h5,h6⟩:=h.has
 exact ⟨v,e,h1,h2,h4,h5,h6⟩
theorem kv_le {v w:Nat→Int} {e f M:Nat} (h:kv v e=kv w f) (hb:Bd w M) (hf:e≤f):Bd v M:=by
 obtain ⟨k,rfl⟩ : ∃ k,f=e+k:=⟨f - e,by omega⟩
 intro i hi
 have h1:=kv_at h i hi
 rw [← hp_up (v i) e k] at h1
 have h3:=hp_ne (e+k)
 have h4:((v i*2 ^ k:Int):Rat)=(w i:Rat):=by
  generalize ((v i*2 ^ k:Int):Rat)=a at h1 ⊢
  generalize (w i:Rat)=b at h1 ⊢
  generalize hp (e+k)=c at h1 h3
  grind
 have h5:v i*2 ^ k=w i:=by exact_mod_cast h4
 have h6:=hb i hi
 rw [← h5,Int.natAbs_mul] at h6
 have h7:0 < ((2:Int) ^ k).natAbs:=by rw [Int.natAbs_pow];exact Nat.pow_pos (by decide)
 exact Nat.lt_of_le_of_lt (Nat.le_mul_of_pos_right _ h7) h6
theorem KCan.least {v w:Nat→Int} {e f:Nat} (h:kv v e=kv w f) (hv:KCan v e):e≤f:=by
 rcases Nat.lt_or_ge f e with h1 | h1
 ·obtain ⟨k,rfl⟩ : ∃ k,e=f+k:=⟨e - f,by omega⟩
  have:=(kv_inj_le h.symm hv).1
  omega
 ·exact h1
theorem PNum.tight {B:Int} {x:NumT} {k:K} {L E M e:Nat} {w:Nat→Int} (h:PNum B x k L E) (hk:kv w e=k) (hb:Bd w M) (he:E≤e):PNum B x k M E:=by
 obtain ⟨v,f,h1,h2,h4,h5,h6⟩:=h.has
 exact ⟨v,f,h1,h2,h4,kv_le (h4.trans hk.symm) hb (by omega),h6⟩
theorem Num.tight {B:Int} {x:NumT} {k:K} {L E M e:Nat} {w:Nat→Int} (h:Num B x k L E) (hk:kv w e=k) (hb:Bd w M):Num B x k M e:=by
 obtain ⟨v,f,h1,h2,h3,h4,h5,h6⟩:=h.has
 have hl:=KCan.least (h4.trans hk.symm) h3
 exact ⟨v,f,h1,h2,h3,h4,kv_le (h4.trans hk.symm) hb hl,hl⟩
theorem rneg_ok {a:NumT} {x:K} {L E:Nat} (h:Num 10000 a x L E) (hL:L < 80000) :
 ∃ r,W.JW a=some r∧Num 10000 r (K.neg x) L E:=by
 obtain ⟨c,ae⟩:=a
 obtain ⟨v,e,h1,h2,h3,h4,h5,h6⟩:=h.has
 simp only at h1 h2
 subst h2
 obtain ⟨r,r1,r2⟩:=map8 (f:=fun s:Int×List NumT↦W.JW.c100002 (Prod.fst s) (Prod.snd s) some) (w:=fun i => - v i) (e:=(e:Int)) h1
  (by
   intro i c' hi hl hr
   have hfew:=hr.len_le (by decide) (h5 i hi)
   obtain ⟨z,z1,z2,_⟩:=zneg_ok hr (by omega)
   refine ⟨z,?_,z2⟩
   simp only [W.JW.c100002,bx_in,bx_at,je]
   rw [jY (by omega),Jf (by simp;omega),je,idx8 hl hi,je,z1,je,je,je,js (by omega)]
   simp)
  (by
   intro c'
   simp only [W.JW.c100002]
   rw [jP (by omega)])
 refine ⟨(r,(e:Int)),?_,?_⟩
 ·unfold W.JW
  rw [r1,je]
  rfl
 ·have e2:kv (fun i => - v i) e=K.neg x:=by
   rw [← h4]
   apply K.eq_of <;> simp only [kv,K.neg] <;> simp [Rat.intCast_neg] <;> grind
  refine Num.mk' r2 rfl ?_ e2 (fun i hi=>by simp only [Int.natAbs_neg];exact h5 i hi) h6
  rcases h3 with h3 | ⟨i,hi,ho⟩
  ·exact .inl h3
  ·exact .inr ⟨i,hi,by simp only;omega⟩
end Go.Ql
end
section
namespace Go.Ql
theorem tmod_nat (m:Nat):Int.tmod (m:Int) 16=((m % 16:Nat):Int):=by
 rw [Int.tmod_eq_emod_of_nonneg (by omega)];omega
theorem turn_red (k:Int):W.Jd.c208197 (Int.tmod k 16) some=some (((k % 16).toNat:Nat):Int):=by
 unfold W.Jd.c208197
 have hb:=Int.emod_nonneg k (show (16:Int)≠0 by decide)
 by_cases h0:0≤k
 ·rw [Int.tmod_eq_emod_of_nonneg h0,jP (by omega),Int.toNat_of_nonneg hb]
 ·obtain ⟨m,rfl⟩ : ∃ m:Nat,k = -(m:Int):=⟨k.natAbs,by omega⟩
  rw [Int.neg_tmod,tmod_nat,Int.toNat_of_nonneg hb]
  by_cases h1:m % 16=0
  ·rw [jP (by omega)]
   congr 1
   omega
  ·rw [jY (by omega),js (by omega)]
   congr 1
   omega
theorem rturn_loop {c:List Dg} {v:Nat→Int} {L:Nat} (h:Reps 10000 c v) (hb:Bd v L) (hL:L < 1000000) (e:Int) (n:Nat) (hn:n < 16) :
 ∃ r,iter (fun s↦W.Jd.c100007 (n:Int) (c,e) (Prod.fst s) (Prod.snd s) some) ((0:Int),[(List.replicate 8 d0,e)])=some ((8:Int),[(r,e)])∧Reps 10000 r (tv v n):=by
 obtain ⟨y,q1,r,q2,q3⟩:=JJ (f:=fun s:Int×List NumT↦W.Jd.c100007 (n:Int) (c,e) (Prod.fst s) (Prod.snd s) some) 8
  (fun i s=>s.1=(i:Int) ∧ ∃ c',s.2=[(c',e)]∧c'.length=8 ∧ ∀ j,j < i→Rep 10000 (c'.getD ((j+n) % 8) d0) (tv v n ((j+n) % 8)))
  (fun y => ∃ r,y=((8:Int),[(r,e)])∧Reps 10000 r (tv v n))
  (by
   rintro i ⟨t,l⟩ hi ⟨g1,c',g2,g3,g4⟩
   simp only at g1 g2
   subst g1
   subst g2
   left
   have hp:(i+n) % 8 < 8:=Nat.mod_lt _ (by decide)
   have hri:=h.at_ i hi
   have hfew:=h.few (by decide) hb hi
   obtain ⟨u,u1,u2⟩ : ∃ u,W.Jd.c236872 (n:Int) (c,e) (i:Int) [(c',e)] some=some [(c'.set ((i+n) % 8) u,e)]∧Rep 10000 u (tv v n ((i+n) % 8)):=by
    rw [tv_at v i hi n]
    unfold W.Jd.c236872
    simp only [bx_in,bx_at,je]
    rw [js (x:=(i:Int)+(n:Int)) (by omega),show (i:Int)+(n:Int)=((i+n:Nat):Int) by omega,tmod_nat]
    by_cases ho:(i+n) / 8 % 2=1
    ·obtain ⟨z,z1,z2,_⟩:=zneg_ok hri (by omega)
     rw [jP (by omega),h.idx hi,je,z1,je,js (by omega),show (((i+n) % 16:Nat):Int) - 8=(((i+n) % 8:Nat):Int) by omega,Jf (by rw [Bool.and_eq_true,decide_eq_true_eq,decide_eq_true_eq];exact ⟨Int.natCast_nonneg _,Int.ofNat_lt.2 hp⟩),je,idx8 g3 hp,je,if_pos ho]
     exact ⟨z,rfl,z2⟩
    ·rw [jY (by omega),h.idx hi,je,show (((i+n) % 16:Nat):Int)=(((i+n) % 8:Nat):Int) by omega,Jf (by rw [Bool.and_eq_true,decide_eq_true_eq,decide_eq_true_eq];exact ⟨Int.natCast_nonneg _,Int.ofNat_lt.2 hp⟩),je,idx8 g3 hp,je,if_neg ho]
     exact ⟨_,rfl,hri⟩
   refine ⟨(((i+1:Nat):Int),[(c'.set ((i+n) % 8) u,e)]),?_,rfl,_,rfl,by rw [List.length_set];exact g3,fun j hj => ?_⟩
   ·simp only [W.Jd.c100007]
    rw [jY (by omega),u1,je,js (by omega)]
    rfl
   ·by_cases ej:j=i
    ·subst ej
     have:(c'.set ((j+n) % 8) u).getD ((j+n) % 8) d0=u:=by simp [g3,hp]
     rw [this];exact u2
    ·have hne:(j+n) % 8≠(i+n) % 8:=by omega
     have:(c'.set ((i+n) % 8) u).getD ((j+n) % 8) d0=c'.getD ((j+n) % 8) d0:=by
      simp [List.getD,List.getElem?_set_ne (Ne.symm hne)]
     rw [this];exact g4 j (by omega))
  (by
   rintro ⟨t,l⟩ ⟨g1,c',g2,g3,g4⟩
   simp only at g1 g2
   subst g1
   subst g2
   refine ⟨((8:Int),[(c',e)]),?_,c',rfl,g3,fun p hp => ?_⟩
   ·simp only [W.Jd.c100007]
    rw [jP (by omega)]
    rfl
   ·have:=g4 ((p+16 - n) % 8) (Nat.mod_lt _ (by decide))
    rw [show ((p+16 - n) % 8+n) % 8=p by omega] at this
    exact this)
  (s:=((0:Int),[(List.replicate 8 d0,e)])) ⟨rfl,_,rfl,by simp,fun j hj=>by omega⟩
 subst q2
 exact ⟨r,q1,q3⟩
theorem rturn_reps {c:List Dg} {v:Nat→Int} {L:Nat} (h:Reps 10000 c v) (hb:Bd v L) (hL:L < 1000000) (e k:Int) :
 ∃ r,W.Jd (c,e) k=some (r,e)∧Reps 10000 r (tv v (k % 16).toNat):=by
 have hm:=Int.emod_lt_of_pos k (show (0:Int) < 16 by decide)
 obtain ⟨r,r1,r2⟩:=rturn_loop h hb hL e (k % 16).toNat (by omega)
 refine ⟨r,?_,r2⟩
 unfold W.Jd
 rw [turn_red,je,r1,je]
 rfl
theorem rturn_ok {a:NumT} {x:K} {L E:Nat} (h:Num 10000 a x L E) (hL:L < 1000000) (k:Int) :
 ∃ r,W.Jd a k=some r∧Num 10000 r (K.turn x (k % 16).toNat) L E:=by
 obtain ⟨c,ae⟩:=a
 obtain ⟨v,e,h1,h2,h3,h4,h5,h6⟩:=h.has
 simp only at h1 h2
 subst h2
 obtain ⟨r,r1,r2⟩:=rturn_reps h1 h5 hL (e:Int) k
 exact ⟨_,r1,Num.mk' r2 rfl (tv_canon h3 _) (by rw [kv_turn,h4]) (tv_bd h5 _) h6⟩
theorem rto_ok {c:List Dg} {v:Nat→Int} {L e f:Nat} (h:Reps 10000 c v) (hb:Bd v L) (hL:L < 1000000) (hd:f≤e+10000) :
 ∃ r,W.JB (c,(e:Int)) (f:Int)=some (r,((Max.max e f:Nat):Int))∧Reps 10000 r (fun i=>v i*2 ^ (Max.max e f - e)):=by
 unfold W.JB W.JB.c204118
 simp only [bx_in,bx_at,je]
 by_cases hf:e < f
 ·obtain ⟨p,p1,p2,p3⟩:=zpow2_ok (f - e) (by omega)
  obtain ⟨r,r1,r2⟩:=map8 (f:=fun s:Int×List NumT↦W.JB.c100004 (Prod.fst s) (Prod.snd s) p.1 p.2 some) (w:=fun i=>v i*2 ^ (f - e)) (e:=(e:Int)) h
   (by
    intro i c' hi hl hr
    have hfew:=hr.len_le (by decide) (hb i hi)
    obtain ⟨z,z1,z2,_⟩:=zmul_ok hr p2 (by omega) (by omega)
    refine ⟨z,?_,z2⟩
    simp only [W.JB.c100004,W.JB.c6,bx_in,bx_at,je]
    rw [jY (by omega),Jf (by simp;omega),je,idx8 hl hi,je,show ((p.1,p.2):Dg)=p from rfl,z1]
    simp only [je]
    rw [js (by omega)]
    simp)
   (by
    intro c'
    simp only [W.JB.c100004]
    rw [jP (by omega)])
  rw [jY (by omega),js (by omega),show (f:Int) - (e:Int)=((f - e:Nat):Int) by omega,p1,je,r1]
  simp only [je,bx_in,bx_at]
  refine ⟨r,?_,?_⟩
  ·rw [show Max.max e f=f by omega]
   rfl
  ·rw [show Max.max e f=f by omega]
   exact r2
 ·rw [jP (by omega)]
  simp only [je,bx_at]
  rw [show Max.max e f=e by omega]
  exact ⟨c,rfl,h.congr (fun i hi=>by simp)⟩
end Go.Ql
end
section
namespace Go.Ql
theorem even_half {u w:Int} (h:u.natAbs % 2=0) (h1:w.natAbs=u.natAbs / 2) (h2:0≤u→0≤w) (h3:u≤0→w≤0):w=u / 2:=by omega
theorem rodd_loop {c:List Dg} {v:Nat→Int} (h:Reps 10000 c v) (e:Int) (z:NumT) :
 ∃ x,iter (fun s↦W.jK.c100003 s [(c,e)] [z] some) (0:Int)=some x∧((∃ i,x = .inl (i,[(c,e)]) ∧ ∃ j,j < 8∧v j % 2=1)∨(∃ i,x = .inr i ∧ ∀ j,j < 8→v j % 2=0)):=by
 refine JJ (f:=fun s:Int↦W.jK.c100003 s [(c,e)] [z] some) 8
  (fun i s=>s=(i:Int) ∧ ∀ j,j < i→v j % 2=0)
  (fun x=>(∃ i,x = .inl (i,[(c,e)]) ∧ ∃ j,j < 8∧v j % 2=1)∨(∃ i,x = .inr i ∧ ∀ j,j < 8→v j % 2=0))
  (by
   rintro i s hi ⟨rfl,h2⟩
   simp only [W.jK.c100003,bx_in,bx_at,je]
   rw [jY (by omega),Jf (by simp;omega),je,h.idx hi,je,zodd_ok (h.at_ i hi),je]
   by_cases h0:(v i).natAbs % 2=1
   ·rw [jY h0]
    exact .inr ⟨_,rfl,.inl ⟨_,rfl,i,hi,by omega⟩⟩
   ·rw [jP h0,js (by omega)]
    refine .inl ⟨_,rfl,by omega,fun j hj => ?_⟩
    by_cases e2:j=i
    ·rw [e2];omega
    ·exact h2 j (by omega))
  (by
   rintro s ⟨rfl,h2⟩
   simp only [W.jK.c100003]
   rw [jP (by omega)]
   exact ⟨_,rfl,.inr ⟨_,rfl,h2⟩⟩)
  (s:=(0:Int)) ⟨rfl,fun j hj=>by omega⟩
theorem rhalve_loop {c:List Dg} {v:Nat→Int} {L:Nat} (h:Reps 10000 c v) (hb:Bd v L) (hL:L < 900000) (he : ∀ j,j < 8→v j % 2=0) (e:Int) :
 ∃ r,iter (fun s↦W.jK.c100008 (Prod.fst s) (Prod.snd s) some) ((0:Int),[(c,e)])=some ((8:Int),[(r,e)])∧Reps 10000 r (fun i=>v i / 2):=
 map8 (f:=fun s:Int×List NumT↦W.jK.c100008 (Prod.fst s) (Prod.snd s) some) (w:=fun i=>v i / 2) (e:=e) h
  (by
   intro i c' hi hl hr
   have hfew:=hr.len_le (by decide) (hb i hi)
   obtain ⟨z,o,z1,w,z2,z3,_⟩:=zhalf_sign hr (by omega)
   refine ⟨z,?_,z2.eq_of (even_half (by have:=he i hi;omega) z3.1 z3.2.1 z3.2.2)⟩
   simp only [W.jK.c100008,bx_in,bx_at,je]
   rw [jY (by omega),Jf (by simp;omega),je,idx8 hl hi,je,z1]
   simp only [je]
   rw [js (by omega)]
   simp)
  (by
   intro c'
   simp only [W.jK.c100008]
   rw [jP (by omega)])
theorem kv_halve {v:Nat→Int} (e:Nat) (he : ∀ j,j < 8→v j % 2=0):kv v (e+1)=kv (fun i=>v i / 2) e:=by
 rw [← kv_up (fun i=>v i / 2) e 1]
 exact Hf (fun i hi=>by have:=he i hi;omega)
theorem Bd.halve {v:Nat→Int} {L:Nat} (h:Bd v L):Bd (fun i=>v i / 2) L:=fun i hi=>by
 have:=h i hi
 simp only
 omega
theorem rleast_ok {c:List Dg} {v:Nat→Int} {L:Nat} (h:Reps 10000 c v) (hb:Bd v L) (hL:L < 900000) (e:Nat) (hE:e < 1000000) :
 ∃ r,W.jK (c,(e:Int))=some r∧Num 10000 r (kv v e) L e:=by
 obtain ⟨x,h1,r,h2,h3⟩:=Ye (f:=fun s:List NumT↦W.jK.c100001 s [(List.replicate 8 d0,(0:Int))] some)
  (J:=fun s => ∃ c' v' e',s=[(c',((e':Nat):Int))]∧Reps 10000 c' v'∧kv v' e'=kv v e∧Bd v' L∧e'≤e)
  (Q:=fun x => ∃ r:NumT,(sel x (fun u=>bnd (idx (Prod.snd u) (0:Int)) fun y=>some y) (fun w=>bnd (idx w (0:Int)) fun y=>some y))=some r∧Num 10000 r (kv v e) L e)
  (fun s=>match s with | (_,t)::_=>t.toNat | []=>0)
  (by
   rintro s ⟨c',v',e',rfl,g1,g2,g3,g4⟩
   simp only [W.jK.c100001,bx_in,bx_at,je]
   by_cases h0:e'=0
   ·subst h0
    rw [jP (by omega)]
    refine .inl ⟨_,rfl,(c',((0:Nat):Int)),by simp only [JZ,bx_at,je],Num.mk' g1 rfl (.inl rfl) g2 g3 (Nat.zero_le _)⟩
   ·rw [jY (by omega)]
    obtain ⟨x,x1,x2⟩:=rodd_loop g1 (e':Int) (List.replicate 8 d0,0)
    rw [x1,je]
    rcases x2 with ⟨i,rfl,hodd⟩ | ⟨i,rfl,heven⟩
    ·rw [JS]
     refine .inl ⟨_,rfl,(c',(e':Int)),by simp only [JS,bx_at,je],Num.mk' g1 rfl (.inr hodd) g2 g3 g4⟩
    ·rw [JZ]
     obtain ⟨r,r1,r2⟩:=rhalve_loop g1 g3 (by omega) heven (e':Int)
     rw [r1]
     simp only [bx_in,bx_at,je]
     rw [Ve r2,je]
     obtain ⟨f,rfl⟩ : ∃ f,e'=f+1:=⟨e' - 1,by omega⟩
     have hk:=kv_halve f heven
     by_cases hn:YS (fun i=>v' i / 2)
     ·rw [jY hn]
      refine .inl ⟨_,rfl,(List.replicate 8 d0,(0:Int)),rfl,num_zero.eq_of ?_⟩
      rw [← g2,hk]
      exact ((YE (e:=f)).1 hn).symm
     ·rw [jP hn,js (by omega)]
      refine .inr ⟨_,rfl,⟨r,_,f,by simp,r2,hk ▸ g2,g3.halve,by omega⟩,?_⟩
      simp)
  (s:=[(c,(e:Int))]) ⟨c,v,e,rfl,h,rfl,hb,Nat.le_refl _⟩
 refine ⟨r,?_,h3⟩
 unfold W.jK
 rw [h1,je]
 exact h2
end Go.Ql
end
section
namespace Go.Ql
theorem radd_loop {c d:List Dg} {v w:Nat→Int} {L M:Nat} (h:Reps 10000 c v) (g:Reps 10000 d w) (hv:Bd v L) (hw:Bd w M) (hs:L+M < 1000000) (e f:Int) :
 ∃ r,iter (fun s↦W.Jw.c100008 (Prod.fst s) (Prod.snd s) [(d,f)] some) ((0:Int),[(c,e)])=some ((8:Int),[(r,e)])∧Reps 10000 r (fun i=>v i+w i):=
 map8 (f:=fun s:Int×List NumT↦W.Jw.c100008 (Prod.fst s) (Prod.snd s) [(d,f)] some) (w:=fun i=>v i+w i) (e:=e) h
  (by
   intro i c' hi hl hr
   have l1:=hr.len_le (by decide) (hv i hi)
   have l2:=g.few (by decide) hw hi
   obtain ⟨z,z1,z2,_⟩:=zadd_ok hr (g.at_ i hi) (by omega) (by omega)
   refine ⟨z,?_,z2⟩
   simp only [W.Jw.c100008,W.Jw.c10,bx_in,bx_at,je]
   rw [jY (by omega),Jf (by simp;omega),je,idx8 hl hi,je,je,g.idx hi,je,z1]
   simp only [je]
   rw [js (by omega)]
   simp)
  (by
   intro c'
   simp only [W.Jw.c100008]
   rw [jP (by omega)])
theorem radd_pre {a b:NumT} {k l:K} {L M E F:Nat} (h:PNum 10000 a k L E) (g:PNum 10000 b l M F) (hs:L+M+E+F < 800000) (hd:E≤10000∧F≤10000) :
 ∃ r,W.Jw a b=some r∧PNum 10000 r (K.add k l) (L+M+E+F+1) (Max.max E F)∧(∀ L' M' E' F',Num 10000 a k L' E'→Num 10000 b l M' F'→Num 10000 r (K.add k l) (L+M+E+F+1) (Max.max E F)):=by
 obtain ⟨c,ae⟩:=a
 obtain ⟨d,be⟩:=b
 obtain ⟨v,e,h1,h2,h4,h5,h6⟩:=h.has
 obtain ⟨w,f,g1,g2,g4,g5,g6⟩:=g.has
 simp only at h1 g1 h2 g2
 subst h2
 subst g2
 unfold W.Jw
 rw [Ve h1,je]
 by_cases hz:YS v
 ·have ek:K.add k l=l:=by rw [← h4,(YE (e:=e)).1 hz,K.zero_add]
  rw [jY hz,ek]
  refine ⟨_,rfl,⟨w,f,g1,rfl,g4,g5.mono (by omega),by omega⟩,fun _ _ _ _ _ gn => ?_⟩
  obtain ⟨w',f',q1,q2,q3,q4,q5,q6⟩:=(gn.tight g4 g5).has
  exact ⟨w',f',q1,q2,q3,q4,q5.mono (by omega),by omega⟩
 ·rw [jP hz,Ve g1,je]
  by_cases gz:YS w
  ·have ek:K.add k l=k:=by rw [← g4,(YE (e:=f)).1 gz,K.add_zero]
   rw [jY gz,ek]
   refine ⟨_,rfl,⟨v,e,h1,rfl,h4,h5.mono (by omega),by omega⟩,fun _ _ _ _ hn _ => ?_⟩
   obtain ⟨w',f',q1,q2,q3,q4,q5,q6⟩:=(hn.tight h4 h5).has
   exact ⟨w',f',q1,q2,q3,q4,q5.mono (by omega),by omega⟩
  ·obtain ⟨x,x1,x2⟩:=rto_ok (f:=f) h1 h5 (by omega) (by omega)
   obtain ⟨y,y1,y2⟩:=rto_ok (f:=Max.max e f) g1 g5 (by omega) (by omega)
   have em:Max.max f (Max.max e f)=Max.max e f:=by omega
   rw [em] at y1 y2
   have b1:=(h5.up (Max.max e f - e)).mono (show L+(Max.max e f - e)≤L+F by omega)
   have b2:=(g5.up (Max.max e f - f)).mono (show M+(Max.max e f - f)≤M+E by omega)
   obtain ⟨r,r1,r2⟩:=radd_loop x2 y2 b1 b2 (by omega) ((Max.max e f:Nat):Int) ((Max.max e f:Nat):Int)
   have e1:=kv_up v e (Max.max e f - e)
   have e2:=kv_up w f (Max.max e f - f)
   rw [show e+(Max.max e f - e)=Max.max e f by omega] at e1
   rw [show f+(Max.max e f - f)=Max.max e f by omega] at e2
   have ek:=kv_add (fun i=>v i*2 ^ (Max.max e f - e)) (fun i=>w i*2 ^ (Max.max e f - f)) (Max.max e f)
   rw [e1,e2,h4,g4] at ek
   rw [jP gz,x1,je,y1,je,r1,je]
   simp only [bx_at,je]
   rw [Ve r2,je]
   by_cases rz:YS (fun i=>v i*2 ^ (Max.max e f - e)+w i*2 ^ (Max.max e f - f))
   ·have e0:K.add k l=K.zero:=by rw [ek];exact (YE (e:=Max.max e f)).1 rz
    rw [jY rz,e0]
    exact ⟨_,rfl,num_zero.pre,fun _ _ _ _ _ _=>num_zero⟩
   ·obtain ⟨z,z1,z2⟩:=rleast_ok r2 ((b1.add b2).mono (show L+F+(M+E)+1≤L+M+E+F+1 by omega)) (by omega) (Max.max e f) (by omega)
    rw [jP rz,z1,je]
    have zn:Num 10000 z (K.add k l) (L+M+E+F+1) (Max.max E F):=by
     obtain ⟨w',f',q1,q2,q3,q4,q5,q6⟩:=z2.has
     exact ⟨w',f',q1,q2,q3,q4.trans ek.symm,q5,by omega⟩
    exact ⟨z,rfl,zn.pre,fun _ _ _ _ _ _=>zn⟩
theorem Hs {a b:NumT} {k l:K} {L M E F:Nat} (h:Num 10000 a k L E) (g:Num 10000 b l M F) (hs:L+M+E+F < 800000) (hd:E≤10000∧F≤10000) :
 ∃ r,W.Jw a b=some r∧Num 10000 r (K.add k l) (L+M+E+F+1) (Max.max E F):=by
 obtain ⟨r,r1,_,r2⟩:=radd_pre h.pre g.pre hs hd
 exact ⟨r,r1,r2 _ _ _ _ h g⟩
theorem rsub_ok {a b:NumT} {k l:K} {L M E F:Nat} (h:Num 10000 a k L E) (g:Num 10000 b l M F) (hs:L+M+E+F < 70000) (hd:E≤10000∧F≤10000) :
 ∃ r,W.ke a b=some r∧Num 10000 r (K.sub k l) (L+M+E+F+1) (Max.max E F):=by
 obtain ⟨n,n1,n2⟩:=rneg_ok g (by omega)
 obtain ⟨r,r1,r2⟩:=Hs h n2 (by omega) hd
 refine ⟨r,?_,r2⟩
 unfold W.ke W.ke.c1
 refine jj (x:=[r]) ?_ rfl
 exact jj n1 (jj r1 rfl)
end Go.Ql
end
section
namespace Go.Ql
theorem okIf8 {p:Nat} (hp:p < 8):okIf (decide ((0:Int)≤(p:Int)) && decide ((p:Int) < (↑(8:Nat):Int)))=some ():=
 Jf (by rw [Bool.and_eq_true,decide_eq_true_eq,decide_eq_true_eq];exact ⟨Int.natCast_nonneg _,Int.ofNat_lt.2 hp⟩)
end Go.Ql
end
section
namespace Go.Ql
def cvp (v:Nat→Int) (i:Nat):Nat→Int:=fun p=>if p=0 then (if 0 < i then v 0 else 0) else if 8 - p < i then - v (8 - p) else 0
def YX (u:Int):Nat→Int:=fun j=>if j=0 then u else 0
theorem single_reps {B:Int} {x:Dg} {u:Int} (h:Rep B x u):Reps B ((List.replicate 8 d0).set 0 x) (YX u):=
 (Reps.zero.set (by decide) h).congr (fun j hj=>by simp only [YX])
theorem single_bd {u:Int} {L:Nat} (h:u.natAbs < 2 ^ L):Bd (YX u) L:=fun i _=>by
 simp only [YX]
 split
 ·exact h
 ·simp;exact Nat.pow_pos (by decide)
theorem single_turn (u:Int) (n p:Nat) (hn:n < 16) (hp:p < 8):tv (YX u) n p=if p=n % 8 then (if 8≤n then - u else u) else 0:=by
 have h:=tv_at (YX u) ((p+16 - n) % 8) (Nat.mod_lt _ (by decide)) n
 rw [show ((p+16 - n) % 8+n) % 8=p by omega] at h
 rw [h]
 simp only [YX]
 by_cases e:p=n % 8
 ·have e0:(p+16 - n) % 8=0:=by omega
  rw [if_pos e,e0]
  simp only [if_true]
  by_cases h8:8≤n
  ·rw [if_pos h8,if_pos (by omega)]
  ·rw [if_neg h8,if_neg (by omega)]
 ·have e0:(p+16 - n) % 8≠0:=by omega
  rw [if_neg e,if_neg e0]
  simp
theorem cvp_step (v:Nat→Int) (i:Nat) (hi:i < 8) (p:Nat) (hp:p < 8):cvp v i p+tv (YX (v i)) ((-(i:Int)) % 16).toNat p=cvp v (i+1) p:=by
 rw [single_turn _ _ _ (by omega) hp]
 simp only [cvp]
 by_cases h0:i=0
 ·subst h0
  by_cases p0:p=0
  ·subst p0;simp
  ·rw [if_neg p0,if_neg (by omega),if_neg p0,if_neg (by omega)]
   simp
   omega
 ·have en:((-(i:Int)) % 16).toNat=16 - i:=by omega
  rw [en]
  by_cases p0:p=0
  ·subst p0
   rw [if_pos rfl,if_pos rfl,if_pos (show 0 < i by omega),if_neg (show ¬ 0=(16 - i) % 8 by omega),if_pos (show 0 < i+1 by omega)]
   omega
  ·rw [if_neg p0,if_neg p0]
   by_cases hc:8 - p=i
   ·rw [if_neg (show ¬ 8 - p < i by omega),if_pos (show p=(16 - i) % 8 by omega),if_pos (show 8≤16 - i by omega),if_pos (show 8 - p < i+1 by omega),hc]
    omega
   ·rw [if_neg (c:=p=(16 - i) % 8) (by omega)]
    by_cases hlt:8 - p < i
    ·rw [if_pos hlt,if_pos (by omega)];omega
    ·rw [if_neg hlt,if_neg (by omega)];omega
theorem cvp_bd {v:Nat→Int} {L:Nat} (h:Bd v L) (i:Nat):Bd (cvp v i) L:=fun p hp=>by
 have h0:(0:Int).natAbs < 2 ^ L:=by simp;exact Nat.pow_pos (by decide)
 simp only [cvp]
 split
 ·split
  ·exact h 0 (by omega)
  ·exact h0
 ·split
  ·rw [Int.natAbs_neg];exact h _ (by omega)
  ·exact h0
theorem K.sub_zero {k l:K}:K.sub k l=K.zero↔k=l:=by
 constructor
 ·intro h
  simp only [K.sub,K.add,K.neg,K.zero,K.mk.injEq] at h
  obtain ⟨h0,h1,h2,h3,h4,h5,h6,h7⟩:=h
  apply K.eq_of <;> grind
 ·rintro rfl
  exact K.sub_self k
theorem kv_half1 (v:Nat→Int) (e:Nat):kv v (e+1)=K.sm (1 / 2) (kv v e):=by
 apply K.eq_of <;> simp only [kv,K.sm,hp] <;> grind
end Go.Ql
end
section
namespace Go.Ql
theorem decD_is : ∀ u:Nat,0 < u→IsDec (Go.Lib.decDigits u) (u:Int):=by
 intro u
 induction u using Nat.strongRecOn with
 | _ u ih=>
   intro hu
   by_cases h:u < 10
   ·rw [Go.Lib.decDigits,dif_pos h]
    have hb:=UP (d:=(u:Int)) (by omega)
    have e:Int.toNat (48+(u:Int))=48+u:=by omega
    rw [e] at hb
    refine ⟨fun c hc => ?_,by simp,?_,?_⟩
    ·rw [List.mem_singleton.1 hc];exact hb.1
    ·intro h0
     have h1:UInt8.ofNat (48+u)=48:=by simpa using h0
     have h2:=hb.2
     rw [h1] at h2
     have h3:dg 48=0:=by decide
     omega
    ·show qdec [UInt8.ofNat (48+u)]=_
     simp only [qdec,List.foldl_cons,List.foldl_nil]
     omega
   ·rw [Go.Lib.decDigits,dif_neg h]
    obtain ⟨h1,h2,h3,h4⟩:=ih (u / 10) (by omega) (by omega)
    have hb:=UP (d:=((u % 10:Nat):Int)) (by omega)
    have e:Int.toNat (48+((u % 10:Nat):Int))=48+u % 10:=by omega
    rw [e] at hb
    refine ⟨fun c hc => ?_,by simp [h2],?_,?_⟩
    ·rcases List.mem_append.1 hc with hc | hc
     ·exact h1 c hc
     ·rw [List.mem_singleton.1 hc];exact hb.1
    ·cases hl:Go.Lib.decDigits (u / 10) with
     | nil=>exact absurd hl h2
     | cons c l=>rw [hl] at h3;exact h3
    ·rw [dec_snoc,h4,hb.2]
     omega
theorem He (n:Int):Txt n (Go.Lib.itoa n):=by
 unfold Go.Lib.itoa
 by_cases h0:n=0
 ·subst h0
  left
  refine ⟨rfl,?_⟩
  rw [if_neg (by decide),Go.Lib.decDigits,dif_pos (by decide)]
  rfl
 ·right
  refine ⟨h0,Go.Lib.decDigits n.natAbs,decD_is _ (by omega),?_⟩
  by_cases hn:n < 0
  ·rw [if_pos hn,if_pos hn];rfl
  ·rw [if_neg hn,if_neg hn,show n.toNat=n.natAbs by omega];rfl
theorem ztext_it {a:Dg} {v:Int} (ha:Rep 10000 a v) (la:a.2.length < 1000000):W.jF a=some (Go.Lib.itoa v):=by
 obtain ⟨l,h1,h2⟩:=ztext_ok ha la
 rw [h1,h2.one (He v)]
def kU (v:Nat→Int):Nat→Nat
 | 0=>0
 | n+1=>if v n≠0 then n else kU v n
theorem lastTo_lt (v:Nat→Int) : ∀ n,0 < n→kU v n < n
 | n+1,_=>by
   unfold kU
   split
   ·omega
   ·cases n with
    | zero=>simp [kU]
    | succ n=>have:=lastTo_lt v (n+1) (by omega);omega
def bodyT (v:Nat→Int):Nat→List UInt8
 | 0=>Go.Lib.itoa (v 0)
 | n+1=>bodyT v n++(44::Go.Lib.itoa (v (n+1)))
def ntext (v:Nat→Int) (e:Nat):List UInt8:=bodyT v (kU v 8)++(if e=0 then [] else 47::Go.Lib.itoa (e:Int))
theorem lastTo_congr {v w:Nat→Int} : ∀ n,(∀ i,i < n→v i=w i)→kU v n=kU w n
 | 0,_=>rfl
 | n+1,h=>by simp only [kU,h n (by omega),lastTo_congr n (fun i hi=>h i (by omega))]
theorem bodyT_congr {v w:Nat→Int} : ∀ n,(∀ i,i≤n→v i=w i)→bodyT v n=bodyT w n
 | 0,h=>by simp only [bodyT,h 0 (by omega)]
 | n+1,h=>by simp only [bodyT,h (n+1) (by omega),bodyT_congr n (fun i hi=>h i (by omega))]
theorem ntext_congr {v w:Nat→Int} (e:Nat) (h : ∀ i,i < 8→v i=w i):ntext v e=ntext w e:=by
 have hl:=lastTo_lt v 8 (by decide)
 unfold ntext
 rw [← lastTo_congr 8 h,bodyT_congr _ (fun i hi=>h i (by omega))]
def KTxt (k:K) (l:List UInt8):Prop:=∃ v e,KCan v e∧kv v e=k∧l=ntext v e
theorem KTxt.one {k:K} {l m:List UInt8} (h:KTxt k l) (g:KTxt k m):l=m:=by
 obtain ⟨v,e,h1,h2,rfl⟩:=h
 obtain ⟨w,f,g1,g2,rfl⟩:=g
 obtain ⟨rfl,h3⟩:=kv_inj (h2.trans g2.symm) h1 g1
 exact ntext_congr e h3
end Go.Ql
end
section
namespace Go.Ql
theorem itoa_len {v:Int} {L:Nat} (h:v.natAbs < 2 ^ L):(Go.Lib.itoa v).length≤L+2:=by
 rcases He v with ⟨_,e⟩ | ⟨h0,D,hd,e⟩
 ·rw [e];simp
 ·have h1:=dec_ge hd.1 hd.2.1 hd.2.2.1
  rw [hd.2.2.2] at h1
  have h2:D.length≤L:=by
   rcases Nat.lt_or_ge L D.length with hc | hc
   ·have h3:(10:Nat) ^ L≤10 ^ (D.length - 1):=Nat.pow_le_pow_right (by decide) (by omega)
    have h4:2 ^ L≤10 ^ L:=Nat.pow_le_pow_left (by decide) L
    have h5:((10 ^ (D.length - 1):Nat):Int)≤(v.natAbs:Int):=by simpa using h1
    omega
   ·exact hc
  rw [e,List.length_append]
  split <;> simp <;> omega
theorem bodyT_len {v:Nat→Int} {L:Nat} (h:Bd v L) : ∀ n,n < 8→(bodyT v n).length≤(n+1)*(L+3)
 | 0,hn=>by
   have:=itoa_len (h 0 hn)
   simp only [bodyT]
   omega
 | n+1,hn=>by
   have h1:=bodyT_len h n (by omega)
   have h2:=itoa_len (h (n+1) hn)
   simp only [bodyT,List.length_append,List.length_cons]
   rw [show (n+1+1)*(L+3)=(n+1)*(L+3)+(L+3) by rw [Nat.succ_mul]]
   omega
theorem bodyT_len8 {v:Nat→Int} {L:Nat} (h:Bd v L) (n:Nat) (hn:n < 8):(bodyT v n).length≤8*(L+3):=by
 have h1:=bodyT_len h n hn
 have h2:(n+1)*(L+3)≤8*(L+3):=Nat.mul_le_mul_right _ (by omega)
 omega
theorem last_step (v:Nat→Int) (i:Nat):kU v (i+1)=if v i≠0 then i else kU v i:=rfl
theorem rtext_ok {a:NumT} {k:K} {L E:Nat} (h:Num 10000 a k L E) (hL:L < 900000) (hE:E < 1000000) :
 ∃ l,W.jX a=some l∧KTxt k l:=by
 obtain ⟨c,ae⟩:=a
 obtain ⟨v,e,h1,h2,h3,h4,h5,h6⟩:=h.has
 simp only at h1 h2
 subst h2
 have hlast:=lastTo_lt v 8 (by decide)
 obtain ⟨x,x1,x2⟩:=JJ (f:=fun s:Int×Int↦W.jX.c100003 (c,(e:Int)) (Prod.fst s) (Prod.snd s) some) 8
  (fun i s=>s=((kU v i:Int),(i:Int)))
  (fun x=>x=((kU v 8:Int),(8:Int)))
  (by
   rintro i s hi rfl
   left
   refine ⟨((kU v (i+1):Int),((i+1:Nat):Int)),?_,rfl⟩
   have hp:=(h1.at_ i hi).pos_of (by decide)
   simp only [W.jX.c100003,W.jX.c220486]
   rw [jY (by omega),h1.idx hi,je,last_step]
   by_cases h0:v i=0
   ·rw [jP (by rw [hp];simpa using h0),je,if_neg (by simpa using h0),js (by omega)]
    rfl
   ·rw [jY (hp.2 h0),je,if_pos h0,js (by omega)]
    rfl)
  (by
   rintro s rfl
   refine ⟨_,?_,rfl⟩
   simp only [W.jX.c100003]
   rw [jP (by omega)]
   rfl)
  (s:=((0:Int),(0:Int))) rfl
 subst x2
 obtain ⟨n,hn⟩ : ∃ n,kU v 8=n:=⟨_,rfl⟩
 have hn8:n < 8:=hn ▸ hlast
 obtain ⟨y,y1,y2⟩:=JJ (f:=fun s:List UInt8×Int↦W.jX.c100009 (c,(e:Int)) (n:Int) (Prod.fst s) (Prod.snd s) some) n
  (fun i s=>s=(bodyT v i,((i+1:Nat):Int)))
  (fun x=>x=(bodyT v n,((n+1:Nat):Int)))
  (by
   rintro i s hi rfl
   left
   refine ⟨(bodyT v (i+1),((i+1+1:Nat):Int)),?_,rfl⟩
   have hi8:i+1 < 8:=by omega
   have hfew:=h1.few (by decide) h5 hi8
   have l1:=bodyT_len8 h5 i (by omega)
   have l2:=itoa_len (h5 (i+1) hi8)
   simp only [W.jX.c100009]
   rw [jY (by omega),h1.idx hi8,je,ztext_it (h1.at_ _ hi8) (by omega),je,Jf (by simp;omega),je,Jf (by simp;omega),je,js (by omega)]
   rfl)
  (by
   rintro s rfl
   refine ⟨_,?_,rfl⟩
   simp only [W.jX.c100009]
   rw [jP (by omega)])
  (s:=(bodyT v 0,(1:Int))) rfl
 subst y2
 have hb:=bodyT_len8 h5 n hn8
 have hit:=itoa_len (v:=(e:Int)) (L:=20) (by simp;omega)
 refine ⟨ntext v e,?_,v,e,h3,h4,rfl⟩
 have hfew:=h1.few (by decide) h5 (show 0 < 8 by decide)
 unfold W.jX
 rw [x1,je]
 simp only [hn]
 rw [show idx c (0:Int)=some (c.getD 0 d0) from h1.idx (i:=0) (by decide),je,ztext_it (h1.at_ 0 (by decide)) (by omega),je]
 rw [show Go.Lib.itoa (v 0)=bodyT v 0 from rfl,y1,je]
 unfold W.jX.c249157 ntext
 simp only [hn]
 by_cases he:e=0
 ·subst he
  rw [jP (by omega),je,if_pos rfl,List.append_nil]
 ·rw [jY (by omega),if_neg he]
  obtain ⟨z,z1,z2,z3⟩:=zof_ok (n:=(e:Int)) (by omega)
  rw [z1,je,ztext_it z2 (by omega),je,Jf (by simp;omega),je,Jf (by simp;omega),je,je]
  rfl
end Go.Ql
end
section
namespace Go.Ql
def FitsK (k:K) (L t:Nat):Prop:=∃ w,kv w t=k∧Bd w L
theorem FitsK.mono {k:K} {L M t:Nat} (h:FitsK k L t) (hm:L≤M):FitsK k M t:=by
 obtain ⟨w,h1,h2⟩:=h
 exact ⟨w,h1,h2.mono hm⟩
theorem FitsK.up {k:K} {L t:Nat} (h:FitsK k L t) (n:Nat):FitsK k (L+n) (t+n):=by
 obtain ⟨w,h1,h2⟩:=h
 exact ⟨fun i=>w i*2 ^ n,by rw [kv_up,h1],h2.up n⟩
theorem FitsK.zero (L t:Nat):FitsK K.zero L t:=⟨fun _=>0,UT t,Bd.zero⟩
theorem FitsK.turn {k:K} {L t:Nat} (h:FitsK k L t) (n:Nat):FitsK (K.turn k n) L t:=by
 obtain ⟨w,h1,h2⟩:=h
 exact ⟨tv w n,by rw [kv_turn,h1],tv_bd h2 n⟩
theorem FitsK.neg {k:K} {L t:Nat} (h:FitsK k L t):FitsK (K.neg k) L t:=h.turn 8
theorem FitsK.add {k l:K} {L t:Nat} (h:FitsK k L t) (g:FitsK l L t):FitsK (K.add k l) (L+1) t:=by
 obtain ⟨w,h1,h2⟩:=h
 obtain ⟨u,g1,g2⟩:=g
 refine ⟨fun i=>w i+u i,by rw [← kv_add,h1,g1],fun i hi => ?_⟩
 have a:=h2 i hi
 have b:=g2 i hi
 have c:=Int.natAbs_add_le (w i) (u i)
 rw [Nat.pow_succ]
 simp only
 omega
theorem FitsK.half {k:K} {L t:Nat} (h:FitsK k L t):FitsK (K.half k) (L+1) (t+1):=by
 obtain ⟨w,h1,h2⟩:=((h.turn 2).add (h.turn 6).neg)
 refine ⟨w,?_,h2⟩
 rw [kv_half1,h1]
 rfl
theorem Num.fit {B:Int} {x:NumT} {k:K} {L E M t:Nat} (h:Num B x k L E) (f:FitsK k M t):Num B x k M t:=by
 obtain ⟨w,h1,h2⟩:=f
 exact h.tight h1 h2
theorem Num.fits {B:Int} {x:NumT} {k:K} {L E:Nat} (h:Num B x k L E):FitsK k (L+E) E:=by
 obtain ⟨v,e,h1,h2,h3,h4,h5,h6⟩:=h.has
 have:=(show FitsK k L e from ⟨v,h4,h5⟩).up (E - e)
 rw [show e+(E - e)=E by omega] at this
 exact this.mono (by omega)
end Go.Ql
end
end

section
section
namespace Go.Ql
theorem pow63 {q:Int} (h:0≤q∧q≤62):IntKind.i64.wrap ((1:Int)*(2:Int) ^ Min.min (Int.toNat q) (64:Nat))=((2 ^ q.toNat:Nat):Int):=by
 rw [Nat.min_eq_left (by omega),Int.one_mul]
 have h1:(2:Nat) ^ q.toNat≤2 ^ 62:=Nat.pow_le_pow_right (by omega) (by omega)
 have h2:((2 ^ q.toNat:Nat):Int)=(2:Int) ^ q.toNat:=by simp
 have h3:(2:Nat) ^ 62=4611686018427387904:=by decide
 rw [h3] at h1
 rw [← h2,js (by have:=Int.natCast_nonneg (2 ^ q.toNat);omega)]
theorem Hc {x:Nat} {q:Int} (hx:x < 2 ^ 63) (hq:0≤q∧q < 64):W.kp (x:Int) q=some (if bt q x=true then 1 else 0):=by
 unfold W.kp
 have h1:Int.fdiv (x:Int) ((2:Int) ^ Min.min (Int.toNat q) (64:Nat))=((x / 2 ^ q.toNat:Nat):Int):=by
  rw [Nat.min_eq_left (by omega),Int.fdiv_eq_ediv_of_nonneg _ (by have:(0:Int)≤((2 ^ q.toNat:Nat):Int):=Int.natCast_nonneg _;simpa using this)]
  norm_cast
 have h2:=iandi64 (a:=x / 2 ^ q.toNat) (b:=1) (Nat.lt_of_le_of_lt (Nat.div_le_self _ _) hx) (by decide)
 rw [show ((1:Nat):Int)=1 from rfl] at h2
 rw [Jf (by simpa using hq.1),je,h1,h2]
 have h3:x / 2 ^ q.toNat &&& 1=x / 2 ^ q.toNat % 2:=Nat.and_one_is_mod _
 have h4:bt q x=decide (x / 2 ^ q.toNat % 2=1):=by
  unfold bt
  rw [Nat.testBit,Nat.shiftRight_eq_div_pow,Nat.and_comm 1,h3]
  have:x / 2 ^ q.toNat % 2=0∨x / 2 ^ q.toNat % 2=1:=by omega
  rcases this with h | h <;> rw [h] <;> rfl
 rw [h3,h4]
 have:x / 2 ^ q.toNat % 2=0∨x / 2 ^ q.toNat % 2=1:=by omega
 rcases this with h | h <;> rw [h] <;> rfl
def Qs (l:List Int):Prop:=∀ q∈l,0≤q∧q < 62
theorem ones_iff {l:List Int} {x:Nat}:onesB l x=true ↔ ∀ j,j < l.length→bt (l.getD j 0) x=true:=by
 unfold onesB
 rw [List.all_eq_true]
 constructor
 ·intro h j hj
  have e:l.getD j 0=l[j]:=by simp [hj]
  rw [e];exact h _ (List.getElem_mem hj)
 ·intro h q hq
  obtain ⟨j,hj,e⟩:=List.mem_iff_getElem.1 hq
  have:=h j hj
  have e2:l.getD j 0=l[j]:=by simp [hj]
  rw [e2,e] at this
  exact this
theorem qs_at {l:List Int} (h:Qs l) {j:Nat} (hj:j < l.length):0≤l.getD j 0∧l.getD j 0 < 62:=by
 have e:l.getD j 0=l[j]:=by simp [hj]
 rw [e];exact h _ (List.getElem_mem hj)
theorem allOne_ok {x:Nat} {l:List Int} (hx:x < 2 ^ 63) (hl:Qs l) (hn:l.length < 2 ^ 62):W.JG (x:Int) l=some (onesB l x):=by
 obtain ⟨y,h1,h2⟩:=JJ (f:=fun s:Int↦W.JG.c100002 (x:Int) l s some) l.length
  (fun i s=>s=(i:Int) ∧ ∀ j,j < i→bt (l.getD j 0) x=true)
  (fun y=>(∃ i,y = .inl i∧onesB l x=false)∨(∃ i,y = .inr i∧onesB l x=true))
  (by
   rintro i s hi ⟨rfl,h2⟩
   have hq:=qs_at hl hi
   simp only [W.JG.c100002]
   rw [jY (by omega),kA i rfl hi,je,Hc hx (by omega),je]
   by_cases hb:bt (l.getD i 0) x=true
   ·rw [if_pos hb,jq (by decide),js (by omega)]
    refine .inl ⟨_,rfl,by omega,fun j hj => ?_⟩
    by_cases e:j=i
    ·rw [e];exact hb
    ·exact h2 j (by omega)
   ·rw [if_neg hb,jN (by decide)]
    exact .inr ⟨_,rfl,.inl ⟨_,rfl,by
     rw [← Bool.not_eq_true]
     exact fun h=>hb (ones_iff.1 h i hi)⟩⟩)
  (by
   rintro s ⟨rfl,h2⟩
   simp only [W.JG.c100002]
   rw [jP (by omega)]
   exact ⟨_,rfl,.inr ⟨_,rfl,ones_iff.2 h2⟩⟩)
  (s:=(0:Int)) ⟨rfl,fun j hj=>by omega⟩
 unfold W.JG
 rw [h1,je]
 rcases h2 with ⟨i,rfl,h3⟩ | ⟨i,rfl,h3⟩
 ·rw [JS,h3]
 ·rw [JZ,h3]
def condK (bits:List Int) (o:GOp):Bool:=o.2.2.2.2.2.all fun c=>(decide (c≤0) || bits.getD (c - 1).toNat 0 == 1) && (decide (0≤c) || bits.getD (-c - 1).toNat 0 == 0)
theorem cond_ok {o:GOp} {bits:List Int} (hn:o.2.2.2.2.2.length < 2 ^ 62) (hb:bits.length < 2 ^ 62) (hc : ∀ c∈o.2.2.2.2.2,c≠0∧c≤bits.length ∧ -c≤bits.length):W.jD o bits=some (condK bits o):=by
 obtain ⟨o0,o1,o2,o3,o4,l⟩:=o
 simp only at *
 obtain ⟨y,h1,h2⟩:=JJ (f:=fun s:Int↦W.jD.c100002 bits s l some) l.length
  (fun i s=>s=(i:Int) ∧ ∀ j,j < i→((decide (l.getD j 0≤0) || bits.getD (l.getD j 0 - 1).toNat 0 == 1) && (decide (0≤l.getD j 0) || bits.getD (-l.getD j 0 - 1).toNat 0 == 0))=true)
  (fun y=>(∃ i,y = .inl i∧condK bits (o0,o1,o2,o3,o4,l)=false)∨(∃ i,y = .inr i∧condK bits (o0,o1,o2,o3,o4,l)=true))
  (by
   rintro i s hi ⟨rfl,h2⟩
   have hm:l.getD i 0∈l:=by
    have e:l.getD i 0=l[i]:=by simp [hi]
    rw [e];exact List.getElem_mem hi
   obtain ⟨c0,c1,c2⟩:=hc _ hm
   have hbad:((decide (l.getD i 0≤0) || bits.getD (l.getD i 0 - 1).toNat 0 == 1) && (decide (0≤l.getD i 0) || bits.getD (-l.getD i 0 - 1).toNat 0 == 0))=false→condK bits (o0,o1,o2,o3,o4,l)=false:=fun hf=>by
    rw [← Bool.not_eq_true]
    intro ht
    unfold condK at ht
    rw [List.all_eq_true] at ht
    have:=ht _ hm
    rw [hf] at this
    cases this
   have hgo:((decide (l.getD i 0≤0) || bits.getD (l.getD i 0 - 1).toNat 0 == 1) && (decide (0≤l.getD i 0) || bits.getD (-l.getD i 0 - 1).toNat 0 == 0))=true → ∀ j,j < i+1→((decide (l.getD j 0≤0) || bits.getD (l.getD j 0 - 1).toNat 0 == 1) && (decide (0≤l.getD j 0) || bits.getD (-l.getD j 0 - 1).toNat 0 == 0))=true:=fun ht j hj=>by
    by_cases e:j=i
    ·rw [e];exact ht
    ·exact h2 j (by omega)
   simp only [W.jD.c100002,W.jD.c4,W.jD.c6]
   rw [jY (by omega),kA i rfl hi,je]
   simp only [je]
   generalize l.getD i 0=c at *
   by_cases hp:c > 0
   ·rw [jY hp,js (by omega),kA (c - 1).toNat (by omega) (by omega),je,je]
    have e2:decide (0≤c)=true:=decide_eq_true (by omega)
    have e1:decide (c≤0)=false:=decide_eq_false (by omega)
    rw [e1,e2] at hbad hgo
    by_cases hv:bits.getD (c - 1).toNat 0=1
    ·rw [jq (by rw [hv];rfl)]
     rw [jP (by omega),je,br_ff,js (by omega)]
     exact .inl ⟨_,rfl,by omega,hgo (by rw [hv];rfl)⟩
    ·rw [jN (bne_iff_ne.2 hv)]
     exact .inr ⟨_,rfl,.inl ⟨_,rfl,hbad (by rw [beq_false_of_ne hv];rfl)⟩⟩
   ·rw [jP hp,je,br_ff,jY (by omega),js (x:=0 - c) (by omega),js (by omega),Int.zero_sub,kA (-c - 1).toNat (by omega) (by omega),je,je]
    have e2:decide (0≤c)=false:=decide_eq_false (by omega)
    have e1:decide (c≤0)=true:=decide_eq_true (by omega)
    rw [e1,e2] at hbad hgo
    by_cases hv:bits.getD (-c - 1).toNat 0=0
    ·rw [jq (by rw [hv];rfl),js (by omega)]
     exact .inl ⟨_,rfl,by omega,hgo (by rw [hv];rfl)⟩
    ·rw [jN (bne_iff_ne.2 hv)]
     exact .inr ⟨_,rfl,.inl ⟨_,rfl,hbad (by rw [beq_false_of_ne hv];rfl)⟩⟩)
  (by
   rintro s ⟨rfl,h2⟩
   simp only [W.jD.c100002]
   rw [jP (by omega)]
   refine ⟨_,rfl,.inr ⟨_,rfl,?_⟩⟩
   unfold condK
   rw [List.all_eq_true]
   intro c hcm
   obtain ⟨j,hj,e⟩:=List.mem_iff_getElem.1 hcm
   have:=h2 j hj
   have e2:l.getD j 0=l[j]:=by simp [hj]
   rw [e2,e] at this
   exact this)
  (s:=(0:Int)) ⟨rfl,fun j hj=>by omega⟩
 unfold W.jD
 rw [h1,je]
 rcases h2 with ⟨i,rfl,h3⟩ | ⟨i,rfl,h3⟩
 ·rw [JS,h3]
 ·rw [JZ,h3]
theorem rhalf_ok {a:NumT} {k:K} {L E:Nat} (h:Num 10000 a k L E) (hL:L+L+E+E < 70000) (hE:E≤10000) :
 ∃ r,W.JY a=some r∧Num 10000 r (K.half k) (L+L+E+E+1) (E+1):=by
 obtain ⟨t,t1,t2⟩:=rturn_ok h (by omega) 2
 obtain ⟨u,u1,u2⟩:=rturn_ok h (by omega) 6
 obtain ⟨⟨c,ae⟩,s1,s2⟩:=rsub_ok t2 u2 (by omega) (by omega)
 obtain ⟨v,e,h1,h2,h3,h4,h5,h6⟩:=s2.has
 simp only at h1 h2
 subst h2
 have hk:K.half k=K.sm (1 / 2) (kv v e):=by rw [h4];rfl
 unfold W.JY W.JY.c1
 rw [t1,je,u1,je,s1,je]
 simp only [bx_in,bx_at,je]
 rw [Ve h1,je]
 by_cases hz:YS v
 ·rw [jY hz]
  refine ⟨_,rfl,?_⟩
  have e0:K.half k=kv v e:=by
   rw [hk,(YE (e:=e)).1 hz]
   apply K.eq_of <;> simp only [K.sm,K.zero] <;> grind
  rw [e0]
  exact Num.mk' h1 rfl h3 rfl (h5.mono (by omega)) (by omega)
 ·rw [jP hz,js (by omega),show (e:Int)+1=((e+1:Nat):Int) by omega]
  simp only [List.set_cons_zero,bx_at,je]
  obtain ⟨r,r1,r2⟩:=rleast_ok h1 h5 (by omega) (e+1) (by omega)
  rw [r1,je]
  refine ⟨r,rfl,?_⟩
  obtain ⟨w,f,q1,q2,q3,q4,q5,q6⟩:=r2.has
  refine ⟨w,f,q1,q2,q3,?_,q5.mono (by omega),by omega⟩
  rw [q4,kv_half1,hk]
end Go.Ql
end
section
namespace Go.Ql
def z0:NumT:=(List.replicate 8 d0,(0:Int))
structure Amps (l:List NumT) (N:Nat) (v:KV) (t:Nat):Prop where
 len:l.length=N
 at_ : ∀ x,x < N→Num 10000 (l.getD x z0) (v x) (2*t+1) t
 fit : ∀ x,x < N→FitsK (v x) (2*t+1) t
def cut (i:Nat) (v:KV):KV:=fun x=>if x < i then v x else K.zero
theorem gate_fits {o:GOp} {w:KV} {L t:Nat} (h : ∀ x,FitsK (w x) L t) (y:Nat):FitsK (gateK o w y) (L+2) (t+1):=by
 have h1:=fun x=>((h x).up 1).mono (show L+1≤L+2 by omega)
 have h2:=fun x=>(h x).half
 unfold gateK
 split
 ·exact h1 y
 ·split
  ·exact (h1 y).turn _
  ·split
   ·split
    ·exact (h1 y).turn _
    ·exact h1 y
   ·split
    ·exact h1 _
    ·split
     ·exact (h2 _).add (h2 y).neg
     ·exact (h2 _).add (h2 y)
theorem gate_loc {o:GOp} {w w':KV} {y:Nat} (h1:w y=w' y) (h2:w (fl o.2.2.2.1 y)=w' (fl o.2.2.2.1 y)):gateK o w y=gateK o w' y:=by
 simp only [gateK,h1,h2]
theorem gate_off {o:GOp} {w:KV} {y:Nat} (h:onesB o.2.2.1 y=false):gateK o w y=w y:=by
 unfold gateK
 rw [if_pos h]
theorem gate_turn {o:GOp} {w:KV} {y:Nat} (h:onesB o.2.2.1 y=true) (hk:o.1=1∨(o.1=4∧bt o.2.2.2.1 y=true)):gateK o w y=K.turn (w y) o.2.1.toNat:=by
 unfold gateK
 rw [if_neg (by simp [h])]
 rcases hk with hk | ⟨hk,hb⟩
 ·rw [if_pos hk]
 ·rw [if_neg (by omega),if_pos hk,if_pos hb]
theorem gate_stay {o:GOp} {w:KV} {y:Nat} (h:onesB o.2.2.1 y=true) (hk:o.1=4) (hb : ¬ bt o.2.2.2.1 y=true):gateK o w y=w y:=by
 unfold gateK
 rw [if_neg (by simp [h]),if_neg (by omega),if_pos hk,if_neg hb]
theorem gate_flip {o:GOp} {w:KV} {y:Nat} (h:onesB o.2.2.1 y=true) (hk:o.1=2):gateK o w y=w (fl o.2.2.2.1 y):=by
 unfold gateK
 rw [if_neg (by simp [h]),if_neg (by omega),if_neg (by omega),if_pos hk]
theorem gate_had {o:GOp} {w:KV} {y:Nat} (h:onesB o.2.2.1 y=true) (hk:o.1≠1∧o.1≠2∧o.1≠4) :
 gateK o w y=K.add (K.half (w (fl o.2.2.2.1 y))) (if bt o.2.2.2.1 y=true then K.neg (K.half (w y)) else K.half (w y)):=by
 unfold gateK
 rw [if_neg (by simp [h]),if_neg hk.1,if_neg hk.2.2,if_neg hk.2.1]
theorem gate_locP {o:GOp} {w w':KV} {y:Nat} (h1:w y=w' y) (hk:onesB o.2.2.1 y=false∨o.1=1∨o.1=4):gateK o w y=gateK o w' y:=by
 unfold gateK
 split
 ·exact h1
 ·split
  ·rw [h1]
  ·split
   ·rw [h1]
   ·rename_i a b c
    rcases hk with hk | hk | hk
    ·exact absurd hk a
    ·exact absurd hk b
    ·exact absurd hk c
theorem rzero_num {a:NumT} {k:K} {L E:Nat} (h:Num 10000 a k L E) : ∃ b,W.Jn a=some b∧(b=true↔k=K.zero):=by
 obtain ⟨c,ae⟩:=a
 obtain ⟨v,e,h1,h2,h3,h4,h5,h6⟩:=h.has
 refine ⟨_,Ve h1 ae,?_⟩
 rw [decide_eq_true_iff,YE (e:=e),h4]
theorem idxN {l:List NumT} {i:Nat} (h:i < l.length):idx l (i:Int)=some (l.getD i z0):=by
 rw [Hq]
 simp [h]
theorem Hu {l:List NumT} {j y:Nat} {r:NumT} (h:j < l.length):(l.set j r).getD y z0=if y=j then r else l.getD y z0:=by
 by_cases e:y=j
 ·subst e;simp [h]
 ·rw [if_neg e]
  simp [List.getD,List.getElem?_set_ne (Ne.symm e)]
theorem fl_lt {q:Int} {i n:Nat} (hq:0≤q∧q < n) (hi:i < 2 ^ n):fl q i < 2 ^ n:=
 Nat.xor_lt_two_pow hi (Nat.pow_lt_pow_right (by decide) (by omega))
theorem fl_ne (q:Int) (x:Nat):fl q x≠x:=fun h=>by
 have h1:=bt_self q x
 rw [h] at h1
 cases hb:bt q x <;> rw [hb] at h1 <;> cases h1
theorem turn_toNat (x:K) {k:Int} (h:0≤k):K.turn x (k % 16).toNat=K.turn x k.toNat:=by
 rw [← K.turn_mod x k.toNat]
 congr 1
 omega
theorem Hd (i:Nat) (v:KV):cut i v i=K.zero:=if_neg (Nat.lt_irrefl _)
theorem Uk (i:Nat) (v:KV):cut (i+1) v i=v i:=if_pos (Nat.lt_succ_self _)
theorem Vs {i y:Nat} (v:KV) (h:y≠i):cut (i+1) v y=cut i v y:=by
 unfold cut
 by_cases h1:y < i
 ·rw [if_pos h1,if_pos (by omega)]
 ·rw [if_neg h1,if_neg (by omega)]
structure Ok1 (o:GOp) (n:Nat):Prop where
 q:0≤o.2.2.2.1∧o.2.2.2.1 < n
 k:0≤o.2.1
 qs:Qs o.2.2.1
 len:o.2.2.1.length < 2 ^ 62
 out:o.2.2.2.1∉o.2.2.1
theorem Ok1.ones {o:GOp} {n:Nat} (h:Ok1 o n) (x:Nat):onesB o.2.2.1 (fl o.2.2.2.1 x)=onesB o.2.2.1 x:=
 ones_other (fun q hq=>(h.qs q hq).1) h.q.1 h.out x
theorem gate_step {l out:List NumT} {v:KV} {o:GOp} {i n t:Nat} (hv:Amps l (2 ^ n) v t) (ho:Ok1 o n) (hn:n≤20) (hi:i < 2 ^ n) (ht:t≤9000)
 (h0:out.length=2 ^ n) (h1 : ∀ y,y < 2 ^ n→Num 10000 (out.getD y z0) (gateK o (cut i v) y) (2*t+3) (t+1)) :
 ∃ out',W.jv.c220520 l (i:Int) o.1 o.2.1 o.2.2.1 o.2.2.2.1 out some=some out'∧out'.length=2 ^ n ∧ ∀ y,y < 2 ^ n→Num 10000 (out'.getD y z0) (gateK o (cut (i+1) v) y) (2*t+3) (t+1):=by
 have hN:2 ^ n≤2 ^ 20:=Nat.pow_le_pow_right (by decide) hn
 have hlen:=hv.len
 have hni:=hv.at_ i hi
 have hq:=ho.q
 have hfi:=fl_lt hq hi
 have hfits : ∀ y,FitsK (gateK o (cut (i+1) v) y) (2*t+3) (t+1):=gate_fits (L:=2*t+1) (t:=t) (fun x=>by
  unfold cut
  split
  ·exact hv.fit x (by omega)
  ·exact FitsK.zero _ _)
 have hx63:i < 2 ^ 63:=by omega
 have hxor:ibits BinOp.xor IntKind.i64 (i:Int) (IntKind.i64.wrap ((1:Int)*(2:Int) ^ Min.min (Int.toNat o.2.2.2.1) (64:Nat)))=((fl o.2.2.2.1 i:Nat):Int):=by
  have hp:2 ^ o.2.2.2.1.toNat < 2 ^ 63:=Nat.pow_lt_pow_right (by decide) (by omega)
  rw [pow63 (by omega),ixori64 hx63 hp]
  rfl
 have keep : ∀ (j:Nat) (r:NumT),j < 2 ^ n→Num 10000 r (gateK o (cut (i+1) v) j) (2*t+3) (t+1)→(∀ y,y < 2 ^ n→y≠j→gateK o (cut (i+1) v) y=gateK o (cut i v) y) →
  (out.set j r).length=2 ^ n ∧ ∀ y,y < 2 ^ n→Num 10000 ((out.set j r).getD y z0) (gateK o (cut (i+1) v) y) (2*t+3) (t+1):=by
  intro j r hj hr hk
  refine ⟨by rw [List.length_set];exact h0,fun y hy => ?_⟩
  rw [Hu (by omega)]
  by_cases e:y=j
  ·rw [if_pos e,e];exact hr
  ·rw [if_neg e,hk y hy e];exact h1 y hy
 have here : ∀ (k:Prop),(onesB o.2.2.1 i=false∨o.1=1∨o.1=4) → ∀ y,y≠i→gateK o (cut (i+1) v) y=gateK o (cut i v) y:=by
  intro _ hk y hy
  by_cases e:fl o.2.2.2.1 y=i
  ·refine gate_locP (Vs v hy) ?_
   rcases hk with hk | hk
   ·left
    rw [← ho.ones,e];exact hk
   ·exact .inr hk
  ·exact gate_loc (Vs v hy) (Vs v e)
 obtain ⟨b,b1,b2⟩:=rzero_num hni
 unfold W.jv.c220520
 rw [idxN (by omega),je,b1,je]
 by_cases hz:v i=K.zero
 ·rw [jN (b2.2 hz)]
  refine ⟨out,rfl,h0,fun y hy => ?_⟩
  have e:cut (i+1) v=cut i v:=by
   funext x
   by_cases e:x=i
   ·rw [e,Uk,Hd,hz]
   ·exact Vs v e
  rw [e]
  exact h1 y hy
 ·rw [jq (by cases hb:b;rfl;exact absurd (b2.1 hb) hz),allOne_ok hx63 ho.qs ho.len,je]
  have hid:=h1 i hi
  by_cases hon:onesB o.2.2.1 i=true
  ·rw [hon,show (!true)=false from rfl,br_ff,Jf (by simpa using hq.1),je]
   unfold W.jv.c9
   by_cases hk1:o.1=1∨(o.1=4∧bt o.2.2.2.1 i=true)
   ·have hc:(br (o.1 == (1:Int)) (some true) (br (o.1 == (4:Int)) (bnd (W.kp (i:Int) o.2.2.2.1) fun y=>some (y == (1:Int))) (some false)))=some true:=by
     rcases hk1 with e | ⟨e,e2⟩
     ·rw [e];rfl
     ·rw [e,jq (by decide),jN (by decide),Hc hx63 (by omega),je,if_pos e2];rfl
    rw [hc,je,br_tt]
    unfold W.jv.c10
    obtain ⟨r,r1,r2⟩:=rturn_ok hni (by omega) o.2.1
    rw [idxN (by omega),je,r1,je,VN (by omega),je,idxN (by omega),je,je]
    refine ⟨_,rfl,keep i r hi (Num.fit (k:=gateK o (cut (i+1) v) i) (L:=2*t+1) (E:=t) ?_ (hfits i)) (fun y _ hy=>here True (.inr (by omega)) y hy)⟩
    ·rw [gate_turn hon hk1,Uk,← turn_toNat _ ho.k]
     exact r2
   ·have hc:(br (o.1 == (1:Int)) (some true) (br (o.1 == (4:Int)) (bnd (W.kp (i:Int) o.2.2.2.1) fun y=>some (y == (1:Int))) (some false)))=some false:=by
     by_cases e:o.1=4
     ·have e2 : ¬ bt o.2.2.2.1 i=true:=fun e2=>hk1 (.inr ⟨e,e2⟩)
      rw [e,jq (by decide),jN (by decide),Hc hx63 (by omega),je,if_neg e2];rfl
     ·rw [jq (by simpa using fun e2=>hk1 (.inl e2)),jq (by simpa using e)]
    rw [hc,je,br_ff]
    by_cases hk4:o.1=4
    ·have hb4 : ¬ bt o.2.2.2.1 i=true:=fun e2=>hk1 (.inr ⟨hk4,e2⟩)
     rw [jN (by simpa using hk4),je,VN (by omega),je,idxN (by omega),je]
     refine ⟨_,rfl,keep i _ hi (Num.fit (k:=gateK o (cut (i+1) v) i) (L:=2*t+1) (E:=t) ?_ (hfits i)) (fun y _ hy=>here True (.inr (by omega)) y hy)⟩
     rw [gate_stay hon hk4 hb4,Uk]
     exact hni
    ·rw [jq (by simpa using hk4)]
     by_cases hk2:o.1=2
     ·rw [jN (by simpa using hk2),hxor,je,VN (by omega),je,idxN (by omega),je]
      have hof:onesB o.2.2.1 (fl o.2.2.2.1 i)=true:=by rw [ho.ones];exact hon
      refine ⟨_,rfl,keep (fl o.2.2.2.1 i) _ hfi (Num.fit (k:=gateK o (cut (i+1) v) (fl o.2.2.2.1 i)) (L:=2*t+1) (E:=t) ?_ (hfits _)) (fun y _ hy => ?_)⟩
      ·rw [gate_flip hof hk2,fl_fl,Uk]
       exact hni
      ·have e:fl o.2.2.2.1 y≠i:=fun e=>hy (by rw [← e,fl_fl])
       by_cases hoy:onesB o.2.2.1 y=true
       ·rw [gate_flip hoy hk2,gate_flip hoy hk2,Vs v e]
       ·have hoy':onesB o.2.2.1 y=false:=by simpa using hoy
        rw [gate_off hoy',gate_off hoy']
        refine Vs v (fun e2=>hoy (e2 ▸ hon))
     ·rw [jq (by simpa using hk2),hxor,je]
      have hk3:o.1≠1∧o.1≠2∧o.1≠4:=⟨fun e=>hk1 (.inl e),hk2,hk4⟩
      obtain ⟨r,r1,r2⟩:=rhalf_ok hni (by omega) (by omega)
      have rf:=(hv.fit i hi).half
      have r3:=r2.fit rf
      have hof:onesB o.2.2.1 (fl o.2.2.2.1 i)=true:=by rw [ho.ones];exact hon
      obtain ⟨s,s1,s2⟩:=Hs (h1 _ hfi) r3 (by omega) (by omega)
      have hne:=fl_ne o.2.2.2.1 i
      
      have e1:K.add (gateK o (cut i v) (fl o.2.2.2.1 i)) (K.half (v i))=gateK o (cut (i+1) v) (fl o.2.2.2.1 i):=by
       rw [gate_had hof hk3,gate_had hof hk3,fl_fl,Hd,Uk,Vs v hne,K.half_zero,K.zero_add,K.add_comm]
      rw [e1] at s2
      have s3:=s2.fit (hfits _)
      obtain ⟨m,m1,m2⟩ : ∃ m,W.jv.c269637 (i:Int) o.2.2.2.1 [r] some=some [m]∧Num 10000 m (if bt o.2.2.2.1 i=true then K.neg (K.half (v i)) else K.half (v i)) (2*t+2) (t+1):=by
       unfold W.jv.c269637
       rw [Hc hx63 (by omega),je]
       by_cases hb:bt o.2.2.2.1 i=true
       ·obtain ⟨m,m1,m2⟩:=rneg_ok r3 (by omega)
        rw [if_pos hb,jN (by decide),if_pos hb]
        simp only [bx_at,je]
        rw [m1]
        exact ⟨m,rfl,m2⟩
       ·rw [if_neg hb,jq (by decide),if_neg hb]
        exact ⟨r,rfl,r3⟩
      obtain ⟨u,u1,u2⟩:=Hs hid m2 (by omega) (by omega)
      have e2:K.add (gateK o (cut i v) i) (if bt o.2.2.2.1 i=true then K.neg (K.half (v i)) else K.half (v i))=gateK o (cut (i+1) v) i:=by
       rw [gate_had hon hk3,gate_had hon hk3,Hd,Uk,Vs v hne,K.half_zero]
       have e0:(if bt o.2.2.2.1 i=true then K.neg K.zero else K.zero)=K.zero:=by
        split
        ·rw [← K.turn_eight,K.turn_zero]
        ·rfl
       rw [e0,K.add_zero]
      rw [e2] at u2
      have u3:=u2.fit (hfits _)
      unfold W.jv.c16 W.jv.c19
      simp only [bx_at,je]
      rw [r1]
      simp only [je,bx_at]
      rw [VN (by omega),je,idxN (by omega),je,s1]
      simp only [je]
      rw [m1]
      simp only [je,bx_at]
      have hsl:(out.set (fl o.2.2.2.1 i) s).length=2 ^ n:=by rw [List.length_set];exact h0
      have hso:(out.set (fl o.2.2.2.1 i) s).getD i z0=out.getD i z0:=by rw [Hu (by omega),if_neg (Ne.symm hne)]
      rw [Int.toNat_natCast,VN (by omega),je,idxN (by omega),je,hso,u1]
      simp only [je]
      refine ⟨_,rfl,by rw [List.length_set];exact hsl,fun y hy => ?_⟩
      rw [Int.toNat_natCast,Hu (by omega)]
      by_cases ei:y=i
      ·rw [if_pos ei,ei];exact u3
      ·rw [if_neg ei,Hu (by omega)]
       by_cases ef:y=fl o.2.2.2.1 i
       ·rw [if_pos ef,ef];exact s3
       ·rw [if_neg ef,gate_loc (w':=cut i v) (Vs v ei) (Vs v (fun e=>ef (by rw [← e,fl_fl])))]
        exact h1 y hy
  ·have hoff:onesB o.2.2.1 i=false:=by simpa using hon
   rw [hoff,show (!false)=true from rfl,br_tt]
   unfold W.jv.c7
   have e0:gateK o (cut i v) i=K.zero:=by rw [gate_off hoff,Hd]
   rw [e0] at hid
   obtain ⟨s,s1,s2⟩:=Hs hid hni (by omega) (by omega)
   rw [VN (by omega),je,idxN (by omega),je,idxN (by omega),je,s1]
   simp only [je]
   have e1:gateK o (cut (i+1) v) i=K.add K.zero (v i):=by rw [gate_off hoff,Uk,K.zero_add]
   refine ⟨_,rfl,keep i s hi (e1 ▸ s2.fit (e1 ▸ hfits i)) (fun y _ hy=>here True (.inl hoff) y hy)⟩
theorem Vj {l:List NumT} {v:KV} {o:GOp} {n t:Nat} (hv:Amps l (2 ^ n) v t) (ho:Ok1 o n) (hn:n≤20) (ht:t≤9000) :
 ∃ r,W.jv l o=some r∧Amps r (2 ^ n) (gateK o v) (t+1):=by
 have hN:2 ^ n≤2 ^ 20:=Nat.pow_le_pow_right (by decide) hn
 have hlen:=hv.len
 obtain ⟨y,q1,r,q2,q3,q4⟩:=JJ (f:=fun s:Int×List NumT↦W.jv.c100003 l (Prod.fst s) o.1 o.2.1 o.2.2.1 o.2.2.2.1 (Prod.snd s) some) (2 ^ n)
  (fun i s=>s.1=(i:Int)∧s.2.length=2 ^ n ∧ ∀ y,y < 2 ^ n→Num 10000 (s.2.getD y z0) (gateK o (cut i v) y) (2*t+3) (t+1))
  (fun y => ∃ r,y=(((2 ^ n:Nat):Int),r)∧r.length=2 ^ n ∧ ∀ y,y < 2 ^ n→Num 10000 (r.getD y z0) (gateK o (cut (2 ^ n) v) y) (2*t+3) (t+1))
  (by
   rintro i ⟨s,out⟩ hi ⟨p1,p2,p3⟩
   simp only at p1 p2 p3
   subst p1
   left
   obtain ⟨r,r1,r2,r3⟩:=gate_step hv ho hn hi ht p2 p3
   refine ⟨(((i+1:Nat):Int),r),?_,rfl,r2,r3⟩
   simp only [W.jv.c100003]
   rw [jY (by omega),r1,je,js (by omega)]
   rfl)
  (by
   rintro ⟨s,out⟩ ⟨p1,p2,p3⟩
   simp only at p1 p2 p3
   subst p1
   refine ⟨_,?_,out,rfl,p2,p3⟩
   simp only [W.jv.c100003]
   rw [jP (by omega)])
  (s:=((0:Int),List.replicate (2 ^ n) z0)) ⟨rfl,by simp,fun y hy=>by
   have e1:(List.replicate (2 ^ n) z0).getD y z0=z0:=by
    rw [List.getD,List.getElem?_replicate]
    split <;> rfl
   have e2:gateK o (cut 0 v) y=K.zero:=by
    have h : ∀ x,cut 0 v x=K.zero:=fun x=>if_neg (by omega)
    have hneg:K.neg K.zero=K.zero:=by rw [← K.turn_eight,K.turn_zero]
    simp only [gateK,h,K.turn_zero,K.half_zero,hneg]
    split
    ·rfl
    ·split
     ·rfl
     ·split
      ·split <;> rfl
      ·split
       ·rfl
       ·split <;> exact K.add_zero _
   rw [e1,e2]
   exact num_zero⟩
 subst q2
 unfold W.jv
 rw [Jf (by simp;omega),je,Int.toNat_natCast,hlen]
 rw [show (List.replicate (2 ^ n) ((List.replicate 8 (false,([]:List Int))),(0:Int)))=List.replicate (2 ^ n) z0 from rfl,q1,je]
 have hcut : ∀ y,y < 2 ^ n→gateK o (cut (2 ^ n) v) y=gateK o v y:=fun y hy=>gate_loc (if_pos hy) (if_pos (fl_lt ho.q hy))
 refine ⟨r,rfl,q3,fun y hy => ?_,fun y hy => ?_⟩
 ·rw [← hcut y hy]
  exact q4 y hy
 ·rw [← hcut y hy]
  exact gate_fits (L:=2*t+1) (t:=t) (fun x=>by
   unfold cut
   split
   ·exact hv.fit x (by assumption)
   ·exact FitsK.zero _ _) y
end Go.Ql
end
section
namespace Go.Ql
def outK (q:Int) (b:Int) (v:KV):KV:=fun x=>if bt q x=decide (b=1) then v x else K.zero
abbrev SK:=KV×List Int×Nat
def meetK (o:GOp) (b:Int) (s:SK):SK:=
 (if o.1≠5∧b=1 then xK [] o.2.2.2.1 (outK o.2.2.2.1 b s.1) else outK o.2.2.2.1 b s.1,if o.1=5 then s.2.1.set o.2.2.2.2.1.toNat b else s.2.1,s.2.2+1)
theorem Amps.up {l:List NumT} {N t:Nat} {v:KV} (h:Amps l N v t):Amps l N v (t+1):=by
 have hf : ∀ x,x < N→FitsK (v x) (2*(t+1)+1) (t+1):=fun x hx=>((h.fit x hx).up 1).mono (by omega)
 exact ⟨h.len,fun x hx=>(h.at_ x hx).fit (hf x hx),hf⟩
theorem num_zero' (L E:Nat):Num 10000 z0 K.zero L E:=num_zero
theorem repl_at (N y:Nat):(List.replicate N z0).getD y z0=z0:=by
 rw [List.getD,List.getElem?_replicate]
 split <;> rfl
theorem outcome_walk {l:List NumT} {v:KV} {n t:Nat} {q b:Int} (hv:Amps l (2 ^ n) v t) (hn:n≤20) (hq:0≤q∧q < 62) (hb:b=0∨b=1) :
 ∃ r,W.Jm l q b=some r∧Amps r (2 ^ n) (outK q b v) t:=by
 have hN:2 ^ n≤2 ^ 20:=Nat.pow_le_pow_right (by decide) hn
 have hlen:=hv.len
 obtain ⟨y,q1,r,q2,q3,q4⟩:=JJ (f:=fun s:Int×List NumT↦W.Jm.c100003 l q b (Prod.fst s) (Prod.snd s) some) (2 ^ n)
  (fun i s=>s.1=(i:Int)∧s.2.length=2 ^ n ∧ ∀ y,y < 2 ^ n→Num 10000 (s.2.getD y z0) (cut i (outK q b v) y) (2*t+1) t)
  (fun y => ∃ r,y=(((2 ^ n:Nat):Int),r)∧r.length=2 ^ n ∧ ∀ y,y < 2 ^ n→Num 10000 (r.getD y z0) (cut (2 ^ n) (outK q b v) y) (2*t+1) t)
  (by
   rintro i ⟨s,out⟩ hi ⟨p1,p2,p3⟩
   simp only at p1 p2 p3
   subst p1
   left
   obtain ⟨r,r1,r2,r3⟩ : ∃ r,W.Jm.c220486 l q b (i:Int) out some=some r∧r.length=2 ^ n ∧ ∀ y,y < 2 ^ n→Num 10000 (r.getD y z0) (cut (i+1) (outK q b v) y) (2*t+1) t:=by
    unfold W.Jm.c220486
    rw [Hc (by omega) (by omega),je]
    by_cases e:bt q i=decide (b=1)
    ·have hbb:((if bt q i=true then 1 else 0:Int) == b)=true:=by
      rw [e];rcases hb with rfl | rfl <;> decide
     rw [jN hbb,idxN (by omega),je,VN (by omega),je,idxN (by omega),je]
     refine ⟨_,rfl,by rw [List.length_set];exact p2,fun y hy => ?_⟩
     rw [Int.toNat_natCast,Hu (by omega)]
     by_cases ey:y=i
     ·rw [if_pos ey,ey,Uk]
      unfold outK
      rw [if_pos e]
      exact hv.at_ i hi
     ·rw [if_neg ey,Vs _ ey]
      exact p3 y hy
    ·have hbb:((if bt q i=true then 1 else 0:Int) == b)=false:=by
      rcases hb with rfl | rfl <;> cases hx:bt q i <;> rw [hx] at e <;> first | rfl | exact absurd rfl e
     rw [jq hbb]
     refine ⟨_,rfl,p2,fun y hy => ?_⟩
     by_cases ey:y=i
     ·have:=p3 y hy
      rw [ey,Uk]
      rw [ey,Hd] at this
      unfold outK
      rw [if_neg e]
      exact this
     ·rw [Vs _ ey]
      exact p3 y hy
   refine ⟨(((i+1:Nat):Int),r),?_,rfl,r2,r3⟩
   simp only [W.Jm.c100003]
   rw [jY (by omega),r1,je,js (by omega)]
   rfl)
  (by
   rintro ⟨s,out⟩ ⟨p1,p2,p3⟩
   simp only at p1 p2 p3
   subst p1
   refine ⟨_,?_,out,rfl,p2,p3⟩
   simp only [W.Jm.c100003]
   rw [jP (by omega)])
  (s:=((0:Int),List.replicate (2 ^ n) z0)) ⟨rfl,by simp,fun y hy=>by
   rw [repl_at,show cut 0 (outK q b v) y=K.zero from if_neg (by omega)]
   exact num_zero' _ _⟩
 subst q2
 unfold W.Jm
 rw [Jf (by simp;omega),je,Int.toNat_natCast,hlen]
 rw [show (List.replicate (2 ^ n) ((List.replicate 8 (false,([]:List Int))),(0:Int)))=List.replicate (2 ^ n) z0 from rfl,q1,je]
 have hcut : ∀ y,y < 2 ^ n→cut (2 ^ n) (outK q b v) y=outK q b v y:=fun y hy=>if_pos hy
 refine ⟨r,rfl,q3,fun y hy => ?_,fun y hy => ?_⟩
 ·rw [← hcut y hy]
  exact q4 y hy
 ·unfold outK
  split
  ·exact hv.fit y hy
  ·exact FitsK.zero _ _
def basisK (i:Nat):KV:=fun x=>if x=i then K.one else K.zero
theorem one_kv:kv (YX 1) 0=K.one:=by
 apply K.eq_of <;> simp [kv,YX,hp,K.one]
theorem basis_walk {n i:Nat} (hn:n≤20) (hi:i < 2 ^ n) : ∃ r,W.kO (n:Int) (i:Int)=some r∧Amps r (2 ^ n) (basisK i) 0:=by
 have hN:2 ^ n≤2 ^ 20:=Nat.pow_le_pow_right (by decide) hn
 have hN0:0 < 2 ^ n:=Nat.pow_pos (by decide)
 obtain ⟨z,z1,z2,z3⟩:=zof_ok (n:=1) (by decide)
 have hp:=pow63 (q:=(n:Int)) (by omega)
 rw [Int.toNat_natCast] at hp
 unfold W.kO W.Yn
 rw [Jf (by simp),je]
 simp only [Int.toNat_natCast] at hp ⊢
 simp only [hp,Int.toNat_natCast]
 rw [Jf (by rw [Bool.and_eq_true,Bool.and_eq_true,Bool.and_eq_true,decide_eq_true_iff,decide_eq_true_iff,decide_eq_true_iff,decide_eq_true_iff];omega),je,z1,je,
  show idx (List.replicate 8 (false,([]:List (Ty.den (Ty.int IntKind.i64))))) (0:Int)=some d0 from rfl]
 simp only [je]
 rw [show (List.replicate (2 ^ n) ((List.replicate 8 (false,([]:List (Ty.den (Ty.int IntKind.i64))))),(0:Int)))=List.replicate (2 ^ n) z0 from rfl,VN (by simpa using hi),je,idxN (by simpa using hi),je]
 have hbd:Bd (YX 1) 1:=single_bd (by decide)
 have h1:FitsK K.one (2*0+1) 0:=⟨YX 1,one_kv,hbd⟩
 refine ⟨_,rfl,by simp,fun y hy => ?_,fun y hy => ?_⟩
 ·rw [Hu (by simpa using hi),repl_at]
  unfold basisK
  by_cases e:y=i
  ·rw [if_pos e,if_pos e]
   exact Num.mk' (e:=0) (single_reps z2) rfl (.inl rfl) one_kv hbd (Nat.le_refl _)
  ·rw [if_neg e,if_neg e]
   exact num_zero' _ _
 ·unfold basisK
  split
  ·exact h1
  ·exact FitsK.zero _ _
structure OkP (o:GOp) (n bn:Nat):Prop where
 gate:Ok1 o n
 ifs:o.2.2.2.2.2.length < 2 ^ 62
 cond : ∀ c∈o.2.2.2.2.2,c≠0∧c≤(bn:Int) ∧ -c≤(bn:Int)
 bit:o.1=5→0≤o.2.2.2.2.1∧o.2.2.2.2.1 < (bn:Int)
theorem ok1_x {o:GOp} {n:Nat} (h:Ok1 o n):Ok1 (2,0,[],o.2.2.2.1,0,[]) n:=⟨h.q,by simp,fun _ h=>by simp at h,by simp,by simp⟩
end Go.Ql
end
end

section
section
section
namespace Go.Ql
end Go.Ql
end
section
namespace Go.Ql
end Go.Ql
end
section
namespace Go.Ql
end Go.Ql
end
section
namespace Go.Ql
end Go.Ql
end
section
namespace Go.Ql
end Go.Ql
end
section
namespace Go.Ql
theorem zsub_ok {a b:Bool×List Int} {u v:Int} (ha:Rep 10000 a u) (hb:Rep 10000 b v) (la:a.2.length < 100000000) (lb:b.2.length < 100000000) :
 ∃ r,W.ki a b=some r∧Rep 10000 r (u - v)∧r.2.length≤a.2.length+b.2.length+1:=by
 obtain ⟨n,h1,h2,h3⟩:=zneg_ok hb lb
 obtain ⟨r,h4,h5,h6⟩:=zadd_ok ha h2 la (by omega)
 refine ⟨r,?_,by rw [Int.sub_eq_add_neg];exact h5,by omega⟩
 unfold W.ki W.ki.c1
 rw [show ((b.1,b.2):Bool×List Int)=b from rfl,h1,je,show ((a.1,a.2):Bool×List Int)=a from rfl,h4];rfl
end Go.Ql
end
section
namespace Go.Ql
end Go.Ql
end
section
namespace Go.Ql
end Go.Ql
end
section
namespace Go.Ql
end Go.Ql
end
section
namespace Go.Ql
end Go.Ql
end
section
namespace Go.Ql
end Go.Ql
end
section
namespace Go.Ql
end Go.Ql
end
section
namespace Go.Ql
end Go.Ql
end
section
namespace Go.Ql
end Go.Ql
end
section
namespace Go.Ql
end Go.Ql
end
section
namespace Go.Ql
end Go.Ql
end
section
namespace Go.Ql
end Go.Ql
end
section
namespace Go.Ql
end Go.Ql
end
section
namespace Go.Ql
end Go.Ql
end
section
namespace Go.Ql
end Go.Ql
end
section
namespace Go.Ql
end Go.Ql
end
section
namespace Go.Ql
end Go.Ql
end
section
namespace Go.Ql
end Go.Ql
end
section
namespace Go.Ql
end Go.Ql
end
section
namespace Go.Ql
end Go.Ql
end
section
namespace Go.Ql
end Go.Ql
end
section
namespace Go.Ql
end Go.Ql
end
section
namespace Go.Ql
end Go.Ql
end
section
namespace Go.Ql
end Go.Ql
end
section
namespace Go.Ql
end Go.Ql
end
section
namespace Go.Ql
end Go.Ql
end
section
namespace Go.Ql
end Go.Ql
end
end
section
namespace Go.Ql
section
variable {B:Int} {c:List Dg} {v w:Nat→Int} {L:Nat}
end
end Go.Ql
end
section
namespace Go.Ql
end Go.Ql
end
section
namespace Go.Ql
end Go.Ql
end
section
namespace Go.Ql
end Go.Ql
end
section
namespace Go.Ql
end Go.Ql
end
section
namespace Go.Ql
end Go.Ql
end
section
namespace Go.Ql
end Go.Ql
end
section
namespace Go.Ql
end Go.Ql
end
section
namespace Go.Ql
end Go.Ql
end
section
namespace Go.Ql
end Go.Ql
end
section
namespace Go.Ql
end Go.Ql
end
section
namespace Go.Ql
end Go.Ql
end
section
namespace Go.Ql
end Go.Ql
end
section
namespace Go.Ql
end Go.Ql
end
section
namespace Go.Ql
end Go.Ql
end
section
namespace Go.Ql
end Go.Ql
end
section
namespace Go.Ql
end Go.Ql
end
section
namespace Go.Ql
end Go.Ql
end
section
namespace Go.Ql
end Go.Ql
end
section
namespace Go.Ql
theorem rmul_one {c d c':List Dg} {v w:Nat→Int} {u:Int} {L M N i j:Nat} (hi:i < 8) (hj:j < 8) (h:Reps 10000 c v) (g:Reps 10000 d w) (hv:Bd v L) (hw:Bd w M) (hc:c'.length=8)
 (ho:Rep 10000 (c'.getD ((i+j) % 8) d0) u) (hu:u.natAbs < 2 ^ N) (hs:L+M+N < 900000) (ae be e:Int) :
 ∃ r,W.jz.c245068 (c,ae) (d,be) (i:Int) (j:Int) [(c',e)] some=some [(c'.set ((i+j) % 8) r,e)]∧Rep 10000 r (u+v i*tv w i ((i+j) % 8)):=by
 have hp:(i+j) % 8 < 8:=Nat.mod_lt _ (by decide)
 have l1:=h.few (by decide) hv hi
 have l2:=g.few (by decide) hw hj
 have l3:=ho.len_le (by decide) hu
 have p1:=(h.at_ i hi).pos_of (by decide)
 have p2:=(g.at_ j hj).pos_of (by decide)
 have ht:=tv_at w j hj i
 rw [Nat.add_comm j i] at ht
 simp only [W.jz.c245068,W.jz.c11,W.jz.c12,W.jz.c14,W.jz.c15,bx_in,bx_at,je]
 rw [h.idx hi,je,g.idx hj]
 simp only [je]
 have skip:v i*tv w i ((i+j) % 8)=0 → ∃ r,some [(c',e)]=some [(c'.set ((i+j) % 8) r,e)]∧Rep 10000 r (u+v i*tv w i ((i+j) % 8)):=fun h0=>
  ⟨_,by rw [getD_self (by omega)],ho.eq_of (by rw [h0,Int.add_zero])⟩
 by_cases z1:v i=0
 ·rw [jP (by rw [p1];simpa using z1),je,br_ff]
  exact skip (by rw [z1,Int.zero_mul])
 ·rw [jY (p1.2 z1)]
  by_cases z2:w j=0
  ·rw [decide_eq_false (by rw [p2];simpa using z2),je,br_ff]
   exact skip (by rw [ht,z2];simp)
  ·rw [decide_eq_true (p2.2 z2),je,br_tt]
   obtain ⟨z,q1,q2,q3⟩:=zmul_ok (h.at_ i hi) (g.at_ j hj) (by omega) (by omega)
   rw [q1]
   simp only [je]
   rw [js (x:=(i:Int)+(j:Int)) (by omega),show ((z.1,z.2):Dg)=z from rfl]
   by_cases h8:i+j < 8
   ·rw [jY (by omega),show (i:Int)+(j:Int)=(((i+j) % 8:Nat):Int) by omega,okIf8 hp,je,idx8 hc hp,je]
    obtain ⟨r,r1,r2,_⟩:=zadd_ok ho q2 (by omega) (by omega)
    rw [r1]
    simp only [je]
    refine ⟨r,rfl,r2.eq_of ?_⟩
    rw [ht,if_neg (by omega)]
   ·rw [jP (by omega),js (by omega),show (i:Int)+(j:Int) - 8=(((i+j) % 8:Nat):Int) by omega,okIf8 hp,je,idx8 hc hp,je]
    obtain ⟨r,r1,r2,_⟩:=zsub_ok ho q2 (by omega) (by omega)
    rw [r1]
    simp only [je]
    refine ⟨r,rfl,r2.eq_of ?_⟩
    rw [ht,if_pos (by omega),Int.mul_neg]
    omega
theorem rmul_row {c d out:List Dg} {v w o:Nat→Int} {L M N i:Nat} (hi:i < 8) (h:Reps 10000 c v) (g:Reps 10000 d w) (hv:Bd v L) (hw:Bd w M) (ho:Reps 10000 out o) (hob:Bd o N) (hs:L+M+N < 900000) (ae be e:Int) :
 ∃ r,iter (fun s↦W.jz.c100009 (c,ae) (d,be) (i:Int) (Prod.fst s) (Prod.snd s) some) ((0:Int),[(out,e)])=some ((8:Int),[(r,e)])∧Reps 10000 r (fun p=>o p+v i*tv w i p):=by
 obtain ⟨y,h1,r,h2,h3⟩:=JJ (f:=fun s:Int×List NumT↦W.jz.c100009 (c,ae) (d,be) (i:Int) (Prod.fst s) (Prod.snd s) some) 8
  (fun j s=>s.1=(j:Int) ∧ ∃ c',s.2=[(c',e)]∧Reps 10000 c' (fun p=>if (p+16 - i) % 8 < j then o p+v i*tv w i p else o p))
  (fun y => ∃ r,y=((8:Int),[(r,e)])∧Reps 10000 r (fun p=>o p+v i*tv w i p))
  (by
   rintro j ⟨t,l⟩ hj ⟨h1,c',h1',h2⟩
   simp only at h1 h1'
   subst h1
   subst h1'
   left
   have hp:(i+j) % 8 < 8:=Nat.mod_lt _ (by decide)
   have hop:=h2.at_ _ hp
   rw [if_neg (by omega)] at hop
   obtain ⟨r,r1,r2⟩:=rmul_one hi hj h g hv hw h2.len hop (hob _ hp) hs ae be e
   refine ⟨(((j+1:Nat):Int),[(c'.set ((i+j) % 8) r,e)]),?_,rfl,_,rfl,?_⟩
   ·simp only [W.jz.c100009]
    rw [jY (by omega),r1,je,js (by omega)]
    rfl
   ·refine (h2.set hp r2).congr (fun p hpp => ?_)
    by_cases e2:p=(i+j) % 8
    ·rw [if_pos e2,if_pos (by omega),e2]
    ·rw [if_neg e2]
     by_cases e3:(p+16 - i) % 8 < j
     ·rw [if_pos e3,if_pos (by omega)]
     ·rw [if_neg e3,if_neg (by omega)])
  (by
   rintro ⟨t,l⟩ ⟨h1,c',h1',h2⟩
   simp only at h1 h1'
   subst h1
   subst h1'
   refine ⟨((8:Int),[(c',e)]),?_,c',rfl,h2.congr (fun p hp=>by rw [if_pos (by omega)])⟩
   simp only [W.jz.c100009]
   rw [jP (by omega)]
   rfl)
  (s:=((0:Int),[(out,e)])) ⟨rfl,out,rfl,ho.congr (fun p hp=>by rw [if_neg (by omega)])⟩
 subst h2
 exact ⟨r,h1,h3⟩
theorem rmul_pre {a b:NumT} {k l:K} {L M E F:Nat} (h:PNum 10000 a k L E) (g:PNum 10000 b l M F) (hs:L+M+E+F < 400000) :
 ∃ r,W.jz a b=some r∧Num 10000 r (K.mul k l) (L+M+8) (E+F):=by
 obtain ⟨c,ae⟩:=a
 obtain ⟨d,be⟩:=b
 obtain ⟨v,e,h1,h2,h4,h5,h6⟩:=h.has
 obtain ⟨w,f,g1,g2,g4,g5,g6⟩:=g.has
 simp only at h1 g1 h2 g2
 subst h2
 subst g2
 unfold W.jz W.jz.c1
 rw [Ve h1,je]
 by_cases hz:YS v
 ·rw [jY hz,je,br_tt]
  refine ⟨_,rfl,num_zero.eq_of ?_⟩
  rw [← h4,(YE (e:=e)).1 hz,K.zero_mul]
 ·rw [jP hz,Ve g1,je,je]
  by_cases gz:YS w
  ·rw [jY gz]
   refine ⟨_,rfl,num_zero.eq_of ?_⟩
   rw [← g4,(YE (e:=f)).1 gz,K.mul_zero]
  ·rw [jP gz,js (by simp only;omega)]
   obtain ⟨y,q1,r,q2,q3⟩:=JJ (f:=fun s:Int×List NumT↦W.jz.c100006 (c,(e:Int)) (d,(f:Int)) (Prod.fst s) (Prod.snd s) some) 8
    (fun i s=>s.1=(i:Int) ∧ ∃ c',s.2=[(c',((e+f:Nat):Int))]∧Reps 10000 c' (rows v w i))
    (fun y => ∃ r,y=((8:Int),[(r,((e+f:Nat):Int))])∧Reps 10000 r (rows v w 8))
    (by
     rintro i ⟨t,l⟩ hi ⟨p1,c',p1',p2⟩
     simp only at p1 p1'
     subst p1
     subst p1'
     left
     have hrb:=rows_bd h5 g5 i (by omega)
     obtain ⟨r,r1,r2⟩:=rmul_row (L:=L) (M:=M) (N:=L+M+i) hi h1 g1 h5 g5 p2 hrb (by omega) (e:Int) (f:Int) ((e+f:Nat):Int)
     refine ⟨(((i+1:Nat):Int),[(r,((e+f:Nat):Int))]),?_,rfl,r,rfl,r2⟩
     simp only [W.jz.c100006]
     rw [jY (by omega),r1,je,js (by omega)]
     rfl)
    (by
     rintro ⟨t,l⟩ ⟨p1,c',p1',p2⟩
     simp only at p1 p1'
     subst p1
     subst p1'
     refine ⟨((8:Int),[(c',((e+f:Nat):Int))]),?_,c',rfl,p2⟩
     simp only [W.jz.c100006]
     rw [jP (by omega)]
     rfl)
    (s:=((0:Int),[(List.replicate 8 d0,((e+f:Nat):Int))])) ⟨rfl,_,rfl,Reps.zero⟩
   subst q2
   obtain ⟨z,z1,z2⟩:=rleast_ok (L:=L+M+8) q3 (rows_bd h5 g5 8 (by omega)) (by omega) (e+f) (by omega)
   rw [show (e:Int)+(f:Int)=((e+f:Nat):Int) by omega,q1,je]
   simp only [bx_at,je]
   rw [z1,je]
   refine ⟨z,rfl,?_⟩
   obtain ⟨u,m,u1,u2,u3,u4,u5,u6⟩:=z2.has
   refine Num.mk' u1 u2 u3 ?_ u5 (by omega)
   rw [u4,← kv_mul,h4,g4]
end Go.Ql
end
section
namespace Go.Ql
theorem rconj_ok {a:NumT} {k:K} {L E:Nat} (h:Num 10000 a k L E) (hL:L+L+E+E < 400000) (hE:E≤10000) :
 ∃ r,W.Jy a=some r∧Num 10000 r (K.conj k) L E:=by
 obtain ⟨c,ae⟩:=a
 obtain ⟨v,e,h1,h2,h3,h4,h5,h6⟩:=h.has
 simp only at h1 h2
 subst h2
 obtain ⟨y,q1,r,q2,q3⟩:=JJ (f:=fun s:Int×List NumT↦W.Jy.c100003 (c,(e:Int)) (Prod.fst s) (Prod.snd s) some) 8
  (fun i s=>s.1=(i:Int) ∧ ∃ o,s.2=[o]∧PNum 10000 o (kv (cvp v i) e) L e)
  (fun y => ∃ o,y=((8:Int),[o])∧PNum 10000 o (kv (cvp v 8) e) L e)
  (by
   rintro i ⟨t,l⟩ hi ⟨p1,o,p2,p3⟩
   simp only at p1 p2
   subst p1
   subst p2
   left
   have hs:=single_reps (h1.at_ i hi)
   have hsb:=single_bd (h5 i hi)
   obtain ⟨t1,t2,t3⟩:=rturn_reps hs hsb (by omega) (e:Int) (-(i:Int))
   have tp:PNum 10000 (t1,(e:Int)) (kv (tv (YX (v i)) ((-(i:Int)) % 16).toNat) e) L e:=⟨_,e,t3,rfl,rfl,tv_bd hsb _,Nat.le_refl _⟩
   obtain ⟨z,z1,z2,_⟩:=radd_pre p3 tp (by omega) (by omega)
   refine ⟨(((i+1:Nat):Int),[z]),?_,rfl,z,rfl,?_⟩
   ·simp only [W.Jy.c100003,W.Jy.c5,W.Yn,bx_at,je]
    rw [jY (by omega),h1.idx hi,je,show idx (List.replicate 8 (false,([]:List (Ty.den (Ty.int IntKind.i64))))) (0:Int)=some d0 from rfl]
    simp only [je]
    rw [js (x:=0 - (i:Int)) (by omega),Int.zero_sub,show (((c.getD i d0).1,(c.getD i d0).2):Dg)=c.getD i d0 from rfl]
    refine jj ?_ (by rw [js (by omega)];rfl)
    exact jj t2 (jj z1 rfl)
   ·have ek:K.add (kv (cvp v i) e) (kv (tv (YX (v i)) ((-(i:Int)) % 16).toNat) e)=kv (cvp v (i+1)) e:=by
     rw [kv_add]
     exact Hf (fun p hp=>cvp_step v i hi p hp)
    rw [ek,Nat.max_self] at z2
    exact z2.tight rfl (cvp_bd h5 _) (Nat.le_refl _))
  (by
   rintro ⟨t,l⟩ ⟨p1,o,p2,p3⟩
   simp only at p1 p2
   subst p1
   subst p2
   refine ⟨((8:Int),[o]),?_,o,rfl,p3⟩
   simp only [W.Jy.c100003]
   rw [jP (by omega)]
   rfl)
  (s:=((0:Int),[(List.replicate 8 d0,(0:Int))])) ⟨rfl,_,rfl,⟨fun _=>0,0,Reps.zero,rfl,by
   rw [UT,Hf (w:=fun _=>0) (fun p hp=>by simp only [cvp];split <;> simp),UT],Bd.zero,Nat.zero_le _⟩⟩
 subst q2
 have e8:kv (cvp v 8) e=K.conj k:=by
  rw [← h4,← kv_conj]
  refine Hf (fun p hp => ?_)
  simp only [cvp,cv]
  by_cases p0:p=0
  ·rw [if_pos p0,if_pos p0,if_pos (by omega)]
  ·rw [if_neg p0,if_neg p0,if_pos (by omega)]
 unfold W.Jy
 rw [q1,je,Ve h1,je]
 by_cases hz:YS v
 ·rw [jY hz]
  refine ⟨_,rfl,num_zero.eq_of ?_⟩
  rw [← h4,(YE (e:=e)).1 hz]
  rfl
 ·obtain ⟨c',be⟩:=r
  obtain ⟨w,f,g1,g2,g4,g5,g6⟩:=q3.has
  simp only at g1 g2
  subst g2
  rw [jP hz]
  simp only [bx_at,je]
  obtain ⟨z,z1,z2⟩:=rleast_ok g1 g5 (by omega) f (by omega)
  rw [z1,je]
  refine ⟨z,rfl,?_⟩
  obtain ⟨w',f',u1,u2,u3,u4,u5,u6⟩:=z2.has
  exact ⟨w',f',u1,u2,u3,by rw [u4,g4,e8],u5,by omega⟩
theorem rnorm_ok {a:NumT} {k:K} {L E:Nat} (h:Num 10000 a k L E) (hL:L+L+E+E < 400000) (hE:E≤10000) :
 ∃ r,W.JU a=some r∧Num 10000 r (K.mul k (K.conj k)) (L+L+8) (E+E):=by
 obtain ⟨c,c1,c2⟩:=rconj_ok h hL hE
 obtain ⟨r,r1,r2⟩:=rmul_pre h.pre c2.pre hL
 refine ⟨r,?_,r2⟩
 unfold W.JU W.JU.c1
 refine jj (x:=[r]) ?_ rfl
 exact jj c1 (jj r1 rfl)
theorem rsame_ok {a b:NumT} {k l:K} {L M E F:Nat} (h:Num 10000 a k L E) (g:Num 10000 b l M F) (hs:L+M+E+F < 70000) (hd:E≤10000∧F≤10000) :
 ∃ t,W.kQ a b=some t∧(t=true↔k=l):=by
 obtain ⟨⟨c,ae⟩,r1,r2⟩:=rsub_ok h g hs hd
 obtain ⟨v,e,h1,h2,h3,h4,h5,h6⟩:=r2.has
 refine ⟨_,by unfold W.kQ;rw [r1,je,Ve h1,je],?_⟩
 rw [decide_eq_true_iff,YE (e:=e),h4,K.sub_zero]
end Go.Ql
end
section
namespace Go.Ql
end Go.Ql
end
section
namespace Go.Ql
end Go.Ql
end
section
namespace Go.Ql
end Go.Ql
end
end
