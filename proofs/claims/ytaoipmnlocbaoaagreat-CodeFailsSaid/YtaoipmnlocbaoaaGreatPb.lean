/- Plain laws: whole numbers and fractions. -/
import Derived.Test.YtaoipmnlocbaoaaGreatWc
import Derived.Test.YtaoipmnlocbaoaaGreatPa
set_option linter.all false
section
section
namespace Go.Ql
structure Rep (B:Int) (x:Bool×List Int) (v:Int):Prop where
 dig:Dig B x.2
 last:x.2≠[]→x.2.getD (x.2.length-1) 0≠0
 neg:x.1=true→x.2≠[]
 val:v=if x.1 then-val B x.2 else val B x.2
theorem kq (B:Int) {l:List Int} {n:Nat} (h:l.length≤n):val B (l.take n)=val B l:=by rw [List.take_of_length_le h]
theorem Yr {B:Int} (neg:Bool) (mag:List Int) (h:Dig B mag) (hl:mag.length<1000000000000) :
 ∃r,W.whole_made neg mag=some r∧Rep B r (if neg then-val B mag else val B mag)∧r.2.length≤mag.length:=by
 obtain ⟨n,h1,k,rfl,hk,hv,hz⟩:=JG (f:=fun s↦W.whole_made.ce_ mag s Option.some)
  (J:=fun n:Int=>∃k:Nat,n=k∧k≤mag.length∧val B (mag.take k)=val B mag)
  (Q:=fun n:Int=>∃k:Nat,n=k∧k≤mag.length∧val B (mag.take k)=val B mag∧(k≠0→mag.getD (k-1) 0≠0))
  Int.toNat (fun s ⟨k,hs,hk,hv⟩=>by
   subst hs
   simp only [W.whole_made.ce_,W.whole_made.c2]
   by_cases h0:k=0
   ·subst h0
    exact Or.inl ⟨_,by simp [br_ff,ja],0,rfl,hk,hv,fun h=>absurd rfl h⟩
   ·have hw:IntKind.i64.wrap ((k:Int)-1)=((k-1:Nat):Int):=by rw [ji (by omega)];omega
    have e1:=Jz (xs:=mag) (k-1) hw (by omega)
    rw [e1,hw]
    simp only [ja,decide_eq_true (by omega:(k:Int)>0),br_tt]
    by_cases hz:mag.getD (k-1) 0=0
    ·refine Or.inr ⟨_,by rw [hz];rfl,⟨k-1,rfl,by omega,?_⟩,by omega⟩
     have:=jX B (k-1) mag
     rw [hz,show k-1+1=k by omega,Int.mul_zero] at this
     omega
    ·exact Or.inl ⟨_,by rw [beq_false_of_ne hz];rfl,k,rfl,hk,hv,fun _=>hz⟩)
  (s:=(mag.length:Int)) ⟨mag.length,rfl,Nat.le_refl _,kq B (Nat.le_refl _)⟩
 unfold W.whole_made
 rw [h1]
 simp only [ja]
 by_cases h0:k=0
 ·subst h0
  refine ⟨(false,[]),by simp [br_tt],⟨Dig.nil,by simp,by simp,?_⟩,by simp⟩
  simp only [List.take_zero,val] at hv
  rw [←hv];simp [val]
 ·refine ⟨(neg,mag.take k),?_,⟨h.take k,fun _=>?_,fun _ e=>?_,?_⟩,by simp only [List.length_take];omega⟩
  ·have:((k:Int)==0)=false:=beq_false_of_ne (by omega)
   simp only [this,br_ff]
   rw [jB (by simp;omega)]
   rfl
  ·have hlen:(mag.take k).length=k:=by rw [List.length_take];omega
   have:=hz h0
   rw [hlen]
   simp only [List.getD,List.getElem?_take] at this ⊢
   rw [if_pos (by omega)]
   exact this
  ·have:(mag.take k).length=0:=congrArg List.length e
   rw [List.length_take] at this
   omega
  ·simp only [hv]
theorem YD {B:Int} (neg:Bool) (mag:List Int) (h:Dig B mag) (hl:mag.length<1000000000000) :
 ∃r,W.Jb neg mag=some r∧Rep B r (if neg then-val B mag else val B mag)∧r.2.length≤mag.length:=by
 obtain ⟨n,h1,k,rfl,hk,hv,hz⟩:=JG (f:=fun s↦W.Jb.ce_ mag s Option.some)
  (J:=fun n:Int=>∃k:Nat,n=k∧k≤mag.length∧val B (mag.take k)=val B mag)
  (Q:=fun n:Int=>∃k:Nat,n=k∧k≤mag.length∧val B (mag.take k)=val B mag∧(k≠0→mag.getD (k-1) 0≠0))
  Int.toNat (fun s ⟨k,hs,hk,hv⟩=>by
   subst hs
   simp only [W.Jb.ce_,W.Jb.c2]
   by_cases h0:k=0
   ·subst h0
    exact Or.inl ⟨_,by simp [br_ff,ja],0,rfl,hk,hv,fun h=>absurd rfl h⟩
   ·have hw:IntKind.i64.wrap ((k:Int)-1)=((k-1:Nat):Int):=by rw [ji (by omega)];omega
    have e1:=Jz (xs:=mag) (k-1) hw (by omega)
    rw [e1,hw]
    simp only [ja,decide_eq_true (by omega:(k:Int)>0),br_tt]
    by_cases hz:mag.getD (k-1) 0=0
    ·refine Or.inr ⟨_,by rw [hz];rfl,⟨k-1,rfl,by omega,?_⟩,by omega⟩
     have:=jX B (k-1) mag
     rw [hz,show k-1+1=k by omega,Int.mul_zero] at this
     omega
    ·exact Or.inl ⟨_,by rw [beq_false_of_ne hz];rfl,k,rfl,hk,hv,fun _=>hz⟩)
  (s:=(mag.length:Int)) ⟨mag.length,rfl,Nat.le_refl _,kq B (Nat.le_refl _)⟩
 unfold W.Jb
 rw [h1]
 simp only [ja]
 by_cases h0:k=0
 ·subst h0
  refine ⟨(false,[]),by simp [br_tt],⟨Dig.nil,by simp,by simp,?_⟩,by simp⟩
  simp only [List.take_zero,val] at hv
  rw [←hv];simp [val]
 ·refine ⟨(neg,mag.take k),?_,⟨h.take k,fun _=>?_,fun _ e=>?_,?_⟩,by simp only [List.length_take];omega⟩
  ·have:((k:Int)==0)=false:=beq_false_of_ne (by omega)
   simp only [this,br_ff]
   rw [jB (by simp;omega)]
   rfl
  ·have hlen:(mag.take k).length=k:=by rw [List.length_take];omega
   have:=hz h0
   rw [hlen]
   simp only [List.getD,List.getElem?_take] at this ⊢
   rw [if_pos (by omega)]
   exact this
  ·have:(mag.take k).length=0:=congrArg List.length e
   rw [List.length_take] at this
   omega
  ·simp only [hv]
end Go.Ql
end
section
namespace Go.Ql
theorem add32_ok {x y c:Int} (hx:0≤x∧x<4294967296) (hy:0≤y∧y<4294967296) (hc:0≤c∧c≤1) :
 W.ki x y c=some ((x+y+c) % 4294967296,(x+y+c) / 4294967296):=by
 unfold W.ki
 rw [Js (x:=x) (by omega),Js (x:=y) (by omega),Js (x:=c) (by omega),Js (x:=x+y) (by omega),Js (x:=x+y+c) (by omega),kB,Int.fdiv_eq_ediv_of_nonneg _ (by decide)]
 rw [show ((2:Int)^(32:Nat))=4294967296 from by decide,YC (by omega)]
theorem sum_ok (a b:List Int) (ha:Dig 4294967296 a) (hb:Dig 4294967296 b) (la:a.length<1000000000) (lb:b.length<1000000000) :
 ∃t,W.whole_sum a b=some t∧Dig 4294967296 t∧t.length≤a.length+b.length+1∧val 4294967296 t=val 4294967296 a+val 4294967296 b:=by
 have key:∀a b:List Int,Dig 4294967296 a→Dig 4294967296 b→a.length<1000000000→b.length≤a.length →
  ∃t,(bnd (Go.Ql.iter (fun s↦W.whole_sum.cc_ b (Prod.fst s) a (a.length:Int) (Prod.fst (Prod.snd s)) (Prod.snd (Prod.snd s)) Option.some) ((0:Int),(0:Int),List.replicate (Int.toNat (IntKind.i64.wrap ((a.length:Int)+1))) (0:Int))) fun y_2=>
   bnd (Go.Ql.inR (List.length (Prod.snd (Prod.snd y_2))) (a.length:Int)) fun y_3=>
   bnd (Go.Ql.idx (Prod.snd (Prod.snd y_2)) (a.length:Int)) fun y_4=>
   some (List.set (Prod.snd (Prod.snd y_2)) (Int.toNat (a.length:Int)) (Prod.fst y_2)))=some t∧Dig 4294967296 t∧t.length=a.length+1∧val 4294967296 t=val 4294967296 a+val 4294967296 b:=by
  intro a b ha hb la lb
  obtain ⟨⟨c,i,t⟩,h1,hc,ht,hd,hv⟩:=JG
   (f:=fun s:Int×Int×List Int↦W.whole_sum.cc_ b (Prod.fst s) a (a.length:Int) (Prod.fst (Prod.snd s)) (Prod.snd (Prod.snd s)) Option.some)
   (J:=fun s=>(0≤s.1∧s.1≤1) ∧ ∃i:Nat,s.2.1=i∧i≤a.length∧s.2.2.length=a.length+1∧Dig 4294967296 s.2.2∧(∀j,i≤j→s.2.2.getD j 0=0)∧val 4294967296 s.2.2+s.1*4294967296^i=val 4294967296 (a.take i)+val 4294967296 (b.take i))
   (Q:=fun s=>(0≤s.1∧s.1≤1)∧s.2.2.length=a.length+1∧Dig 4294967296 s.2.2∧s.2.2.getD a.length 0=0∧val 4294967296 s.2.2+s.1*4294967296^a.length=val 4294967296 a+val 4294967296 b)
   (fun s=>a.length-s.2.1.toNat) (fun ⟨c,i',t⟩ ⟨hc,i,hi,hil,ht,hd,hz,hv⟩=>by
    simp only at hc hi ht hd hz hv ⊢
    subst hi
    simp only [W.whole_sum.cc_]
    by_cases h0:i<a.length
    ·have e2:W.whole_sum.cw_ b (i:Int) 0 Option.some=some (b.getD i 0):=by
      unfold W.whole_sum.cw_
      by_cases hb':i<b.length
      ·rw [jS (by omega),Jz i rfl hb'];rfl
      ·rw [jO (by omega),List.getD,List.getElem?_eq_none (by omega:b.length≤i)];rfl
     have dx:=ha.getD (by decide) i
     have dy:=hb.getD (by decide) i
     have hw:IntKind.i64.wrap ((i:Int)+1)=((i+1:Nat):Int):=by rw [ji (by omega)];omega
     refine Or.inr ⟨(_,_,_),by rw [jS (by omega),Jz i rfl h0,ja,e2,ja,add32_ok dx dy hc,ja,kE (by omega) (by omega),ja,Jz i rfl (by omega),ja,hw,Int.toNat_natCast],⟨?_,i+1,rfl,by omega,by simpa using ht,?_,?_,?_⟩,by show a.length-((i+1:Nat):Int).toNat<a.length-(i:Int).toNat;omega⟩
     ·simp only;omega
     ·exact hd.set (by omega) i
     ·intro j hj
      simp only
      rw [ku (by omega),if_neg (by omega)]
      exact hz j (by omega)
     ·have v1:=jX 4294967296 i a
      have v2:=jX 4294967296 i b
      have v3:=kW 4294967296 ((a.getD i 0+b.getD i 0+c) % 4294967296) i t (by omega)
      have v4:=hz i (Nat.le_refl _)
      have v5:a.getD i 0+b.getD i 0+c=(a.getD i 0+b.getD i 0+c) % 4294967296+4294967296*((a.getD i 0+b.getD i 0+c) / 4294967296):=(Int.emod_add_mul_ediv _ _).symm
      simp only [Int.pow_succ]
      rw [v1,v2,v3,v4]
      generalize (4294967296:Int)^i=P at *
      generalize (a.getD i 0+b.getD i 0+c) % 4294967296=r at *
      generalize (a.getD i 0+b.getD i 0+c) / 4294967296=q at *
      generalize a.getD i 0=x at *
      generalize b.getD i 0=y at *
      grind
    ·have e:i=a.length:=by omega
     subst e
     refine Or.inl ⟨(_,_,_),by rw [jO (by omega)],hc,ht,hd,hz _ (Nat.le_refl _),?_⟩
     rw [kq _ (Nat.le_refl _),kq _ lb] at hv
     exact hv)
   (s:=((0:Int),(0:Int),List.replicate (Int.toNat (IntKind.i64.wrap ((a.length:Int)+1))) (0:Int)))
   ⟨by simp,0,rfl,by omega,by rw [ji (by omega)];simp<;>omega,Dig.replicate (by decide) _,fun j _=>kS _ _,by simp [Ya,val]⟩
  simp only at hc ht hd hv
  rw [h1]
  obtain ⟨hd,hz,hv⟩:=And.intro hd hv
  refine ⟨_,by rw [ja,kE (by omega) (by simp only;omega),ja,Jz a.length rfl (by simp only;omega),ja],hd.set (by simp only;omega) _,by simpa using ht,?_⟩
  simp only [Int.toNat_natCast]
  rw [kW _ _ _ _ (by omega),hz,←hv]
  grind
 unfold W.whole_sum W.whole_sum.cy_
 by_cases h:a.length<b.length
 ·obtain ⟨t,h1,h2,h3,h4⟩:=key b a hb ha lb (by omega)
  refine ⟨t,?_,h2,by omega,by omega⟩
  rw [jS (by omega),ja]
  simp only
  rw [jB (by rw [ji (by omega)];simp;try omega),ja]
  exact h1
 ·obtain ⟨t,h1,h2,h3,h4⟩:=key a b ha hb la (by omega)
  refine ⟨t,?_,h2,by omega,by omega⟩
  rw [jO (by omega),ja]
  simp only
  rw [jB (by rw [ji (by omega)];simp;try omega),ja]
  exact h1
end Go.Ql
end
section
namespace Go.Ql
theorem Yi {x d:Int} (h:0≤x):Int.tdiv x d=x / d:=Int.tdiv_eq_ediv_of_nonneg h
theorem Yj {x d:Int} (h:0≤x):Int.tmod x d=x % d:=Int.tmod_eq_emod_of_nonneg h
theorem Yz {l:List Int} {i:Nat} (h:l.length≤i):l.getD i 0=0:=by rw [List.getD,List.getElem?_eq_none h];rfl
theorem dadd_ok (a b:List Int) (ha:Dig 10000 a) (hb:Dig 10000 b) (la:a.length<1000000000) (lb:b.length<1000000000) :
 ∃t,W.jY a b=some t∧Dig 10000 t∧t.length≤a.length+b.length+1∧val 10000 t=val 10000 a+val 10000 b:=by
 obtain ⟨⟨c,i,t⟩,h1,hd,hl,hv⟩:=JG
  (f:=fun s:Int×Int×List Int↦W.jY.cb_ a b (Prod.fst s) (Prod.fst (Prod.snd s)) (Prod.snd (Prod.snd s)) Option.some)
  (J:=fun s=>(0≤s.1∧s.1≤1)∧s.2.1=s.2.2.length∧Dig 10000 s.2.2∧s.2.2.length≤max a.length b.length+1∧(s.2.2.length=max a.length b.length+1→s.1=0)∧val 10000 s.2.2+s.1*10000^s.2.2.length=val 10000 (a.take s.2.2.length)+val 10000 (b.take s.2.2.length))
  (Q:=fun s=>Dig 10000 s.2.2∧s.2.2.length≤a.length+b.length+1∧val 10000 s.2.2=val 10000 a+val 10000 b)
  (fun s=>2*(max a.length b.length+1-s.2.2.length)+s.1.toNat) (fun ⟨c,i',t⟩ ⟨hc,hi,hd,hl,hl0,hv⟩=>by
   simp only at hc hi hd hl hl0 hv ⊢
   subst hi
   simp only [W.jY.cb_]
   have e4:W.jY.c4 a b c (t.length:Int) Option.some=some (decide (t.length<a.length∨t.length<b.length∨0<c)):=by
    unfold W.jY.c4
    by_cases h1:t.length<a.length
    ·rw [jS (by omega)];simp [h1]
    ·rw [jO (by omega)]
     by_cases h2:t.length<b.length
     ·rw [jS (by omega)];simp [h2]
     ·rw [jO (by omega)];simp [h1,h2]
   rw [e4,ja]
   have dx:=ha.getD (by decide) t.length
   have dy:=hb.getD (by decide) t.length
   have e5:W.jY.cx_ a c (t.length:Int) Option.some=some (c+a.getD t.length 0):=by
    unfold W.jY.cx_
    by_cases h1:t.length<a.length
    ·rw [jS (by omega),Jz t.length rfl h1,ja,ji (by omega)]
    ·rw [jO (by omega),Yz (by omega)];simp
   have e6:W.jY.co_ b (c+a.getD t.length 0) (t.length:Int) Option.some=some (c+a.getD t.length 0+b.getD t.length 0):=by
    unfold W.jY.co_
    by_cases h1:t.length<b.length
    ·rw [jS (by omega),Jz t.length rfl h1,ja,ji (by omega)]
    ·rw [jO (by omega),Yz (l:=b) (by omega)];simp
   by_cases h0:t.length<a.length∨t.length<b.length∨0<c
   ·rw [jS h0]
    refine Or.inr ⟨(_,_,_),by rw [e5,ja,e6,ja,jB (by simp;omega),ja,Yj (by omega),Yi (by omega),ji (by omega)],⟨?_,?_,?_,?_,?_,?_⟩,?_⟩
    ·simp only;omega
    ·simp only [List.length_append,List.length_singleton];rw [ji (by omega)];omega
    ·exact hd.append (Dig.cons (by omega) Dig.nil)
    ·simp only [List.length_append,List.length_singleton];omega
    ·simp only [List.length_append,List.length_singleton]
     intro h2
     have h3:a.getD t.length 0=0:=Yz (by omega)
     have h4:b.getD t.length 0=0:=Yz (by omega)
     rw [h3,h4];omega
    ·have v1:=jX 10000 t.length a
     have v2:=jX 10000 t.length b
     have v3:=UC 10000 t ((c+a.getD t.length 0+b.getD t.length 0) % 10000)
     have v5:c+a.getD t.length 0+b.getD t.length 0=(c+a.getD t.length 0+b.getD t.length 0) % 10000+10000*((c+a.getD t.length 0+b.getD t.length 0) / 10000):=(Int.emod_add_mul_ediv _ _).symm
     simp only [List.length_append,List.length_singleton,Int.pow_succ]
     rw [v1,v2,v3]
     generalize (10000:Int)^t.length=P at *
     generalize (c+a.getD t.length 0+b.getD t.length 0) % 10000=r at *
     generalize (c+a.getD t.length 0+b.getD t.length 0) / 10000=q at *
     generalize a.getD t.length 0=x at *
     generalize b.getD t.length 0=y at *
     grind
    ·simp only [List.length_append,List.length_singleton]
     by_cases h2:t.length<max a.length b.length
     ·omega
     ·have h3:a.getD t.length 0=0:=Yz (by omega)
      have h4:b.getD t.length 0=0:=Yz (by omega)
      rw [h3,h4];omega
   ·rw [jO h0]
    refine Or.inl ⟨(_,_,_),rfl,hd,by simp only;omega,?_⟩
    have hc0:c=0:=by omega
    subst hc0
    rw [kq _ (by omega),kq _ (by omega)] at hv
    simp only
    omega)
  (s:=((0:Int),(0:Int),[])) ⟨by simp,rfl,Dig.nil,by simp,by simp,by simp [val]⟩
 unfold W.jY
 rw [h1]
 exact ⟨t,rfl,hd,hl,hv⟩
theorem dsub_ok (a b:List Int) (ha:Dig 10000 a) (hb:Dig 10000 b) (la:a.length<1000000000) (lb:b.length≤a.length) (hab:val 10000 b≤val 10000 a) :
 ∃t,W.Jp a b=some t∧Dig 10000 t∧t.length=a.length∧val 10000 t=val 10000 a-val 10000 b:=by
 obtain ⟨⟨c,i,t⟩,h1,hc,hd,hl,hv⟩:=JG
  (f:=fun s:Int×Int×List Int↦W.Jp.cb_ a b (Prod.fst s) (Prod.fst (Prod.snd s)) (Prod.snd (Prod.snd s)) Option.some)
  (J:=fun s=>(0≤s.1∧s.1≤1)∧s.2.1=s.2.2.length∧Dig 10000 s.2.2∧s.2.2.length≤a.length∧val 10000 s.2.2=val 10000 (a.take s.2.2.length)-val 10000 (b.take s.2.2.length)+s.1*10000^s.2.2.length)
  (Q:=fun s=>(0≤s.1∧s.1≤1)∧Dig 10000 s.2.2∧s.2.2.length=a.length∧val 10000 s.2.2=val 10000 a-val 10000 b+s.1*10000^a.length)
  (fun s=>a.length-s.2.2.length) (fun ⟨c,i',t⟩ ⟨hc,hi,hd,hl,hv⟩=>by
   simp only at hc hi hd hl hv ⊢
   subst hi
   simp only [W.Jp.cb_]
   have dx:=ha.getD (by decide) t.length
   have dy:=hb.getD (by decide) t.length
   by_cases h0:t.length<a.length
   ·have e5:W.Jp.cm_ b (t.length:Int) (a.getD t.length 0-c) Option.some=some (a.getD t.length 0-c-b.getD t.length 0):=by
     unfold W.Jp.cm_
     by_cases h1:t.length<b.length
     ·rw [jS (by omega),Jz t.length rfl h1,ja,ji (by omega)]
     ·rw [jO (by omega),Yz (l:=b) (by omega)];simp
    have e6:W.Jp.cV_ 0 (a.getD t.length 0-c-b.getD t.length 0) Option.some=some (-((a.getD t.length 0-c-b.getD t.length 0) / 10000),(a.getD t.length 0-c-b.getD t.length 0) % 10000):=by
     unfold W.Jp.cV_
     by_cases h1:a.getD t.length 0-c-b.getD t.length 0<0
     ·rw [jS h1,ji (by omega)]
      congr 1
      ext<;>simp only<;>omega
     ·rw [jO h1]
      congr 1
      ext<;>simp only<;>omega
    rw [jS (by omega)]
    refine Or.inr ⟨(_,_,_),by rw [Jz t.length rfl h0,ja,ji (x:=a.getD t.length 0-c) (by omega),e5,ja,e6,ja,jB (by simp;omega),ja],⟨?_,?_,?_,?_,?_⟩,?_⟩
    ·simp only;omega
    ·simp only [List.length_append,List.length_singleton];rw [ji (by omega)];omega
    ·exact hd.append (Dig.cons (by simp only;omega) Dig.nil)
    ·simp only [List.length_append,List.length_singleton];omega
    ·have v1:=jX 10000 t.length a
     have v2:=jX 10000 t.length b
     have v3:=UC 10000 t ((a.getD t.length 0-c-b.getD t.length 0) % 10000)
     have v5:a.getD t.length 0-c-b.getD t.length 0=(a.getD t.length 0-c-b.getD t.length 0) % 10000+10000*((a.getD t.length 0-c-b.getD t.length 0) / 10000):=(Int.emod_add_mul_ediv _ _).symm
     simp only [List.length_append,List.length_singleton,Int.pow_succ]
     rw [v1,v2,v3]
     generalize (10000:Int)^t.length=P at *
     generalize (a.getD t.length 0-c-b.getD t.length 0) % 10000=r at *
     generalize (a.getD t.length 0-c-b.getD t.length 0) / 10000=q at *
     generalize a.getD t.length 0=x at *
     generalize b.getD t.length 0=y at *
     grind
    ·simp only [List.length_append,List.length_singleton];omega
   ·rw [jO (by omega)]
    have hl':t.length=a.length:=by omega
    rw [hl',kq _ (Nat.le_refl _),kq _ lb] at hv
    exact Or.inl ⟨(_,_,_),rfl,hc,hd,hl',hv⟩)
  (s:=((0:Int),(0:Int),[])) ⟨by simp,rfl,Dig.nil,by simp,by simp [val]⟩
 unfold W.Jp
 rw [h1]
 simp only at hc hd hl hv
 have h2:=Yk (by decide) hd
 rw [hl] at h2
 have hc0:c=0:=by
  rcases (by omega:c=0∨c=1) with h | h
  ·exact h
  ·subst h;omega
 subst hc0
 exact ⟨t,rfl,hd,hl,by omega⟩
end Go.Ql
end
section
namespace Go.Ql
theorem bv_back (a:BitVec 32):BitVec.ofInt IntKind.u32.bits ((a.toNat:Nat):Int)=a:=by
 show BitVec.ofInt 32 ((a.toNat:Nat):Int)=a
 rw [BitVec.ofInt_natCast,BitVec.ofNat_toNat,BitVec.setWidth_eq]
theorem wrap_bv (a:BitVec 32):IntKind.u32.wrap ((a.toNat:Nat):Int)=a.toNat:=YC (by have:=a.isLt;omega)
theorem ior32 (a b:BitVec 32):ibits .or .u32 (a.toNat:Int) (b.toNat:Int)=((a ||| b).toNat:Int):=by
 simp only [ibits,bv_back];exact wrap_bv (a ||| b)
theorem iand32 (a b:BitVec 32):ibits .and .u32 (a.toNat:Int) (b.toNat:Int)=((a &&& b).toNat:Int):=by
 simp only [ibits,bv_back];exact wrap_bv (a &&& b)
theorem ixor32 (a b:BitVec 32):ibits .xor .u32 (a.toNat:Int) (b.toNat:Int)=((a^^^b).toNat:Int):=by
 simp only [ibits,bv_back];exact wrap_bv (a^^^b)
theorem msb_top (a:BitVec 32):a.toNat / 2147483648=a.msb.toNat:=by
 rw [BitVec.msb_eq_decide]
 have:=a.isLt
 by_cases h:2^(32-1)≤a.toNat
 ·simp only [h,decide_true,Bool.toNat_true];omega
 ·simp only [h,decide_false,Bool.toNat_false];omega
theorem sub32_ok {x y c:Int} (hx:0≤x∧x<4294967296) (hy:0≤y∧y<4294967296) (hc:0≤c∧c≤1) :
 W.kr x y c=some ((x-y-c) % 4294967296,-((x-y-c) / 4294967296)):=by
 unfold W.kr
 have hd:IntKind.u32.wrap (IntKind.u32.wrap (x-y)-c)=(x-y-c) % 4294967296:=by
  rw [kB,kB];omega
 rw [hd]
 obtain ⟨X,rfl⟩:∃X:BitVec 32,x=X.toNat:=⟨BitVec.ofNat 32 x.toNat,by rw [BitVec.toNat_ofNat];omega⟩
 obtain ⟨Y,rfl⟩:∃Y:BitVec 32,y=Y.toNat:=⟨BitVec.ofNat 32 y.toNat,by rw [BitVec.toNat_ofNat];omega⟩
 obtain ⟨D,hD⟩:∃D:BitVec 32,((X.toNat:Int)-Y.toNat-c) % 4294967296=D.toNat:=⟨BitVec.ofNat 32 (((X.toNat:Int)-Y.toNat-c) % 4294967296).toNat,by rw [BitVec.toNat_ofNat];omega⟩
 rw [hD]
 have h1:(Int.ofNat (2^32-Nat.succ 0))=((BitVec.allOnes 32).toNat:Int):=by decide
 congr 2
 rw [show (Int.ofNat (nat_lit 2^(32:Nat)-Nat.succ (nat_lit 0)))=((BitVec.allOnes 32).toNat:Int) from h1]
 simp only [ixor32,iand32,ior32]
 rw [Int.fdiv_eq_ediv_of_nonneg _ (by decide),show ((2:Int)^(31:Nat))=((2147483648:Nat):Int) from by decide,←Int.natCast_ediv,msb_top]
 simp only [BitVec.msb_or,BitVec.msb_and,BitVec.allOnes_xor,BitVec.msb_not,BitVec.msb_xor]
 have mx:=msb_top X
 have my:=msb_top Y
 have md:=msb_top D
 have:=X.isLt
 have:=Y.isLt
 have:=D.isLt
 revert mx my md
 cases X.msb<;>cases Y.msb<;>cases D.msb<;>simp<;>omega
theorem less_ok (a b:List Int) (ha:Dig 4294967296 a) (hb:Dig 4294967296 b) (la:a.length<1000000000) (lb:b.length≤a.length) (hab:val 4294967296 b≤val 4294967296 a) :
 ∃t,W.whole_less a b=some t∧Dig 4294967296 t∧t.length=a.length∧val 4294967296 t=val 4294967296 a-val 4294967296 b:=by
 obtain ⟨⟨c,i,t⟩,h1,hc,ht,hd,hv⟩:=JG
  (f:=fun s:Int×Int×List Int↦W.whole_less.cb_ b (Prod.fst s) a (a.length:Int) (Prod.fst (Prod.snd s)) (Prod.snd (Prod.snd s)) Option.some)
  (J:=fun s=>(0≤s.1∧s.1≤1) ∧ ∃i:Nat,s.2.1=i∧i≤a.length∧s.2.2.length=a.length∧Dig 4294967296 s.2.2∧(∀j,i≤j→s.2.2.getD j 0=0)∧val 4294967296 s.2.2=val 4294967296 (a.take i)-val 4294967296 (b.take i)+s.1*4294967296^i)
  (Q:=fun s=>(0≤s.1∧s.1≤1)∧s.2.2.length=a.length∧Dig 4294967296 s.2.2∧val 4294967296 s.2.2=val 4294967296 a-val 4294967296 b+s.1*4294967296^a.length)
  (fun s=>a.length-s.2.1.toNat) (fun ⟨c,i',t⟩ ⟨hc,i,hi,hil,ht,hd,hz,hv⟩=>by
   simp only at hc hi ht hd hz hv ⊢
   subst hi
   simp only [W.whole_less.cb_]
   by_cases h0:i<a.length
   ·have e2:W.whole_less.cm_ b (i:Int) 0 Option.some=some (b.getD i 0):=by
     unfold W.whole_less.cm_
     by_cases hb':i<b.length
     ·rw [jS (by omega),Jz i rfl hb'];rfl
     ·rw [jO (by omega),Yz (by omega)]
    have dx:=ha.getD (by decide) i
    have dy:=hb.getD (by decide) i
    have hw:IntKind.i64.wrap ((i:Int)+1)=((i+1:Nat):Int):=by rw [ji (by omega)];omega
    refine Or.inr ⟨(_,_,_),by rw [jS (by omega),Jz i rfl h0,ja,e2,ja,sub32_ok dx dy hc,ja,kE (by omega) (by omega),ja,Jz i rfl (by omega),ja,hw,Int.toNat_natCast],⟨?_,i+1,rfl,by omega,by simpa using ht,?_,?_,?_⟩,by show a.length-((i+1:Nat):Int).toNat<a.length-(i:Int).toNat;omega⟩
    ·simp only;omega
    ·exact hd.set (by simp only;omega) i
    ·intro j hj
     simp only
     rw [ku (by omega),if_neg (by omega)]
     exact hz j (by omega)
    ·have v1:=jX 4294967296 i a
     have v2:=jX 4294967296 i b
     have v3:=kW 4294967296 ((a.getD i 0-b.getD i 0-c) % 4294967296) i t (by omega)
     have v4:=hz i (Nat.le_refl _)
     have v5:a.getD i 0-b.getD i 0-c=(a.getD i 0-b.getD i 0-c) % 4294967296+4294967296*((a.getD i 0-b.getD i 0-c) / 4294967296):=(Int.emod_add_mul_ediv _ _).symm
     simp only [Int.pow_succ]
     rw [v1,v2,v3,v4]
     generalize (4294967296:Int)^i=P at *
     generalize (a.getD i 0-b.getD i 0-c) % 4294967296=r at *
     generalize (a.getD i 0-b.getD i 0-c) / 4294967296=q at *
     generalize a.getD i 0=x at *
     generalize b.getD i 0=y at *
     grind
   ·have e:i=a.length:=by omega
    subst e
    refine Or.inl ⟨(_,_,_),by rw [jO (by omega)],hc,ht,hd,?_⟩
    rw [kq _ (Nat.le_refl _),kq _ lb] at hv
    exact hv)
  (s:=((0:Int),(0:Int),List.replicate (Int.toNat (a.length:Int)) (0:Int)))
  ⟨by simp,0,rfl,by omega,by simp,Dig.replicate (by decide) _,fun j _=>kS _ _,by simp [Ya,val]⟩
 unfold W.whole_less
 rw [jB (by simp;omega),ja,h1]
 simp only at hc hd ht hv
 have h2:=Yk (by decide) hd
 rw [ht] at h2
 have hc0:c=0:=by
  rcases (by omega:c=0∨c=1) with h | h
  ·exact h
  ·subst h;omega
 subst hc0
 exact ⟨t,rfl,hd,ht,by omega⟩
end Go.Ql
end
section
namespace Go.Ql
theorem cmp_ok (x y:Int):W.cmp_Compare_int x y=some (if x<y then -1 else if y<x then 1 else 0):=by
 unfold W.cmp_Compare_int W.cmp_isNaN_int
 simp only [ja,bne_self_eq_false,br_ff]
 by_cases h:x<y
 ·rw [jS h,if_pos h]
 ·rw [jO h,if_neg h]
  by_cases h2:y<x
  ·rw [jS h2,if_pos h2]
  ·rw [jO h2,if_neg h2]
theorem cmp32_ok (x y:Int):W.cmp_Compare_uint32 x y=some (if x<y then -1 else if y<x then 1 else 0):=by
 unfold W.cmp_Compare_uint32 W.cmp_isNaN_uint32
 simp only [ja,bne_self_eq_false,br_ff]
 by_cases h:x<y
 ·rw [jS h,if_pos h]
 ·rw [jO h,if_neg h]
  by_cases h2:y<x
  ·rw [jS h2,if_pos h2]
  ·rw [jO h2,if_neg h2]
def Trim (l:List Int):Prop:=l≠[]→l.getD (l.length-1) 0≠0
theorem Hr {B:Int} (hB:1<B) {l:List Int} (h:Dig B l) (ht:Trim l) (hn:l≠[]):B^(l.length-1)≤val B l:=by
 have h0:l.length≠0:=fun e=>hn (List.eq_nil_of_length_eq_zero e)
 have h1:=jX B (l.length-1) l
 rw [show l.length-1+1=l.length by omega,List.take_length] at h1
 have h2:=h.getD (by omega) (l.length-1)
 have h3:=ht hn
 have h4:=JT (by omega) (h.take (l.length-1))
 have h5:B^(l.length-1)*1≤B^(l.length-1)*l.getD (l.length-1) 0:=Int.mul_le_mul_of_nonneg_left (by omega) (Int.le_of_lt (Int.pow_pos (by omega)))
 omega
theorem YH {B:Int} (hB:1<B) {m n:Nat} (h:m≤n):B^m≤B^n:=by
 induction n with
 | zero=>rw [show m=0 by omega];exact Int.le_refl _
 | succ n ih=>
   by_cases e:m=n+1
   ·rw [e];exact Int.le_refl _
   ·have h1:=ih (by omega)
    have h2:0<B^n:=Int.pow_pos (by omega)
    rw [Int.pow_succ]
    have h3:B^n*1≤B^n*B:=Int.mul_le_mul_of_nonneg_left (by omega) (by omega)
    omega
theorem Vo {B:Int} (hB:1<B) {a b:List Int} (ha:Dig B a) (hb:Dig B b) (tb:Trim b) (h:a.length<b.length):val B a<val B b:=by
 have h1:=Yk (by omega) ha
 have h2:=Hr hB hb tb (by intro e;rw [e] at h;simp at h)
 have h3:=YH hB (show a.length≤b.length-1 by omega)
 omega
theorem Hv {B:Int} (hB:1<B) {a b:List Int} (ha:Dig B a) (hb:Dig B b) (tb:Trim b) (h:val B b≤val B a):b.length≤a.length:=by
 by_cases h1:b.length≤a.length
 ·exact h1
 ·have:=Vo hB ha hb tb (by omega);omega
theorem top_lt {B:Int} (hB:1<B) {a b:List Int} (ha:Dig B a) (hb:Dig B b) (k:Nat) (h:a.getD k 0<b.getD k 0):val B (a.take (k+1))<val B (b.take (k+1)):=by
 have h1:=jX B k a
 have h2:=jX B k b
 have h3:=Yk (by omega) (ha.take k)
 have h4:=JT (by omega) (hb.take k)
 have h5:=YH hB (show (a.take k).length≤k by rw [List.length_take];omega)
 have h6:B^k*(a.getD k 0+1)≤B^k*b.getD k 0:=Int.mul_le_mul_of_nonneg_left (by omega) (Int.le_of_lt (Int.pow_pos (by omega)))
 rw [Int.mul_add] at h6
 omega
def Ordered (x y c:Int):Prop:=(c=-1∧x<y)∨(c=0∧x=y)∨(c=1∧y<x)
theorem order_ok (a b:List Int) (ha:Dig 4294967296 a) (hb:Dig 4294967296 b) (ta:Trim a) (tb:Trim b) (la:a.length<1000000000) (lb:b.length<1000000000) :
 ∃c,W.whole_order a b=some c∧Ordered (val 4294967296 a) (val 4294967296 b) c:=by
 unfold W.whole_order
 rw [cmp_ok,ja]
 by_cases h1:a.length<b.length
 ·rw [if_pos (by omega)]
  exact ⟨_,rfl,Or.inl ⟨rfl,Vo (by decide) ha hb tb h1⟩⟩
 rw [if_neg (by omega)]
 by_cases h2:b.length<a.length
 ·rw [if_pos (by omega)]
  exact ⟨_,rfl,Or.inr (Or.inr ⟨rfl,Vo (by decide) hb ha ta h2⟩)⟩
 rw [if_neg (by omega)]
 have hl:a.length=b.length:=by omega
 obtain ⟨r,h3,h4⟩:=JG (f:=fun s:Int↦W.whole_order.cf_ a b s Option.some)
  (J:=fun i=>∃k:Nat,i=(k:Int)-1∧k≤a.length∧val 4294967296 a-val 4294967296 b=val 4294967296 (a.take k)-val 4294967296 (b.take k))
  (Q:=fun r=>Ordered (val 4294967296 a) (val 4294967296 b) (match r with | .inl u=>u.1 | .inr _=>0))
  (fun i=>(i+1).toNat) (fun i ⟨k,hi,hk,hv⟩=>by
   subst hi
   simp only [W.whole_order.cf_]
   by_cases h0:k=0
   ·subst h0
    rw [jO (by omega)]
    refine Or.inl ⟨_,rfl,Or.inr (Or.inl ⟨rfl,?_⟩)⟩
    simp [val] at hv
    omega
   ·rw [jS (by omega)]
    have e7:W.whole_order.c7 a b ((k:Int)-1) Option.some=some (if a.getD (k-1) 0<b.getD (k-1) 0 then -1 else if b.getD (k-1) 0<a.getD (k-1) 0 then 1 else 0):=by
     unfold W.whole_order.c7
     rw [Jz (k-1) (by omega) (by omega),ja,Jz (k-1) (by omega) (by omega),ja,cmp32_ok,ja]
    rw [e7,ja]
    have hk1:k-1+1=k:=by omega
    by_cases h5:a.getD (k-1) 0<b.getD (k-1) 0
    ·have h6:=top_lt (by decide) ha hb (k-1) h5
     rw [hk1] at h6
     rw [if_pos h5]
     exact Or.inl ⟨_,rfl,Or.inl ⟨rfl,by omega⟩⟩
    ·rw [if_neg h5]
     by_cases h7:b.getD (k-1) 0<a.getD (k-1) 0
     ·have h6:=top_lt (by decide) hb ha (k-1) h7
      rw [hk1] at h6
      rw [if_pos h7]
      exact Or.inl ⟨_,rfl,Or.inr (Or.inr ⟨rfl,by omega⟩)⟩
     ·rw [if_neg h7]
      refine Or.inr ⟨(k:Int)-1-1,?_,⟨k-1,by omega,by omega,?_⟩,by omega⟩
      ·show some (Sum.inl (IntKind.i64.wrap ((k:Int)-1-1)))=_
       rw [ji (by omega)]
      ·have v1:=jX 4294967296 (k-1) a
       have v2:=jX 4294967296 (k-1) b
       have v3:a.getD (k-1) 0=b.getD (k-1) 0:=by omega
       rw [hk1] at v1 v2
       rw [v3] at v1
       omega)
  (s:=(a.length:Int)-1) ⟨a.length,rfl,Nat.le_refl _,by rw [kq _ (Nat.le_refl _),kq _ (by omega)]⟩
 rw [ji (by omega)]
 refine ⟨_,?_,h4⟩
 show bnd (iter _ _) _=_
 rw [h3,ja]
 cases r<;>rfl
theorem dcmp_ok (a b:List Int) (ha:Dig 10000 a) (hb:Dig 10000 b) (ta:Trim a) (tb:Trim b) (la:a.length<1000000000) (lb:b.length<1000000000) :
 ∃c,W.Jk a b=some c∧Ordered (val 10000 a) (val 10000 b) c:=by
 unfold W.Jk
 by_cases h1:a.length<b.length
 ·rw [ko (bne_iff_ne.2 (by omega)),jS (by omega)]
  exact ⟨_,rfl,Or.inl ⟨rfl,Vo (by decide) ha hb tb h1⟩⟩
 by_cases h2:b.length<a.length
 ·rw [ko (bne_iff_ne.2 (by omega)),jO (by omega)]
  exact ⟨_,rfl,Or.inr (Or.inr ⟨rfl,Vo (by decide) hb ha ta h2⟩)⟩
 have hl:a.length=b.length:=by omega
 obtain ⟨r,h3,h4⟩:=JG (f:=fun s:Int↦W.Jk.cc_ a b s Option.some)
  (J:=fun i=>∃k:Nat,i=(k:Int)-1∧k≤a.length∧val 10000 a-val 10000 b=val 10000 (a.take k)-val 10000 (b.take k))
  (Q:=fun r=>Ordered (val 10000 a) (val 10000 b) (match r with | .inl u=>u.1 | .inr _=>0))
  (fun i=>(i+1).toNat) (fun i ⟨k,hi,hk,hv⟩=>by
   subst hi
   simp only [W.Jk.cc_]
   by_cases h0:k=0
   ·subst h0
    rw [jO (by omega)]
    refine Or.inl ⟨_,rfl,Or.inr (Or.inl ⟨rfl,?_⟩)⟩
    simp [val] at hv
    omega
   ·rw [jS (by omega)]
    have hk1:k-1+1=k:=by omega
    have e8:W.Jk.c8 a b ((k:Int)-1) Option.some=some (decide (a.getD (k-1) 0<b.getD (k-1) 0)):=by
     unfold W.Jk.c8
     rw [Jz (k-1) (by omega) (by omega),ja,Jz (k-1) (by omega) (by omega),ja]
    have e10:W.Jk.c10 a b ((k:Int)-1) Option.some=some (decide (b.getD (k-1) 0<a.getD (k-1) 0)):=by
     unfold W.Jk.c10
     rw [Jz (k-1) (by omega) (by omega),ja,Jz (k-1) (by omega) (by omega),ja]
    rw [e8,ja]
    by_cases h5:a.getD (k-1) 0<b.getD (k-1) 0
    ·have h6:=top_lt (by decide) ha hb (k-1) h5
     rw [hk1] at h6
     rw [jS h5]
     exact Or.inl ⟨_,rfl,Or.inl ⟨rfl,by omega⟩⟩
    ·rw [jO h5,e10,ja]
     by_cases h7:b.getD (k-1) 0<a.getD (k-1) 0
     ·have h6:=top_lt (by decide) hb ha (k-1) h7
      rw [hk1] at h6
      rw [jS h7]
      exact Or.inl ⟨_,rfl,Or.inr (Or.inr ⟨rfl,by omega⟩)⟩
     ·rw [jO h7,ji (by omega)]
      refine Or.inr ⟨(k:Int)-1-1,rfl,⟨k-1,by omega,by omega,?_⟩,by omega⟩
      have v1:=jX 10000 (k-1) a
      have v2:=jX 10000 (k-1) b
      have v3:a.getD (k-1) 0=b.getD (k-1) 0:=by omega
      rw [hk1] at v1 v2
      rw [v3] at v1
      omega)
  (s:=(a.length:Int)-1) ⟨a.length,rfl,Nat.le_refl _,by rw [kq _ (Nat.le_refl _),kq _ (by omega)]⟩
 rw [JQ (by simp [hl]),ji (by omega),h3,ja]
 refine ⟨_,?_,h4⟩
 cases r<;>rfl
end Go.Ql
end
section
namespace Go.Ql
theorem add_ok {a b:Bool×List Int} {u v:Int} (ha:Rep 4294967296 a u) (hb:Rep 4294967296 b v) (la:a.2.length<100000000) (lb:b.2.length<100000000) :
 ∃r,W.whole_Int_Add a b=some r∧Rep 4294967296 r (u+v)∧r.2.length≤a.2.length+b.2.length+1:=by
 obtain ⟨a0,a1⟩:=a
 obtain ⟨b0,b1⟩:=b
 simp only at la lb
 have va:=ha.val
 have vb:=hb.val
 simp only at va vb
 unfold W.whole_Int_Add
 by_cases h0:a0=b0
 ·subst h0
  obtain ⟨t,h1,h2,h3,h4⟩:=sum_ok a1 b1 ha.dig hb.dig (by omega) (by omega)
  obtain ⟨r,h5,h6,h7⟩:=Yr a0 t h2 (by omega)
  refine ⟨r,?_,?_,by show r.2.length≤a1.length+b1.length+1;omega⟩
  ·rw [ko (beq_self_eq_true a0)]
   unfold W.whole_Int_Add.c2
   rw [h1,ja,h5];rfl
  ·have:u+v=if a0=true then -val 4294967296 t else val 4294967296 t:=by rw [va,vb,h4];split<;>omega
   rw [this];exact h6
 ·have hb0:b0=!a0:=by cases a0<;>cases b0<;>simp_all
  rw [JQ (beq_false_of_ne h0)]
  obtain ⟨c,h1,h2⟩:=order_ok a1 b1 ha.dig hb.dig ha.last hb.last (by omega) (by omega)
  rw [h1,ja]
  by_cases hc:c≥0
  ·have hle:val 4294967296 b1≤val 4294967296 a1:=by rcases h2 with h | h | h<;>omega
   obtain ⟨t,h3,h4,h5,h6⟩:=less_ok a1 b1 ha.dig hb.dig (by omega) (Hv (by decide) ha.dig hb.dig hb.last hle) hle
   obtain ⟨r,h7,h8,h9⟩:=Yr a0 t h4 (by omega)
   refine ⟨r,?_,?_,by show r.2.length≤a1.length+b1.length+1;omega⟩
   ·rw [jS hc]
    unfold W.whole_Int_Add.c4
    rw [h3,ja,h7];rfl
   ·have:u+v=if a0=true then -val 4294967296 t else val 4294967296 t:=by rw [va,vb,h6,hb0];cases a0<;>simp<;>omega
    rw [this];exact h8
  ·have hle:val 4294967296 a1≤val 4294967296 b1:=by rcases h2 with h | h | h<;>omega
   obtain ⟨t,h3,h4,h5,h6⟩:=less_ok b1 a1 hb.dig ha.dig (by omega) (Hv (by decide) hb.dig ha.dig ha.last hle) hle
   obtain ⟨r,h7,h8,h9⟩:=Yr b0 t h4 (by omega)
   refine ⟨r,?_,?_,by show r.2.length≤a1.length+b1.length+1;omega⟩
   ·rw [jO hc]
    unfold W.whole_Int_Add.c5
    rw [h3,ja,h7];rfl
   ·have:u+v=if b0=true then -val 4294967296 t else val 4294967296 t:=by rw [va,vb,h6,hb0];cases a0<;>simp<;>omega
    rw [this];exact h8
theorem zadd_ok {a b:Bool×List Int} {u v:Int} (ha:Rep 10000 a u) (hb:Rep 10000 b v) (la:a.2.length<100000000) (lb:b.2.length<100000000) :
 ∃r,W.Jn a b=some r∧Rep 10000 r (u+v)∧r.2.length≤a.2.length+b.2.length+1:=by
 obtain ⟨a0,a1⟩:=a
 obtain ⟨b0,b1⟩:=b
 simp only at la lb
 have va:=ha.val
 have vb:=hb.val
 simp only at va vb
 unfold W.Jn
 by_cases za:a1=[]
 ·subst za
  refine ⟨(b0,b1),rfl,?_,by simp only;omega⟩
  have:u=0:=by rw [va];simp [val]
  rw [this,Int.zero_add]
  exact hb
 have za':a1.length≠0:=fun e=>za (List.eq_nil_of_length_eq_zero e)
 rw [JQ (beq_false_of_ne (by show ((a1.length:Nat):Int)≠0;omega))]
 by_cases zb:b1=[]
 ·subst zb
  refine ⟨(a0,a1),rfl,?_,by simp only;omega⟩
  have:v=0:=by rw [vb];simp [val]
  rw [this,Int.add_zero]
  exact ha
 have zb':b1.length≠0:=fun e=>zb (List.eq_nil_of_length_eq_zero e)
 rw [JQ (beq_false_of_ne (by show ((b1.length:Nat):Int)≠0;omega))]
 by_cases h0:a0=b0
 ·subst h0
  obtain ⟨t,h1,h2,h3,h4⟩:=dadd_ok a1 b1 ha.dig hb.dig (by omega) (by omega)
  obtain ⟨r,h5,h6,h7⟩:=YD a0 t h2 (by omega)
  refine ⟨r,?_,?_,by show r.2.length≤a1.length+b1.length+1;omega⟩
  ·rw [ko (beq_self_eq_true a0)]
   unfold W.Jn.c6
   rw [h1,ja,h5];rfl
  ·have:u+v=if a0=true then -val 10000 t else val 10000 t:=by rw [va,vb,h4];split<;>omega
   rw [this];exact h6
 ·have hb0:b0=!a0:=by cases a0<;>cases b0<;>simp_all
  rw [JQ (beq_false_of_ne h0)]
  obtain ⟨c,h1,h2⟩:=dcmp_ok a1 b1 ha.dig hb.dig ha.last hb.last (by omega) (by omega)
  rw [h1,ja]
  by_cases hc:c≥0
  ·have hle:val 10000 b1≤val 10000 a1:=by rcases h2 with h | h | h<;>omega
   obtain ⟨t,h3,h4,h5,h6⟩:=dsub_ok a1 b1 ha.dig hb.dig (by omega) (Hv (by decide) ha.dig hb.dig hb.last hle) hle
   obtain ⟨r,h7,h8,h9⟩:=YD a0 t h4 (by omega)
   refine ⟨r,?_,?_,by show r.2.length≤a1.length+b1.length+1;omega⟩
   ·rw [jS hc]
    unfold W.Jn.c8
    rw [h3,ja,h7];rfl
   ·have:u+v=if a0=true then -val 10000 t else val 10000 t:=by rw [va,vb,h6,hb0];cases a0<;>simp<;>omega
    rw [this];exact h8
  ·have hle:val 10000 a1≤val 10000 b1:=by rcases h2 with h | h | h<;>omega
   obtain ⟨t,h3,h4,h5,h6⟩:=dsub_ok b1 a1 hb.dig ha.dig (by omega) (Hv (by decide) hb.dig ha.dig ha.last hle) hle
   obtain ⟨r,h7,h8,h9⟩:=YD b0 t h4 (by omega)
   refine ⟨r,?_,?_,by show r.2.length≤a1.length+b1.length+1;omega⟩
   ·rw [jO hc]
    unfold W.Jn.c9
    rw [h3,ja,h7];rfl
   ·have:u+v=if b0=true then -val 10000 t else val 10000 t:=by rw [va,vb,h6,hb0];cases a0<;>simp<;>omega
    rw [this];exact h8
theorem neg_ok {a:Bool×List Int} {u:Int} (ha:Rep 4294967296 a u) (la:a.2.length<100000000) :
 ∃r,W.whole_Int_Neg a=some r∧Rep 4294967296 r (-u)∧r.2.length≤a.2.length:=by
 obtain ⟨r,h1,h2,h3⟩:=Yr (!a.1) a.2 ha.dig (by omega)
 refine ⟨r,by unfold W.whole_Int_Neg;rw [h1];rfl,?_,h3⟩
 have:-u=if (!a.1)=true then -val 4294967296 a.2 else val 4294967296 a.2:=by rw [ha.val];cases a.1<;>simp
 rw [this];exact h2
theorem sub_ok {a b:Bool×List Int} {u v:Int} (ha:Rep 4294967296 a u) (hb:Rep 4294967296 b v) (la:a.2.length<100000000) (lb:b.2.length<100000000) :
 ∃r,W.whole_Int_Sub a b=some r∧Rep 4294967296 r (u-v)∧r.2.length≤a.2.length+b.2.length+1:=by
 obtain ⟨n,h1,h2,h3⟩:=neg_ok hb lb
 obtain ⟨r,h4,h5,h6⟩:=add_ok ha h2 la (by omega)
 refine ⟨r,?_,by rw [Int.sub_eq_add_neg];exact h5,by omega⟩
 unfold W.whole_Int_Sub W.whole_Int_Sub.c1
 rw [show ((b.1,b.2):Bool×List Int)=b from rfl,h1,ja,show ((a.1,a.2):Bool×List Int)=a from rfl,h4];rfl
theorem zneg_ok {a:Bool×List Int} {u:Int} (ha:Rep 10000 a u) (la:a.2.length<100000000) :
 ∃r,W.kK a=some r∧Rep 10000 r (-u)∧r.2.length≤a.2.length:=by
 obtain ⟨r,h1,h2,h3⟩:=YD (!a.1) a.2 ha.dig (by omega)
 refine ⟨r,by unfold W.kK;rw [h1];rfl,?_,h3⟩
 have:-u=if (!a.1)=true then -val 10000 a.2 else val 10000 a.2:=by rw [ha.val];cases a.1<;>simp
 rw [this];exact h2
theorem zsub_ok {a b:Bool×List Int} {u v:Int} (ha:Rep 10000 a u) (hb:Rep 10000 b v) (la:a.2.length<100000000) (lb:b.2.length<100000000) :
 ∃r,W.kc a b=some r∧Rep 10000 r (u-v)∧r.2.length≤a.2.length+b.2.length+1:=by
 obtain ⟨n,h1,h2,h3⟩:=zneg_ok hb lb
 obtain ⟨r,h4,h5,h6⟩:=zadd_ok ha h2 la (by omega)
 refine ⟨r,?_,by rw [Int.sub_eq_add_neg];exact h5,by omega⟩
 unfold W.kc W.kc.c1
 rw [show ((b.1,b.2):Bool×List Int)=b from rfl,h1,ja,show ((a.1,a.2):Bool×List Int)=a from rfl,h4];rfl
def sgn (v:Int):Int:=if v<0 then -1 else if v=0 then 0 else 1
theorem Rep.pos {B:Int} (hB:1<B) {x:Bool×List Int} {v:Int} (h:Rep B x v) (hn:x.2≠[]):0<Ql.val B x.2:=by
 have h1:=Hr hB h.dig h.last hn
 have h2:0<B^(x.2.length-1):=Int.pow_pos (by omega)
 omega
theorem Rep.sgn {B:Int} (hB:1<B) {x:Bool×List Int} {v:Int} (h:Rep B x v) :
 sgn v=if x.2.length=0 then 0 else if x.1 then -1 else 1:=by
 by_cases hn:x.2=[]
 ·have h1:=h.val
  rw [hn] at h1 ⊢
  have:v=0:=by rw [h1];simp [Ql.val]
  simp [this,Ql.sgn]
 ·have h1:=h.pos hB hn
  have h2:x.2.length≠0:=fun e=>hn (List.eq_nil_of_length_eq_zero e)
  have h3:=h.val
  rw [if_neg h2]
  unfold Ql.sgn
  cases hx:x.1<;>simp only [hx,Bool.false_eq_true,if_false,if_true] at h3 ⊢ <;> split<;>(try split)<;>omega
theorem Hm {a:Bool×List Int} {u:Int} (ha:Rep 4294967296 a u):W.whole_Int_Sign a=some (sgn u):=by
 rw [ha.sgn (by decide)]
 unfold W.whole_Int_Sign
 by_cases h:a.2.length=0
 ·rw [ko (beq_iff_eq.2 (by omega)),if_pos h]
 ·rw [JQ (beq_false_of_ne (by omega)),if_neg h];cases a.1<;>rfl
theorem zsign_ok {a:Bool×List Int} {u:Int} (ha:Rep 10000 a u):W.kM a=some (sgn u):=by
 rw [ha.sgn (by decide)]
 unfold W.kM
 by_cases h:a.2.length=0
 ·rw [ko (beq_iff_eq.2 (by omega)),if_pos h]
 ·rw [JQ (beq_false_of_ne (by omega)),if_neg h];cases a.1<;>rfl
theorem zcmp_ok {a b:Bool×List Int} {u v:Int} (ha:Rep 10000 a u) (hb:Rep 10000 b v) (la:a.2.length<100000000) (lb:b.2.length<100000000) :
 W.kX a b=some (sgn (u-v)):=by
 obtain ⟨r,h1,h2,h3⟩:=zsub_ok ha hb la lb
 unfold W.kX
 rw [show ((b.1,b.2):Bool×List Int)=b from rfl,show ((a.1,a.2):Bool×List Int)=a from rfl,h1,ja,zsign_ok h2];rfl
theorem icmp_ok {a b:Bool×List Int} {u v:Int} (ha:Rep 4294967296 a u) (hb:Rep 4294967296 b v) (la:a.2.length<100000000) (lb:b.2.length<100000000) :
 W.whole_Int_Cmp a b=some (sgn (u-v)):=by
 unfold W.whole_Int_Cmp W.whole_Int_Cmp.c1 W.whole_Int_Cmp.c2 W.whole_Int_Cmp.c4
 simp only [show ((b.1,b.2):Bool×List Int)=b from rfl,show ((a.1,a.2):Bool×List Int)=a from rfl]
 rw [Hm ha,Hm hb]
 simp only [ja,cmp_ok]
 obtain ⟨c,h1,h2⟩:=order_ok a.2 b.2 ha.dig hb.dig ha.last hb.last (by omega) (by omega)
 have sa:=ha.sgn (by decide)
 have sb:=hb.sgn (by decide)
 have va:=ha.val
 have vb:=hb.val
 by_cases h3:sgn u<sgn v
 ·rw [if_pos h3]
  simp only [show ((-1:Int) !=0)=true from rfl,br_tt,ja]
  congr 1
  revert h3;unfold sgn;repeat (first | split | omega)
  all_goals (intro _;omega)
 rw [if_neg h3]
 by_cases h4:sgn v<sgn u
 ·rw [if_pos h4]
  simp only [show ((1:Int) !=0)=true from rfl,br_tt,ja]
  congr 1
  revert h4;unfold sgn;repeat (first | split | omega)
  all_goals (intro _;omega)
 rw [if_neg h4]
 have h5:sgn u=sgn v:=by omega
 simp only [show ((0:Int) !=0)=false from rfl,br_ff,ja]
 by_cases h6:sgn u=0
 ·rw [ko (beq_iff_eq.2 h6)]
  congr 1
  have hu0:u=0:=by revert h6;unfold sgn;split;omega;split;intro;assumption;omega
  have hv0:v=0:=by rw [h5] at h6;revert h6;unfold sgn;split;omega;split;intro;assumption;omega
  rw [hu0,hv0];rfl
 ·rw [JQ (beq_false_of_ne h6),h1]
  simp only [ja]
  congr 1
  rw [h5] at sa
  have na:a.2.length≠0:=by intro e;rw [if_pos e] at sa;omega
  have nb:b.2.length≠0:=by intro e;rw [if_pos e] at sb;omega
  rw [if_neg na] at sa
  rw [if_neg nb] at sb
  have hs:a.1=b.1:=by
   rw [sa] at sb
   cases ha1:a.1<;>cases hb1:b.1<;>simp [ha1,hb1] at sb<;>rfl
  rw [h5,sa]
  rw [hs] at va ⊢
  cases hb1:b.1<;>simp only [hb1,Bool.false_eq_true,if_false,if_true] at va vb ⊢ <;> rcases h2 with ⟨rfl,h⟩ | ⟨rfl,h⟩ | ⟨rfl,h⟩<;>unfold sgn<;>(rw [ji (by omega)])<;>split<;>(try split)<;>omega
end Go.Ql
end
section
namespace Go.Ql
theorem mul_le {a b A:Int} (h0:0≤a) (h1:a≤A) (k0:0≤b) (k1:b≤A):0≤a*b∧a*b≤A*A:=
 ⟨Int.mul_nonneg h0 k0,Int.le_trans (Int.mul_le_mul_of_nonneg_right h1 k0) (Int.mul_le_mul_of_nonneg_left k1 (by omega))⟩
theorem mul_in (i:Nat) (x:Int) (b t0:List Int) (hx:0≤x∧x<4294967296) (hb:Dig 4294967296 b) (h0:Dig 4294967296 t0) (hl:i+b.length<t0.length) (hL:t0.length<1000000000) (hz:∀k,i+b.length≤k→t0.getD k 0=0) :
 ∃r,Go.Ql.iter (fun s:Int×Int×List Int↦W.whole_Int_Mul.cd_ (i:Int) x (Prod.fst s) b (b.length:Int) (Prod.fst (Prod.snd s)) (Prod.snd (Prod.snd s)) Option.some) ((0:Int),(0:Int),t0)=some r ∧
  (0≤r.1∧r.1<4294967296)∧r.2.2.length=t0.length∧Dig 4294967296 r.2.2∧(∀k,i+b.length≤k→r.2.2.getD k 0=0)∧val 4294967296 r.2.2+r.1*4294967296^(i+b.length)=val 4294967296 t0+4294967296^i*x*val 4294967296 b:=
 JG
  (f:=fun s:Int×Int×List Int↦W.whole_Int_Mul.cd_ (i:Int) x (Prod.fst s) b (b.length:Int) (Prod.fst (Prod.snd s)) (Prod.snd (Prod.snd s)) Option.some)
  (J:=fun s=>(0≤s.1∧s.1<4294967296) ∧ ∃j:Nat,s.2.1=j∧j≤b.length∧s.2.2.length=t0.length∧Dig 4294967296 s.2.2∧(∀k,i+b.length≤k→s.2.2.getD k 0=0)∧val 4294967296 s.2.2+s.1*4294967296^(i+j)=val 4294967296 t0+4294967296^i*x*val 4294967296 (b.take j))
  (Q:=fun r=>(0≤r.1∧r.1<4294967296)∧r.2.2.length=t0.length∧Dig 4294967296 r.2.2∧(∀k,i+b.length≤k→r.2.2.getD k 0=0)∧val 4294967296 r.2.2+r.1*4294967296^(i+b.length)=val 4294967296 t0+4294967296^i*x*val 4294967296 b)
  (fun s=>b.length-s.2.1.toNat) (fun ⟨c,j',t⟩ ⟨hc,j,hj,hjl,ht,hd,hz,hv⟩=>by
   simp only at hc hj ht hd hz hv ⊢
   subst hj
   simp only [W.whole_Int_Mul.cd_]
   by_cases h0:j<b.length
   ·have dy:=hb.getD (by decide) j
    have dt:=hd.getD (by decide) (i+j)
    have hxy:=mul_le (A:=4294967295) hx.1 (by omega) dy.1 (by omega)
    have hw:IntKind.i64.wrap ((j:Int)+1)=((j+1:Nat):Int):=by rw [ji (by omega)];omega
    have hw2:IntKind.i64.wrap ((i:Int)+j)=((i+j:Nat):Int):=by rw [ji (by omega)];omega
    have e1:IntKind.u64.wrap (c+IntKind.u64.wrap (IntKind.u64.wrap (IntKind.u64.wrap x*IntKind.u64.wrap (b.getD j 0))+IntKind.u64.wrap (t.getD (i+j) 0)))=c+(x*b.getD j 0+t.getD (i+j) 0):=by
     rw [Js (x:=x) (by omega),Js (x:=b.getD j 0) (by omega),Js (x:=t.getD (i+j) 0) (by omega),Js (x:=x*b.getD j 0) (by omega),Js (x:=x*b.getD j 0+t.getD (i+j) 0) (by omega),Js (by omega)]
    refine Or.inr ⟨(_,_,_),by rw [jS (by omega),Jz j rfl h0,ja,hw2,kE (by omega) (by omega),ja,Jz (i+j) rfl (by omega),ja,ja,ja,e1,hw,Int.toNat_natCast,kB,Int.fdiv_eq_ediv_of_nonneg _ (by decide),show ((2:Int)^(32:Nat))=4294967296 from by decide],⟨?_,j+1,rfl,by omega,by simpa using ht,?_,?_,?_⟩,by show b.length-((j+1:Nat):Int).toNat<b.length-(j:Int).toNat;omega⟩
    ·simp only;omega
    ·exact hd.set (by omega) _
    ·intro k hk
     simp only
     rw [ku (by omega),if_neg (by omega)]
     exact hz k hk
    ·have v2:=jX 4294967296 j b
     have v3:=kW 4294967296 ((c+(x*b.getD j 0+t.getD (i+j) 0)) % 4294967296) (i+j) t (by omega)
     have v5:c+(x*b.getD j 0+t.getD (i+j) 0)=(c+(x*b.getD j 0+t.getD (i+j) 0)) % 4294967296+4294967296*((c+(x*b.getD j 0+t.getD (i+j) 0)) / 4294967296):=(Int.emod_add_mul_ediv _ _).symm
     simp only [←Nat.add_assoc,Int.pow_succ]
     rw [v2,v3]
     rw [Int.pow_add] at hv ⊢
     generalize (4294967296:Int)^i=P at *
     generalize (4294967296:Int)^j=R at *
     generalize (c+(x*b.getD j 0+t.getD (i+j) 0)) % 4294967296=r at *
     generalize (c+(x*b.getD j 0+t.getD (i+j) 0)) / 4294967296=q at *
     generalize b.getD j 0=y at *
     generalize t.getD (i+j) 0=z at *
     grind
   ·have e:j=b.length:=by omega
    subst e
    refine Or.inl ⟨(_,_,_),by rw [jO (by omega)],hc,ht,hd,hz,?_⟩
    rw [List.take_length] at hv
    exact hv)
  (s:=((0:Int),(0:Int),t0)) ⟨by simp,0,rfl,by omega,rfl,h0,hz,by simp [val]⟩
theorem UY {a b:Bool×List Int} {u v:Int} (ha:Rep 4294967296 a u) (hb:Rep 4294967296 b v) (la:a.2.length<100000000) (lb:b.2.length<100000000) :
 ∃r,W.whole_Int_Mul a b=some r∧Rep 4294967296 r (u*v)∧r.2.length≤a.2.length+b.2.length:=by
 obtain ⟨⟨i,t⟩,h1,ht,hd,hv⟩:=JG
  (f:=fun s:Int×List Int↦W.whole_Int_Mul.ca_ a.2 (a.2.length:Int) (Prod.fst s) b.2 (Prod.snd s) Option.some)
  (J:=fun s=>∃i:Nat,s.1=i∧i≤a.2.length∧s.2.length=a.2.length+b.2.length∧Dig 4294967296 s.2∧(∀k,i+b.2.length≤k→s.2.getD k 0=0)∧val 4294967296 s.2=val 4294967296 (a.2.take i)*val 4294967296 b.2)
  (Q:=fun s=>s.2.length=a.2.length+b.2.length∧Dig 4294967296 s.2∧val 4294967296 s.2=val 4294967296 a.2*val 4294967296 b.2)
  (fun s=>a.2.length-s.1.toNat) (fun ⟨i',t⟩ ⟨i,hi,hil,ht,hd,hz,hv⟩=>by
   simp only at hi ht hd hz hv ⊢
   subst hi
   simp only [W.whole_Int_Mul.ca_]
   by_cases h0:i<a.2.length
   ·have dx:=ha.dig.getD (by decide) i
    obtain ⟨⟨c,j,t'⟩,h2,hc,ht',hd',hz',hv'⟩:=mul_in i (a.2.getD i 0) b.2 t dx hb.dig hd (by omega) (by omega) hz
    simp only at hc ht' hd' hz' hv'
    have hw:IntKind.i64.wrap ((i:Int)+1)=((i+1:Nat):Int):=by rw [ji (by omega)];omega
    have hw2:IntKind.i64.wrap ((i:Int)+(b.2.length:Int))=((i+b.2.length:Nat):Int):=by rw [ji (by omega)];omega
    refine Or.inr ⟨(_,_),by rw [jS (by omega),Jz i rfl h0,ja,h2,ja,hw2,kE (by omega) (by simp only;omega),ja,Jz (i+b.2.length) rfl (by simp only;omega),ja,hw,Int.toNat_natCast,YC hc],⟨i+1,rfl,by omega,by simpa using ht'.trans ht,hd'.set hc _,?_,?_⟩,by show a.2.length-((i+1:Nat):Int).toNat<a.2.length-(i:Int).toNat;omega⟩
    ·intro k hk
     simp only
     rw [ku (by omega),if_neg (by omega)]
     exact hz' k (by omega)
    ·have v1:=jX 4294967296 i a.2
     have v3:=kW 4294967296 c (i+b.2.length) t' (by omega)
     have v4:=hz' (i+b.2.length) (Nat.le_refl _)
     simp only
     rw [v1,v3,v4]
     grind
   ·have e:i=a.2.length:=by omega
    subst e
    refine Or.inl ⟨(_,_),by rw [jO (by omega)],ht,hd,?_⟩
    rw [List.take_length] at hv
    exact hv)
  (s:=((0:Int),List.replicate (Int.toNat (IntKind.i64.wrap ((a.2.length:Int)+(b.2.length:Int)))) (0:Int)))
  ⟨0,rfl,by omega,by rw [ji (by omega)];simp<;>omega,Dig.replicate (by decide) _,fun j _=>kS _ _,by simp [Ya,val]⟩
 simp only at ht hd hv
 obtain ⟨r,h2,h3,h4⟩:=Yr (!(a.1==b.1)) t hd (by omega)
 refine ⟨r,?_,?_,by omega⟩
 ·unfold W.whole_Int_Mul
  rw [jB (by rw [ji (by omega)];simp;try omega),ja,h1,ja,h2];rfl
 ·have:u*v=if (!(a.1==b.1))=true then -val 4294967296 t else val 4294967296 t:=by
   rw [ha.val,hb.val,hv];cases a.1<;>cases b.1<;>simp [Int.neg_mul,Int.mul_neg]
  rw [this];exact h3
end Go.Ql
end
section
namespace Go.Ql
theorem zmul_in (i:Nat) (a b t0:List Int) (ha:Dig 10000 a) (hb:Dig 10000 b) (hi:i<a.length) (h0:Dig 10000 t0) (hl:i+b.length+1<t0.length) (hL:t0.length<1000000000) (hz:∀k,i+b.length≤k→t0.getD k 0=0) :
 ∃r,Go.Ql.iter (fun s:Int×Int×List Int↦W.jI.cd_ (i:Int) (Prod.fst s) (Prod.fst (Prod.snd s)) a b (Prod.snd (Prod.snd s)) Option.some) ((0:Int),(0:Int),t0)=some r ∧
  r.2.2.length=t0.length∧Dig 10000 r.2.2∧(∀k,i+b.length+1≤k→r.2.2.getD k 0=0)∧val 10000 r.2.2=val 10000 t0+10000^i*a.getD i 0*val 10000 b:=
 JG
  (f:=fun s:Int×Int×List Int↦W.jI.cd_ (i:Int) (Prod.fst s) (Prod.fst (Prod.snd s)) a b (Prod.snd (Prod.snd s)) Option.some)
  (J:=fun s=>(0≤s.1∧s.1<10000) ∧ ∃j:Nat,s.2.1=j∧j≤b.length+1∧(j=b.length+1→s.1=0)∧s.2.2.length=t0.length∧Dig 10000 s.2.2∧(∀k,i+b.length≤k→i+j≤k→s.2.2.getD k 0=0)∧val 10000 s.2.2+s.1*10000^(i+j)=val 10000 t0+10000^i*a.getD i 0*val 10000 (b.take j))
  (Q:=fun r=>r.2.2.length=t0.length∧Dig 10000 r.2.2∧(∀k,i+b.length+1≤k→r.2.2.getD k 0=0)∧val 10000 r.2.2=val 10000 t0+10000^i*a.getD i 0*val 10000 b)
  (fun s=>b.length+2-s.2.1.toNat) (fun ⟨c,j',t⟩ ⟨hc,j,hj,hjl,hj0,ht,hd,hz,hv⟩=>by
   simp only at hc hj ht hd hz hv hj0 ⊢
   subst hj
   simp only [W.jI.cd_]
   have dx:=ha.getD (by decide) i
   have dy:=hb.getD (by decide) j
   have dt:=hd.getD (by decide) (i+j)
   have hxy:=mul_le (A:=9999) dx.1 (by omega) dy.1 (by omega)
   have e7:W.jI.c7 c (j:Int) b Option.some=some (decide (j<b.length∨0<c)):=by
    unfold W.jI.c7
    by_cases h1:j<b.length
    ·rw [jS (by omega)];simp [h1]
    ·rw [jO (by omega)];simp [h1]
   have e2:W.jI.cU_ (i:Int) (c+t.getD (i+j) 0) (j:Int) a b Option.some=some (c+t.getD (i+j) 0+a.getD i 0*b.getD j 0):=by
    unfold W.jI.cU_ W.jI.c11
    by_cases h1:j<b.length
    ·rw [jS (by omega),Jz i rfl hi,ja,Jz j rfl h1,ja,ja,ji (x:=a.getD i 0*b.getD j 0) (by omega),ji (by omega)]
    ·rw [jO (by omega),Yz (l:=b) (by omega)];simp
   rw [e7,ja]
   by_cases h0:j<b.length∨0<c
   ·have hjb:j≤b.length:=by
     rcases h0 with h | h
     ·omega
     ·by_cases e:j=b.length+1
      ·have:=hj0 e;omega
      ·omega
    have hw:IntKind.i64.wrap ((j:Int)+1)=((j+1:Nat):Int):=by rw [ji (by omega)];omega
    have hw2:IntKind.i64.wrap ((i:Int)+j)=((i+j:Nat):Int):=by rw [ji (by omega)];omega
    rw [jS h0]
    refine Or.inr ⟨(_,_,_),by rw [hw2,kE (by omega) (by omega),ja,Jz (i+j) rfl (by omega),ja,ji (x:=c+t.getD (i+j) 0) (by omega),e2,ja,ja,ja,hw,Int.toNat_natCast,Yi (by omega),Yj (by omega),ji (by omega)],⟨?_,j+1,rfl,by omega,?_,by simpa using ht,?_,?_,?_⟩,by show b.length+2-((j+1:Nat):Int).toNat<b.length+2-(j:Int).toNat;omega⟩
    ·simp only;omega
    ·intro hj1
     have h3:b.getD j 0=0:=Yz (by omega)
     have h4:=hz (i+j) (by omega) (by omega)
     simp only [h3,h4]
     omega
    ·exact hd.set (by omega) _
    ·intro k hk hk2
     simp only
     rw [ku (by omega),if_neg (by omega)]
     exact hz k hk (by omega)
    ·have v2:=jX 10000 j b
     have v3:=kW 10000 ((c+t.getD (i+j) 0+a.getD i 0*b.getD j 0) % 10000) (i+j) t (by omega)
     have v5:c+t.getD (i+j) 0+a.getD i 0*b.getD j 0=(c+t.getD (i+j) 0+a.getD i 0*b.getD j 0) % 10000+10000*((c+t.getD (i+j) 0+a.getD i 0*b.getD j 0) / 10000):=(Int.emod_add_mul_ediv _ _).symm
     simp only [←Nat.add_assoc,Int.pow_succ]
     rw [v2,v3]
     rw [Int.pow_add] at hv ⊢
     generalize (10000:Int)^i=P at *
     generalize (10000:Int)^j=R at *
     generalize (c+t.getD (i+j) 0+a.getD i 0*b.getD j 0) % 10000=r at *
     generalize (c+t.getD (i+j) 0+a.getD i 0*b.getD j 0) / 10000=q at *
     generalize a.getD i 0=x at *
     generalize b.getD j 0=y at *
     generalize t.getD (i+j) 0=z at *
     grind
   ·rw [jO h0]
    have hc0:c=0:=by omega
    subst hc0
    refine Or.inl ⟨(_,_,_),rfl,ht,hd,fun k hk=>hz k (by omega) (by omega),?_⟩
    rw [kq _ (by omega)] at hv
    simp only
    omega)
  (s:=((0:Int),(0:Int),t0)) ⟨by simp,0,rfl,by omega,by omega,rfl,h0,fun k hk _=>hz k hk,by simp [val]⟩
theorem VN {a b:Bool×List Int} {u v:Int} (ha:Rep 10000 a u) (hb:Rep 10000 b v) (la:a.2.length<100000000) (lb:b.2.length<100000000) :
 ∃r,W.jI a b=some r∧Rep 10000 r (u*v)∧r.2.length≤a.2.length+b.2.length+1:=by
 obtain ⟨⟨i,t⟩,h1,ht,hd,hv⟩:=JG
  (f:=fun s:Int×List Int↦W.jI.ca_ (Prod.fst s) a.2 b.2 (Prod.snd s) Option.some)
  (J:=fun s=>∃i:Nat,s.1=i∧i≤a.2.length∧s.2.length=a.2.length+b.2.length+1∧Dig 10000 s.2∧(∀k,i+b.2.length≤k→s.2.getD k 0=0)∧val 10000 s.2=val 10000 (a.2.take i)*val 10000 b.2)
  (Q:=fun s=>s.2.length=a.2.length+b.2.length+1∧Dig 10000 s.2∧val 10000 s.2=val 10000 a.2*val 10000 b.2)
  (fun s=>a.2.length-s.1.toNat) (fun ⟨i',t⟩ ⟨i,hi,hil,ht,hd,hz,hv⟩=>by
   simp only at hi ht hd hz hv ⊢
   subst hi
   simp only [W.jI.ca_]
   by_cases h0:i<a.2.length
   ·obtain ⟨⟨c,j,t'⟩,h2,ht',hd',hz',hv'⟩:=zmul_in i a.2 b.2 t ha.dig hb.dig h0 hd (by omega) (by omega) hz
    simp only at ht' hd' hz' hv'
    have hw:IntKind.i64.wrap ((i:Int)+1)=((i+1:Nat):Int):=by rw [ji (by omega)];omega
    refine Or.inr ⟨(_,_),by rw [jS (by omega),h2,ja,hw],⟨i+1,rfl,by omega,ht'.trans ht,hd',fun k hk=>hz' k (by omega),?_⟩,by show a.2.length-((i+1:Nat):Int).toNat<a.2.length-(i:Int).toNat;omega⟩
    have v1:=jX 10000 i a.2
    simp only
    rw [v1,hv',hv]
    grind
   ·have e:i=a.2.length:=by omega
    subst e
    refine Or.inl ⟨(_,_),by rw [jO (by omega)],ht,hd,?_⟩
    rw [List.take_length] at hv
    exact hv)
  (s:=((0:Int),List.replicate (Int.toNat (IntKind.i64.wrap (IntKind.i64.wrap ((a.2.length:Int)+(b.2.length:Int))+1))) (0:Int)))
  ⟨0,rfl,by omega,by rw [ji (x:=(a.2.length:Int)+(b.2.length:Int)) (by omega),ji (by omega)];simp<;>omega,Dig.replicate (by decide) _,fun j _=>kS _ _,by simp [Ya,val]⟩
 simp only at ht hd hv
 obtain ⟨r,h2,h3,h4⟩:=YD (!(a.1==b.1)) t hd (by omega)
 refine ⟨r,?_,?_,by omega⟩
 ·unfold W.jI
  rw [jB (by rw [ji (x:=(a.2.length:Int)+(b.2.length:Int)) (by omega),ji (by omega)];simp;try omega),ja,h1,ja,h2];rfl
 ·have:u*v=if (!(a.1==b.1))=true then -val 10000 t else val 10000 t:=by
   rw [ha.val,hb.val,hv];cases a.1<;>cases b.1<;>simp [Int.neg_mul,Int.mul_neg]
  rw [this];exact h3
end Go.Ql
end
section
namespace Go.Ql
theorem hasPrefix1 (s:List UInt8) (c:UInt8):W.JF s [c]=some (s.head? == some c):=by
 unfold W.JF W.stringslite_HasPrefix W.stringslite_HasPrefix.c1
 cases s with
 | nil=>rfl
 | cons d l=>
   rw [jS (by simp;omega),jB (by simp;omega),ja,ja,ja]
   simp
def kp (c:UInt8):Bool:=decide (48≤c.toNat)&&decide (c.toNat≤57)
theorem Uu (text:List UInt8) (k:Nat) (h:k<text.length):idx text (k:Int)=some text[k]:=by
 unfold idx;simp [h]
theorem loops_same (text:List UInt8):(fun s↦W.whole_number.cY_ text s Option.some)=(fun s↦W.jR.ci_ text s Option.some):=by
 funext s
 rfl
def Canon (text:List UInt8):Prop:=text=[48] ∨ ∃(neg:Bool) (ds:List UInt8),ds≠[]∧(∀c∈ds,kp c=true)∧ds.head? ≠ some 48∧text=(if neg then [45] else [])++ds
end Go.Ql
end
section
namespace Go.Ql
def dg (c:UInt8):Int:=(c.toNat:Int)-48
def dec (l:List UInt8):Int:=l.foldl (fun n c=>n*10+dg c) 0
theorem dec_from (n:Int) (l:List UInt8):l.foldl (fun n c=>n*10+dg c) n=n*10^l.length+dec l:=by
 induction l generalizing n with
 | nil=>simp [dec]
 | cons c l ih=>
   have h1:=ih (n*10+dg c)
   have h2:=ih (0*10+dg c)
   simp only [dec,List.foldl_cons,List.length_cons,Int.pow_succ] at h1 h2 ⊢
   rw [h1,h2]
   grind
theorem VI (l m:List UInt8):dec (l++m)=dec l*10^m.length+dec m:=by
 unfold dec
 rw [List.foldl_append,dec_from];rfl
theorem dec_snoc (l:List UInt8) (c:UInt8):dec (l++[c])=dec l*10+dg c:=by
 rw [VI];simp [dec]
def kJ (l:List UInt8):Prop:=∀c∈l,kp c=true
theorem dg_of {c:UInt8} (h:kp c=true):0≤dg c∧dg c≤9:=by
 simp only [kp,Bool.and_eq_true,decide_eq_true_eq] at h
 unfold dg;omega
theorem Yy:∀{l:List UInt8},kJ l→0≤dec l∧dec l<10^l.length
 | [],_=>by simp [dec]
 | c::l,h=>by
   have h1:=Yy (l:=l) (fun x hx=>h x (List.mem_cons_of_mem _ hx))
   have h2:=dg_of (h c (List.mem_cons_self ..))
   have h3:=VI [c] l
   have h4:dec [c]=dg c:=by simp [dec]
   rw [List.singleton_append,h4] at h3
   have h5:0<(10:Int)^l.length:=Int.pow_pos (by decide)
   have h6:dg c*10^l.length≤9*10^l.length:=Int.mul_le_mul_of_nonneg_right h2.2 (by omega)
   have h7:0≤dg c*10^l.length:=Int.mul_nonneg h2.1 (by omega)
   simp only [List.length_cons,Int.pow_succ]
   omega
theorem take_snoc {α:Type} {l:List α} {k:Nat} (h:k<l.length):l.take (k+1)=l.take k++[l[k]]:=by
 rw [List.take_add_one,List.getElem?_eq_getElem h];rfl
theorem chunk_ok (ch:List UInt8) (h:kJ ch) (hl:ch.length≤9) :
 ∃r:Int×Int×Int,Go.Ql.iter (fun s:Int×Int×Int↦W.whole_digits.cc_ (Prod.fst s) (Prod.fst (Prod.snd s)) (List.map (fun b↦(↑(UInt8.toNat b):Int)) ch) (↑(List.length (List.map (fun b↦(↑(UInt8.toNat b):Int)) ch)):Int) (Prod.snd (Prod.snd s)) Option.some) ((0:Int),(1:Int),(0:Int))=some r∧r.1=dec ch∧r.2.1=10^ch.length:=
 JG
  (f:=fun s:Int×Int×Int↦W.whole_digits.cc_ (Prod.fst s) (Prod.fst (Prod.snd s)) (List.map (fun b↦(↑(UInt8.toNat b):Int)) ch) (↑(List.length (List.map (fun b↦(↑(UInt8.toNat b):Int)) ch)):Int) (Prod.snd (Prod.snd s)) Option.some)
  (J:=fun s=>∃k:Nat,s.2.2=k∧k≤ch.length∧s.1=dec (ch.take k)∧s.2.1=10^k)
  (Q:=fun r=>r.1=dec ch∧r.2.1=10^ch.length)
  (fun s=>ch.length-s.2.2.toNat) (fun ⟨p,q,k'⟩ ⟨k,hk,hkl,hp,hq⟩=>by
   simp only at hk hp hq ⊢
   subst hk
   simp only [W.whole_digits.cc_]
   by_cases h0:k<ch.length
   ·have hd:=dg_of (h _ (List.getElem_mem h0))
    have hb:=Yy (l:=ch.take k) (fun c hc=>h c (List.mem_of_mem_take hc))
    have hlen:(ch.take k).length=k:=by rw [List.length_take];omega
    rw [hlen] at hb
    have h8:(10:Int)^k≤10^8:=YH (by decide) (by omega)
    have h9:(0:Int)<10^k:=Int.pow_pos (by decide)
    rw [←hp] at hb
    rw [←hq] at h8 h9 hb
    have e1:(List.map (fun b↦(↑(UInt8.toNat b):Int)) ch).getD k 0=(ch[k].toNat:Int):=by simp [List.getD,h0]
    unfold dg at hd
    refine Or.inr ⟨(_,_,_),by rw [jS (by simp;omega),Jz k rfl (by simpa using h0),ja,e1,show IntKind.u8.wrap ((ch[k].toNat:Int)-48)=(ch[k].toNat:Int)-48 from IntWalk.u8_in _ (by omega),Js (x:=(ch[k].toNat:Int)-48) (by omega),Js (x:=p*10) (by omega),Js (x:=q*10) (by omega),Js (by omega),ji (by omega)],⟨k+1,by simp,by omega,?_,?_⟩,by show ch.length-((k:Int)+1).toNat<ch.length-(k:Int).toNat;omega⟩
    ·simp only
     rw [take_snoc h0,dec_snoc,hp];rfl
    ·simp only
     rw [hq,Int.pow_succ]
   ·have e:k=ch.length:=by omega
    subst e
    rw [List.take_length] at hp
    exact Or.inl ⟨(_,_,_),by rw [jO (by simp)],hp,hq⟩)
  (s:=((0:Int),(1:Int),(0:Int))) ⟨0,rfl,by omega,by simp [dec],by simp⟩
end Go.Ql
end
section
namespace Go.Ql
theorem scale_ok (m0:List Int) (p0 q:Int) (hm:Dig 4294967296 m0) (hp:0≤p0∧p0≤1000000000) (hq:0≤q∧q≤1000000000) (hL:m0.length<1000000000) :
 ∃r:Int×Int×List Int,Go.Ql.iter (fun s:Int×Int×List Int↦W.whole_digits.cr_ (Prod.fst s) q (↑(List.length m0):Int) (Prod.fst (Prod.snd s)) (Prod.snd (Prod.snd s)) Option.some) (p0,(0:Int),m0)=some r ∧
  (0≤r.1∧r.1≤1000000000)∧r.2.2.length=m0.length∧Dig 4294967296 r.2.2∧val 4294967296 r.2.2+r.1*4294967296^m0.length=p0+q*val 4294967296 m0:=
 JG
  (f:=fun s:Int×Int×List Int↦W.whole_digits.cr_ (Prod.fst s) q (↑(List.length m0):Int) (Prod.fst (Prod.snd s)) (Prod.snd (Prod.snd s)) Option.some)
  (J:=fun s=>(0≤s.1∧s.1≤1000000000) ∧ ∃j:Nat,s.2.1=j∧j≤m0.length∧s.2.2.length=m0.length∧Dig 4294967296 s.2.2∧(∀k,j≤k→s.2.2.getD k 0=m0.getD k 0)∧val 4294967296 s.2.2+s.1*4294967296^j=p0+val 4294967296 m0+(q-1)*val 4294967296 (m0.take j))
  (Q:=fun r=>(0≤r.1∧r.1≤1000000000)∧r.2.2.length=m0.length∧Dig 4294967296 r.2.2∧val 4294967296 r.2.2+r.1*4294967296^m0.length=p0+q*val 4294967296 m0)
  (fun s=>m0.length-s.2.1.toNat) (fun ⟨c,j',t⟩ ⟨hc,j,hj,hjl,ht,hd,hz,hv⟩=>by
   simp only at hc hj ht hd hz hv ⊢
   subst hj
   simp only [W.whole_digits.cr_]
   by_cases h0:j<m0.length
   ·have dx:=hm.getD (by decide) j
    have hxq:0≤m0.getD j 0*q∧m0.getD j 0*q≤4294967295*1000000000:=
     ⟨Int.mul_nonneg dx.1 hq.1,Int.le_trans (Int.mul_le_mul_of_nonneg_right (by omega:m0.getD j 0≤4294967295) hq.1) (Int.mul_le_mul_of_nonneg_left hq.2 (by decide))⟩
    have hw:IntKind.i64.wrap ((j:Int)+1)=((j+1:Nat):Int):=by rw [ji (by omega)];omega
    have e1:IntKind.u64.wrap (c+IntKind.u64.wrap (IntKind.u64.wrap (m0.getD j 0)*q))=c+m0.getD j 0*q:=by
     rw [Js (x:=m0.getD j 0) (by omega),Js (x:=m0.getD j 0*q) (by omega),Js (by omega)]
    refine Or.inr ⟨(_,_,_),by rw [jS (by omega),kE (by omega) (by omega),ja,Jz j rfl (by omega),ja,ja,ja,hz j (Nat.le_refl _),e1,hw,Int.toNat_natCast,kB,Int.fdiv_eq_ediv_of_nonneg _ (by decide),show ((2:Int)^(32:Nat))=4294967296 from by decide],⟨?_,j+1,rfl,by omega,by simpa using ht,?_,?_,?_⟩,by show m0.length-((j+1:Nat):Int).toNat<m0.length-(j:Int).toNat;omega⟩
    ·simp only;omega
    ·exact hd.set (by omega) _
    ·intro k hk
     simp only
     rw [ku (by omega),if_neg (by omega)]
     exact hz k (by omega)
    ·have v2:=jX 4294967296 j m0
     have v3:=kW 4294967296 ((c+m0.getD j 0*q) % 4294967296) j t (by omega)
     have v4:=hz j (Nat.le_refl _)
     have v5:c+m0.getD j 0*q=(c+m0.getD j 0*q) % 4294967296+4294967296*((c+m0.getD j 0*q) / 4294967296):=(Int.emod_add_mul_ediv _ _).symm
     simp only [Int.pow_succ]
     rw [v2,v3,v4]
     generalize (4294967296:Int)^j=P at *
     generalize (c+m0.getD j 0*q) % 4294967296=r at *
     generalize (c+m0.getD j 0*q) / 4294967296=w at *
     generalize m0.getD j 0=x at *
     grind
   ·have e:j=m0.length:=by omega
    subst e
    refine Or.inl ⟨(_,_,_),by rw [jO (by omega)],hc,ht,hd,?_⟩
    rw [List.take_length] at hv
    simp only
    grind)
  (s:=(p0,(0:Int),m0)) ⟨hp,0,rfl,by omega,rfl,hm,fun _ _=>rfl,by simp [val];omega⟩
theorem digits_ok (ds:List UInt8) (h:kJ ds) (hl:ds.length≤1000) :
 ∃t,W.whole_digits ds=some t∧Dig 4294967296 t∧t.length≤ds.length∧val 4294967296 t=dec ds:=by
 obtain ⟨⟨rest,t⟩,h1,hd,ht,hv⟩:=JG
  (f:=fun s:List UInt8×List Int↦W.whole_digits.ce_ (Prod.fst s) (Prod.snd s) Option.some)
  (J:=fun s=>∃k:Nat,k≤ds.length∧s.1=ds.drop k∧s.2.length≤k∧Dig 4294967296 s.2∧val 4294967296 s.2=dec (ds.take k))
  (Q:=fun r=>Dig 4294967296 r.2∧r.2.length≤ds.length∧val 4294967296 r.2=dec ds)
  (fun s=>s.1.length) (fun ⟨text,m⟩ ⟨k,hk,htx,hml,hd,hv⟩=>by
   simp only at htx hml hd hv ⊢
   have hlen:text.length=ds.length-k:=by rw [htx,List.length_drop]
   have hdt:kJ text:=fun c hc=>h c (by rw [htx] at hc;exact List.mem_of_mem_drop hc)
   simp only [W.whole_digits.ce_]
   by_cases h0:text.length=0
   ·refine Or.inl ⟨(_,_),by rw [jO (by omega)],hd,by simp only;omega,?_⟩
    simp only
    rw [hv,List.take_of_length_le (by omega)]
   ·obtain ⟨n,hn⟩:∃n:Nat,n=(text.length-1) % 9+1:=⟨_,rfl⟩
    have en:IntKind.i64.wrap (Int.tmod (IntKind.i64.wrap ((text.length:Int)-1)) 9+1)=(n:Int):=by
     rw [ji (x:=(text.length:Int)-1) (by omega),Yj (by omega),ji (by omega)];omega
    have hn1:1≤n∧n≤9∧n≤text.length:=by omega
    rw [jS (by omega),en,Int.toNat_natCast,Int.toNat_natCast,List.take_length]
    obtain ⟨⟨p,q,j⟩,h2,h3,h4⟩:=chunk_ok (text.take n) (fun c hc=>hdt c (List.mem_of_mem_take hc)) (by rw [List.length_take];omega)
    simp only at h3 h4
    have hcl:(text.take n).length=n:=by rw [List.length_take];omega
    have hb:=Yy (l:=text.take n) (fun c hc=>hdt c (List.mem_of_mem_take hc))
    rw [hcl] at hb h4
    have h9:(10:Int)^n≤10^9:=YH (by decide) (by omega)
    have h10:(0:Int)<10^n:=Int.pow_pos (by decide)
    have h11:(10:Int)^9=1000000000:=by decide
    obtain ⟨⟨p',j',m'⟩,h5,h6,h7,h8,hv'⟩:=scale_ok m p q hd (by omega) (by omega) (by omega)
    simp only at h6 h7 h8 hv'
    rw [jB (by simp;omega),ja,jB (by simp;omega),ja,h2,ja,jB (by simp;omega),ja]
    simp only
    rw [h5,ja]
    have hdec:dec (ds.take (k+n))=dec (ds.take k)*10^n+dec (text.take n):=by
     rw [List.take_add,VI,htx,List.length_take,List.length_drop,Nat.min_eq_left (by omega)]
    have hdrop:text.drop n=ds.drop (k+n):=by rw [htx,List.drop_drop]
    rw [hdrop]
    by_cases hp:p'>0
    ·refine Or.inr ⟨(_,_),by rw [jS hp,jB (by simp;omega),ja,YC (by omega)],⟨k+n,by omega,rfl,by simp;omega,h8.append (Dig.cons (by omega) Dig.nil),?_⟩,by simp only [List.length_drop];omega⟩
     simp only
     rw [UC,hdec,←h3,←h4,←hv,h7]
     grind
    ·refine Or.inr ⟨(_,_),by rw [jO hp],⟨k+n,by omega,rfl,by simp only;omega,h8,?_⟩,by simp only [List.length_drop];omega⟩
     have:p'=0:=by omega
     subst this
     simp only
     rw [hdec,←h3,←h4,←hv]
     grind)
  (s:=(ds,[])) ⟨0,by omega,rfl,by simp,Dig.nil,by simp [val,dec]⟩
 unfold W.whole_digits
 rw [h1]
 exact ⟨t,rfl,hd,ht,hv⟩
end Go.Ql
end
section
namespace Go.Ql
theorem four_ok (text:List UInt8) (h:kJ text) (i:Nat) (hi:i≤text.length) (hL:text.length≤1000000) :
 ∃r:Int×Int,Go.Ql.iter (fun s:Int×Int↦W.jC.ci_ text (i:Int) (Prod.fst s) (Prod.snd s) Option.some) ((0:Int),(i:Int)-4)=some r∧r.1=dec ((text.take i).drop (i-4)):=
 JG
  (f:=fun s:Int×Int↦W.jC.ci_ text (i:Int) (Prod.fst s) (Prod.snd s) Option.some)
  (J:=fun s=>(i:Int)-4≤s.2∧s.2≤i∧s.1=dec ((text.take s.2.toNat).drop (i-4)))
  (Q:=fun r=>r.1=dec ((text.take i).drop (i-4)))
  (fun s=>((i:Int)-s.2).toNat) (fun ⟨n,j⟩ ⟨h1,h2,h3⟩=>by
   simp only at h1 h2 h3 ⊢
   simp only [W.jC.ci_]
   by_cases h0:j<i
   ·have hw:IntKind.i64.wrap (j+1)=j+1:=ji (by omega)
    by_cases h4:0≤j
    ·obtain ⟨k,rfl⟩:∃k:Nat,j=k:=⟨j.toNat,by omega⟩
     rw [Int.toNat_natCast] at h3
     have hk:k<text.length:=by omega
     have hd:=dg_of (h _ (List.getElem_mem hk))
     have hb:=Yy (l:=(text.take k).drop (i-4)) (fun c hc=>h c (List.mem_of_mem_take (List.mem_of_mem_drop hc)))
     have h8:(10:Int)^((text.take k).drop (i-4)).length≤10^4:=YH (by decide) (by rw [List.length_drop,List.length_take];omega)
     have h9:(10:Int)^4=10000:=by decide
     rw [←h3] at hb
     unfold dg at hd
     have e:W.jC.cD_ text n (k:Int) Option.some=some (n*10+((text[k].toNat:Int)-48)):=by
      unfold W.jC.cD_
      rw [jS (by omega),Uu _ k hk,ja,show IntKind.u8.wrap ((text[k].toNat:Int)-48)=(text[k].toNat:Int)-48 from IntWalk.u8_in _ (by omega),ji (x:=(text[k].toNat:Int)-48) (by omega),ji (x:=n*10) (by omega),ji (by omega)]
     refine Or.inr ⟨(_,_),by rw [jS h0,e,ja,hw],⟨by simp only;omega,by simp only;omega,?_⟩,by simp only;omega⟩
     simp only
     rw [show ((k:Int)+1).toNat=k+1 by omega,take_snoc hk,List.drop_append_of_le_length (by rw [List.length_take];omega),dec_snoc,h3];rfl
    ·have e:W.jC.cD_ text n j Option.some=some n:=by
      unfold W.jC.cD_
      rw [jO (by omega)]
     refine Or.inr ⟨(_,_),by rw [jS h0,e,ja,hw],⟨by simp only;omega,by simp only;omega,?_⟩,by simp only;omega⟩
     simp only
     rw [h3,show j.toNat=0 by omega,show (j+1).toNat=0 by omega]
   ·refine Or.inl ⟨(_,_),by rw [jO h0],?_⟩
    simp only
    rw [h3,show j.toNat=i by omega])
  (s:=((0:Int),(i:Int)-4)) ⟨by simp,by simp only;omega,by
   simp only
   rw [show ((i:Int)-4).toNat=i-4 by omega,List.drop_of_length_le (by rw [List.length_take];omega)];rfl⟩
end Go.Ql
end
section
namespace Go.Ql
theorem zdigits_ok (text:List UInt8) (h:kJ text) (hL:text.length≤1000) :
 ∃r:Int×List Int,Go.Ql.iter (fun s:Int×List Int↦W.jC.cc_ text (Prod.fst s) (Prod.snd s) Option.some) ((text.length:Int),[])=some r∧Dig 10000 r.2∧r.2.length≤text.length∧val 10000 r.2=dec text:=
 JG
  (f:=fun s:Int×List Int↦W.jC.cc_ text (Prod.fst s) (Prod.snd s) Option.some)
  (J:=fun s=>s.1=(text.length:Int)-4*s.2.length ∧ -4<s.1∧Dig 10000 s.2∧s.2.length≤text.length∧dec text=dec (text.take s.1.toNat)*10000^s.2.length+val 10000 s.2)
  (Q:=fun r=>Dig 10000 r.2∧r.2.length≤text.length∧val 10000 r.2=dec text)
  (fun s=>s.1.toNat) (fun ⟨i',d⟩ ⟨h1,h2,h3,h4,h5⟩=>by
   simp only at h1 h2 h3 h4 h5 ⊢
   simp only [W.jC.cc_]
   by_cases h0:i'>0
   ·obtain ⟨i,rfl⟩:∃k:Nat,i'=k:=⟨i'.toNat,by omega⟩
    rw [Int.toNat_natCast] at h5
    have hi:i≤text.length:=by omega
    obtain ⟨⟨n,j⟩,h6,h7⟩:=four_ok text h i hi (by omega)
    simp only at h7
    have hdg:kJ ((text.take i).drop (i-4)):=fun c hc=>h c (List.mem_of_mem_take (List.mem_of_mem_drop hc))
    have hb:=Yy hdg
    have h8:(10:Int)^((text.take i).drop (i-4)).length≤10^4:=YH (by decide) (by rw [List.length_drop,List.length_take];omega)
    have h9:(10:Int)^4=10000:=by decide
    rw [←h7] at hb
    have hdec:dec (text.take i)=dec (text.take (i-4))*10000+n:=by
     have e1:text.take i=(text.take i).take (i-4)++(text.take i).drop (i-4):=(List.take_append_drop _ _).symm
     rw [e1,VI,←h7,List.take_take,Nat.min_eq_left (by omega)]
     by_cases h10:4≤i
     ·rw [show ((text.take i).drop (i-4)).length=4 by rw [List.length_drop,List.length_take];omega];rfl
     ·rw [show i-4=0 by omega];simp [dec]
    rw [jS h0,ji (x:=(i:Int)-4) (by omega),h6,ja]
    refine Or.inr ⟨(_,_),by rw [jB (by simp;omega),ja],⟨by simp;omega,by simp only;omega,h3.append (Dig.cons (by simp only;omega) Dig.nil),by simp;omega,?_⟩,by simp only;omega⟩
    simp only [List.length_append,List.length_singleton,Int.pow_succ]
    rw [UC,show ((i:Int)-4).toNat=i-4 by omega,h5,hdec]
    generalize (10000:Int)^d.length=P at *
    grind
   ·refine Or.inl ⟨(_,_),by rw [jO h0],h3,h4,?_⟩
    rw [show i'.toNat=0 by omega,show dec (text.take 0)=0 from rfl] at h5
    simp only
    omega)
  (s:=((text.length:Int),[])) ⟨by simp,by simp only;omega,Dig.nil,by simp,by simp [val]⟩
end Go.Ql
end
section
namespace Go.Ql
theorem trim_ok (text:List UInt8) (hL:text.length≤9223372036854775807):W.Jq text [45]=some (if text.head?=some 45 then text.drop 1 else text):=by
 unfold W.Jq W.stringslite_TrimPrefix
 have h1:=hasPrefix1 text 45
 unfold W.JF at h1
 have h2:W.stringslite_HasPrefix text [45]=some (text.head? == some 45):=by
  revert h1
  cases W.stringslite_HasPrefix text [45] with
  | none=>intro h;cases h
  | some y=>intro h;exact h
 rw [h2,ja]
 by_cases h:text.head?=some 45
 ·rw [if_pos h,ko (beq_iff_eq.2 h)]
  have h3:1≤text.length:=by cases text with | nil=>simp at h | cons=>simp
  rw [jB (by simp;omega),ja,ja]
  simp
 ·rw [if_neg h,JQ (beq_false_of_ne h),ja]
theorem Canon.parts {text:List UInt8} (h:Canon text):∃(neg:Bool) (ds:List UInt8),ds≠[]∧kJ ds∧text=(if neg then [45] else [])++ds:=by
 rcases h with rfl | ⟨neg,ds,h1,h2,_,h4⟩
 ·exact ⟨false,[48],by simp,fun c hc=>by simp at hc;subst hc;rfl,rfl⟩
 ·exact ⟨neg,ds,h1,h2,h4⟩
theorem Vk {ds:List UInt8} (h:kJ ds):ds.head? ≠ some 45:=by
 intro e
 cases ds with
 | nil=>simp at e
 | cons c l=>
   simp at e
   have:=h c (List.mem_cons_self ..)
   rw [e] at this
   exact absurd this (by decide)
theorem sign_test (text:List UInt8):W.jC.c1 text Option.some=some (text.head? == some 45)∧W.JH.c1 text Option.some=some (text.head? == some 45):=by
 have key:W.jC.c1 text Option.some=some (text.head? == some 45):=by
  unfold W.jC.c1
  cases text with
  | nil=>rfl
  | cons c l=>
    rw [jS (by simp<;>omega),show ((0:Int))=((0:Nat):Int) from rfl,Uu _ 0 (by simp),ja]
    simp only [List.head?_cons,List.getElem_cons_zero]
    congr 1
    by_cases h5:c=45
    ·subst h5;rfl
    ·have h6:(some c==some 45)=false:=beq_false_of_ne (by simpa using h5)
     rw [h6]
     apply beq_false_of_ne
     intro e
     apply h5
     apply UInt8.toNat_inj.1
     show c.toNat=45
     omega
 exact ⟨key,key⟩
end Go.Ql
end
section
namespace Go.Ql
theorem dg_inj {c d:UInt8} (h:dg c=dg d):c=d:=by
 apply UInt8.toNat_inj.1
 unfold dg at h;omega
theorem dec_cons (c:UInt8) (l:List UInt8):dec (c::l)=dg c*10^l.length+dec l:=by
 have h3:=VI [c] l
 have h4:dec [c]=dg c:=by simp [dec]
 rw [List.singleton_append,h4] at h3
 exact h3
theorem dec_inj:∀{l m:List UInt8},kJ l→kJ m→l.length=m.length→dec l=dec m→l=m
 | [],[],_,_,_,_=>rfl
 | c::l,d::m,hl,hm,e,h=>by
   have hl':kJ l:=fun x hx=>hl x (List.mem_cons_of_mem _ hx)
   have hm':kJ m:=fun x hx=>hm x (List.mem_cons_of_mem _ hx)
   have e':l.length=m.length:=by simpa using e
   have b1:=Yy hl'
   have b2:=Yy hm'
   rw [dec_cons,dec_cons,e'] at h
   rw [e'] at b1
   have hP:(0:Int)<10^m.length:=Int.pow_pos (by decide)
   have hc:dg c=dg d:=by
    rcases Int.lt_trichotomy (dg c) (dg d) with h1 | h1 | h1
    ·have:=Int.mul_le_mul_of_nonneg_right (show dg c+1≤dg d by omega) (Int.le_of_lt hP)
     rw [Int.add_mul] at this;omega
    ·exact h1
    ·have:=Int.mul_le_mul_of_nonneg_right (show dg d+1≤dg c by omega) (Int.le_of_lt hP)
     rw [Int.add_mul] at this;omega
   rw [hc] at h
   rw [dg_inj hc,dec_inj hl' hm' e' (by omega)]
 | [],_::_,_,_,e,_=>by simp at e
 | _::_,[],_,_,e,_=>by simp at e
theorem dec_ge {l:List UInt8} (h:kJ l) (hn:l≠[]) (h0:l.head? ≠ some 48):10^(l.length-1)≤dec l:=by
 cases l with
 | nil=>exact absurd rfl hn
 | cons c l=>
   have hl':kJ l:=fun x hx=>h x (List.mem_cons_of_mem _ hx)
   have b1:=Yy hl'
   have hd:=dg_of (h c (List.mem_cons_self ..))
   have h1:dg c≠0:=fun e=>h0 (by
    have:dg c=dg 48:=by rw [e];rfl
    rw [dg_inj this];rfl)
   rw [dec_cons]
   have hP:(0:Int)<10^l.length:=Int.pow_pos (by decide)
   have:=Int.mul_le_mul_of_nonneg_right (show 1≤dg c by omega) (Int.le_of_lt hP)
   simp only [List.length_cons,Nat.add_sub_cancel]
   omega
theorem dec_one {l m:List UInt8} (hl:kJ l) (hm:kJ m) (nl:l≠[]) (nm:m≠[]) (l0:l.head? ≠ some 48) (m0:m.head? ≠ some 48) (h:dec l=dec m):l=m:=by
 have ll:l.length≠0:=fun e=>nl (List.eq_nil_of_length_eq_zero e)
 have lm:m.length≠0:=fun e=>nm (List.eq_nil_of_length_eq_zero e)
 have g1:=dec_ge hl nl l0
 have g2:=dec_ge hm nm m0
 have b1:=(Yy hl).2
 have b2:=(Yy hm).2
 refine dec_inj hl hm ?_ h
 rcases Nat.lt_trichotomy l.length m.length with e | e | e
 ·have:=YH (B:=10) (by decide) (show l.length≤m.length-1 by omega);omega
 ·exact e
 ·have:=YH (B:=10) (by decide) (show m.length≤l.length-1 by omega);omega
end Go.Ql
end
section
namespace Go.Ql
theorem val_drop (B:Int):∀(i:Nat) (l:List Int),i<l.length→val B (l.drop i)=l.getD i 0+B*val B (l.drop (i+1))
 | _,[],h=>by simp at h
 | 0,d::l,_=>by simp [val]
 | i+1,d::l,h=>by
   have:=val_drop B i l (by simpa using h)
   simpa using this
def bytes (l:List Int):List UInt8:=l.map fun n↦UInt8.ofNat (Int.toNat n)
theorem UQ {d:Int} (h:0≤d∧d≤9):kp (UInt8.ofNat (Int.toNat (48+d)))=true∧dg (UInt8.ofNat (Int.toNat (48+d)))=d:=by
 have h1:(UInt8.ofNat (Int.toNat (48+d))).toNat=Int.toNat (48+d):=by
  rw [UInt8.toNat_ofNat'];omega
 unfold kp dg
 rw [h1]
 constructor
 ·simp;omega
 ·omega
def IsDec (l:List UInt8) (v:Int):Prop:=kJ l∧l≠[]∧l.head? ≠ some 48∧dec l=v
def four (d:Int):List Int:=[48+d / 1000,48+d / 100 % 10,48+d / 10 % 10,48+d % 10]
theorem four_digits {d:Int} (h:0≤d∧d<10000):kJ (bytes (four d))∧dec (bytes (four d))=d:=by
 have a:=UQ (d:=d / 1000) (by omega)
 have b:=UQ (d:=d / 100 % 10) (by omega)
 have c:=UQ (d:=d / 10 % 10) (by omega)
 have e:=UQ (d:=d % 10) (by omega)
 constructor
 ·intro x hx
  simp only [bytes,four,List.map_cons,List.map_nil,List.mem_cons,List.not_mem_nil,or_false] at hx
  rcases hx with rfl | rfl | rfl | rfl
  ·exact a.1
  ·exact b.1
  ·exact c.1
  ·exact e.1
 ·simp only [bytes,four,List.map_cons,List.map_nil,dec,List.foldl_cons,List.foldl_nil,a.2,b.2,c.2,e.2]
  omega
theorem c9_ok {a1:List Int} (h:Dig 10000 a1) (i:Nat) (hi:i<a1.length):W.jF.c9 (i:Int) a1 Option.some=some (four (a1.getD i 0)):=by
 have hd:=h.getD (by decide) i
 unfold W.jF.c9
 rw [Jz i rfl hi]
 simp only [ja]
 generalize a1.getD i 0=d at *
 rw [Yi hd.1,Yi hd.1,Yi hd.1,ji (x:=d / 1000) (by omega),ji (x:=d / 100) (by omega),ji (x:=d / 10) (by omega),Yj (by omega),Yj (by omega),Yj (by omega)]
 rw [ji (x:=48+d / 1000) (by omega),ji (x:=48+d / 100 % 10) (by omega),ji (x:=48+d / 10 % 10) (by omega),ji (x:=48+d % 10) (by omega)]
 rw [IntWalk.u8_in (48+d / 1000) (by omega),IntWalk.u8_in (48+d / 100 % 10) (by omega),IntWalk.u8_in (48+d / 10 % 10) (by omega),IntWalk.u8_in (48+d % 10) (by omega)]
 rfl
end Go.Ql
end
section
namespace Go.Ql
theorem strip_ok (a1:List Int) (i:Nat) (hi:i<a1.length) (hL:a1.length<1000000) (F:List Int) (hF:F.length=4) :
 ∃k:Nat,iter (fun s↦W.jF.ct_ (i:Int) F s a1 Option.some) (0:Int)=some (k:Int)∧k≤3∧(i+1≠a1.length→k=0)∧(∀j,j<k→F.getD j 0=48)∧(i+1=a1.length→k<3→F.getD k 0≠48):=by
 obtain ⟨r,h1,k,h2,h3⟩:=JG (f:=fun s:Int↦W.jF.ct_ (i:Int) F s a1 Option.some)
  (J:=fun s=>∃k:Nat,s=k∧k≤3∧(i+1≠a1.length→k=0)∧(∀j,j<k→F.getD j 0=48))
  (Q:=fun s=>∃k:Nat,s=k∧k≤3∧(i+1≠a1.length→k=0)∧(∀j,j<k→F.getD j 0=48)∧(i+1=a1.length→k<3→F.getD k 0≠48))
  (fun s=>3-s.toNat) (fun s ⟨k,hs,hk,hk0,hz⟩=>by
   subst hs
   simp only [W.jF.ct_]
   have e:W.jF.c11 (i:Int) F (k:Int) a1 Option.some=some (decide (i+1=a1.length∧k<3∧F.getD k 0=48)):=by
    unfold W.jF.c11
    rw [ji (by omega)]
    by_cases h:i+1=a1.length
    ·rw [ko (beq_iff_eq.2 (by omega))]
     by_cases h4:k<3
     ·rw [jS (by omega),Jz k rfl (by omega),ja]
      congr 1
      by_cases h5:F.getD k 0=48
      ·rw [h5];simp [h,h4]
      ·rw [beq_false_of_ne h5,decide_eq_false (fun h6=>h5 h6.2.2)]
     ·rw [jO (by omega),decide_eq_false (by omega)]
    ·rw [JQ (beq_false_of_ne (by omega)),decide_eq_false (by omega)]
   rw [e,ja]
   by_cases h:i+1=a1.length∧k<3∧F.getD k 0=48
   ·rw [jS h]
    refine Or.inr ⟨((k+1:Nat):Int),by rw [ji (by omega)];rfl,⟨k+1,rfl,by omega,fun h'=>absurd h.1 h',fun j hj=>?_⟩,by omega⟩
    by_cases h8:j=k
    ·subst h8;exact h.2.2
    ·exact hz j (by omega)
   ·rw [jO h]
    exact Or.inl ⟨_,rfl,k,rfl,hk,hk0,hz,fun h1 h2 h3=>h ⟨h1,h2,h3⟩⟩)
  (s:=(0:Int)) ⟨0,rfl,by omega,fun _=>rfl,fun j hj=>by omega⟩
 exact ⟨k,by rw [h1,h2],h3⟩
end Go.Ql
end
section
namespace Go.Ql
theorem bytes_drop (l:List Int) (k:Nat):bytes (l.drop k)=(bytes l).drop k:=by simp [bytes]
theorem bytes_len (l:List Int):(bytes l).length=l.length:=by simp [bytes]
theorem dec_skip:∀(k:Nat) (l:List UInt8),(∀j (h:j<l.length),j<k→l[j]=48)→dec (l.drop k)=dec l
 | 0,_,_=>rfl
 | k+1,[],_=>by simp
 | k+1,c::l,h=>by
   have h0:c=48:=h 0 (by simp) (by omega)
   rw [List.drop_succ_cons,dec_skip k l (fun j hj hk=>h (j+1) (by simpa using hj) (by omega)),dec_cons,h0]
   simp [dg]
theorem IsDec.snoc {l:List UInt8} {v d:Int} (h:IsDec l v) (hd:0≤d∧d<10000):IsDec (l++bytes (four d)) (d+10000*v):=by
 obtain ⟨h1,h2,h3,h4⟩:=h
 have hf:=four_digits hd
 refine ⟨fun c hc=>?_,by simp [h2],?_,?_⟩
 ·rcases List.mem_append.1 hc with hc | hc
  ·exact h1 c hc
  ·exact hf.1 c hc
 ·cases l with
  | nil=>exact absurd rfl h2
  | cons c l=>exact h3
 ·rw [VI,hf.2,h4,bytes_len]
  show v*10^4+d=_
  omega
theorem getD_byte (F:List Int) (j:Nat) (h:j<(bytes F).length):(bytes F)[j]=UInt8.ofNat (F.getD j 0).toNat:=by
 have h':j<F.length:=by rwa [bytes_len] at h
 simp [bytes,List.getD,h']
theorem IsDec.first {d:Int} (hd:0≤d∧d<10000) (h0:d≠0) {k:Nat} (hk:k≤3) (hz:∀j,j<k→(four d).getD j 0=48) (hn:k<3→(four d).getD k 0≠48):IsDec ((bytes (four d)).drop k) d:=by
 have hf:=four_digits hd
 have hl:(bytes (four d)).length=4:=by rw [bytes_len];rfl
 have hdec:dec ((bytes (four d)).drop k)=d:=by
  rw [dec_skip k _ (fun j hj hjk=>by rw [getD_byte,hz j hjk];rfl),hf.2]
 have hne:(bytes (four d)).drop k≠[]:=by
  intro e
  have:=congrArg List.length e
  rw [List.length_drop,hl] at this
  simp at this;omega
 refine ⟨fun c hc=>hf.1 c (List.mem_of_mem_drop hc),hne,fun e=>?_,hdec⟩
 by_cases h3:k<3
 ·rw [List.head?_drop,List.getElem?_eq_getElem (by omega),getD_byte] at e
  have h5:=Option.some.inj e
  have hg:48≤(four d).getD k 0∧(four d).getD k 0≤57:=by
   rcases (by omega:k=0∨k=1∨k=2) with rfl | rfl | rfl<;>simp [four]<;>omega
  apply hn h3
  have h6:=congrArg UInt8.toNat h5
  rw [UInt8.toNat_ofNat'] at h6
  have h7:(48:UInt8).toNat=48:=rfl
  rw [h7] at h6
  omega
 ·have:∃c,(bytes (four d)).drop k=[c]:=by
   have hx:((bytes (four d)).drop k).length=1:=by rw [List.length_drop,hl];omega
   exact List.length_eq_one_iff.1 hx
  obtain ⟨c,hc⟩:=this
  rw [hc] at e hdec
  simp at e
  rw [e] at hdec
  apply h0
  rw [←hdec];rfl
def Txt (v:Int) (l:List UInt8):Prop:=(v=0∧l=[48])∨(v≠0 ∧ ∃D,IsDec D (v.natAbs:Int)∧l=(if v<0 then [45] else [])++D)
theorem Txt.one {v:Int} {l m:List UInt8} (h:Txt v l) (k:Txt v m):l=m:=by
 rcases h with ⟨h1,h2⟩ | ⟨h1,D,h2,h3⟩<;>rcases k with ⟨k1,k2⟩ | ⟨k1,E,k2,k3⟩
 ·rw [h2,k2]
 ·exact absurd h1 k1
 ·exact absurd k1 h1
 ·rw [h3,k3,dec_one h2.1 k2.1 h2.2.1 k2.2.1 h2.2.2.1 k2.2.2.1 (h2.2.2.2.trans k2.2.2.2.symm)]
end Go.Ql
end
section
namespace Go.Ql
theorem ztext_loop (sg:List UInt8) (a1:List Int) (hd:Dig 10000 a1) (ht:Trim a1) (hn:a1≠[]) (hL:a1.length<1000000) (hs:sg.length≤1) :
 ∃r:List UInt8×Int,iter (fun s:List UInt8×Int↦W.jF.cd_ (Prod.fst s) (Prod.snd s) a1 Option.some) (sg,(a1.length:Int)-1)=some r ∧ ∃l,r.1=sg++l∧IsDec l (val 10000 a1):=by
 have hlen:a1.length≠0:=fun e=>hn (List.eq_nil_of_length_eq_zero e)
 exact JG (f:=fun s:List UInt8×Int↦W.jF.cd_ (Prod.fst s) (Prod.snd s) a1 Option.some)
  (J:=fun s=>∃k:Nat,s.2=(k:Int)-1∧k≤a1.length ∧ ∃l,s.1=sg++l∧l.length≤4*(a1.length-k)∧((k=a1.length∧l=[])∨(k<a1.length∧IsDec l (val 10000 (a1.drop k)))))
  (Q:=fun r=>∃l,r.1=sg++l∧IsDec l (val 10000 a1))
  (fun s=>(s.2+1).toNat) (fun ⟨text,i'⟩ ⟨k,hi,hk,l,hl,hll,hc⟩=>by
   simp only at hi hl ⊢
   subst hi
   simp only [W.jF.cd_]
   by_cases h0:k=0
   ·subst h0
    rw [jO (by omega)]
    rcases hc with ⟨h1,_⟩ | ⟨h1,h2⟩
    ·omega
    ·exact Or.inl ⟨(_,_),rfl,l,hl,h2⟩
   ·obtain ⟨i,rfl⟩:∃i:Nat,k=i+1:=⟨k-1,by omega⟩
    have hi:i<a1.length:=by omega
    have hdi:=hd.getD (by decide) i
    obtain ⟨t,h1,h2,h3,h4,h5⟩:=strip_ok a1 i hi hL (four (a1.getD i 0)) rfl
    rw [jS (by omega),show ((i+1:Nat):Int)-1=(i:Int) by omega,c9_ok hd i hi,ja,h1,ja]
    have e4:(four (a1.getD i 0)).length=4:=rfl
    rw [jB (by rw [e4];simp;omega),ja,Int.toNat_natCast,Int.toNat_natCast,List.take_length]
    have hpl:(List.map (fun n↦UInt8.ofNat (Int.toNat n)) (List.drop t (four (a1.getD i 0)))).length≤4:=by
     rw [List.length_map,List.length_drop,e4];omega
    have htl:text.length≤1+4*a1.length:=by rw [hl,List.length_append];omega
    rw [jB (by simp only [decide_eq_true_eq];omega),ja,ji (by omega)]
    refine Or.inr ⟨(_,_),rfl,⟨i,rfl,by omega,l++(bytes (four (a1.getD i 0))).drop t,?_,?_,Or.inr ⟨hi,?_⟩⟩,by simp only;omega⟩
    ·simp only
     rw [hl,←bytes_drop,List.append_assoc];rfl
    ·rw [List.length_append,List.length_drop,bytes_len,e4];omega
    ·rw [val_drop 10000 i a1 hi]
     rcases hc with ⟨h6,h7⟩ | ⟨h6,h7⟩
     ·have hd0:a1.getD i 0≠0:=by
       have:=ht hn
       rwa [show a1.length-1=i by omega] at this
      have h8:a1.drop (i+1)=[]:=List.drop_of_length_le (by omega)
      rw [h8,h7,List.nil_append]
      have:=IsDec.first hdi hd0 h2 h4 (h5 h6)
      simpa [val] using this
     ·have h9:=h3 (by omega)
      subst h9
      rw [List.drop_zero]
      exact h7.snoc hdi)
  (s:=(sg,(a1.length:Int)-1)) ⟨a1.length,rfl,Nat.le_refl _,[],by simp,by simp,Or.inl ⟨rfl,rfl⟩⟩
theorem ztext_ok {a:Bool×List Int} {v:Int} (ha:Rep 10000 a v) (la:a.2.length<1000000):∃l,W.jF a=some l∧Txt v l:=by
 unfold W.jF
 by_cases h0:a.2=[]
 ·rw [h0]
  refine ⟨[48],rfl,Or.inl ⟨?_,rfl⟩⟩
  rw [ha.val,h0];simp [val]
 ·have hn:a.2.length≠0:=fun e=>h0 (List.eq_nil_of_length_eq_zero e)
  rw [JQ (beq_false_of_ne (by omega))]
  have e1:W.jF.cv_ (Array.toList (ByteArray.data (ByteArray.mk #[]))) a.1 Option.some=some (if a.1 then [45] else []):=by
   unfold W.jF.cv_
   cases a.1<;>rfl
  obtain ⟨r,h1,l,h2,h3⟩:=ztext_loop (if a.1 then [45] else []) a.2 ha.dig ha.last h0 la (by split<;>simp)
  rw [e1,ja,ji (by omega),h1,ja]
  have hp:=ha.pos (by decide) h0
  have hv:=ha.val
  refine ⟨_,rfl,Or.inr ⟨?_,l,?_,?_⟩⟩
  ·cases hx:a.1<;>simp only [hx,Bool.false_eq_true,if_false,if_true] at hv<;>omega
  ·have:(v.natAbs:Int)=val 10000 a.2:=by
    cases hx:a.1<;>simp only [hx,Bool.false_eq_true,if_false,if_true] at hv<;>omega
   rw [this];exact h3
  ·rw [h2]
   congr 1
   cases hx:a.1<;>simp only [hx,Bool.false_eq_true,if_false,if_true] at hv ⊢
   ·rw [if_neg (by omega)]
   ·rw [if_pos (by omega)]
end Go.Ql
end
section
namespace Go.Ql
theorem or_add {p w:Int} (hp:0≤p∧p<4294967296) (hw:0≤w∧w<4294967296):ibits Go.BinOp.or Go.IntKind.u64 (IntKind.u64.wrap (p*(2:Int)^(32:Nat))) (IntKind.u64.wrap w)=p*4294967296+w:=by
 rw [show (2:Int)^32=4294967296 from rfl,Js (x:=w) (by omega),Js (x:=p*4294967296) (by omega)]
 obtain ⟨a,rfl⟩:∃a:Nat,p=a:=⟨p.toNat,by omega⟩
 obtain ⟨b,rfl⟩:∃b:Nat,w=b:=⟨w.toNat,by omega⟩
 have h:(BitVec.ofInt IntKind.u64.bits ((a:Int)*4294967296) ||| BitVec.ofInt IntKind.u64.bits (b:Int)).toNat=a*4294967296+b:=by
  rw [BitVec.toNat_or,BitVec.toNat_ofInt,BitVec.toNat_ofInt]
  have e1:((a:Int)*4294967296 % ((2^IntKind.u64.bits:Nat):Int)).toNat=2^32*a:=by
   show ((a:Int)*4294967296 % 18446744073709551616).toNat=4294967296*a
   omega
  have e2:((b:Int) % ((2^IntKind.u64.bits:Nat):Int)).toNat=b:=by
   show ((b:Int) % 18446744073709551616).toNat=b
   omega
  rw [e1,e2,←Nat.two_pow_add_eq_or_of_lt (by omega)]
  omega
 show IntKind.u64.wrap ((BitVec.ofInt IntKind.u64.bits ((a:Int)*4294967296) ||| BitVec.ofInt IntKind.u64.bits (b:Int)).toNat:Int)=_
 rw [h,Js (by omega)]
 omega
theorem tdiv_loop (a:List Int) (ha:Dig 4294967296 a) (la:a.length<1000000000) :
 ∃r:Int×Int×List Int,iter (fun s:Int×Int×List Int↦W.whole_Int_Text.ch_ (Prod.fst s) (Prod.fst (Prod.snd s)) (Prod.snd (Prod.snd s)) Option.some) ((0:Int),IntKind.i64.wrap ((a.length:Int)-1),a)=some r ∧
  0≤r.1∧r.1<1000000000∧Dig 4294967296 r.2.2∧r.2.2.length=a.length∧val 4294967296 a=1000000000*val 4294967296 r.2.2+r.1:=
 JG (f:=fun s:Int×Int×List Int↦W.whole_Int_Text.ch_ (Prod.fst s) (Prod.fst (Prod.snd s)) (Prod.snd (Prod.snd s)) Option.some)
  (J:=fun s=>∃k:Nat,s.2.1=(k:Int)-1∧k≤a.length∧s.2.2.length=a.length∧Dig 4294967296 s.2.2∧0≤s.1∧s.1<1000000000 ∧
   val 4294967296 a=1000000000*(val 4294967296 s.2.2-val 4294967296 (s.2.2.take k))+4294967296^k*s.1+val 4294967296 (s.2.2.take k))
  (Q:=fun r=>0≤r.1∧r.1<1000000000∧Dig 4294967296 r.2.2∧r.2.2.length=a.length∧val 4294967296 a=1000000000*val 4294967296 r.2.2+r.1)
  (fun s=>(s.2.1+1).toNat) (fun ⟨p,i',t⟩ ⟨k,hi,hk,hl,hd,hp0,hp1,hv⟩=>by
   simp only at hi hl hd hp0 hp1 hv ⊢
   subst hi
   simp only [W.whole_Int_Text.ch_]
   by_cases h0:k=0
   ·subst h0
    rw [jO (by omega)]
    refine Or.inl ⟨(_,_,_),rfl,hp0,hp1,hd,hl,?_⟩
    simp [val] at hv
    simp only
    omega
   ·obtain ⟨i,rfl⟩:∃i:Nat,k=i+1:=⟨k-1,by omega⟩
    have hi:i<t.length:=by omega
    have hdi:=hd.getD (by decide) i
    rw [jS (by omega),show ((i+1:Nat):Int)-1=(i:Int) by omega,kE (by omega) (by omega),Jz i rfl hi]
    simp only [ja]
    rw [or_add ⟨hp0,by omega⟩ hdi]
    have hset:=kW 4294967296 ((p*4294967296+t.getD i 0) / 1000000000) i t hi
    have htk:=jX 4294967296 i t
    have htk2:(t.set i ((p*4294967296+t.getD i 0) / 1000000000)).take i=t.take i:=by
     rw [List.take_set_of_le (Nat.le_refl _)]
    generalize hx:t.getD i 0=x at *
    rw [Yi (by omega),Yj (by omega),Js (x:=(p*4294967296+x) / 1000000000) (by omega),YC (by omega),ji (by omega),Int.toNat_natCast]
    refine Or.inr ⟨(_,_,_),rfl,⟨i,rfl,by omega,by simp only [List.length_set];exact hl,hd.set (by omega) i,by simp only;omega,by simp only;omega,?_⟩,by simp only;omega⟩
    simp only
    rw [htk2,hset]
    have hq:p*4294967296+x=1000000000*((p*4294967296+x) / 1000000000)+(p*4294967296+x) % 1000000000:=by omega
    rw [Int.pow_succ] at hv
    generalize (p*4294967296+x) / 1000000000=q at *
    generalize (p*4294967296+x) % 1000000000=m at *
    generalize (4294967296:Int)^i=P at *
    grind)
  (s:=((0:Int),IntKind.i64.wrap ((a.length:Int)-1),a)) ⟨a.length,by rw [ji (by omega)],Nat.le_refl _,rfl,ha,Int.le_refl _,by simp only;omega,by rw [List.take_length];simp⟩
theorem trim_of_val {B:Int} (hB:0<B) {l:List Int} (h:Dig B l) (hv:B^(l.length-1)≤val B l):Trim l:=by
 intro hn h0
 have h0':l.length≠0:=fun e=>hn (List.eq_nil_of_length_eq_zero e)
 have h1:=jX B (l.length-1) l
 rw [show l.length-1+1=l.length by omega,List.take_length,h0] at h1
 have h2:=Yk hB (h.take (l.length-1))
 rw [show (l.take (l.length-1)).length=l.length-1 by rw [List.length_take];omega] at h2
 simp at h1
 omega
theorem tdrop_ok (a t:List Int) (p:Int) (ha:Dig 4294967296 a) (ta:Trim a) (hn:a≠[]) (la:a.length<1000000000) (hd:Dig 4294967296 t) (hl:t.length=a.length) (hp:0≤p∧p<1000000000)
 (hv:val 4294967296 a=1000000000*val 4294967296 t+p) :
 ∃r,W.whole_Int_Text.cu_ t Option.some=some r∧Dig 4294967296 r∧Trim r∧val 4294967296 r=val 4294967296 t∧r.length≤t.length:=by
 have h0:a.length≠0:=fun e=>hn (List.eq_nil_of_length_eq_zero e)
 have hg:=Hr (by decide) ha ta hn
 unfold W.whole_Int_Text.cu_
 rw [ji (by omega),kE (by omega) (by omega),Jz (t.length-1) (by omega) (by omega)]
 simp only [ja]
 by_cases hz:t.getD (t.length-1) 0=0
 ·rw [hz,ko (b:=((0:Int)==0)) rfl,jB (by simp;omega),ja,show (((t.length:Int)-1).toNat)=t.length-1 by omega]
  have h1:=jX 4294967296 (t.length-1) t
  rw [show t.length-1+1=t.length by omega,List.take_length,hz] at h1
  refine ⟨_,rfl,hd.take _,?_,by omega,by rw [List.length_take];omega⟩
  by_cases h2:t.length=1
  ·rw [h2];intro e;exact absurd rfl e
  ·refine trim_of_val (by decide) (hd.take _) ?_
   have e1:(t.take (t.length-1)).length=t.length-2+1:=by rw [List.length_take];omega
   rw [e1,Nat.add_sub_cancel]
   have e2:a.length-1=t.length-2+1:=by omega
   rw [e2,Int.pow_succ] at hg
   have:(0:Int)<4294967296^(t.length-2):=Int.pow_pos (by decide)
   generalize (4294967296:Int)^(t.length-2)=P at *
   omega
 ·rw [JQ (beq_false_of_ne hz)]
  exact ⟨_,rfl,hd,fun _=>hz,rfl,Nat.le_refl _⟩
end Go.Ql
end
section
namespace Go.Ql
def chr (ds:List Int):List Int:=ds.map fun d=>48+d
theorem chr_append (a b:List Int):chr (a++b)=chr a++chr b:=by simp [chr]
theorem chr_len (a:List Int):(chr a).length=a.length:=by simp [chr]
theorem tpart_loop (t:List Int) (P:Int) (hP:0≤P∧P<1000000000) (ds:List Int) (hds:Dig 10 ds) (ld:ds.length<100000000000) :
 ∃r:Int×Int×List Int,iter (fun s:Int×Int×List Int↦W.whole_Int_Text.ck_ (Prod.fst s) (Prod.fst (Prod.snd s)) (Prod.snd (Prod.snd s)) t Option.some) (P,(0:Int),chr ds)=some r ∧
  ∃es,r.2.2=chr es∧Dig 10 es∧es.length≤ds.length+9∧(t≠[]→es.length=ds.length+9)∧val 10 es=val 10 ds+10^ds.length*P∧(t=[]→P≠0→Trim es):=
 JG (f:=fun s:Int×Int×List Int↦W.whole_Int_Text.ck_ (Prod.fst s) (Prod.fst (Prod.snd s)) (Prod.snd (Prod.snd s)) t Option.some)
  (J:=fun s=>∃k:Nat,s.2.1=(k:Int)∧k≤9∧0≤s.1∧s.1<10^(9-k) ∧ ∃es,s.2.2=chr es∧Dig 10 es∧es.length=ds.length+k∧val 10 es+10^es.length*s.1=val 10 ds+10^ds.length*P∧(P≠0→t=[]→s.1=0→Trim es))
  (Q:=fun r=>∃es,r.2.2=chr es∧Dig 10 es∧es.length≤ds.length+9∧(t≠[]→es.length=ds.length+9)∧val 10 es=val 10 ds+10^ds.length*P∧(t=[]→P≠0→Trim es))
  (fun s=>9-s.2.1.toNat) (fun ⟨p,k',out⟩ ⟨k,hk',hk,hp0,hp1,es,ho,hd,hl,hv,ht⟩=>by
   simp only at hk' hp0 hp1 ho hv ht ⊢
   subst hk'
   simp only [W.whole_Int_Text.ck_]
   have e:W.whole_Int_Text.c16 p (k:Int) t Option.some=some (decide (k<9∧(0<p∨t≠[]))):=by
    unfold W.whole_Int_Text.c16
    by_cases h:k<9
    ·rw [jS (by omega)]
     by_cases h2:0<p
     ·rw [jS (by omega),decide_eq_true ⟨h,Or.inl h2⟩]
     ·rw [jO (by omega)]
      congr 1
      cases t with
      | nil=>simp [h2]
      | cons x t=>simp [h]
    ·rw [jO (by omega),decide_eq_false (by omega)]
   rw [e,ja]
   by_cases h:k<9∧(0<p∨t≠[])
   ·rw [jS h]
    have h9:(10:Int)^(9-k)≤10^9:=YH (by decide) (by omega)
    have hp2:p<1000000000:=Int.lt_of_lt_of_le hp1 h9
    have hdd:Dig 10 (es++[p % 10]):=hd.append (Dig.cons (by omega) Dig.nil)
    have hso:chr (es++[p % 10])=chr es++[48+p % 10]:=by rw [chr_append];rfl
    rw [Yi hp0,Yj hp0,Js (x:=48+p % 10) (by omega),IntWalk.u8_in (48+p % 10) (by omega),Js (x:=p / 10) (by omega),ji (by omega)]
    rw [jB (by rw [ho];simp [chr_len];omega),ja]
    refine Or.inr ⟨(_,_,_),rfl,⟨k+1,by simp,by omega,by simp only;omega,?_,es++[p % 10],by simp only;rw [hso,ho],hdd,by rw [List.length_append,List.length_singleton];omega,?_,?_⟩,by simp only;omega⟩
    ·simp only
     rw [show 9-k=9-(k+1)+1 by omega,Int.pow_succ] at hp1
     generalize (10:Int)^(9-(k+1))=A at *
     omega
    ·simp only
     rw [UC,List.length_append,List.length_singleton,Int.pow_succ,←hv]
     have hq:p=10*(p / 10)+p % 10:=by omega
     generalize p / 10=q at *
     generalize p % 10=m at *
     generalize (10:Int)^es.length=A at *
     subst hq
     grind
    ·simp only
     intro h1 h2 h3 _ h4
     rw [List.length_append,List.length_singleton,Nat.add_sub_cancel] at h4
     simp [List.getD] at h4
     rcases h.2 with h5 | h5
     ·omega
     ·exact h5 h2
   ·rw [jO h]
    have hpz:t=[]→p=0:=fun e=>by
     by_cases h9:k<9
     ·by_cases h2:0<p
      ·exact absurd ⟨h9,Or.inl h2⟩ h
      ·omega
     ·rw [show 9-k=0 by omega] at hp1;simp at hp1;omega
    have hp9:p=0:=by
     by_cases h9:k<9
     ·by_cases h2:0<p
      ·exact absurd ⟨h9,Or.inl h2⟩ h
      ·omega
     ·rw [show 9-k=0 by omega] at hp1;simp at hp1;omega
    refine Or.inl ⟨(_,_,_),rfl,es,ho,hd,by omega,fun htn=>?_,by rw [hp9] at hv;simpa using hv,fun ht1 hP0=>ht hP0 ht1 hp9⟩
    by_cases h9:k<9
    ·exact absurd ⟨h9,Or.inr htn⟩ h
    ·omega)
  (s:=(P,(0:Int),chr ds)) ⟨0,rfl,by omega,hP.1,hP.2,ds,rfl,hds,rfl,rfl,fun h1 _ h2=>absurd h2 h1⟩
theorem tall_loop (a:List Int) (ha:Dig 4294967296 a) (ta:Trim a) (hn:a≠[]) (la:a.length<1000000) :
 ∃r:List Int×List Int,iter (fun s:List Int×List Int↦W.whole_Int_Text.cf_ (Prod.fst s) (Prod.snd s) Option.some) ([],a)=some r ∧
  ∃es,r.1=chr es∧Dig 10 es∧es.length<100000000∧val 10 es=val 4294967296 a∧Trim es:=
 JG (f:=fun s:List Int×List Int↦W.whole_Int_Text.cf_ (Prod.fst s) (Prod.snd s) Option.some)
  (J:=fun s=>∃ds,s.1=chr ds∧Dig 10 ds∧ds.length<100000000∧Dig 4294967296 s.2∧Trim s.2∧s.2.length≤a.length∧val 10 ds+10^ds.length*val 4294967296 s.2=val 4294967296 a∧(s.2=[]→Trim ds))
  (Q:=fun r=>∃es,r.1=chr es∧Dig 10 es∧es.length<100000000∧val 10 es=val 4294967296 a∧Trim es)
  (fun s=>(val 4294967296 s.2).toNat) (fun ⟨out,t⟩ ⟨ds,ho,hd,hdl,htd,htt,htl,hv,hte⟩=>by
   simp only at ho htd htt htl hv hte ⊢
   subst ho
   simp only [W.whole_Int_Text.cf_]
   by_cases h0:t=[]
   ·subst h0
    rw [jO (by simp)]
    exact Or.inl ⟨(_,_),rfl,ds,rfl,hd,hdl,by simpa [val] using hv,hte rfl⟩
   ·have h0':t.length≠0:=fun e=>h0 (List.eq_nil_of_length_eq_zero e)
    have hpos:1≤val 4294967296 t:=by
     have:=Hr (by decide) htd htt h0
     have h3:(0:Int)<4294967296^(t.length-1):=Int.pow_pos (by decide)
     omega
    rw [jS (by omega)]
    obtain ⟨⟨p,i,t1⟩,h1,hp0,hp1,hd1,hl1,hv1⟩:=tdiv_loop t htd (by omega)
    simp only at hp0 hp1 hd1 hl1 hv1
    obtain ⟨r,h2,hrd,hrt,hrv,hrl⟩:=tdrop_ok t t1 p htd htt h0 (by omega) hd1 hl1 ⟨hp0,hp1⟩ hv1
    have hlen:ds.length<10*a.length:=by
     have e1:=JT (by decide) hd
     have e2:(10:Int)^ds.length*1≤10^ds.length*val 4294967296 t:=Int.mul_le_mul_of_nonneg_left (by omega) (Int.le_of_lt (Int.pow_pos (by decide)))
     have e3:=Yk (by decide) ha
     have e4:(4294967296:Int)^a.length≤(10^10)^a.length:=by
      have:∀n:Nat,(4294967296:Int)^n≤(10^10)^n:=fun n=>by
       induction n with
       | zero=>simp
       | succ n ih=>
         rw [Int.pow_succ,Int.pow_succ]
         exact Int.mul_le_mul ih (by decide) (by decide) (Int.le_of_lt (Int.pow_pos (by decide)))
      exact this _
     have e5:((10:Int)^10)^a.length=10^(10*a.length):=by rw [←Int.pow_mul]
     rcases Nat.lt_or_ge ds.length (10*a.length) with h | h
     ·exact h
     ·have:=YH (B:=10) (by decide) h
      omega
    obtain ⟨⟨p2,k2,o2⟩,h3,es,ho2,hde,hle,hle2,hve,hte2⟩:=tpart_loop r p ⟨hp0,hp1⟩ ds hd (by omega)
    simp only at ho2
    rw [h1,ja]
    simp only
    rw [h2,ja,h3,ja]
    refine Or.inr ⟨(_,_),rfl,⟨es,ho2,hde,by omega,hrd,hrt,by simp only;omega,?_,fun hre=>?_⟩,?_⟩
    ·simp only
     rw [hrv,hve,←hv,hv1]
     by_cases hre:r=[]
     ·subst hre
      simp only [val] at hrv
      rw [←hrv]
      grind
     ·rw [hle2 hre,Int.pow_add]
      grind
    ·refine hte2 hre ?_
     intro hpe
     have hre1:r=[]:=hre
     rw [hre1] at hrv
     simp only [val] at hrv
     omega
    ·simp only
     omega)
  (s:=([],a)) ⟨[],rfl,Dig.nil,by simp,ha,ta,Nat.le_refl _,by simp [val],fun e=>absurd e hn⟩
end Go.Ql
end
section
namespace Go.Ql
theorem reverse_ok (a:List Int) (la:a.length<1000000000000):W.jt a=some (a.reverse,()):=by
 obtain ⟨⟨i,j,r⟩,h1,h2⟩:=JG (f:=fun s:Int×Int×List Int↦W.jt.cj_ (Prod.fst s) (Prod.fst (Prod.snd s)) (Prod.snd (Prod.snd s)) Option.some)
  (J:=fun s=>∃k:Nat,s.1=k∧s.2.1=(a.length:Int)-1-k∧2*k≤a.length+1∧s.2.2.length=a.length ∧ ∀m,m<a.length→s.2.2.getD m 0=if m<k∨a.length≤m+k then a.getD (a.length-1-m) 0 else a.getD m 0)
  (Q:=fun r=>r.2.2=a.reverse)
  (fun s=>(s.2.1+1).toNat) (fun ⟨i,j,t⟩ ⟨k,hi,hj,hk,hl,hm⟩=>by
   simp only at hi hj hl hm ⊢
   subst hi hj
   simp only [W.jt.cj_]
   by_cases h:(k:Int)<(a.length:Int)-1-k
   ·rw [jS h]
    unfold W.jt.c3
    have ej:(a.length:Int)-1-k=((a.length-1-k:Nat):Int):=by omega
    rw [ej,kE (by omega) (by omega),Jz (a.length-1-k) rfl (by omega),kE (by omega) (by omega),Jz k rfl (by omega)]
    simp only [ja]
    rw [kE (by omega) (by rw [List.length_set];omega),Jz (a.length-1-k) rfl (by rw [Int.toNat_natCast,List.length_set];omega)]
    simp only [ja,Int.toNat_natCast]
    rw [ji (by omega),ji (by omega)]
    refine Or.inr ⟨(_,_,_),rfl,⟨k+1,by simp,by simp only;omega,by omega,by simp only [List.length_set];exact hl,fun m hml=>?_⟩,by simp only;omega⟩
    simp only
    rw [ku (by rw [List.length_set];omega),ku (by omega),hm _ (by omega),hm _ (by omega),hm m hml]
    by_cases e1:a.length-1-k=m
    ·rw [if_pos e1,if_neg (by omega),if_pos (by omega)]
     congr 1;omega
    ·rw [if_neg e1]
     by_cases e2:k=m
     ·rw [if_pos e2,if_neg (by omega),if_pos (by omega)]
      congr 1;omega
     ·rw [if_neg e2]
      by_cases e3:m<k∨a.length≤m+k
      ·rw [if_pos e3,if_pos (by omega)]
      ·rw [if_neg e3,if_neg (by omega)]
   ·rw [jO h]
    refine Or.inl ⟨(_,_,_),rfl,?_⟩
    simp only
    apply List.ext_getElem
    ·rw [List.length_reverse,hl]
    ·intro m h1 h2
     have h3:=hm m (by omega)
     have e1:t.getD m 0=t[m]:=by simp [List.getD,h1]
     rw [←e1,h3,List.getElem_reverse]
     by_cases e2:m<k∨a.length≤m+k
     ·rw [if_pos e2];simp [List.getD,show a.length-1-m<a.length by omega]
     ·rw [if_neg e2]
      have e3:a.length-1-m=m:=by omega
      simp only [e3]
      simp [List.getD,show m<a.length by omega])
  (s:=((0:Int),IntKind.i64.wrap ((a.length:Int)-1),a)) ⟨0,rfl,by rw [ji (by omega)];simp,by omega,rfl,fun m hml=>by rw [if_neg (by omega)]⟩
 simp only at h2
 unfold W.jt
 rw [h1,ja,←h2]
theorem dec_rev:∀(ds:List Int),Dig 10 ds→kJ (bytes (chr ds).reverse)∧dec (bytes (chr ds).reverse)=val 10 ds
 | [],_=>⟨fun c hc=>by simp [chr,bytes] at hc,rfl⟩
 | d::ds,h=>by
   obtain ⟨h1,h2⟩:=dec_rev ds h.tail
   have hb:=UQ (d:=d) (by have:=h.head;omega)
   have e:bytes (chr (d::ds)).reverse=bytes (chr ds).reverse++[UInt8.ofNat (Int.toNat (48+d))]:=by simp [chr,bytes]
   rw [e]
   refine ⟨fun c hc=>?_,?_⟩
   ·rcases List.mem_append.1 hc with hc | hc
    ·exact h1 c hc
    ·rw [List.mem_singleton.1 hc];exact hb.1
   ·rw [dec_snoc,h2,hb.2]
    simp only [val];omega
theorem isDec_rev {ds:List Int} (h:Dig 10 ds) (ht:Trim ds) (hn:ds≠[]):IsDec (bytes (chr ds).reverse) (val 10 ds):=by
 obtain ⟨h1,h2⟩:=dec_rev ds h
 have h0:ds.length≠0:=fun e=>hn (List.eq_nil_of_length_eq_zero e)
 refine ⟨h1,fun e=>?_,fun e=>?_,h2⟩
 ·have:=congrArg List.length e
  simp [bytes,chr] at this
  exact hn this
 ·have h3:(bytes (chr ds).reverse).head?=some (UInt8.ofNat (Int.toNat (48+ds.getD (ds.length-1) 0))):=by
   simp [bytes,chr,List.getLast?_eq_getElem?,List.getD,show ds.length-1<ds.length by omega]
  rw [h3] at e
  have h4:=Option.some.inj e
  have hd:=h.getD (by decide) (ds.length-1)
  have hb:=(UQ (d:=ds.getD (ds.length-1) 0) (by omega)).2
  rw [h4] at hb
  exact ht hn hb.symm
theorem text_ok {a:Bool×List Int} {v:Int} (ha:Rep 4294967296 a v) (la:a.2.length<1000000):∃l,W.whole_Int_Text a=some l∧Txt v l:=by
 unfold W.whole_Int_Text
 by_cases h0:a.2=[]
 ·rw [h0]
  refine ⟨[48],rfl,Or.inl ⟨?_,rfl⟩⟩
  rw [ha.val,h0];simp [val]
 ·have hn:a.2.length≠0:=fun e=>h0 (List.eq_nil_of_length_eq_zero e)
  rw [JQ (beq_false_of_ne (by omega))]
  have hcl:W.Jo a.2=some (a.2,()):=by
   unfold W.Jo
   have:a.2.isEmpty=false:=by rw [←Bool.not_eq_true,List.isEmpty_iff];exact h0
   rw [this,br_ff,jB (by simp;omega),ja]
  obtain ⟨⟨out,t⟩,h1,es,ho,hd,hl,hv,ht⟩:=tall_loop a.2 ha.dig ha.last h0 la
  simp only at ho
  have hp:=ha.pos (by decide) h0
  have hen:es≠[]:=fun e=>by rw [e] at hv;simp only [val] at hv;omega
  have e1:W.whole_Int_Text.cW_ a.1 out Option.some=some (if a.1 then chr es++[45] else chr es):=by
   unfold W.whole_Int_Text.cW_
   subst ho
   cases a.1
   ·rw [br_ff];rfl
   ·rw [br_tt,jB (by simp [chr_len];omega),ja];rfl
  rw [hcl,ja,h1,ja,e1,ja,reverse_ok _ (by split<;>simp [chr_len]<;>omega),ja]
  have hva:=ha.val
  refine ⟨_,rfl,Or.inr ⟨?_,bytes (chr es).reverse,?_,?_⟩⟩
  ·cases hx:a.1<;>simp only [hx,Bool.false_eq_true,if_false,if_true] at hva<;>omega
  ·have:(v.natAbs:Int)=val 10 es:=by
    cases hx:a.1<;>simp only [hx,Bool.false_eq_true,if_false,if_true] at hva<;>omega
   rw [this];exact isDec_rev hd ht hen
  ·cases hx:a.1<;>simp only [hx,Bool.false_eq_true,if_false,if_true] at hva ⊢
   ·rw [if_neg (by omega)];rfl
   ·rw [if_pos (by omega)];simp [bytes]
end Go.Ql
end
section
namespace Go.Ql
theorem Vt {x:Int}:IntKind.u64.wrap x=x % 18446744073709551616:=by
 simp [IntKind.wrap,IntKind.signed,IntKind.bits]
theorem of_ok {n:Int} (h:-9223372036854775808≤n∧n≤9223372036854775807) :
 ∃r,W.whole_Of n=some r∧Rep 4294967296 r n∧r.2.length≤2:=by
 unfold W.whole_Of
 have e:W.whole_Of.cg_ n (IntKind.u64.wrap n) Option.some=some (n.natAbs:Int):=by
  unfold W.whole_Of.cg_
  by_cases h0:n<0
  ·rw [jS h0,Vt,Vt];congr 1;omega
  ·rw [jO h0,Vt];congr 1;omega
 rw [e,ja,kB,kB,show (2:Int)^32=4294967296 from rfl,Int.fdiv_eq_ediv_of_nonneg _ (by decide)]
 obtain ⟨r,h1,h2,h3⟩:=Yr (B:=4294967296) (decide (n<0)) [(n.natAbs:Int) % 4294967296,(n.natAbs:Int) / 4294967296 % 4294967296]
  (Dig.cons (by omega) (Dig.cons (by omega) Dig.nil)) (by simp)
 rw [h1,ja]
 refine ⟨r,rfl,?_,by simpa using h3⟩
 have:n=if decide (n<0)=true then -val 4294967296 [(n.natAbs:Int) % 4294967296,(n.natAbs:Int) / 4294967296 % 4294967296] else val 4294967296 [(n.natAbs:Int) % 4294967296,(n.natAbs:Int) / 4294967296 % 4294967296]:=by
  simp only [val]
  by_cases h0:n<0
  ·rw [if_pos (decide_eq_true h0)];omega
  ·rw [if_neg (by simpa using h0)];omega
 rw [←this] at h2
 exact h2
theorem JA {α β:Type} (p:α×β):(p.1,p.2)=p:=rfl
end Go.Ql
end
section
namespace Go.Ql
theorem or32 (m:Nat) {a x q:Int} (ha:0≤a∧a<2^m) (hx:x=2^m*q) (hq:0≤q) (hb:a+x<4294967296):ibits Go.BinOp.or Go.IntKind.u32 a x=a+x:=by
 obtain ⟨a,rfl⟩:∃n:Nat,a=n:=⟨a.toNat,by omega⟩
 obtain ⟨q,rfl⟩:∃n:Nat,q=n:=⟨q.toNat,by omega⟩
 have hx2:x=((2^m*q:Nat):Int):=by rw [hx];simp
 have ham:a<2^m:=by
  have:=ha.2
  rw [show ((2:Int)^m)=((2^m:Nat):Int) by simp] at this
  omega
 have h:(BitVec.ofInt IntKind.u32.bits (a:Int) ||| BitVec.ofInt IntKind.u32.bits ((2^m*q:Nat):Int)).toNat=a+2^m*q:=by
  rw [BitVec.toNat_or,BitVec.toNat_ofInt,BitVec.toNat_ofInt]
  have e1:((a:Int) % ((2^IntKind.u32.bits:Nat):Int)).toNat=a:=by
   show ((a:Int) % 4294967296).toNat=a
   omega
  have e2:(((2^m*q:Nat):Int) % ((2^IntKind.u32.bits:Nat):Int)).toNat=2^m*q:=by
   show (((2^m*q:Nat):Int) % 4294967296).toNat=2^m*q
   omega
  rw [e1,e2,Nat.or_comm,←Nat.two_pow_add_eq_or_of_lt ham]
  omega
 show IntKind.u32.wrap ((BitVec.ofInt IntKind.u32.bits (a:Int) ||| BitVec.ofInt IntKind.u32.bits x).toNat:Int)=_
 rw [hx2,h,YC (by omega)]
 omega
theorem two_parts (m:Nat) (hm:m<32):(0:Int)<2^m∧(2:Int)^m≤2147483648∧(2:Int)^m*2^(32-m)=4294967296∧(0:Int)<2^(32-m):=by
 have h1:(0:Int)<2^m:=Int.pow_pos (by decide)
 have h2:(2:Int)^m≤2^31:=YH (by decide) (by omega)
 have h3:(2:Int)^m*2^(32-m)=2^32:=by rw [←Int.pow_add];congr 1;omega
 exact ⟨h1,h2,h3,Int.pow_pos (by decide)⟩
theorem pow_split (n:Nat):(2:Int)^n=4294967296^(n / 32)*2^(n % 32):=by
 have h:(4294967296:Int)=2^32:=rfl
 rw [h,←Int.pow_mul,←Int.pow_add]
 congr 1
 omega
theorem left_ok (a:List Int) (n:Nat) (ha:Dig 4294967296 a) (la:a.length<100000000) (hn:n<100000000) :
 ∃t,W.whole_left a (n:Int)=some (t,())∧Dig 4294967296 t∧t.length=a.length+n / 32+1∧val 4294967296 t=val 4294967296 a*2^n:=by
 obtain ⟨hP,hP2,hPQ,hQ⟩:=two_parts (n % 32) (by omega)
 have e1:Int.tdiv (n:Int) 32=((n / 32:Nat):Int):=by rw [Yi (by omega)];omega
 have e2:Int.tmod (n:Int) 32=((n % 32:Nat):Int):=by rw [Yj (by omega)];omega
 have hpow:=pow_split n
 obtain ⟨⟨i,t⟩,h1,ht,hd,hv⟩:=JG
  (f:=fun s:Int×List Int↦W.whole_left.ca_ (n:Int) a (a.length:Int) (Prod.fst s) (Prod.snd s) Option.some)
  (J:=fun s=>∃i:Nat,s.1=i∧i≤a.length∧s.2.length=a.length+n / 32+1∧Dig 4294967296 s.2∧(∀t,i+n / 32<t→s.2.getD t 0=0)∧s.2.getD (i+n / 32) 0<2^(n % 32)∧val 4294967296 s.2=val 4294967296 (a.take i)*2^n)
  (Q:=fun s=>s.2.length=a.length+n / 32+1∧Dig 4294967296 s.2∧val 4294967296 s.2=val 4294967296 a*2^n)
  (fun s=>a.length-s.1.toNat) (fun ⟨i',t⟩ ⟨i,hi,hil,hl,hd,hz,ho,hv⟩=>by
   simp only at hi hl hd hz ho hv ⊢
   subst hi
   simp only [W.whole_left.ca_]
   by_cases h0:i<a.length
   ·have hda:=ha.getD (by decide) i
    have hdt:=hd.getD (by decide) (i+n / 32)
    have htk:=jX 4294967296 i a
    rw [jS (by omega),e1,e2,Jz i rfl h0,ji (x:=((n / 32:Nat):Int)) (by omega),ji (x:=(i:Int)+((n / 32:Nat):Int)) (by omega),show (i:Int)+((n / 32:Nat):Int)=((i+n / 32:Nat):Int) by omega,ji (x:=((i+n / 32:Nat):Int)+1) (by omega),show ((i+n / 32:Nat):Int)+1=((i+n / 32+1:Nat):Int) by omega]
    rw [jB (by simp;omega),kE (by omega) (by omega),Jz (i+n / 32) rfl (by omega)]
    simp only [ja,Int.toNat_natCast]
    rw [kE (by omega) (by rw [List.length_set];omega),Jz (i+n / 32+1) rfl (by rw [List.length_set];omega)]
    simp only [ja]
    rw [ku (by omega),if_neg (by omega),hz (i+n / 32+1) (by omega)]
    rw [show min (n % 32) 64=n % 32 by omega]
    generalize hy:a.getD i 0=y at *
    generalize hoo:t.getD (i+n / 32) 0=o at *
    generalize hPP:(2:Int)^(n % 32)=P at *
    generalize (2:Int)^(32-n % 32)=Qq at *
    have b1:0≤y*P:=Int.mul_nonneg hda.1 (by omega)
    have b2:y*P≤4294967295*P:=Int.mul_le_mul_of_nonneg_right (by omega) (by omega)
    rw [Js (x:=y) (by omega),Js (x:=y*P) (by omega),kB,kB,show (2:Int)^32=4294967296 from rfl,Int.fdiv_eq_ediv_of_nonneg _ (by decide)]
    have e3:y*P % 4294967296=P*(y % Qq):=by
     rw [←hPQ,Int.mul_comm y P,Int.mul_emod_mul_of_pos _ _ hP]
    have b3:0≤y % Qq:=Int.emod_nonneg _ (by omega)
    have b4:P*(y % Qq+1)≤P*Qq:=Int.mul_le_mul_of_nonneg_left (by have:=Int.emod_lt_of_pos y hQ;omega) (by omega)
    rw [Int.mul_add,Int.mul_one] at b4
    have e4:ibits Go.BinOp.or Go.IntKind.u32 o (y*P % 4294967296)=o+y*P % 4294967296:=
     or32 (n % 32) (q:=y % Qq) (by rw [hPP];omega) (by rw [hPP];exact e3) b3 (by omega)
    have e5:ibits Go.BinOp.or Go.IntKind.u32 0 (y*P / 4294967296 % 4294967296)=y*P / 4294967296:=by
     rw [or32 0 (q:=y*P / 4294967296 % 4294967296) (by simp) (by simp) (by omega) (by omega)];omega
    rw [e4,e5]
    have s1:=kW 4294967296 (o+y*P % 4294967296) (i+n / 32) t (by omega)
    have s2:=kW 4294967296 (y*P / 4294967296) (i+n / 32+1) (t.set (i+n / 32) (o+y*P % 4294967296)) (by rw [List.length_set];omega)
    rw [ku (by omega),if_neg (by omega),hz (i+n / 32+1) (by omega),s1,hoo,Int.pow_succ] at s2
    have c1:0≤o+y*P % 4294967296∧o+y*P % 4294967296<4294967296:=by omega
    have c2:0≤y*P / 4294967296∧y*P / 4294967296<P:=by omega
    refine Or.inr ⟨(_,_),rfl,⟨i+1,?_,by omega,by simp only [List.length_set];exact hl,(hd.set c1 _).set (by omega) _,fun x hx=>?_,?_,?_⟩,?_⟩
    ·simp only;rw [ji (by omega)];omega
    ·simp only
     rw [ku (by rw [List.length_set];omega),if_neg (by omega),ku (by omega),if_neg (by omega)]
     exact hz x (by omega)
    ·simp only
     rw [show i+1+n / 32=i+n / 32+1 by omega,ku (by rw [List.length_set];omega),if_pos rfl]
     exact c2.2
    ·simp only
     rw [s2,htk,hv,hpow,Int.pow_add]
     have hq:y*P=4294967296*(y*P / 4294967296)+y*P % 4294967296:=by omega
     generalize y*P / 4294967296=hh at *
     generalize y*P % 4294967296=ll at *
     generalize (4294967296:Int)^i=A at *
     generalize (4294967296:Int)^(n / 32)=C at *
     have:C*P*(A*y)=C*A*(y*P):=by grind
     grind
    ·simp only;rw [ji (by omega)];omega
   ·have e:i=a.length:=by omega
    subst e
    rw [jO (by omega)]
    rw [List.take_length] at hv
    exact Or.inl ⟨(_,_),rfl,hl,hd,hv⟩)
  (s:=((0:Int),List.replicate (a.length+n / 32+1) 0)) ⟨0,rfl,by omega,by simp,Dig.replicate (by decide) _,fun t _=>kS _ _,by rw [kS];exact hP,by simp [Ya,val]⟩
 unfold W.whole_left
 rw [e1,ji (x:=((n / 32:Nat):Int)) (by omega),ji (x:=(a.length:Int)+((n / 32:Nat):Int)) (by omega),ji (by omega),jB (by simp;omega),ja,show ((a.length:Int)+((n / 32:Nat):Int)+1).toNat=a.length+n / 32+1 by omega,h1,ja]
 exact ⟨t,rfl,hd,ht,hv⟩
end Go.Ql
end
section
namespace Go.Ql
theorem getD_drop (l:List Int) (k i:Nat):(l.drop k).getD i 0=l.getD (k+i) 0:=by
 simp [List.getD,List.getElem?_drop]
theorem Hq (B:Int) (l:List Int) (k:Nat) (h:k≤l.length):val B l=val B (l.take k)+B^k*val B (l.drop k):=by
 have:=val_append B (l.drop k) (l.take k)
 rw [List.take_append_drop,show (l.take k).length=k by rw [List.length_take];omega] at this
 exact this
theorem right_loop (a:List Int) (n:Nat) (ha:Dig 4294967296 a) (la:a.length<100000000) (hn:n<10000000000) (hk:n / 32<a.length) :
 ∃r:Int×List Int,iter (fun s:Int×List Int↦W.whole_right.ct_ a (n:Int) ((a.length-n / 32:Nat):Int) (Prod.fst s) (Prod.snd s) Option.some) ((0:Int),List.replicate (a.length-n / 32) 0)=some r ∧
  r.2.length=a.length-n / 32∧Dig 4294967296 r.2∧val 4294967296 (a.drop (n / 32))=2^(n % 32)*val 4294967296 r.2+a.getD (n / 32) 0 % 2^(n % 32):=by
 obtain ⟨hP,hP2,hPQ,hQ⟩:=two_parts (n % 32) (by omega)
 have e1:Int.tdiv (n:Int) 32=((n / 32:Nat):Int):=by rw [Yi (by omega)];omega
 have e2:Int.tmod (n:Int) 32=((n % 32:Nat):Int):=by rw [Yj (by omega)];omega
 exact JG
  (f:=fun s:Int×List Int↦W.whole_right.ct_ a (n:Int) ((a.length-n / 32:Nat):Int) (Prod.fst s) (Prod.snd s) Option.some)
  (J:=fun s=>∃i:Nat,s.1=i∧i≤a.length-n / 32∧s.2.length=a.length-n / 32∧Dig 4294967296 s.2 ∧
   2^(n % 32)*val 4294967296 (s.2.take i)=val 4294967296 ((a.drop (n / 32)).take i)-a.getD (n / 32) 0 % 2^(n % 32)+4294967296^i*(a.getD (n / 32+i) 0 % 2^(n % 32)))
  (Q:=fun r=>r.2.length=a.length-n / 32∧Dig 4294967296 r.2∧val 4294967296 (a.drop (n / 32))=2^(n % 32)*val 4294967296 r.2+a.getD (n / 32) 0 % 2^(n % 32))
  (fun s=>a.length-n / 32-s.1.toNat) (fun ⟨i',t⟩ ⟨i,hi,hil,hl,hd,hv⟩=>by
   simp only at hi hl hd hv ⊢
   subst hi
   simp only [W.whole_right.ct_]
   by_cases h0:i<a.length-n / 32
   ·rw [jS (by omega)]
    have hda:=ha.getD (by decide) (n / 32+i)
    have hdb:=ha.getD (by decide) (n / 32+i+1)
    have htk:=jX 4294967296 i (a.drop (n / 32))
    rw [getD_drop] at htk
    have hb5:0≤a.getD (n / 32+i+1) 0 % 2^(n % 32):=Int.emod_nonneg _ (by omega)
    have hb6:=Int.emod_lt_of_pos (a.getD (n / 32+i+1) 0) hP
    have c:W.whole_right.cG_ a (n:Int) (i:Int) t Option.some=some (t.set i (a.getD (n / 32+i) 0 / 2^(n % 32)+2^(32-n % 32)*(a.getD (n / 32+i+1) 0 % 2^(n % 32)))):=by
     unfold W.whole_right.cG_
     rw [e1,e2,ji (x:=((n / 32:Nat):Int)) (by omega),ji (x:=(i:Int)+((n / 32:Nat):Int)) (by omega),Jz (n / 32+i) (by omega) (by omega),jB (by simp;omega),kE (by omega) (by omega),Jz i rfl (by omega)]
     simp only [ja,Int.toNat_natCast]
     rw [show min (n % 32) 32=n % 32 by omega,Int.fdiv_eq_ediv_of_nonneg _ (by omega)]
     have e14:W.whole_right.c14 a (n:Int) (i:Int) Option.some=some (decide (n / 32+i+1<a.length∧0<n % 32)):=by
      unfold W.whole_right.c14
      rw [e1,e2,ji (x:=((n / 32:Nat):Int)) (by omega),ji (x:=(i:Int)+((n / 32:Nat):Int)) (by omega),ji (by omega)]
      by_cases h:n / 32+i+1<a.length
      ·rw [jS (by omega)]
       congr 1
       rw [decide_eq_decide];omega
      ·rw [jO (by omega),decide_eq_false (by omega)]
     rw [e14,ja]
     by_cases h:n / 32+i+1<a.length∧0<n % 32
     ·rw [jS h]
      unfold W.whole_right.c15
      rw [e1,e2,ji (x:=((n / 32:Nat):Int)) (by omega),ji (x:=(i:Int)+((n / 32:Nat):Int)) (by omega),ji (x:=(i:Int)+((n / 32:Nat):Int)+1) (by omega),ji (x:=32-((n % 32:Nat):Int)) (by omega)]
      rw [kE (by omega) (by rw [List.length_set];omega),Jz i rfl (by rw [List.length_set];omega),Jz (n / 32+i+1) (by omega) (by omega),jB (by simp;omega)]
      simp only [ja]
      rw [ku (by omega),if_pos rfl,show min (32-((n % 32:Nat):Int)).toNat 32=32-n % 32 by omega,kB]
      have e3:a.getD (n / 32+i+1) 0*2^(32-n % 32) % 4294967296=2^(32-n % 32)*(a.getD (n / 32+i+1) 0 % 2^(n % 32)):=by
       rw [←hPQ,Int.mul_comm,Int.mul_comm (2^(n % 32)),Int.mul_emod_mul_of_pos _ _ hQ]
      rw [e3]
      have b1:0≤a.getD (n / 32+i) 0 / 2^(n % 32):=Int.ediv_nonneg hda.1 (by omega)
      have b2:a.getD (n / 32+i) 0 / 2^(n % 32)<2^(32-n % 32):=Int.ediv_lt_of_lt_mul hP (by rw [Int.mul_comm,hPQ];exact hda.2)
      have b3:2^(32-n % 32)*(a.getD (n / 32+i+1) 0 % 2^(n % 32)+1)≤2^(32-n % 32)*2^(n % 32):=Int.mul_le_mul_of_nonneg_left (by omega) (by omega)
      rw [Int.mul_comm (2^(32-n % 32)) (2^(n % 32)),hPQ,Int.mul_add] at b3
      rw [or32 (32-n % 32) (q:=a.getD (n / 32+i+1) 0 % 2^(n % 32)) ⟨b1,b2⟩ rfl hb5 (by omega),Int.toNat_natCast,List.set_set]
     ·rw [jO h]
      have hz:a.getD (n / 32+i+1) 0 % 2^(n % 32)=0:=by
       by_cases h1:n / 32+i+1<a.length
       ·have:n % 32=0:=by omega
        rw [this];simp
       ·rw [Yz (by omega)];simp
      rw [hz,Int.mul_zero,Int.add_zero]
    rw [c,ja,ji (by omega)]
    have hb7:0≤a.getD (n / 32+i) 0 % 2^(n % 32):=Int.emod_nonneg _ (by omega)
    have hdiv:=Int.mul_ediv_add_emod (a.getD (n / 32+i) 0) (2^(n % 32))
    generalize a.getD (n / 32+i) 0=x at *
    have b1:0≤x / 2^(n % 32):=Int.ediv_nonneg hda.1 (by omega)
    have b2:x / 2^(n % 32)<2^(32-n % 32):=Int.ediv_lt_of_lt_mul hP (by rw [Int.mul_comm,hPQ];exact hda.2)
    have b3:2^(32-n % 32)*(a.getD (n / 32+i+1) 0 % 2^(n % 32)+1)≤2^(32-n % 32)*2^(n % 32):=Int.mul_le_mul_of_nonneg_left (by omega) (by omega)
    rw [Int.mul_comm (2^(32-n % 32)) (2^(n % 32)),hPQ,Int.mul_add] at b3
    have b4:0≤2^(32-n % 32)*(a.getD (n / 32+i+1) 0 % 2^(n % 32)):=Int.mul_nonneg (by omega) hb5
    refine Or.inr ⟨(_,_),rfl,⟨i+1,by simp,by omega,by simp only [List.length_set];exact hl,hd.set (by omega) i,?_⟩,by simp only;omega⟩
    simp only
    have hset:=jX 4294967296 i (t.set i (x / 2^(n % 32)+2^(32-n % 32)*(a.getD (n / 32+i+1) 0 % 2^(n % 32))))
    rw [List.take_set_of_le (Nat.le_refl _),ku (by omega),if_pos rfl] at hset
    rw [hset,htk,show n / 32+(i+1)=n / 32+i+1 by omega,Int.pow_succ]
    generalize a.getD (n / 32+i+1) 0 % 2^(n % 32)=r1 at *
    generalize x % 2^(n % 32)=r0 at *
    generalize x / 2^(n % 32)=q at *
    generalize (2:Int)^(n % 32)=P at *
    generalize (2:Int)^(32-n % 32)=Qq at *
    generalize (4294967296:Int)^i=A at *
    have:P*(A*(q+Qq*r1))=A*(P*q)+A*(P*Qq)*r1:=by grind
    rw [hPQ] at this
    grind
   ·have e:i=a.length-n / 32:=by omega
    subst e
    rw [jO (by omega)]
    rw [Yz (l:=a) (i:=n / 32+(a.length-n / 32)) (by omega),List.take_of_length_le (by omega),List.take_of_length_le (by rw [List.length_drop];omega)] at hv
    simp only [Int.zero_emod,Int.mul_zero,Int.add_zero] at hv
    exact Or.inl ⟨(_,_),rfl,hl,hd,by simp only;omega⟩)
  (s:=((0:Int),List.replicate (a.length-n / 32) 0)) ⟨0,rfl,by omega,by simp,Dig.replicate (by decide) _,by simp only [List.take_zero,val,Nat.add_zero,Int.pow_zero];omega⟩
theorem lost_loop (l:List Int) (hl:Dig 4294967296 l) (b:Bool) (hL:l.length<100000000) :
 ∃r:Bool×Int,iter (fun s:Bool×Int↦W.whole_right.cf_ (Prod.fst s) l (l.length:Int) (Prod.snd s) Option.some) (b,(0:Int))=some r∧r.1=(b||decide (val 4294967296 l≠0)):=
 JG
  (f:=fun s:Bool×Int↦W.whole_right.cf_ (Prod.fst s) l (l.length:Int) (Prod.snd s) Option.some)
  (J:=fun s=>∃i:Nat,s.2=i∧i≤l.length∧s.1=(b||decide (val 4294967296 (l.take i)≠0)))
  (Q:=fun r=>r.1=(b||decide (val 4294967296 l≠0)))
  (fun s=>l.length-s.2.toNat) (fun ⟨c,i'⟩ ⟨i,hi,hil,hc⟩=>by
   simp only at hi hc ⊢
   subst hi
   simp only [W.whole_right.cf_]
   by_cases h0:i<l.length
   ·have e:W.whole_right.c7 c (l.getD i 0) Option.some=some (c||decide (l.getD i 0≠0)):=by
     unfold W.whole_right.c7
     cases c
     ·rw [br_ff]
      congr 1
      generalize l.getD i 0=x
      by_cases h:x=0
      ·subst h;rfl
      ·rw [decide_eq_true h];simp [h]
     ·rfl
    rw [jS (by omega),Jz i rfl h0,ja,e,ja,ji (by omega)]
    have h1:=jX 4294967296 i l
    have h2:=JT (B:=4294967296) (by decide) (hl.take i)
    have h3:=hl.getD (by decide) i
    have h4:(0:Int)<4294967296^i:=Int.pow_pos (by decide)
    have h5:0≤4294967296^i*l.getD i 0:=Int.mul_nonneg (by omega) h3.1
    refine Or.inr ⟨(_,_),rfl,⟨i+1,by simp,by omega,?_⟩,by simp only;omega⟩
    simp only
    rw [hc,Bool.or_assoc]
    congr 1
    by_cases h6:l.getD i 0=0
    ·rw [h6,Int.mul_zero,Int.add_zero] at h1
     rw [h1,h6];simp
    ·have h7:0<4294967296^i*l.getD i 0:=Int.mul_pos h4 (by omega)
     rw [decide_eq_true h6,decide_eq_true (p:=val 4294967296 (l.take (i+1))≠0) (by omega)];simp
   ·have e:i=l.length:=by omega
    subst e
    rw [List.take_length] at hc
    rw [jO (by omega)]
    exact Or.inl ⟨(_,_),rfl,hc⟩)
  (s:=(b,(0:Int))) ⟨0,rfl,by omega,by simp [val]⟩
theorem right_ok (a:List Int) (n:Nat) (ha:Dig 4294967296 a) (la:a.length<100000000) (hn:n<10000000000) :
 ∃t lost,W.whole_right a (n:Int)=some (t,lost)∧Dig 4294967296 t∧t.length≤a.length∧val 4294967296 t=val 4294967296 a / 2^n∧(Trim a→lost=decide (val 4294967296 a % 2^n≠0)):=by
 obtain ⟨hP,hP2,hPQ,hQ⟩:=two_parts (n % 32) (by omega)
 have e1:Int.tdiv (n:Int) 32=((n / 32:Nat):Int):=by rw [Yi (by omega)];omega
 have e2:Int.tmod (n:Int) 32=((n % 32:Nat):Int):=by rw [Yj (by omega)];omega
 have hpow:=pow_split n
 have hv0:=JT (B:=4294967296) (by decide) ha
 have hBk:(0:Int)<4294967296^(n / 32):=Int.pow_pos (by decide)
 unfold W.whole_right
 rw [e1,ji (x:=((n / 32:Nat):Int)) (by omega)]
 by_cases hk:n / 32<a.length
 ·rw [jO (by omega)]
  have hx:=ha.getD (by decide) (n / 32)
  have c3:W.whole_right.c3 a (n:Int) Option.some=some (decide (a.getD (n / 32) 0 % 2^(n % 32)≠0)):=by
   unfold W.whole_right.c3
   rw [e1,e2,ji (x:=((n / 32:Nat):Int)) (by omega),ji (x:=32-((n % 32:Nat):Int)) (by omega),Jz (n / 32) rfl hk,jB (by simp;omega)]
   simp only [ja]
   rw [show min (32-((n % 32:Nat):Int)).toNat 32=32-n % 32 by omega,kB]
   have e3:a.getD (n / 32) 0*2^(32-n % 32) % 4294967296=2^(32-n % 32)*(a.getD (n / 32) 0 % 2^(n % 32)):=by
    rw [←hPQ,Int.mul_comm,Int.mul_comm (2^(n % 32)),Int.mul_emod_mul_of_pos _ _ hQ]
   rw [e3]
   by_cases h:a.getD (n / 32) 0 % 2^(n % 32)=0
   ·rw [h,Int.mul_zero];rfl
   ·have h1:0≤a.getD (n / 32) 0 % 2^(n % 32):=Int.emod_nonneg _ (by omega)
    have h2:0<2^(32-n % 32)*(a.getD (n / 32) 0 % 2^(n % 32)):=Int.mul_pos hQ (by omega)
    have h3:n % 32≠0:=fun e=>h (by rw [e];simp)
    rw [ko (by simp only [bne_iff_ne];omega),decide_eq_true h,decide_eq_true (by omega)]
  obtain ⟨⟨b,i0⟩,h1,h2⟩:=lost_loop (a.take (n / 32)) (ha.take _) (decide (a.getD (n / 32) 0 % 2^(n % 32)≠0)) (by rw [List.length_take];omega)
  obtain ⟨⟨i1,t⟩,h3,h4,h5,h6⟩:=right_loop a n ha la hn hk
  simp only at h2 h4 h5 h6
  have hlr:(List.replicate (a.length-n / 32) (0:Int)).length=a.length-n / 32:=List.length_replicate
  rw [c3,ja,jB (by simp;omega),ja,Int.toNat_natCast,h1,ja]
  rw [ji (by omega),jB (by simp;omega),ja,show ((a.length:Int)-((n / 32:Nat):Int)).toNat=a.length-n / 32 by omega,hlr,h3,ja]
  have hcut:=Hq 4294967296 a (n / 32) (by omega)
  have hlow:=Yk (B:=4294967296) (by decide) (ha.take (n / 32))
  have hlow0:=JT (B:=4294967296) (by decide) (ha.take (n / 32))
  rw [show (a.take (n / 32)).length=n / 32 by rw [List.length_take];omega] at hlow
  rw [h6] at hcut
  have hr0:0≤a.getD (n / 32) 0 % 2^(n % 32):=Int.emod_nonneg _ (by omega)
  have hr1:=Int.emod_lt_of_pos (a.getD (n / 32) 0) hP
  generalize a.getD (n / 32) 0 % 2^(n % 32)=r at *
  have hb1:4294967296^(n / 32)*(r+1)≤4294967296^(n / 32)*2^(n % 32):=Int.mul_le_mul_of_nonneg_left (by omega) (by omega)
  rw [Int.mul_add,Int.mul_one] at hb1
  have hb2:0≤4294967296^(n / 32)*r:=Int.mul_nonneg (by omega) hr0
  have hsum:val 4294967296 a=(val 4294967296 (a.take (n / 32))+4294967296^(n / 32)*r)+2^n*val 4294967296 t:=by
   rw [hcut,hpow];grind
  refine ⟨t,b,rfl,h5,by omega,?_,fun _=>?_⟩
  ·rw [hsum,Int.add_mul_ediv_left _ _ (by rw [hpow];exact Int.ne_of_gt (Int.mul_pos hBk hP)),Int.ediv_eq_zero_of_lt (by omega) (by rw [hpow];omega)]
   omega
  ·rw [h2,hsum,Int.add_mul_emod_self_left,Int.emod_eq_of_lt (by omega) (by rw [hpow];omega)]
   by_cases hr:r=0
   ·rw [hr];simp
   ·have:0<4294967296^(n / 32)*r:=Int.mul_pos hBk (by omega)
    rw [decide_eq_true hr,decide_eq_true (p:=_+_≠(0:Int)) (by omega)];rfl
 ·rw [jS (by omega)]
  have hlt:=Yk (B:=4294967296) (by decide) ha
  have hle:=YH (B:=4294967296) (by decide) (show a.length≤n / 32 by omega)
  have h2:4294967296^(n / 32)*1≤4294967296^(n / 32)*(2:Int)^(n % 32):=Int.mul_le_mul_of_nonneg_left (by omega) (by omega)
  refine ⟨[],_,rfl,Dig.nil,by simp,?_,fun ht=>?_⟩
  ·rw [Int.ediv_eq_zero_of_lt hv0 (by rw [hpow];omega)];rfl
  ·rw [Int.emod_eq_of_lt hv0 (by rw [hpow];omega),decide_eq_decide]
   by_cases h0:a=[]
   ·subst h0;simp [val]
   ·have h0':a.length≠0:=fun e=>h0 (List.eq_nil_of_length_eq_zero e)
    have:=Hr (by decide) ha ht h0
    have:(0:Int)<4294967296^(a.length-1):=Int.pow_pos (by decide)
    constructor<;>omega
end Go.Ql
end
section
namespace Go.Ql
theorem and_low {x:Int} (h:0≤x∧x<18446744073709551616):ibits Go.BinOp.and Go.IntKind.u64 x 4294967295=x % 4294967296:=by
 obtain ⟨a,rfl⟩:∃n:Nat,x=n:=⟨x.toNat,by omega⟩
 have e:(BitVec.ofInt IntKind.u64.bits (a:Int) &&& BitVec.ofInt IntKind.u64.bits (4294967295:Int)).toNat=a % 4294967296:=by
  rw [BitVec.toNat_and,BitVec.toNat_ofInt,BitVec.toNat_ofInt]
  have e1:((a:Int) % ((2^IntKind.u64.bits:Nat):Int)).toNat=a:=by
   show ((a:Int) % 18446744073709551616).toNat=a
   omega
  have e2:((4294967295:Int) % ((2^IntKind.u64.bits:Nat):Int)).toNat=2^32-1:=by decide
  rw [e1,e2,Nat.and_two_pow_sub_one_eq_mod]
 show IntKind.u64.wrap ((BitVec.ofInt IntKind.u64.bits (a:Int) &&& BitVec.ofInt IntKind.u64.bits (4294967295:Int)).toNat:Int)=_
 rw [e,Js (by omega)]
 omega
theorem take_ok (A v:List Int) (j:Nat) (g:Int) (hA:Dig 4294967296 A) (hv:Dig 4294967296 v) (hg:0≤g∧g<4294967296) (hj:j+v.length+1≤A.length) (hL:A.length<1000000000) :
 ∃(f:Bool) (t:List Int),W.whole_takeAway (j:Int) ((v.length+1:Nat):Int) v g A=some (f,t,())∧Dig 4294967296 t∧t.length=A.length∧(∀x,j+v.length<x→t.getD x 0=A.getD x 0) ∧
  val 4294967296 t+4294967296^j*(g*val 4294967296 v)=val 4294967296 A+4294967296^(j+v.length+1)*(if f then 1 else 0):=by
 obtain ⟨⟨bo,ca,i,t⟩,h1,hb0,hb1,hc0,hc1,hd,hl,hu,hval⟩:=JG
  (f:=fun s:Int×Int×Int×List Int↦W.whole_takeAway.ca_ (j:Int) ((v.length+1:Nat):Int) g (Prod.fst s) (Prod.fst (Prod.snd s)) v (v.length:Int) (Prod.fst (Prod.snd (Prod.snd s))) (Prod.snd (Prod.snd (Prod.snd s))) Option.some)
  (J:=fun s=>∃i:Nat,s.2.2.1=i∧i≤v.length∧0≤s.1∧s.1≤1∧0≤s.2.1∧s.2.1<4294967296∧Dig 4294967296 s.2.2.2∧s.2.2.2.length=A.length∧(∀x,j+i≤x→s.2.2.2.getD x 0=A.getD x 0) ∧
   val 4294967296 s.2.2.2+4294967296^j*(g*val 4294967296 (v.take i))=val 4294967296 A+4294967296^(j+i)*(s.1+s.2.1))
  (Q:=fun s=>0≤s.1∧s.1≤1∧0≤s.2.1∧s.2.1<4294967296∧Dig 4294967296 s.2.2.2∧s.2.2.2.length=A.length∧(∀x,j+v.length≤x→s.2.2.2.getD x 0=A.getD x 0) ∧
   val 4294967296 s.2.2.2+4294967296^j*(g*val 4294967296 v)=val 4294967296 A+4294967296^(j+v.length)*(s.1+s.2.1))
  (fun s=>v.length-s.2.2.1.toNat) (fun ⟨bo,ca,i',t⟩ ⟨i,hi,hil,hb0,hb1,hc0,hc1,hd,hl,hu,hval⟩=>by
   simp only at hi hb0 hb1 hc0 hc1 hd hl hu hval ⊢
   subst hi
   simp only [W.whole_takeAway.ca_]
   by_cases h0:i<v.length
   ·have hy:=hv.getD (by decide) i
    have hx:=hd.getD (by decide) (j+i)
    have htk:=jX 4294967296 i v
    rw [jS (by omega),Jz i rfl h0,jB (by simp;omega),show (j:Int)+(i:Int)=((j+i:Nat):Int) by omega,Jz (j+i) rfl (by omega)]
    simp only [ja,Int.toNat_natCast]
    generalize v.getD i 0=y at *
    have hset:=fun d=>kW 4294967296 d (j+i) t (by omega)
    generalize hxx:t.getD (j+i) 0=x at *
    have b1:0≤y*g:=Int.mul_nonneg hy.1 hg.1
    have b2:y*g≤4294967295*4294967295:=Int.mul_le_mul (by omega) (by omega) (by omega) (by omega)
    rw [Js (x:=y) (by omega),Js (x:=g) (by omega),Js (x:=x) (by omega),Js (x:=y*g) (by omega),Js (x:=ca+y*g) (by omega),and_low (by omega),kB,ji (by omega),show (2:Int)^32=4294967296 from rfl,show (2:Int)^63=9223372036854775808 from rfl,Int.fdiv_eq_ediv_of_nonneg _ (by decide),Int.fdiv_eq_ediv_of_nonneg _ (by decide),Vt,Vt]
    have d1:(x-(ca+y*g) % 4294967296-bo)=((x-(ca+y*g) % 4294967296) % 18446744073709551616-bo) % 18446744073709551616 % 4294967296-4294967296*(((x-(ca+y*g) % 4294967296) % 18446744073709551616-bo) % 18446744073709551616 / 9223372036854775808):=by omega
    have d2:0≤((x-(ca+y*g) % 4294967296) % 18446744073709551616-bo) % 18446744073709551616 / 9223372036854775808∧((x-(ca+y*g) % 4294967296) % 18446744073709551616-bo) % 18446744073709551616 / 9223372036854775808≤1:=by omega
    have hset':=hset (((x-(ca+y*g) % 4294967296) % 18446744073709551616-bo) % 18446744073709551616 % 4294967296)
    refine Or.inr ⟨(_,_,_,_),rfl,⟨i+1,by simp,by omega,d2.1,d2.2,by simp only;omega,by simp only;omega,hd.set (by omega) _,by simp only [List.length_set];exact hl,fun z hz=>?_,?_⟩,by simp only;omega⟩
    ·simp only
     rw [ku (by omega),if_neg (by omega)]
     exact hu z (by omega)
    ·simp only
     rw [hset',htk,show j+(i+1)=j+i+1 by omega,Int.pow_succ]
     have d3:ca+y*g=4294967296*((ca+y*g) / 4294967296)+(ca+y*g) % 4294967296:=by omega
     generalize ((x-(ca+y*g) % 4294967296) % 18446744073709551616-bo) % 18446744073709551616 / 9223372036854775808=bo' at *
     generalize ((x-(ca+y*g) % 4294967296) % 18446744073709551616-bo) % 18446744073709551616 % 4294967296=d at *
     generalize (ca+y*g) % 4294967296=cl at *
     generalize (ca+y*g) / 4294967296=ch at *
     rw [Int.pow_add] at hval ⊢
     generalize (4294967296:Int)^i=P at *
     generalize (4294967296:Int)^j=R at *
     have d4:y*g=4294967296*ch+cl-ca:=by omega
     have:R*(g*(P*y))=R*P*(y*g):=by grind
     rw [d4] at this
     have d5:d=x-cl-bo+4294967296*bo':=by omega
     subst d5
     grind
   ·have e:i=v.length:=by omega
    subst e
    rw [List.take_length] at hval
    rw [jO (by omega)]
    exact Or.inl ⟨(_,_,_,_),rfl,hb0,hb1,hc0,hc1,hd,hl,hu,hval⟩)
  (s:=((0:Int),(0:Int),(0:Int),A)) ⟨0,rfl,by omega,by simp,by simp,by simp,by simp,hA,rfl,fun _ _=>rfl,by simp [val]⟩
 simp only at hb0 hb1 hc0 hc1 hd hl hu hval
 have hx:=hd.getD (by decide) (j+v.length)
 unfold W.whole_takeAway
 rw [h1]
 simp only [ja]
 rw [jB (by simp;omega),show (j:Int)+(v.length:Int)=((j+v.length:Nat):Int) by omega,Jz (j+v.length) rfl (by omega)]
 simp only [ja,Int.toNat_natCast]
 have hset:=fun d=>kW 4294967296 d (j+v.length) t (by omega)
 generalize t.getD (j+v.length) 0=x at *
 rw [Js (x:=x) (by omega),kB,show (2:Int)^63=9223372036854775808 from rfl,Int.fdiv_eq_ediv_of_nonneg _ (by decide),Vt,Vt]
 have d1:(x-ca-bo)=((x-ca) % 18446744073709551616-bo) % 18446744073709551616 % 4294967296-4294967296*(((x-ca) % 18446744073709551616-bo) % 18446744073709551616 / 9223372036854775808):=by omega
 have d2:0≤((x-ca) % 18446744073709551616-bo) % 18446744073709551616 / 9223372036854775808∧((x-ca) % 18446744073709551616-bo) % 18446744073709551616 / 9223372036854775808≤1:=by omega
 have hset':=hset (((x-ca) % 18446744073709551616-bo) % 18446744073709551616 % 4294967296)
 refine ⟨_,_,rfl,hd.set (by omega) _,by simp only [List.length_set];exact hl,fun z hz=>?_,?_⟩
 ·rw [ku (by omega),if_neg (by omega)]
  exact hu z (by omega)
 ·rw [hset',Int.pow_succ]
  have d3:(if decide (((x-ca) % 18446744073709551616-bo) % 18446744073709551616 / 9223372036854775808>0)=true then (1:Int) else 0)=((x-ca) % 18446744073709551616-bo) % 18446744073709551616 / 9223372036854775808:=by
   generalize ((x-ca) % 18446744073709551616-bo) % 18446744073709551616 / 9223372036854775808=e at *
   rcases (by omega:e=0∨e=1) with rfl | rfl<;>rfl
  rw [d3]
  generalize ((x-ca) % 18446744073709551616-bo) % 18446744073709551616 / 9223372036854775808=bo' at *
  generalize ((x-ca) % 18446744073709551616-bo) % 18446744073709551616 % 4294967296=d at *
  generalize (4294967296:Int)^(j+v.length)=P at *
  have d5:d=x-ca-bo+4294967296*bo':=by omega
  subst d5
  grind
theorem give_ok (A v:List Int) (j:Nat) (hA:Dig 4294967296 A) (hv:Dig 4294967296 v) (hj:j+v.length+1≤A.length) (hL:A.length<1000000000) :
 ∃(t:List Int) (e:Int),W.whole_giveBack (j:Int) ((v.length+1:Nat):Int) v A=some (t,())∧Dig 4294967296 t∧t.length=A.length∧(∀x,j+v.length<x→t.getD x 0=A.getD x 0) ∧
  val 4294967296 t+4294967296^(j+v.length+1)*e=val 4294967296 A+4294967296^j*val 4294967296 v:=by
 obtain ⟨⟨c,i,t⟩,h1,hc0,hc1,hd,hl,hu,hval⟩:=JG
  (f:=fun s:Int×Int×List Int↦W.whole_giveBack.ce_ (j:Int) ((v.length+1:Nat):Int) (Prod.fst s) v (v.length:Int) (Prod.fst (Prod.snd s)) (Prod.snd (Prod.snd s)) Option.some)
  (J:=fun s=>∃i:Nat,s.2.1=i∧i≤v.length∧0≤s.1∧s.1≤1∧Dig 4294967296 s.2.2∧s.2.2.length=A.length∧(∀x,j+i≤x→s.2.2.getD x 0=A.getD x 0) ∧
   val 4294967296 s.2.2+4294967296^(j+i)*s.1=val 4294967296 A+4294967296^j*val 4294967296 (v.take i))
  (Q:=fun s=>0≤s.1∧s.1≤1∧Dig 4294967296 s.2.2∧s.2.2.length=A.length∧(∀x,j+v.length≤x→s.2.2.getD x 0=A.getD x 0) ∧
   val 4294967296 s.2.2+4294967296^(j+v.length)*s.1=val 4294967296 A+4294967296^j*val 4294967296 v)
  (fun s=>v.length-s.2.1.toNat) (fun ⟨c,i',t⟩ ⟨i,hi,hil,hc0,hc1,hd,hl,hu,hval⟩=>by
   simp only at hi hc0 hc1 hd hl hu hval ⊢
   subst hi
   simp only [W.whole_giveBack.ce_]
   by_cases h0:i<v.length
   ·have hy:=hv.getD (by decide) i
    have hx:=hd.getD (by decide) (j+i)
    have htk:=jX 4294967296 i v
    rw [jS (by omega),Jz i rfl h0,jB (by simp;omega),show (j:Int)+(i:Int)=((j+i:Nat):Int) by omega,Jz (j+i) rfl (by omega)]
    simp only [ja,Int.toNat_natCast]
    generalize v.getD i 0=y at *
    have hset:=fun d=>kW 4294967296 d (j+i) t (by omega)
    generalize hxx:t.getD (j+i) 0=x at *
    rw [add32_ok hx hy ⟨hc0,hc1⟩,ja,ji (by omega)]
    have hset':=hset ((x+y+c) % 4294967296)
    refine Or.inr ⟨(_,_,_),rfl,⟨i+1,by simp,by omega,by simp only;omega,by simp only;omega,hd.set (by omega) _,by simp only [List.length_set];exact hl,fun z hz=>?_,?_⟩,by simp only;omega⟩
    ·simp only
     rw [ku (by omega),if_neg (by omega)]
     exact hu z (by omega)
    ·simp only
     rw [hset',htk,show j+(i+1)=j+i+1 by omega,Int.pow_succ]
     have d3:x+y+c=4294967296*((x+y+c) / 4294967296)+(x+y+c) % 4294967296:=by omega
     generalize (x+y+c) / 4294967296=hh at *
     generalize (x+y+c) % 4294967296=ll at *
     rw [Int.pow_add] at hval ⊢
     generalize (4294967296:Int)^i=P at *
     generalize (4294967296:Int)^j=R at *
     have d4:y=4294967296*hh+ll-x-c:=by omega
     subst d4
     grind
   ·have e:i=v.length:=by omega
    subst e
    rw [List.take_length] at hval
    rw [jO (by omega)]
    exact Or.inl ⟨(_,_,_),rfl,hc0,hc1,hd,hl,hu,hval⟩)
  (s:=((0:Int),(0:Int),A)) ⟨0,rfl,by omega,by simp,by simp,hA,rfl,fun _ _=>rfl,by simp [val]⟩
 simp only at hc0 hc1 hd hl hu hval
 have hx:=hd.getD (by decide) (j+v.length)
 unfold W.whole_giveBack
 rw [h1]
 simp only [ja]
 rw [jB (by simp;omega),show (j:Int)+(v.length:Int)=((j+v.length:Nat):Int) by omega,Jz (j+v.length) rfl (by omega)]
 simp only [ja,Int.toNat_natCast]
 have hset:=kW 4294967296 ((t.getD (j+v.length) 0+c) % 4294967296) (j+v.length) t (by omega)
 generalize t.getD (j+v.length) 0=x at *
 rw [kB]
 refine ⟨_,(x+c) / 4294967296,rfl,hd.set (by omega) _,by simp only [List.length_set];exact hl,fun z hz=>?_,?_⟩
 ·rw [ku (by omega),if_neg (by omega)]
  exact hu z (by omega)
 ·rw [hset,Int.pow_succ,←hval]
  have d3:x+c=4294967296*((x+c) / 4294967296)+(x+c) % 4294967296:=by omega
  generalize (x+c) / 4294967296=hh at *
  generalize (x+c) % 4294967296=ll at *
  generalize (4294967296:Int)^(j+v.length)=P at *
  have d4:x=4294967296*hh+ll-c:=by omega
  subst d4
  grind
end Go.Ql
end
section
namespace Go.Ql
section
variable {W V P top v2 vl head x0 wl:Int}
structure Place (W V P top v2 vl head x0 wl:Int):Prop where
 P0:0<P
 hV:V=(top*4294967296+v2)*P+vl
 hW:W=(head*4294967296+x0)*P+wl
 top0:2147483648≤top
 top1:top<4294967296
 v20:0≤v2
 v21:v2<4294967296
 vl0:0≤vl
 vl1:vl<P
 head0:0≤head
 x00:0≤x0
 x01:x0<4294967296
 wl0:0≤wl
 wl1:wl<P
 hlt:W<V*4294967296
theorem Place.Vpos (h:Place W V P top v2 vl head x0 wl):0<V:=by
 have h1:1*P≤(top*4294967296+v2)*P:=Int.mul_le_mul_of_nonneg_right (by have:=h.top0;have:=h.v20;omega) (by have:=h.P0;omega)
 have:=h.hV;have:=h.P0;have:=h.vl0
 omega
theorem lt_of_mul {a b P:Int} (hP:0<P) (h:a*P<b*P):a<b:=Int.lt_of_mul_lt_mul_right h (Int.le_of_lt hP)
theorem Place.head_le (h:Place W V P top v2 vl head x0 wl):head≤4294967296*top+4294967295:=by
 obtain ⟨P0,hV,hW,top0,top1,v20,v21,vl0,vl1,head0,x00,x01,wl0,wl1,hlt⟩:=h
 have h1:V<(top*4294967296+v2+1)*P:=by rw [hV,Int.add_mul _ 1];omega
 have h2:(head*4294967296+x0)*P<((top*4294967296+v2+1)*4294967296)*P:=by
  have:V*4294967296≤(top*4294967296+v2+1)*P*4294967296:=by omega
  have e:(top*4294967296+v2+1)*P*4294967296=((top*4294967296+v2+1)*4294967296)*P:=by grind
  omega
 have h3:=lt_of_mul P0 h2
 omega
theorem Place.first (h:Place W V P top v2 vl head x0 wl):W / V≤head / top:=by
 have hVp:=h.Vpos
 obtain ⟨P0,hV,hW,top0,top1,v20,v21,vl0,vl1,head0,x00,x01,wl0,wl1,hlt⟩:=h
 have h0:0≤W:=by rw [hW];have:=Int.mul_nonneg (show 0≤head*4294967296+x0 by omega) (Int.le_of_lt P0);omega
 have hq:0≤W / V:=Int.ediv_nonneg h0 (by omega)
 have hqV:=Int.ediv_mul_le W (show V≠0 by omega)
 generalize W / V=q at *
 apply Int.le_ediv_of_mul_le (by omega)
 have h1:q*((top*4294967296)*P)≤q*V:=Int.mul_le_mul_of_nonneg_left (by rw [hV,Int.add_mul];have:=Int.mul_nonneg v20 (Int.le_of_lt P0);omega) hq
 have h2:W<(head*4294967296+x0+1)*P:=by rw [hW,Int.add_mul _ 1];omega
 have h3:(q*top*4294967296)*P<(head*4294967296+x0+1)*P:=by
  have e:q*((top*4294967296)*P)=(q*top*4294967296)*P:=by grind
  omega
 have h4:=lt_of_mul P0 h3
 omega
theorem Place.less (h:Place W V P top v2 vl head x0 wl) {g rest:Int} (hg:0≤g) (hr:g*top+rest=head) (hc:rest*4294967296+x0<g*v2):W / V≤g-1:=by
 have hVp:=h.Vpos
 obtain ⟨P0,hV,hW,top0,top1,v20,v21,vl0,vl1,head0,x00,x01,wl0,wl1,hlt⟩:=h
 have h1:(head*4294967296+x0+1)*P≤(g*(top*4294967296+v2))*P:=by
  apply Int.mul_le_mul_of_nonneg_right _ (Int.le_of_lt P0)
  rw [←hr,Int.mul_add]
  have:g*(top*4294967296)=g*top*4294967296:=by grind
  omega
 have h2:W<(head*4294967296+x0+1)*P:=by rw [hW,Int.add_mul _ 1];omega
 have h3:g*V=(g*(top*4294967296+v2))*P+g*vl:=by rw [hV];grind
 have h5:=Int.mul_nonneg hg vl0
 have h4:W / V<g:=Int.ediv_lt_of_lt_mul hVp (by omega)
 omega
theorem Place.last (h:Place W V P top v2 vl head x0 wl) {g rest:Int} (hg:0≤g) (hg1:g<4294967296) (hr:g*top+rest=head) (hc:g*v2≤rest*4294967296+x0):g≤W / V+1:=by
 have hVp:=h.Vpos
 obtain ⟨P0,hV,hW,top0,top1,v20,v21,vl0,vl1,head0,x00,x01,wl0,wl1,hlt⟩:=h
 have h1:(g*(top*4294967296+v2))*P≤(head*4294967296+x0)*P:=by
  apply Int.mul_le_mul_of_nonneg_right _ (Int.le_of_lt P0)
  rw [←hr,Int.mul_add]
  have:g*(top*4294967296)=g*top*4294967296:=by grind
  omega
 have h2:g*vl≤4294967295*P:=Int.mul_le_mul (by omega) (by omega) vl0 (by omega)
 have h3:(2147483648*4294967296)*P≤(top*4294967296+v2)*P:=Int.mul_le_mul_of_nonneg_right (by omega) (by omega)
 have h4:g*V=(g*(top*4294967296+v2))*P+g*vl:=by rw [hV];grind
 have h5:(g-1)*V≤W:=by
  rw [Int.sub_mul];omega
 have:=Int.le_ediv_of_mul_le hVp h5
 omega
end
end Go.Ql
end
section
namespace Go.Ql
theorem c12_ok {v t:List Int} {j:Nat} {guess rest:Int} (hv:Dig 4294967296 v) (ht:Dig 4294967296 t) (hn:2≤v.length) (hj:j+v.length+1≤t.length) (hL:t.length<1000000000)
 (hg:0≤guess) (hr:0≤rest∧rest<4294967296) :
 W.whole_quotient.c12 v (v.length:Int) (j:Int) guess rest t Option.some=some (decide (4294967296≤guess∨rest*4294967296+t.getD (j+v.length-2) 0<guess*v.getD (v.length-2) 0)):=by
 unfold W.whole_quotient.c12
 by_cases h:guess≥4294967296
 ·rw [jS h,decide_eq_true (Or.inl h)]
 ·have hy:=hv.getD (by decide) (v.length-2)
  have hx:=ht.getD (by decide) (j+v.length-2)
  have b1:0≤guess*v.getD (v.length-2) 0:=Int.mul_nonneg hg hy.1
  have b2:guess*v.getD (v.length-2) 0≤4294967295*4294967295:=Int.mul_le_mul (by omega) (by omega) hy.1 (by omega)
  rw [jO h,ji (x:=(v.length:Int)-2) (by omega),Jz (v.length-2) (by omega) (by omega),ji (x:=(j:Int)+(v.length:Int)) (by omega),ji (by omega),kE (by omega) (by omega),Jz (j+v.length-2) (by omega) (by omega)]
  simp only [ja]
  rw [or_add hr hx,Js (x:=v.getD (v.length-2) 0) (by omega),Js (by omega)]
  congr 1
  rw [decide_eq_decide]
  constructor
  ·intro h';exact Or.inr h'
  ·intro h';rcases h' with h' | h'
   ·omega
   ·exact h'
theorem guess_ok {v t:List Int} {j:Nat} {Wd V P top v2 vl head x0 wl:Int} (p:Place Wd V P top v2 vl head x0 wl) (hv:Dig 4294967296 v) (ht:Dig 4294967296 t) (hn:2≤v.length) (hj:j+v.length+1≤t.length) (hL:t.length<1000000000)
 (e2:v.getD (v.length-2) 0=v2) (e0:t.getD (j+v.length-2) 0=x0) :
 ∃r:Int×Int,iter (fun s:Int×Int↦W.whole_quotient.cr_ v (v.length:Int) top (j:Int) (Prod.fst s) (Prod.snd s) t Option.some) (IntKind.u64.wrap (Int.tdiv head top),Int.tmod head top)=some r ∧
  0≤r.1∧r.1<4294967296∧Wd / V≤r.1∧r.1≤Wd / V+1:=by
 have hle:=p.head_le
 have hfirst:=p.first
 have h0:=p.head0
 have t0:=p.top0
 have t1:=p.top1
 have x00:=p.x00
 have x01:=p.x01
 have v20:=p.v20
 have v21:=p.v21
 have hq0:0≤Wd / V:=by
  have hW0:0≤Wd:=by
   rw [p.hW]
   have:=Int.mul_nonneg (show 0≤head*4294967296+x0 by omega) (Int.le_of_lt p.P0)
   have:=p.wl0
   omega
  exact Int.ediv_nonneg hW0 (Int.le_of_lt p.Vpos)
 have hqB:Wd / V<4294967296:=Int.ediv_lt_of_lt_mul p.Vpos (by rw [Int.mul_comm];exact p.hlt)
 have hd0:0≤head / top:=Int.ediv_nonneg h0 (by omega)
 have hm0:0≤head % top:=Int.emod_nonneg _ (by omega)
 have hm1:=Int.emod_lt_of_pos head (show 0<top by omega)
 have hdm:=Int.mul_ediv_add_emod head top
 have hd1:head / top≤4294967297:=by
  rcases Int.lt_or_le 4294967297 (head / top) with h | h
  ·have:top*4294967298≤top*(head / top):=Int.mul_le_mul_of_nonneg_left (by omega) (by omega)
   omega
  ·exact h
 rw [Yi h0,Yj h0,Js (by omega)]
 exact JG
  (f:=fun s:Int×Int↦W.whole_quotient.cr_ v (v.length:Int) top (j:Int) (Prod.fst s) (Prod.snd s) t Option.some)
  (J:=fun s=>0≤s.1∧s.1≤4294967297∧0≤s.2∧s.2<4294967296∧s.1*top+s.2=head∧Wd / V≤s.1)
  (Q:=fun r=>0≤r.1∧r.1<4294967296∧Wd / V≤r.1∧r.1≤Wd / V+1)
  (fun s=>s.1.toNat) (fun ⟨g,r⟩ ⟨g0,g1,r0,r1,hgr,hq⟩=>by
   simp only at g0 g1 r0 r1 hgr hq ⊢
   simp only [W.whole_quotient.cr_]
   rw [c12_ok hv ht hn hj hL g0 ⟨r0,r1⟩,ja,e2,e0]
   by_cases h:4294967296≤g∨r*4294967296+x0<g*v2
   ·rw [jS h]
    have hg1:Wd / V≤g-1:=by
     rcases h with h | h
     ·omega
     ·exact p.less g0 hgr h
    rw [Js (x:=r+top) (by omega),Js (by omega)]
    have hgr':(g-1)*top+(r+top)=head:=by rw [Int.sub_mul];omega
    by_cases h2:r+top≥4294967296
    ·rw [jS h2]
     have hlt:g-1<4294967296:=by
      rcases Int.lt_or_le (g-1) 4294967296 with h3 | h3
      ·exact h3
      ·have:4294967296*top≤(g-1)*top:=Int.mul_le_mul_of_nonneg_right h3 (by omega)
       omega
     refine Or.inl ⟨(_,_),rfl,by simp only;omega,hlt,hg1,p.last (g:=g-1) (rest:=r+top) (by omega) hlt hgr' ?_⟩
     have:(g-1)*v2≤4294967295*4294967295:=Int.mul_le_mul (by omega) (by omega) (by omega) (by omega)
     skip
     omega
    ·rw [jO h2]
     exact Or.inr ⟨(_,_),rfl,⟨by simp only;omega,by simp only;omega,by simp only;omega,by simp only;omega,hgr',hg1⟩,by simp only;omega⟩
   ·rw [jO h]
    exact Or.inl ⟨(_,_),rfl,g0,by simp only;omega,hq,p.last (g:=g) (rest:=r) g0 (by omega) hgr (by omega)⟩)
  (s:=(head / top,head % top)) ⟨hd0,hd1,hm0,by simp only;omega,by simp only;rw [Int.mul_comm];exact hdm,hfirst⟩
end Go.Ql
end
section
namespace Go.Ql
theorem val_above {B:Int} (hB:0<B) {l:List Int} (h:Dig B l) {k:Nat} (hv:val B l<B^k):val B (l.drop k)=0:=by
 by_cases hk:k≤l.length
 ·have h1:=Hq B l k hk
  have h2:=JT (by omega) (h.take k)
  have h3:=JT (by omega) (h.drop k)
  have h4:B^k*val B (l.drop k)<B^k*1:=by omega
  have:=Int.lt_of_mul_lt_mul_left h4 (Int.le_of_lt (pow_pos hB k))
  omega
 ·rw [List.drop_eq_nil_of_le (by omega)];rfl
theorem val_upto {B:Int} (hB:0<B) {l:List Int} (h:Dig B l) {k:Nat} (hk:k≤l.length) (hv:val B l<B^k):val B l=val B (l.take k):=by
 have:=Hq B l k hk
 rw [val_above hB h hv] at this
 simpa using this
theorem same_above {B:Int} (hB:0<B) {t t1:List Int} {k:Nat} (ht:Dig B t) (h1:Dig B t1) (hl:t1.length=t.length) (hk:k≤t.length) (hs:∀x,k≤x→t1.getD x 0=t.getD x 0) (hv:val B t<B^k):val B t1<B^k:=by
 have hz:=val_above hB ht hv
 have hcut1:=Hq B t1 k (by omega)
 have e:t1.drop k=t.drop k:=by
  apply List.ext_getElem (by simp only [List.length_drop];omega)
  intro i h1 h2
  have:=hs (k+i) (by omega)
  rw [List.length_drop] at h1 h2
  simp only [List.getElem_drop]
  simp only [List.getD,List.getElem?_eq_getElem (show k+i<t1.length by omega),List.getElem?_eq_getElem (show k+i<t.length by omega),Option.getD_some] at this
  exact this
 have:=Yk hB (h1.take k)
 rw [show (t1.take k).length=k by rw [List.length_take];omega] at this
 rw [e,hz] at hcut1
 omega
theorem digit_ok {v t q:List Int} {j:Nat} (hv:Dig 4294967296 v) (ht:Dig 4294967296 t) (hn:2≤v.length) (hj:j+v.length+1≤t.length) (hL:t.length<1000000000)
 (htop:2147483648≤v.getD (v.length-1) 0) (hq:j<q.length) (hlt:val 4294967296 t<val 4294967296 v*4294967296^(j+1)) :
 ∃(g:Int) (t':List Int),W.whole_quotient.ch_ v (v.length:Int) (v.getD (v.length-1) 0) (j:Int) t q Option.some=some (.inl ((j:Int)-1,t',q.set j g))∧0≤g∧g<4294967296 ∧
  Dig 4294967296 t'∧t'.length=t.length∧val 4294967296 t=4294967296^j*(g*val 4294967296 v)+val 4294967296 t'∧val 4294967296 t'<val 4294967296 v*4294967296^j:=by
 have hB:(0:Int)<4294967296:=by decide
 have hBj:=pow_pos hB j
 have hVlt:=Yk hB hv
 have hVnn:=JT (B:=4294967296) (by decide) hv
 have hcut:=Hq 4294967296 t j (by omega)
 have hlow:=Yk hB (ht.take j)
 have hlow0:=JT (B:=4294967296) (by decide) (ht.take j)
 rw [show (t.take j).length=j by rw [List.length_take];omega] at hlow
 
 have hWlt:val 4294967296 (t.drop j)<val 4294967296 v*4294967296:=by
  have:4294967296^j*val 4294967296 (t.drop j)<4294967296^j*(val 4294967296 v*4294967296):=by
   rw [Int.pow_succ] at hlt
   have e:4294967296^j*(val 4294967296 v*4294967296)=val 4294967296 v*(4294967296^j*4294967296):=by grind
   omega
  exact Int.lt_of_mul_lt_mul_left this (Int.le_of_lt hBj)
 have hWp:val 4294967296 (t.drop j)<4294967296^(v.length+1):=by
  rw [Int.pow_succ]
  have:val 4294967296 v*4294967296≤4294967296^v.length*4294967296:=by omega
  omega
 have hWup:=val_upto hB (ht.drop j) (k:=v.length+1) (by rw [List.length_drop];omega) hWp
 have w1:=jX 4294967296 v.length (t.drop j)
 have w2:=jX 4294967296 (v.length-1) (t.drop j)
 have w3:=jX 4294967296 (v.length-2) (t.drop j)
 have v1:=jX 4294967296 (v.length-1) v
 have v2:=jX 4294967296 (v.length-2) v
 rw [show v.length-1+1=v.length by omega] at w2 v1
 rw [show v.length-2+1=v.length-1 by omega] at w3 v2
 rw [List.take_length] at v1
 have hwl:=Yk hB ((ht.drop j).take (v.length-2))
 have hwl0:=JT (B:=4294967296) (by decide) ((ht.drop j).take (v.length-2))
 rw [show ((t.drop j).take (v.length-2)).length=v.length-2 by rw [List.length_take,List.length_drop];omega] at hwl
 have hvl:=Yk hB (hv.take (v.length-2))
 have hvl0:=JT (B:=4294967296) (by decide) (hv.take (v.length-2))
 rw [show (v.take (v.length-2)).length=v.length-2 by rw [List.length_take];omega] at hvl
 rw [getD_drop] at w1 w2 w3
 have hp1:(4294967296:Int)^(v.length-1)=4294967296^(v.length-2)*4294967296:=by rw [←Int.pow_succ];congr 1;omega
 have hp2:(4294967296:Int)^v.length=4294967296^(v.length-2)*4294967296*4294967296:=by rw [←Int.pow_succ,←Int.pow_succ];congr 1;omega
 have d2:=ht.getD hB (j+v.length)
 have d1:=ht.getD hB (j+(v.length-1))
 have d0:=ht.getD hB (j+(v.length-2))
 have e2:=hv.getD hB (v.length-2)
 have e1:=hv.getD hB (v.length-1)
 have pl:Place (val 4294967296 (t.drop j)) (val 4294967296 v) (4294967296^(v.length-2)) (v.getD (v.length-1) 0) (v.getD (v.length-2) 0) (val 4294967296 (v.take (v.length-2)))
  (t.getD (j+v.length) 0*4294967296+t.getD (j+(v.length-1)) 0) (t.getD (j+(v.length-2)) 0) (val 4294967296 ((t.drop j).take (v.length-2))):=
  { P0:=pow_pos hB _,hV:=(by rw [v1,v2,hp1];grind),hW:=(by rw [hWup,w1,w2,w3,hp1,hp2];grind),top0:=htop,top1:=e1.2,v20:=e2.1,v21:=e2.2,vl0:=hvl0,vl1:=hvl,head0:=(by omega),x00:=d0.1,x01:=d0.2,wl0:=hwl0,wl1:=hwl,hlt:=hWlt }
 obtain ⟨⟨g,gr⟩,k1,g0,g1,g2,g3⟩:=guess_ok pl hv ht hn hj hL rfl (by congr 1;omega)
 simp only at g0 g1 g2 g3
 have hVp:=pl.Vpos
 have c10:W.whole_quotient.c10 (v.length:Int) (j:Int) t Option.some=some (t.getD (j+v.length) 0*4294967296+t.getD (j+(v.length-1)) 0):=by
  unfold W.whole_quotient.c10
  rw [ji (x:=(j:Int)+(v.length:Int)) (by omega),ji (x:=(j:Int)+(v.length:Int)-1) (by omega),kE (by omega) (by omega),Jz (j+v.length) (by omega) (by omega),kE (by omega) (by omega),Jz (j+(v.length-1)) (by omega) (by omega)]
  simp only [ja]
  rw [Js (x:=t.getD (j+v.length) 0) (by omega),or_add d2 d1]
 have c11:W.whole_quotient.c11 (v.getD (v.length-1) 0) Option.some=some ():=by
  unfold W.whole_quotient.c11
  rw [jB (bne_iff_ne.2 (by omega))];rfl
 simp only [W.whole_quotient.ch_]
 rw [jS (by omega),c10,ja,c11,ja,k1,ja]
 
 obtain ⟨f,t1,m1,m2,m3,m4,m5⟩:=take_ok t v j g ht hv ⟨g0,g1⟩ hj hL
 have hdm:=Int.mul_ediv_add_emod (val 4294967296 (t.drop j)) (val 4294967296 v)
 have hm0:=Int.emod_nonneg (val 4294967296 (t.drop j)) (show val 4294967296 v≠0 by omega)
 have hm1:=Int.emod_lt_of_pos (val 4294967296 (t.drop j)) hVp
 have hQ0:0≤val 4294967296 (t.drop j) / val 4294967296 v:=Int.ediv_nonneg (JT (by decide) (ht.drop j)) (Int.le_of_lt hVp)
 generalize hQ:val 4294967296 (t.drop j) / val 4294967296 v=Q at *
 generalize hR:val 4294967296 (t.drop j) % val 4294967296 v=R at *
 generalize hW':val 4294967296 (t.drop j)=Wd at *
 generalize hV':val 4294967296 v=V at *
 have hval:val 4294967296 t=val 4294967296 (t.take j)+4294967296^j*R+4294967296^j*(Q*V):=by
  rw [hcut,←hdm];grind
 generalize hlo:val 4294967296 (t.take j)=low at *
 have hrem0:0≤4294967296^j*R:=Int.mul_nonneg (by omega) hm0
 have hrem1:4294967296^j*(R+1)≤4294967296^j*V:=Int.mul_le_mul_of_nonneg_left (by omega) (by omega)
 rw [Int.mul_add,Int.mul_one] at hrem1
 have hbig:val 4294967296 t<4294967296^(j+v.length+1):=by
  rw [show j+v.length+1=j+(v.length+1) by omega,Int.pow_add]
  have h1:4294967296^j*(Wd+1)≤4294967296^j*4294967296^(v.length+1):=Int.mul_le_mul_of_nonneg_left (by omega) (by omega)
  rw [Int.mul_add] at h1
  omega
 have hbig2:4294967296^j*V<4294967296^(j+v.length+1):=by
  rw [show j+v.length+1=j+(v.length+1) by omega,Int.pow_add,Int.pow_succ]
  have h1:4294967296^j*(V+1)≤4294967296^j*(4294967296^v.length*4294967296):=Int.mul_le_mul_of_nonneg_left (by omega) (by omega)
  rw [Int.mul_add] at h1
  omega
 have hn1:=JT (B:=4294967296) (by decide) m2
 have hu1:val 4294967296 t1<4294967296^(j+v.length+1):=same_above hB ht m2 m3 (by omega) (fun x hx=>m4 x (by omega)) hbig
 have hcom:Q*V=V*Q:=Int.mul_comm ..
 have hcomV:V*4294967296^j=4294967296^j*V:=Int.mul_comm ..
 rcases (by omega:g=Q∨g=Q+1) with hg | hg
 ·subst hg
  have hf:f=false:=by
   cases f with
   | false=>rfl
   | true=>simp only [if_true,Int.mul_one] at m5;omega
  subst hf
  simp only [Bool.false_eq_true,if_false,Int.mul_zero,Int.add_zero] at m5
  refine ⟨g,t1,?_,g0,g1,m2,m3,by omega,by omega⟩
  have c26:W.whole_quotient.cK_ v (v.length:Int) (j:Int) g t Option.some=some (g,t1):=by
   unfold W.whole_quotient.cK_
   rw [ji (x:=(j:Int)+(v.length:Int)) (by omega),ji (x:=(j:Int)+(v.length:Int)+1) (by omega),jB (by simp;omega),ja,show (j:Int)+(v.length:Int)+1-(j:Int)=((v.length+1:Nat):Int) by omega,YC (by omega),m1,ja]
   rfl
  rw [c26,ja,kE (by omega) (by omega),ja,Jz j rfl hq,ja,ji (by omega),YC (by omega),Int.toNat_natCast]
 ·subst hg
  rw [Int.add_mul,Int.one_mul,Int.mul_add] at m5
  have hf:f=true:=by
   cases f with
   | true=>rfl
   | false=>simp only [Bool.false_eq_true,if_false,Int.mul_zero,Int.add_zero] at m5;omega
  subst hf
  simp only [if_true,Int.mul_one] at m5
  obtain ⟨t2,e,n1,n2,n3,n4,n5⟩:=give_ok t1 v j m2 hv (by omega) (by omega)
  rw [hV'] at n5
  have hn2:=JT (B:=4294967296) (by decide) n2
  have hu2:val 4294967296 t2<4294967296^(j+v.length+1):=same_above hB ht n2 (by omega) (by omega) (fun x hx=>by rw [n4 x (by omega),m4 x (by omega)]) hbig
  generalize hPP:(4294967296:Int)^(j+v.length+1)=PP at *
  have he:e=1:=by
   rcases Int.lt_trichotomy e 1 with h | h | h
   ·have:PP*e≤PP*0:=Int.mul_le_mul_of_nonneg_left (by omega) (by omega)
    omega
   ·exact h
   ·have:PP*2≤PP*e:=Int.mul_le_mul_of_nonneg_left (by omega) (by omega)
    omega
  subst he
  refine ⟨Q,t2,?_,by omega,by omega,n2,by omega,by omega,by omega⟩
  have c26:W.whole_quotient.cK_ v (v.length:Int) (j:Int) (Q+1) t Option.some=some (Q,t2):=by
   unfold W.whole_quotient.cK_
   rw [ji (x:=(j:Int)+(v.length:Int)) (by omega),ji (x:=(j:Int)+(v.length:Int)+1) (by omega),jB (by simp;omega),ja,show (j:Int)+(v.length:Int)+1-(j:Int)=((v.length+1:Nat):Int) by omega,YC (by omega),m1,ja]
   simp only [br_tt]
   rw [jB (by simp;omega),ja,n1,ja,Js (by omega)]
   simp only [Int.add_sub_cancel]
  rw [c26,ja,kE (by omega) (by omega),ja,Jz j rfl hq,ja,ji (by omega),YC (by simp only;omega),Int.toNat_natCast]
end Go.Ql
end
section
namespace Go.Ql
theorem u8_small {x:Int} (h:0≤x∧x<256):IntKind.u8.wrap x=x:=IntWalk.u8_in _ (by omega)
def lens:List UInt8:=(List.range 256).map fun n=>UInt8.ofNat (if n=0 then 0 else Nat.log2 n+1)
theorem lens_ok:∀n:Fin 256,0<n.val → ∃k:Fin 9,lens[n.val]?=some (UInt8.ofNat k.val)∧1≤k.val∧2^(k.val-1)≤n.val∧n.val<2^k.val:=by decide +kernel
theorem idx_nat {α:Type} {xs:List α} {i:Int} (n:Nat) (hi:i=n) {x:α} (h:xs[n]?=some x):idx xs i=some x:=by
 subst hi;unfold idx;simp [h]
theorem len_ok {x:Int} (h:0<x∧x<4294967296):∃k:Nat,W.Ja x=some (k:Int)∧1≤k∧k≤32∧2^(k-1)≤x∧x<2^k:=by
 have key:∀(T:List UInt8),T=lens → ∀(sh:Nat) (y:Int),sh≤24→y=x / 2^sh→0<y→y<256 → ∃k:Nat,(bnd (idx T (IntKind.u8.wrap y)) fun y_2=>some (IntKind.i64.wrap ((sh:Int)+IntKind.i64.wrap (UInt8.toNat y_2:Int))))=some (k:Int)∧1≤k∧k≤32∧2^(k-1)≤x∧x<2^k:=by
  intro T hT sh y hsh hy h0 h1
  subst hT
  obtain ⟨k,e1,e2,e3,e4⟩:=lens_ok ⟨y.toNat,by omega⟩ (by simp;omega)
  simp only at e1 e2 e3 e4
  have hk:=k.isLt
  have hP:(0:Int)<2^sh:=Int.pow_pos (by decide)
  have hdm:=Int.mul_ediv_add_emod x (2^sh)
  have hm0:=Int.emod_nonneg x (show (2:Int)^sh≠0 by omega)
  have hm1:=Int.emod_lt_of_pos x hP
  rw [←hy] at hdm
  have f3:(2:Int)^(k.val-1)≤y:=by have:((2^(k.val-1):Nat):Int)≤(y.toNat:Int):=by omega
                                  rw [Int.natCast_pow] at this;simp at this;omega
  have f4:y+1≤(2:Int)^k.val:=by have:(y.toNat:Int)<((2^k.val:Nat):Int):=by omega
                                rw [Int.natCast_pow] at this;simp at this;omega
  have g3:(2:Int)^sh*2^(k.val-1)≤2^sh*y:=Int.mul_le_mul_of_nonneg_left f3 (by omega)
  have g4:(2:Int)^sh*(y+1)≤2^sh*2^k.val:=Int.mul_le_mul_of_nonneg_left f4 (by omega)
  rw [Int.mul_add,Int.mul_one] at g4
  rw [←Int.pow_add] at g3 g4
  refine ⟨sh+k.val,?_,by omega,by omega,?_,?_⟩
  ·rw [u8_small (by omega),idx_nat y.toNat (by omega) e1,ja]
   have:(UInt8.ofNat k.val).toNat=k.val:=by simp;omega
   rw [this,ji (x:=(k.val:Int)) (by omega),ji (by omega)]
   congr 1
  ·rw [show sh+k.val-1=sh+(k.val-1) by omega];omega
  ·omega
 unfold W.Ja W.Ja.cp_
 have l16:(2:Int)^16=65536:=rfl
 have l8:(2:Int)^8=256:=rfl
 by_cases h1:x≥65536
 ·rw [jS h1,ja]
  simp only
  rw [l16,Int.fdiv_eq_ediv_of_nonneg _ (by decide)]
  unfold W.Ja.cz_
  by_cases h2:x / 65536≥256
  ·rw [jS h2,ja,l8,Int.fdiv_eq_ediv_of_nonneg _ (by decide)]
   exact key _ (by decide +kernel) 24 _ (by decide) (by rw [show (2:Int)^24=16777216 from rfl];omega) (by omega) (by omega)
  ·rw [jO h2,ja]
   exact key _ (by decide +kernel) 16 _ (by decide) (by rw [l16]) (by omega) (by omega)
 ·rw [jO h1,ja]
  simp only
  unfold W.Ja.cz_
  by_cases h2:x≥256
  ·rw [jS h2,ja,l8,Int.fdiv_eq_ediv_of_nonneg _ (by decide)]
   exact key _ (by decide +kernel) 8 _ (by decide) (by rw [l8]) (by omega) (by omega)
  ·rw [jO h2,ja]
   exact key _ (by decide +kernel) 0 _ (by decide) (by simp) (by omega) (by omega)
theorem zeros_ok {x:Int} (h:0<x∧x<4294967296):∃s:Nat,W.JC x=some (s:Int)∧s<32∧2147483648≤x*2^s∧x*2^s+2^s≤4294967296:=by
 obtain ⟨k,h1,h2,h3,h4,h5⟩:=len_ok h
 refine ⟨32-k,?_,by omega,?_,?_⟩
 ·unfold W.JC
  rw [h1,ja,ji (by omega)]
  congr 1;omega
 ·have:=Int.mul_le_mul_of_nonneg_right h4 (show (0:Int)≤2^(32-k) from Int.le_of_lt (Int.pow_pos (by decide)))
  rw [←Int.pow_add,show k-1+(32-k)=31 by omega] at this
  exact this
 ·have:=Int.mul_le_mul_of_nonneg_right (show x+1≤2^k by omega) (show (0:Int)≤2^(32-k) from Int.le_of_lt (Int.pow_pos (by decide)))
  rw [←Int.pow_add,show k+(32-k)=32 by omega,Int.add_mul,Int.one_mul] at this
  exact this
theorem quotient_ok (a b:List Int) (ha:Dig 4294967296 a) (hb:Dig 4294967296 b) (tb:Trim b) (hn:2≤b.length) (la:a.length<1000000) (lb:b.length<1000000) :
 ∃q r,W.whole_quotient a b=some (q,r)∧Dig 4294967296 q∧Dig 4294967296 r∧q.length≤a.length+1∧r.length≤a.length+1 ∧
  val 4294967296 q=val 4294967296 a / val 4294967296 b∧val 4294967296 r=val 4294967296 a % val 4294967296 b:=by
 have hB:(0:Int)<4294967296:=by decide
 have hne:b≠[]:=fun e=>by rw [e] at hn;simp at hn
 have ht0:=tb hne
 have hd0:=hb.getD hB (b.length-1)
 obtain ⟨s,s1,s2,s3,s4⟩:=zeros_ok (x:=b.getD (b.length-1) 0) (by omega)
 obtain ⟨u,u1,u2,u3,u4⟩:=left_ok a s ha (by omega) (by omega)
 obtain ⟨w,w1,w2,w3,w4⟩:=left_ok b s hb (by omega) (by omega)
 have hs0:s / 32=0:=by omega
 rw [hs0] at u3 w3
 have hS:(0:Int)<2^s:=Int.pow_pos (by decide)
 have hBn:=pow_pos hB (b.length-1)
 have hpn:(4294967296:Int)^b.length=4294967296^(b.length-1)*4294967296:=by rw [←Int.pow_succ];congr 1;omega
 have hbt:=jX 4294967296 (b.length-1) b
 rw [show b.length-1+1=b.length by omega,List.take_length] at hbt
 have hlo:=Yk hB (hb.take (b.length-1))
 have hlo0:=JT (B:=4294967296) (by decide) (hb.take (b.length-1))
 rw [show (b.take (b.length-1)).length=b.length-1 by rw [List.length_take];omega] at hlo
 have hbpos:0<val 4294967296 b:=by
  have:(4294967296:Int)^(b.length-1)*1≤4294967296^(b.length-1)*b.getD (b.length-1) 0:=Int.mul_le_mul_of_nonneg_left (by omega) (by omega)
  omega
 
 have hwlt:val 4294967296 w<4294967296^b.length:=by
  rw [w4,hbt,hpn]
  have h1:(val 4294967296 (b.take (b.length-1))+1)*2^s≤4294967296^(b.length-1)*2^s:=Int.mul_le_mul_of_nonneg_right (by omega) (by omega)
  have h2:4294967296^(b.length-1)*(b.getD (b.length-1) 0*2^s+2^s)≤4294967296^(b.length-1)*4294967296:=Int.mul_le_mul_of_nonneg_left s4 (by omega)
  rw [Int.add_mul,Int.one_mul] at h1
  rw [Int.mul_add] at h2
  rw [Int.add_mul,Int.mul_assoc (4294967296^(b.length-1))]
  omega
 have hvval:=val_upto hB w2 (k:=b.length) (by omega) hwlt
 have hvd:=w2.take b.length
 have hvl:(w.take b.length).length=b.length:=by rw [List.length_take];omega
 generalize hvv:w.take b.length=v at *
 rw [w4] at hvval
 have hvt:=jX 4294967296 (v.length-1) v
 rw [show v.length-1+1=v.length by omega,List.take_length,hvl] at hvt
 have hvlo:=Yk hB (hvd.take (b.length-1))
 rw [show (v.take (b.length-1)).length=b.length-1 by rw [List.length_take];omega] at hvlo
 have hvtop:2147483648≤v.getD (v.length-1) 0:=by
  have h1:4294967296^(b.length-1)*2147483648≤4294967296^(b.length-1)*(b.getD (b.length-1) 0*2^s):=Int.mul_le_mul_of_nonneg_left s3 (by omega)
  have h2:0≤val 4294967296 (b.take (b.length-1))*2^s:=Int.mul_nonneg hlo0 (by omega)
  rw [←hvval,hbt,Int.add_mul,Int.mul_assoc (4294967296^(b.length-1))] at hvt
  have h3:4294967296^(b.length-1)*2147483648<4294967296^(b.length-1)*(v.getD (b.length-1) 0+1):=by rw [Int.mul_add (4294967296^(b.length-1)) _ 1];omega
  have:=Int.lt_of_mul_lt_mul_left h3 (Int.le_of_lt hBn)
  rw [hvl];omega
 have c2:W.whole_quotient.c2 a b (s:Int) Option.some=some (v,u):=by
  unfold W.whole_quotient.c2
  rw [u1,ja,w1,ja,jB (by simp;omega),ja]
  simp only [Int.toNat_natCast,hvv]
 have hvdt:=hvd.getD hB (v.length-1)
 have c3:W.whole_quotient.c3 v Option.some=some (v.getD (v.length-1) 0):=by
  unfold W.whole_quotient.c3
  rw [ji (by omega),Jz (v.length-1) (by omega) (by omega),ja,Js (by omega)]
 unfold W.whole_quotient
 rw [ji (x:=(b.length:Int)-1) (by omega),Jz (b.length-1) (by omega) (by omega),ja,s1,ja,c2,ja]
 simp only
 rw [c3,ja]
 have hann:=JT (B:=4294967296) (by decide) ha
 by_cases hsh:u.length≤v.length
 ·rw [jS (by omega)]
  have h1:=Yk hB ha
  have h2:=YH (B:=4294967296) (by decide) (show a.length≤b.length-1 by omega)
  have h3:(4294967296:Int)^(b.length-1)*1≤4294967296^(b.length-1)*b.getD (b.length-1) 0:=Int.mul_le_mul_of_nonneg_left (by omega) (by omega)
  refine ⟨[],a,rfl,Dig.nil,ha,by simp,by omega,?_,?_⟩
  ·rw [Int.ediv_eq_zero_of_lt hann (by omega)];rfl
  ·rw [Int.emod_eq_of_lt hann (by omega)]
 ·rw [jO (by omega)]
  obtain ⟨⟨j,t,q⟩,l1,l2,l3,l4,l5,l6,l7⟩:=JG
   (f:=fun s:Int×List Int×List Int↦W.whole_quotient.ch_ v (v.length:Int) (v.getD (v.length-1) 0) (Prod.fst s) (Prod.fst (Prod.snd s)) (Prod.snd (Prod.snd s)) Option.some)
   (J:=fun s=>∃k:Nat,s.1=(k:Int)-1∧k≤u.length-v.length∧Dig 4294967296 s.2.1∧s.2.1.length=u.length∧Dig 4294967296 s.2.2∧s.2.2.length=u.length-v.length∧(∀x,x<k→s.2.2.getD x 0=0) ∧
    val 4294967296 u=val 4294967296 s.2.1+val 4294967296 v*val 4294967296 s.2.2∧val 4294967296 s.2.1<val 4294967296 v*4294967296^k)
   (Q:=fun s=>Dig 4294967296 s.2.1∧s.2.1.length=u.length∧Dig 4294967296 s.2.2∧s.2.2.length=u.length-v.length ∧
    val 4294967296 u=val 4294967296 s.2.1+val 4294967296 v*val 4294967296 s.2.2∧val 4294967296 s.2.1<val 4294967296 v)
   (fun s=>(s.1+1).toNat) (fun ⟨j',t,q⟩ ⟨k,k1,k2,k3,k4,k5,k6,k7,k8,k9⟩=>by
    simp only at k1 k3 k4 k5 k6 k7 k8 k9 ⊢
    subst k1
    cases k with
    | zero=>
      refine Or.inl ⟨(((0:Nat):Int)-1,t,q),?_,k3,k4,k5,k6,k8,by simpa using k9⟩
      simp only [W.whole_quotient.ch_]
      rw [jO (by omega)]
    | succ k=>
      rw [show ((k+1:Nat):Int)-1=(k:Int) by omega]
      obtain ⟨g,t',g1,g2,g3,g4,g5,g6,g7⟩:=digit_ok (q:=q) hvd k3 (by omega) (j:=k) (by omega) (by omega) hvtop (by omega) k9
      refine Or.inr ⟨_,g1,⟨k,rfl,by omega,g4,by simp only;omega,k5.set ⟨g2,g3⟩ k,by simp only [List.length_set];exact k6,fun x hx=>?_,?_,g7⟩,by simp only;omega⟩
      ·simp only
       rw [ku (by omega),if_neg (by omega)]
       exact k7 x (by omega)
      ·simp only
       rw [kW _ _ _ _ (by omega),k7 k (by omega),k8,g6]
       grind)
   (s:=(((u.length-v.length:Nat):Int)-1,u,List.replicate (u.length-v.length) 0))
   ⟨u.length-v.length,rfl,Nat.le_refl _,u2,rfl,Dig.replicate hB _,by simp,fun x _=>kS _ _,by simp [Ya],by
    simp only
    have h1:=Yk hB ha
    have h2:4294967296^(b.length-1)*2147483648≤val 4294967296 v:=by
     rw [hvt]
     have h1:4294967296^(b.length-1)*2147483648≤4294967296^(b.length-1)*v.getD (b.length-1) 0:=Int.mul_le_mul_of_nonneg_left (by rw [hvl] at hvtop;exact hvtop) (by omega)
     have:=JT (B:=4294967296) (by decide) (hvd.take (b.length-1))
     omega
    have h3:(2:Int)^s≤2147483648:=YH (by decide) (show s≤31 by omega)
    have h4:val 4294967296 a*2^s≤val 4294967296 a*2147483648:=Int.mul_le_mul_of_nonneg_left h3 hann
    have h5:(4294967296^(b.length-1)*2147483648)*4294967296^(u.length-v.length)≤val 4294967296 v*4294967296^(u.length-v.length):=Int.mul_le_mul_of_nonneg_right h2 (Int.le_of_lt (pow_pos hB _))
    have h6:(4294967296:Int)^a.length=4294967296^(b.length-1)*4294967296^(u.length-v.length):=by rw [←Int.pow_add];congr 1;omega
    rw [u4]
    have h7:(4294967296^(b.length-1)*2147483648:Int)*4294967296^(u.length-v.length)=4294967296^a.length*2147483648:=by rw [h6];grind
    omega⟩
  simp only at l2 l3 l4 l5 l6 l7
  rw [ji (x:=(u.length:Int)-(v.length:Int)) (by omega),ji (by omega),jB (by simp;omega),ja,show ((u.length:Int)-(v.length:Int))=((u.length-v.length:Nat):Int) by omega,Int.toNat_natCast,l1,ja]
  obtain ⟨r,lost,r1,r2,r3,r4,_⟩:=right_ok t s l2 (by omega) (by omega)
  simp only
  rw [r1,ja]
  have hr:val 4294967296 t=(val 4294967296 a-val 4294967296 b*val 4294967296 q)*2^s:=by
   rw [u4,←hvval] at l6
   rw [Int.sub_mul]
   have:val 4294967296 b*2^s*val 4294967296 q=val 4294967296 b*val 4294967296 q*2^s:=by grind
   omega
  rw [hr,Int.mul_ediv_cancel _ (show (2:Int)^s≠0 by omega)] at r4
  have ht0':=JT (B:=4294967296) (by decide) l2
  have hx0:0≤val 4294967296 a-val 4294967296 b*val 4294967296 q:=by
   rw [←r4];exact JT (by decide) r2
  have hx1:val 4294967296 a-val 4294967296 b*val 4294967296 q<val 4294967296 b:=by
   rw [hr,←hvval] at l7
   exact Int.lt_of_mul_lt_mul_right l7 (Int.le_of_lt hS)
  have hdm:=Int.mul_ediv_add_emod (val 4294967296 a) (val 4294967296 b)
  have hx:val 4294967296 a=(val 4294967296 a-val 4294967296 b*val 4294967296 q)+val 4294967296 b*val 4294967296 q:=by omega
  refine ⟨q,r,rfl,l4,r2,by omega,by omega,?_,?_⟩
  ·generalize val 4294967296 a-val 4294967296 b*val 4294967296 q=x at *
   rw [hx,Int.add_mul_ediv_left _ _ (by omega),Int.ediv_eq_zero_of_lt hx0 hx1];omega
  ·rw [r4]
   generalize val 4294967296 a-val 4294967296 b*val 4294967296 q=x at *
   rw [hx,Int.add_mul_emod_self_left,Int.emod_eq_of_lt hx0 hx1]
end Go.Ql
end
section
namespace Go.Ql
theorem div32_ok {hi lo y:Int} (hy:0<y∧y<4294967296) (hh:0≤hi∧hi<y) (hl:0≤lo∧lo<4294967296) :
 W.jM hi lo y=some ((hi*4294967296+lo) / y,(hi*4294967296+lo) % y):=by
 unfold W.jM W.jM.cy_ W.jM.c1 W.jM.c4
 have e:(y !=0)=true:=by simp;omega
 rw [Js (x:=y) (by omega),Js (x:=hi) (by omega),or_add (by omega) hl,e]
 simp only [br_tt,ja,jB]
 rw [jO (by omega),ja,Yi (by omega),Yj (by omega)]
 have h1:(hi*4294967296+lo) / y<4294967296:=Int.ediv_lt_of_lt_mul hy.1 (by
  have:4294967296*(hi+1)≤4294967296*y:=by omega
  omega)
 have h0:0≤(hi*4294967296+lo) / y:=Int.ediv_nonneg (by omega) (by omega)
 have h2:=Int.emod_nonneg (hi*4294967296+lo) (show y≠0 by omega)
 have h3:=Int.emod_lt_of_pos (hi*4294967296+lo) hy.1
 rw [Js (by omega),YC (by omega),YC (by omega)]
theorem short_ok (a:List Int) (d:Int) (ha:Dig 4294967296 a) (la:a.length<1000000) (hd:0<d∧d<4294967296) :
 ∃q r,W.whole_short a d=some (q,r)∧Dig 4294967296 q∧q.length=a.length∧0≤r∧r<d∧val 4294967296 a=d*val 4294967296 q+r:=by
 have hB:(0:Int)<4294967296:=by decide
 obtain ⟨⟨r,j,t⟩,l1,l2,l3,l4,l5,l6⟩:=JG
  (f:=fun s:Int×Int×List Int↦W.whole_short.cb_ a d (Prod.fst s) (Prod.fst (Prod.snd s)) (Prod.snd (Prod.snd s)) Option.some)
  (J:=fun s=>∃k:Nat,s.2.1=(k:Int)-1∧k≤a.length∧0≤s.1∧s.1<d∧Dig 4294967296 s.2.2∧s.2.2.length=a.length∧(∀x,x<k→s.2.2.getD x 0=0) ∧
   val 4294967296 a=val 4294967296 (a.take k)+d*val 4294967296 s.2.2+4294967296^k*s.1)
  (Q:=fun s=>0≤s.1∧s.1<d∧Dig 4294967296 s.2.2∧s.2.2.length=a.length∧val 4294967296 a=d*val 4294967296 s.2.2+s.1)
  (fun s=>(s.2.1+1).toNat) (fun ⟨r,j',t⟩ ⟨k,k1,k2,k3,k4,k5,k6,k7,k8⟩=>by
   simp only at k1 k3 k4 k5 k6 k7 k8 ⊢
   subst k1
   simp only [W.whole_short.cb_]
   cases k with
   | zero=>
     rw [jO (by omega)]
     refine Or.inl ⟨(_,_,_),rfl,k3,k4,k5,k6,?_⟩
     simpa [val] using k8
   | succ k=>
     rw [show ((k+1:Nat):Int)-1=(k:Int) by omega,jS (by omega)]
     have hx:=ha.getD hB k
     have htk:=jX 4294967296 k a
     have hdm:=Int.mul_ediv_add_emod (r*4294967296+a.getD k 0) d
     have h1:(r*4294967296+a.getD k 0) / d<4294967296:=Int.ediv_lt_of_lt_mul hd.1 (by
      have:4294967296*(r+1)≤4294967296*d:=by omega
      omega)
     have h0:0≤(r*4294967296+a.getD k 0) / d:=Int.ediv_nonneg (by omega) (by omega)
     have h2:=Int.emod_nonneg (r*4294967296+a.getD k 0) (show d≠0 by omega)
     have h3:=Int.emod_lt_of_pos (r*4294967296+a.getD k 0) hd.1
     rw [Jz k rfl (by omega),ja,div32_ok hd ⟨k3,k4⟩ hx,ja,kE (by omega) (by omega),ja,Jz k rfl (by omega),ja,ji (by omega),Int.toNat_natCast]
     generalize (r*4294967296+a.getD k 0) / d=qq at *
     generalize (r*4294967296+a.getD k 0) % d=rr at *
     refine Or.inr ⟨(_,_,_),rfl,⟨k,rfl,by omega,h2,h3,k5.set ⟨h0,h1⟩ k,by simp only [List.length_set];exact k6,fun x hx=>?_,?_⟩,by simp only;omega⟩
     ·simp only
      rw [ku (by omega),if_neg (by omega)]
      exact k7 x (by omega)
     ·simp only
      rw [kW _ _ _ _ (by omega),k7 k (by omega),k8,htk,Int.pow_succ]
      generalize (4294967296:Int)^k=P at *
      have:P*(r*4294967296+a.getD k 0)=P*(d*qq+rr):=by rw [hdm]
      grind)
  (s:=((0:Int),(a.length:Int)-1,List.replicate a.length 0))
  ⟨a.length,rfl,Nat.le_refl _,by simp,hd.1,Dig.replicate hB _,by simp,fun x _=>kS _ _,by simp [Ya]⟩
 simp only at l2 l3 l4 l5 l6
 unfold W.whole_short
 rw [jB (by simp;omega),ja,ji (by omega),Int.toNat_natCast,l1,ja]
 exact ⟨t,r,rfl,l4,l5,l2,l3,l6⟩
theorem Rep.nil {B:Int}:Rep B (false,[]) 0:=⟨Dig.nil,by simp,by simp,by simp [Ql.val]⟩
theorem Rep.absval {B:Int} (hB:0≤B) {x:Bool×List Int} {v:Int} (h:Rep B x v):Ql.val B x.2=(v.natAbs:Int):=by
 have h1:=JT hB h.dig
 have h2:=h.val
 cases h0:x.1<;>simp only [h0,Bool.false_eq_true,if_false,if_true] at h2<;>omega
theorem Rep.zero_iff {B:Int} (hB:1<B) {x:Bool×List Int} {v:Int} (h:Rep B x v):x.2=[]↔v=0:=by
 constructor
 ·intro h0
  have:=h.absval (by omega)
  rw [h0] at this
  simp only [Ql.val] at this
  omega
 ·intro h0
  rcases Classical.em (x.2=[]) with h1 | h1
  ·exact h1
  ·have:=h.pos hB h1
   have:=h.absval (by omega)
   omega
theorem Rep.short {B:Int} (hB:1<B) {x y:Bool×List Int} {u v:Int} (hx:Rep B x u) (hy:Rep B y v) (h:u.natAbs≤v.natAbs):x.2.length≤y.2.length:=by
 apply Hv hB hy.dig hx.dig hx.last
 rw [hx.absval (by omega),hy.absval (by omega)]
 omega
theorem Rep.eq_of {B:Int} {x:Bool×List Int} {u v:Int} (h:Rep B x u) (e:u=v):Rep B x v:=e▸h
theorem ediv_unique {a b q r:Int} (hb:0<b) (h:a=b*q+r) (h0:0≤r) (h1:r<b):a / b=q∧a % b=r:=by
 subst h
 constructor
 ·rw [Int.add_comm,Int.add_mul_ediv_left _ _ (by omega),Int.ediv_eq_zero_of_lt h0 h1];omega
 ·rw [Int.add_comm,Int.add_mul_emod_self_left,Int.emod_eq_of_lt h0 h1]
theorem div_signs {A V:Int} (hA:0≤A) (hV:0<V) (sa sb:Bool) :
 (if sa then -A else A) / (if sb then -V else V)=(if sa !=sb then -(if sa&&decide (A % V≠0) then A / V+1 else A / V) else (if sa&&decide (A % V≠0) then A / V+1 else A / V)) ∧
 (if sa then -A else A) % (if sb then -V else V)=(if sa&&decide (A % V≠0) then V-A % V else A % V):=by
 have hdm:=Int.mul_ediv_add_emod A V
 have h0:=Int.emod_nonneg A (show V≠0 by omega)
 have h1:=Int.emod_lt_of_pos A hV
 by_cases hr:A % V=0
 ·obtain ⟨e1,e2⟩:=ediv_unique (a:=-A) (b:=V) (q:=-(A / V)) (r:=0) hV (by rw [Int.mul_neg];omega) (by omega) hV
  cases sa<;>cases sb<;>simp [hr,Int.ediv_neg,Int.emod_neg,e1,e2]
 ·obtain ⟨e1,e2⟩:=ediv_unique (a:=-A) (b:=V) (q:=-(A / V+1)) (r:=V-A % V) hV (by rw [Int.mul_neg,Int.mul_add];omega) (by omega) (by omega)
  cases sa<;>cases sb<;>simp [hr,Int.ediv_neg,Int.emod_neg,e1,e2]
theorem idiv_ok {a b:Bool×List Int} {u v:Int} (ha:Rep 4294967296 a u) (hb:Rep 4294967296 b v) (la:a.2.length<100000) (lb:b.2.length<100000) (hv:v≠0) :
 ∃q r,W.whole_Int_Div a b=some (q,r,0,0)∧Rep 4294967296 q (u / v)∧Rep 4294967296 r (u % v)∧q.2.length≤a.2.length+4∧r.2.length≤b.2.length:=by
 have hB:(1:Int)<4294967296:=by decide
 have hbn:b.2≠[]:=fun e=>hv ((hb.zero_iff hB).1 e)
 have hbl:b.2.length≠0:=fun e=>hbn (List.eq_nil_of_length_eq_zero e)
 have hVp:=hb.pos hB hbn
 have hA0:=JT (B:=4294967296) (by decide) ha.dig
 
 have c21:∃q r:Bool×List Int,W.whole_Int_Div.cR_ a.2 b.2 false [] Option.some=some (q.1,q.2,r.1,r.2)∧Rep 4294967296 q (val 4294967296 a.2 / val 4294967296 b.2)∧Rep 4294967296 r (val 4294967296 a.2 % val 4294967296 b.2)∧q.2.length≤a.2.length+1∧r.2.length≤b.2.length:=by
  obtain ⟨c,o1,o2⟩:=order_ok a.2 b.2 ha.dig hb.dig ha.last hb.last (by omega) (by omega)
  unfold W.whole_Int_Div.cR_
  rw [o1,ja]
  have hrlen:∀r:Bool×List Int,Rep 4294967296 r (val 4294967296 a.2 % val 4294967296 b.2)→r.2.length≤b.2.length:=fun r hr=>by
   refine Rep.short hB hr hb ?_
   rw [hb.absval (by decide)]
   have:=Int.emod_nonneg (val 4294967296 a.2) (show ((v.natAbs:Nat):Int)≠0 by omega)
   have:=Int.emod_lt_of_pos (val 4294967296 a.2) (show 0<((v.natAbs:Nat):Int) by omega)
   omega
  by_cases hc:c<0
  ·rw [jS hc]
   obtain ⟨r,r1,r2,r3⟩:=Yr (B:=4294967296) false a.2 ha.dig (by omega)
   have hlt:val 4294967296 a.2<val 4294967296 b.2:=by rcases o2 with o | o | o<;>omega
   rw [if_neg (by simp)] at r2
   refine ⟨(false,[]),r,by rw [r1];rfl,Rep.nil.eq_of (by rw [Int.ediv_eq_zero_of_lt hA0 hlt]),r2.eq_of (by rw [Int.emod_eq_of_lt hA0 hlt]),by simp,?_⟩
   exact hrlen r (r2.eq_of (by rw [Int.emod_eq_of_lt hA0 hlt]))
  ·rw [jO hc]
   by_cases h1:b.2.length=1
   ·rw [show ((b.2.length:Int)==1)=true by simp;omega,br_tt]
    have hd:=hb.dig.getD (by decide) 0
    have hbv:val 4294967296 b.2=b.2.getD 0 0:=by
     have:=jX 4294967296 0 b.2
     rw [List.take_of_length_le (by omega)] at this
     simpa [val] using this
    rw [hbv] at hVp
    obtain ⟨q,r,s1,s2,s3,s4,s5,s6⟩:=short_ok a.2 (b.2.getD 0 0) ha.dig (by omega) ⟨hVp,hd.2⟩
    have c7:W.whole_Int_Div.c7 a.2 b.2 Option.some=some (q,r):=by
     unfold W.whole_Int_Div.c7
     rw [Jz (i:=0) 0 rfl (by omega),ja,s1,ja]
    obtain ⟨x,x1,x2,x3⟩:=Yr (B:=4294967296) false q s2 (by omega)
    obtain ⟨y,y1,y2,y3⟩:=Yr (B:=4294967296) false [r] (Dig.cons ⟨s4,by omega⟩ Dig.nil) (by simp)
    rw [if_neg (by simp)] at x2 y2
    obtain ⟨e1,e2⟩:=ediv_unique hVp s6 s4 s5
    rw [hbv,e1,e2]
    rw [c7,ja]
    simp only
    refine ⟨x,y,by rw [x1,ja,y1];rfl,x2,y2.eq_of (by simp [val]),by omega,by simp at y3;omega⟩
   ·rw [show ((b.2.length:Int)==1)=false by simp;omega,br_ff]
    obtain ⟨q,r,s1,s2,s3,s4,s5,s6,s7⟩:=quotient_ok a.2 b.2 ha.dig hb.dig hb.last (by omega) (by omega) (by omega)
    obtain ⟨x,x1,x2,x3⟩:=Yr (B:=4294967296) false q s2 (by omega)
    obtain ⟨y,y1,y2,y3⟩:=Yr (B:=4294967296) false r s3 (by omega)
    rw [if_neg (by simp)] at x2 y2
    refine ⟨x,y,by rw [s1,ja];simp only;rw [x1,ja,y1];rfl,x2.eq_of s6,y2.eq_of s7,by omega,hrlen y (y2.eq_of s7)⟩
 obtain ⟨q,r,d1,d2,d3,d4,d5⟩:=c21
 have hm0:=Int.emod_nonneg (val 4294967296 a.2) (show val 4294967296 b.2≠0 by omega)
 have hm1:=Int.emod_lt_of_pos (val 4294967296 a.2) hVp
 have hq0:0≤val 4294967296 a.2 / val 4294967296 b.2:=Int.ediv_nonneg hA0 (by omega)
 have hrz:=d3.zero_iff hB
 have c24:∃q' r':Bool×List Int,W.whole_Int_Div.cq_ a.1 b.2 q.1 q.2 r.1 r.2 Option.some=some (q'.1,q'.2,r'.1,r'.2) ∧
  Rep 4294967296 q' (if a.1&&decide (val 4294967296 a.2 % val 4294967296 b.2≠0) then val 4294967296 a.2 / val 4294967296 b.2+1 else val 4294967296 a.2 / val 4294967296 b.2) ∧
  Rep 4294967296 r' (if a.1&&decide (val 4294967296 a.2 % val 4294967296 b.2≠0) then val 4294967296 b.2-val 4294967296 a.2 % val 4294967296 b.2 else val 4294967296 a.2 % val 4294967296 b.2)∧q'.2.length≤a.2.length+4∧r'.2.length≤b.2.length:=by
  unfold W.whole_Int_Div.cq_
  have c11:W.whole_Int_Div.c11 a.1 r.2 Option.some=some (a.1&&decide (val 4294967296 a.2 % val 4294967296 b.2≠0)):=by
   unfold W.whole_Int_Div.c11
   cases ha1:a.1
   ·rfl
   ·rw [br_tt]
    congr 1
    rw [Bool.true_and,decide_eq_decide]
    constructor
    ·intro h e
     rw [hrz.2 e] at h
     simp at h
    ·intro h
     have:r.2.length≠0:=fun e=>h (hrz.1 (List.eq_nil_of_length_eq_zero e))
     omega
  rw [c11,ja]
  cases hc:(a.1&&decide (val 4294967296 a.2 % val 4294967296 b.2≠0))
  ·rw [br_ff]
   simp only [Bool.false_eq_true,if_false]
   exact ⟨q,r,rfl,d2,d3,by omega,d5⟩
  ·rw [br_tt]
   simp only [if_true]
   have hne:val 4294967296 a.2 % val 4294967296 b.2≠0:=by
    intro e;rw [e] at hc;simp at hc
   obtain ⟨o,o1,o2,o3⟩:=of_ok (n:=1) (by decide)
   obtain ⟨x,x1,x2,x3⟩:=add_ok d2 o2 (by omega) (by omega)
   have hrv:=d3.absval (by decide)
   obtain ⟨t,t1,t2,t3,t4⟩:=less_ok b.2 r.2 hb.dig d3.dig (by omega) d5 (by omega)
   obtain ⟨y,y1,y2,y3⟩:=Yr (B:=4294967296) false t t2 (by omega)
   rw [if_neg (by simp)] at y2
   have c12:W.whole_Int_Div.c12 b.2 q.1 q.2 r.2 Option.some=some (x.1,x.2,y.1,y.2):=by
    unfold W.whole_Int_Div.c12
    simp only [JA]
    rw [o1,ja,x1,ja,t1,ja,y1,ja]
   rw [c12,ja]
   exact ⟨x,y,rfl,x2,y2.eq_of (by omega),by omega,by omega⟩
 obtain ⟨q',r',f1,f2,f3,f4,f5⟩:=c24
 have hq':val 4294967296 q'.2=(if a.1&&decide (val 4294967296 a.2 % val 4294967296 b.2≠0) then val 4294967296 a.2 / val 4294967296 b.2+1 else val 4294967296 a.2 / val 4294967296 b.2):=by
  rw [f2.absval (by decide)]
  split<;>omega
 obtain ⟨z,z1,z2,z3⟩:=Yr (B:=4294967296) (!a.1==b.1) q'.2 f2.dig (by omega)
 obtain ⟨g1,g2⟩:=div_signs hA0 hVp a.1 b.1
 unfold W.whole_Int_Div
 rw [show ((b.2.length:Int)==0)=false by simp;omega,br_ff,d1,ja]
 simp only
 rw [f1,ja]
 simp only
 have c13:W.whole_Int_Div.c13 a.1 b.1 q'.2 Option.some=some (z.1,z.2):=by
  unfold W.whole_Int_Div.c13
  rw [z1,ja]
 rw [c13,ja]
 refine ⟨z,r',rfl,z2.eq_of ?_,f3.eq_of ?_,by omega,f5⟩
 ·rw [ha.val,hb.val,g1,hq']
  cases a.1<;>cases b.1<;>rfl
 ·rw [ha.val,hb.val,g2]
end Go.Ql
end
section
namespace Go.Ql
theorem gcd_step (u v:Int):Int.gcd v (u % v)=Int.gcd u v:=by
 have h:=Int.mul_ediv_add_emod u v
 have e:u % v=u-v*(u / v):=by omega
 rw [e,Int.gcd_sub_mul_left_right,Int.gcd_comm]
theorem Rep.pos_of {B:Int} (hB:1<B) {x:Bool×List Int} {v:Int} (h:Rep B x v):(x.2.length:Int)>0↔v≠0:=by
 constructor
 ·intro h1 h2
  rw [(h.zero_iff hB).2 h2] at h1
  simp at h1
 ·intro h1
  have:x.2.length≠0:=fun e=>h1 ((h.zero_iff hB).1 (List.eq_nil_of_length_eq_zero e))
  omega
theorem mod_less (u:Int) {v:Int} (h:v≠0):(u % v).natAbs<v.natAbs:=by
 have h1:=Int.emod_nonneg u h
 have h2:=Int.emod_lt u h
 omega
theorem igcd_ok {a b:Bool×List Int} {u v:Int} (ha:Rep 4294967296 a u) (hb:Rep 4294967296 b v) {L:Nat} (la:a.2.length≤L) (lb:b.2.length≤L) (hL:L<100000) :
 ∃r,W.whole_Gcd a b=some r∧Rep 4294967296 r (Int.gcd u v:Int)∧r.2.length≤L:=by
 have hB:(1:Int)<4294967296:=by decide
 obtain ⟨⟨x0,x1,y0,y1⟩,l1,w,l2,l3,l4⟩:=JG
  (f:=fun s:Bool×List Int×Bool×List Int↦W.whole_Gcd.cj_ (Prod.fst s) (Prod.fst (Prod.snd s)) (Prod.fst (Prod.snd (Prod.snd s))) (Prod.snd (Prod.snd (Prod.snd s))) Option.some)
  (J:=fun s=>∃p q:Int,Rep 4294967296 (s.1,s.2.1) p∧Rep 4294967296 (s.2.2.1,s.2.2.2) q∧Int.gcd p q=Int.gcd u v∧s.2.1.length≤L∧s.2.2.2.length≤L)
  (Q:=fun s=>∃w:Int,Rep 4294967296 (s.1,s.2.1) w∧w.natAbs=Int.gcd u v∧s.2.1.length≤L)
  (fun s=>(val 4294967296 s.2.2.2).toNat) (fun ⟨x0,x1,y0,y1⟩ ⟨p,q,h1,h2,h3,h4,h5⟩=>by
   simp only at h1 h2 h3 h4 h5 ⊢
   have hq:=h2.pos_of hB
   simp only at hq
   unfold W.whole_Gcd.cj_
   by_cases h0:q=0
   ·rw [jO (fun h=>hq.1 h h0)]
    subst h0
    exact Or.inl ⟨_,rfl,p,h1,by rw [←h3];simp,h4⟩
   ·rw [jS (hq.2 h0)]
    obtain ⟨d,r,d1,d2,d3,d4,d5⟩:=idiv_ok h1 h2 (by simp only;omega) (by simp only;omega) h0
    rw [d1,ja]
    refine Or.inr ⟨_,rfl,⟨q,p % q,h2,d3,by rw [gcd_step,h3],h5,by simp only at d5 ⊢;omega⟩,?_⟩
    have e1:=d3.absval (by decide)
    have e2:=h2.absval (by decide)
    have:=mod_less p h0
    simp only at e1 e2 ⊢
    omega)
  (s:=(a.1,a.2,b.1,b.2)) ⟨u,v,ha,hb,rfl,la,lb⟩
 simp only at l2 l4
 obtain ⟨r,r1,r2,r3⟩:=Yr (B:=4294967296) false x1 l2.dig (by omega)
 unfold W.whole_Gcd
 rw [l1,ja,r1]
 rw [if_neg (by simp),l2.absval (by decide),l3] at r2
 exact ⟨r,rfl,r2,by omega⟩
end Go.Ql
end
section
namespace Go.Ql
theorem Ht {n:Int} (h:-9223372036854775808≤n∧n≤9223372036854775807) :
 ∃r,W.Jt n=some r∧Rep 10000 r n∧r.2.length≤5:=by
 unfold W.Jt
 have e:W.Jt.cg_ n (IntKind.u64.wrap n) Option.some=some (n.natAbs:Int):=by
  unfold W.Jt.cg_
  by_cases h0:n<0
  ·rw [jS h0,Vt,Vt];congr 1;omega
  ·rw [jO h0,Vt];congr 1;omega
 rw [e,ja]
 have hB:(0:Int)<10000:=by decide
 obtain ⟨⟨u,d⟩,l1,l2,l3,l4⟩:=JG
  (f:=fun s:Int×List Int↦W.Jt.cf_ (Prod.fst s) (Prod.snd s) Option.some)
  (J:=fun s=>0≤s.1∧s.1<10000^(5-s.2.length)∧s.2.length≤5∧Dig 10000 s.2∧val 10000 s.2+10000^s.2.length*s.1=(n.natAbs:Int))
  (Q:=fun s=>s.2.length≤5∧Dig 10000 s.2∧val 10000 s.2=(n.natAbs:Int))
  (fun s=>s.1.toNat) (fun ⟨u,d⟩ ⟨h1,h2,h3,h4,h5⟩=>by
   simp only at h1 h2 h3 h4 h5 ⊢
   unfold W.Jt.cf_
   by_cases h0:u>0
   ·have hl:d.length≠5:=fun e=>by rw [e] at h2;simp at h2;omega
    rw [jS h0,Yj h1,Yi h1,ji (by omega),Js (by
     have:(10000:Int)^(5-d.length)≤10000^5:=YH (by decide) (by omega)
     rw [show (10000:Int)^5=100000000000000000000 from rfl] at this
     have h7:u≤(n.natAbs:Int):=by
      have:1*u≤10000^d.length*u:=Int.mul_le_mul_of_nonneg_right (by have:=pow_pos hB d.length;omega) h1
      have:=JT (B:=10000) (by decide) h4
      omega
     omega),jB (by simp;omega),ja]
    refine Or.inr ⟨(_,_),rfl,⟨by simp only;omega,?_,by simp;omega,h4.append (Dig.cons (by omega) Dig.nil),?_⟩,by simp only;omega⟩
    ·simp only [List.length_append,List.length_cons,List.length_nil]
     have e5:5-d.length=(5-(d.length+(0+1)))+1:=by omega
     rw [e5,Int.pow_succ] at h2
     omega
    ·simp only [List.length_append,List.length_cons,List.length_nil]
     rw [UC,Int.pow_succ,←h5]
     have:u=10000*(u / 10000)+u % 10000:=by omega
     generalize u / 10000=q at *
     generalize u % 10000=r at *
     subst this
     grind
   ·rw [jO h0]
    have:u=0:=by omega
    subst this
    exact Or.inl ⟨(_,_),rfl,h3,h4,by simpa using h5⟩)
  (s:=((n.natAbs:Int),[])) ⟨by simp,by simp only [List.length_nil];rw [show (10000:Int)^(5-0)=100000000000000000000 from rfl];omega,by simp,Dig.nil,by simp [val]⟩
 simp only at l2 l3 l4
 obtain ⟨r,r1,r2,r3⟩:=YD (B:=10000) (decide (n<0)) d l3 (by omega)
 rw [l1,ja,r1]
 refine ⟨r,rfl,r2.eq_of ?_,by omega⟩
 rw [l4]
 by_cases h0:n<0
 ·rw [if_pos (decide_eq_true h0)];omega
 ·rw [if_neg (by simpa using h0)];omega
theorem zhalve_ok {b r:Bool×List Int} {V R:Int} (hb:Rep 10000 b V) (hr:Rep 10000 r R) (lb:b.2.length<1000000) (lr:r.2.length<1000000) (hV:0<V) {h:Int} (h0:1≤h∧h≤10000) (hR0:0≤R) (hR:R<V*h) :
 ∃g:Int,iter (fun s:Int×Int↦W.jr.cl_ (Prod.fst s) (Prod.snd s) b.1 b.2 r.1 r.2 Option.some) ((0:Int),h)=some (g,g+1)∧0≤g∧g<10000∧V*g≤R∧R<V*(g+1):=by
 obtain ⟨⟨g,g'⟩,l1,l2,l3,l4,l5,l6⟩:=JG
  (f:=fun s:Int×Int↦W.jr.cl_ (Prod.fst s) (Prod.snd s) b.1 b.2 r.1 r.2 Option.some)
  (J:=fun s=>0≤s.1∧s.1<s.2∧s.2≤10000∧V*s.1≤R∧R<V*s.2)
  (Q:=fun s=>s.2=s.1+1∧0≤s.1∧s.1<10000∧V*s.1≤R∧R<V*s.2)
  (fun s=>(s.2-s.1).toNat) (fun ⟨l,g⟩ ⟨h1,h2,h3,h4,h5⟩=>by
   simp only at h1 h2 h3 h4 h5 ⊢
   unfold W.jr.cl_
   rw [ji (x:=g-l) (by omega),ji (x:=l+g) (by omega)]
   by_cases hc:g-l>1
   ·rw [jS hc,Yi (by omega),ji (by omega)]
    obtain ⟨o,o1,o2,o3⟩:=Ht (n:=(l+g) / 2) (by omega)
    obtain ⟨m,m1,m2,m3⟩:=VN hb o2 (by omega) (by omega)
    have c15:W.jr.c15 ((l+g) / 2) b.1 b.2 r.1 r.2 Option.some=some (decide (V*((l+g) / 2)≤R)):=by
     unfold W.jr.c15
     simp only [JA]
     rw [o1,ja,m1,ja,zcmp_ok m2 hr (by omega) (by omega),ja]
     congr 1
     rw [decide_eq_decide]
     unfold sgn
     split
     ·omega
     ·split<;>omega
    rw [c15,ja]
    by_cases hd:V*((l+g) / 2)≤R
    ·rw [jS hd]
     exact Or.inr ⟨(_,_),rfl,⟨by simp only;omega,by simp only;omega,h3,hd,h5⟩,by simp only;omega⟩
    ·rw [jO hd]
     exact Or.inr ⟨(_,_),rfl,⟨h1,by simp only;omega,by simp only;omega,h4,by simp only;omega⟩,by simp only;omega⟩
   ·rw [jO hc]
    exact Or.inl ⟨(_,_),rfl,by simp only;omega,h1,by simp only;omega,h4,h5⟩)
  (s:=((0:Int),h)) ⟨by simp,by simp only;omega,h0.2,by simpa using hR0,hR⟩
 simp only at l2 l3 l4 l5 l6
 subst l2
 exact ⟨g,l1,l3,l4,l5,l6⟩
theorem zdiv_ok {a b:Bool×List Int} {u v:Int} (ha:Rep 10000 a u) (hb:Rep 10000 b v) (la:a.2.length<100000) (lb:b.2.length<100000) (hv:v≠0) :
 ∃q r,W.jr a b=some (q,r,0,0)∧Rep 10000 q (u / v)∧Rep 10000 r (u % v)∧q.2.length≤a.2.length+6∧r.2.length≤b.2.length:=by
 have hB:(1:Int)<10000:=by decide
 have hbn:b.2≠[]:=fun e=>hv ((hb.zero_iff hB).1 e)
 have hbl:b.2.length≠0:=fun e=>hbn (List.eq_nil_of_length_eq_zero e)
 have hVp:=hb.pos hB hbn
 have hA0:=JT (B:=10000) (by decide) ha.dig
 obtain ⟨w,w1,w2,w3⟩:=YD (B:=10000) false b.2 hb.dig (by omega)
 rw [if_neg (by simp)] at w2
 have hwv:=w2.absval (by decide)
 obtain ⟨⟨j,r0,r1,t⟩,l1,R,l2,l3,l4,l5,l6,l7⟩:=JG
  (f:=fun s:Int×Bool×List Int×List Int↦W.jr.cd_ (Prod.fst s) a.2 w.1 w.2 (Prod.fst (Prod.snd s)) (Prod.fst (Prod.snd (Prod.snd s))) (Prod.snd (Prod.snd (Prod.snd s))) Option.some)
  (J:=fun s=>∃(k:Nat) (R:Int),s.1=(k:Int)-1∧k≤a.2.length∧Rep 10000 (s.2.1,s.2.2.1) R∧0≤R∧R<val 10000 b.2∧Dig 10000 s.2.2.2∧s.2.2.2.length=a.2.length∧(∀x,x<k→s.2.2.2.getD x 0=0) ∧
   val 10000 a.2=val 10000 (a.2.take k)+val 10000 b.2*val 10000 s.2.2.2+10000^k*R)
  (Q:=fun s=>∃R:Int,Rep 10000 (s.2.1,s.2.2.1) R∧0≤R∧R<val 10000 b.2∧Dig 10000 s.2.2.2∧s.2.2.2.length=a.2.length∧val 10000 a.2=val 10000 b.2*val 10000 s.2.2.2+R)
  (fun s=>(s.1+1).toNat) (fun ⟨j',r0,r1,t⟩ ⟨k,R,k1,k2,k3,k4,k5,k6,k7,k8,k9⟩=>by
   simp only at k1 k2 k3 k4 k5 k6 k7 k8 k9 ⊢
   subst k1
   unfold W.jr.cd_
   cases k with
   | zero=>
     rw [jO (by omega)]
     exact Or.inl ⟨_,rfl,R,k3,k4,k5,k6,k7,by simpa [val] using k9⟩
   | succ k=>
     rw [show ((k+1:Nat):Int)-1=(k:Int) by omega,jS (by omega)]
     have hx:=ha.dig.getD (by decide) k
     have htk:=jX 10000 k a.2
     have hrl:r1.length≤b.2.length:=by
      have:=Rep.short hB k3 w2 (by omega)
      simp only at this;omega
     have hrv:=k3.absval (by decide)
     simp only at hrv
     obtain ⟨y,y1,y2,y3⟩:=YD (B:=10000) false ([a.2.getD k 0]++r1) (Dig.append (Dig.cons hx Dig.nil) k3.dig) (by simp;omega)
     rw [if_neg (by simp)] at y2
     have c9:W.jr.c9 (k:Int) a.2 r1 Option.some=some (y.1,y.2):=by
      unfold W.jr.c9
      rw [Jz k rfl (by omega),ja,jB (by simp;omega),ja,y1,ja]
     have hyR:val 10000 ([a.2.getD k 0]++r1)=a.2.getD k 0+10000*R:=by
      show a.2.getD k 0+10000*val 10000 r1=_
      rw [hrv];omega
     rw [hyR] at y2
     simp only [List.length_append,List.length_cons,List.length_nil] at y3
     obtain ⟨c,o1,o2⟩:=dcmp_ok y.2 w.2 y2.dig w2.dig y2.last w2.last (by omega) (by omega)
     rw [y2.absval (by decide),w2.absval (by decide)] at o2
     obtain ⟨h,h1,h2,h3⟩:∃h:Int,W.jr.cq_ 10000 w.2 y.2 Option.some=some h∧(1≤h∧h≤10000)∧a.2.getD k 0+10000*R<val 10000 b.2*h:=by
      unfold W.jr.cq_
      rw [o1,ja]
      by_cases hc:c<0
      ·rw [jS hc]
       refine ⟨1,rfl,by decide,?_⟩
       rcases o2 with o | o | o<;>omega
      ·rw [jO hc]
       exact ⟨10000,rfl,by decide,by omega⟩
     obtain ⟨g,g1,g2,g3,g4,g5⟩:=zhalve_ok w2 y2 (by omega) (by omega) hVp h2 (by omega) h3
     obtain ⟨o,p1,p2,p3⟩:=Ht (n:=g) (by omega)
     obtain ⟨m,m1,m2,m3⟩:=VN w2 p2 (by omega) (by omega)
     obtain ⟨z,z1,z2,z3⟩:=zsub_ok y2 m2 (by omega) (by omega)
     have c19:W.jr.c19 g w.1 w.2 y.1 y.2 Option.some=some (z.1,z.2):=by
      unfold W.jr.c19
      simp only [JA]
      rw [p1,ja,m1,ja,z1,ja]
     rw [c9,ja,h1,ja,g1,ja,kE (by omega) (by omega),ja,Jz k rfl (by omega),ja,c19,ja,ji (by omega),Int.toNat_natCast]
     refine Or.inr ⟨_,rfl,⟨k,a.2.getD k 0+10000*R-val 10000 b.2*g,rfl,by omega,z2,by omega,by rw [Int.mul_add] at g5;omega,k6.set ⟨g2,g3⟩ k,by simp only [List.length_set];exact k7,fun x hx=>?_,?_⟩,by simp only;omega⟩
     ·simp only
      rw [ku (by omega),if_neg (by omega)]
      exact k8 x (by omega)
     ·simp only
      rw [kW _ _ _ _ (by omega),k8 k (by omega),k9,htk,Int.pow_succ]
      generalize (10000:Int)^k=P at *
      grind)
  (s:=((a.2.length:Int)-1,false,[],List.replicate a.2.length 0))
  ⟨a.2.length,0,rfl,Nat.le_refl _,Rep.nil,by simp,hVp,Dig.replicate (by decide) _,by simp,fun x _=>kS _ _,by simp [Ya]⟩
 simp only at l2 l3 l4 l5 l6 l7
 obtain ⟨e1,e2⟩:=ediv_unique hVp l7 l3 l4
 obtain ⟨z,z1,z2,z3⟩:=YD (B:=10000) false t l5 (by omega)
 rw [if_neg (by simp)] at z2
 rw [←e1] at z2
 rw [←e2] at l2
 have hrl:r1.length≤b.2.length:=by
  have:=Rep.short hB l2 w2 (by omega)
  simp only at this;omega
 have hq0:0≤val 10000 a.2 / val 10000 b.2:=Int.ediv_nonneg hA0 (by omega)
 have c28:∃q' r':Bool×List Int,W.jr.cX_ a.1 w.1 w.2 r0 r1 z.1 z.2 Option.some=some (r'.1,r'.2,q'.1,q'.2) ∧
  Rep 10000 q' (if a.1&&decide (val 10000 a.2 % val 10000 b.2≠0) then val 10000 a.2 / val 10000 b.2+1 else val 10000 a.2 / val 10000 b.2) ∧
  Rep 10000 r' (if a.1&&decide (val 10000 a.2 % val 10000 b.2≠0) then val 10000 b.2-val 10000 a.2 % val 10000 b.2 else val 10000 a.2 % val 10000 b.2)∧q'.2.length≤a.2.length+6:=by
  unfold W.jr.cX_
  have c21:W.jr.c21 a.1 r1 Option.some=some (a.1&&decide (val 10000 a.2 % val 10000 b.2≠0)):=by
   unfold W.jr.c21
   cases ha1:a.1
   ·rfl
   ·rw [br_tt]
    congr 1
    rw [Bool.true_and,decide_eq_decide]
    exact l2.pos_of hB
  rw [c21,ja]
  cases hc:(a.1&&decide (val 10000 a.2 % val 10000 b.2≠0))
  ·rw [br_ff]
   simp only [Bool.false_eq_true,if_false]
   exact ⟨z,(r0,r1),rfl,z2,l2,by omega⟩
  ·rw [br_tt]
   simp only [if_true]
   obtain ⟨o,o1,o2,o3⟩:=Ht (n:=1) (by decide)
   obtain ⟨x,x1,x2,x3⟩:=zadd_ok z2 o2 (by omega) (by omega)
   obtain ⟨y,y1,y2,y3⟩:=zsub_ok w2 l2 (by omega) (by simp only;omega)
   have c22:W.jr.c22 z.1 z.2 Option.some=some (x.1,x.2):=by
    unfold W.jr.c22
    simp only [JA]
    rw [o1,ja,x1,ja]
   rw [c22,ja]
   simp only [JA]
   rw [y1,ja]
   exact ⟨x,y,rfl,x2,y2,by omega⟩
 obtain ⟨q',r',f1,f2,f3,f4⟩:=c28
 have hq':val 10000 q'.2=(if a.1&&decide (val 10000 a.2 % val 10000 b.2≠0) then val 10000 a.2 / val 10000 b.2+1 else val 10000 a.2 / val 10000 b.2):=by
  rw [f2.absval (by decide)]
  split<;>omega
 obtain ⟨x,x1,x2,x3⟩:=YD (B:=10000) (!a.1==b.1) q'.2 f2.dig (by omega)
 obtain ⟨g1,g2⟩:=div_signs hA0 hVp a.1 b.1
 have hr':Rep 10000 r' (u % v):=f3.eq_of (by rw [ha.val,hb.val,g2])
 unfold W.jr
 rw [show ((b.2.length:Int)==0)=false by simp;omega,br_ff,w1,ja,jB (by simp;omega),ja,ji (by omega),Int.toNat_natCast,l1,ja]
 simp only
 rw [z1,ja,f1,ja]
 simp only
 have c24:W.jr.c24 a.1 b.1 q'.2 Option.some=some (x.1,x.2):=by
  unfold W.jr.c24
  rw [x1,ja]
 rw [c24,ja]
 refine ⟨x,r',rfl,x2.eq_of ?_,hr',by omega,Rep.short hB hr' hb (Nat.le_of_lt (mod_less u hv))⟩
 rw [ha.val,hb.val,g1,hq']
 cases a.1<;>cases b.1<;>rfl
theorem zgcd_ok {a b:Bool×List Int} {u v:Int} (ha:Rep 10000 a u) (hb:Rep 10000 b v) {L:Nat} (la:a.2.length≤L) (lb:b.2.length≤L) (hL:L<100000) :
 ∃r,W.JL a b=some r∧Rep 10000 r (Int.gcd u v:Int)∧r.2.length≤L:=by
 have hB:(1:Int)<10000:=by decide
 obtain ⟨⟨x0,x1,y0,y1⟩,l1,w,l2,l3,l4⟩:=JG
  (f:=fun s:Bool×List Int×Bool×List Int↦W.JL.cj_ (Prod.fst s) (Prod.fst (Prod.snd s)) (Prod.fst (Prod.snd (Prod.snd s))) (Prod.snd (Prod.snd (Prod.snd s))) Option.some)
  (J:=fun s=>∃p q:Int,Rep 10000 (s.1,s.2.1) p∧Rep 10000 (s.2.2.1,s.2.2.2) q∧Int.gcd p q=Int.gcd u v∧s.2.1.length≤L∧s.2.2.2.length≤L)
  (Q:=fun s=>∃w:Int,Rep 10000 (s.1,s.2.1) w∧w.natAbs=Int.gcd u v∧s.2.1.length≤L)
  (fun s=>(val 10000 s.2.2.2).toNat) (fun ⟨x0,x1,y0,y1⟩ ⟨p,q,h1,h2,h3,h4,h5⟩=>by
   simp only at h1 h2 h3 h4 h5 ⊢
   have hq:=h2.pos_of hB
   simp only at hq
   unfold W.JL.cj_
   by_cases h0:q=0
   ·rw [jO (fun h=>hq.1 h h0)]
    subst h0
    exact Or.inl ⟨_,rfl,p,h1,by rw [←h3];simp,h4⟩
   ·rw [jS (hq.2 h0)]
    obtain ⟨d,r,d1,d2,d3,d4,d5⟩:=zdiv_ok h1 h2 (by simp only;omega) (by simp only;omega) h0
    rw [d1,ja]
    refine Or.inr ⟨_,rfl,⟨q,p % q,h2,d3,by rw [gcd_step,h3],h5,by simp only at d5 ⊢;omega⟩,?_⟩
    have e1:=d3.absval (by decide)
    have e2:=h2.absval (by decide)
    have:=mod_less p h0
    simp only at e1 e2 ⊢
    omega)
  (s:=(a.1,a.2,b.1,b.2)) ⟨u,v,ha,hb,rfl,la,lb⟩
 simp only at l2 l4
 obtain ⟨r,r1,r2,r3⟩:=YD (B:=10000) false x1 l2.dig (by omega)
 unfold W.JL
 rw [l1,ja,r1]
 rw [if_neg (by simp),l2.absval (by decide),l3] at r2
 exact ⟨r,rfl,r2,by omega⟩
end Go.Ql
end
section
namespace Go.Ql
def Yf (sg:Bool) (text:List UInt8):Nat×Bool:=
 let i:=if sg&&(text.head? == some 45) then 1 else 0
 if (text.drop i).head? == some 48 then (if sg&&i==0 then (1,true) else (i,false))
 else (i+((text.drop i).takeWhile kp).length,decide (0<((text.drop i).takeWhile kp).length))
theorem tw_le (p:UInt8→Bool) (l:List UInt8):(l.takeWhile p).length≤l.length:=(List.takeWhile_sublist p).length_le
theorem digits_loop (text:List UInt8) (i:Nat) (hi:i≤text.length) (hL:text.length≤9223372036854775807) :
 iter (fun s↦W.jR.ci_ text s Option.some) (i:Int)=some ((i+((text.drop i).takeWhile kp).length:Nat):Int):=by
 obtain ⟨k,h1,h2⟩:=JG (f:=fun s↦W.jR.ci_ text s Option.some)
  (J:=fun s=>∃k:Nat,s=k∧k≤text.length∧i+((text.drop i).takeWhile kp).length=k+((text.drop k).takeWhile kp).length)
  (Q:=fun s:Int=>s=((i+((text.drop i).takeWhile kp).length:Nat):Int))
  (fun s=>text.length-s.toNat) (fun s ⟨k,hs,hk,hd⟩=>by
   subst hs
   simp only [W.jR.ci_]
   have e:W.jR.c10 text (k:Int) Option.some=some (if h:k<text.length then kp text[k] else false):=by
    unfold W.jR.c10
    by_cases h:k<text.length
    ·rw [jS (by omega),Uu text k h,ja,ja,dif_pos h]
     unfold kp
     by_cases h5:(48:Nat)≤text[k].toNat
     ·rw [jS (by omega)];simp [h5];omega
     ·rw [jO (by omega)];simp [h5]
    ·rw [jO (by omega),dif_neg h]
   rw [e,ja]
   by_cases h:k<text.length
   ·have hdr:text.drop k=text[k]::text.drop (k+1):=List.drop_eq_getElem_cons h
    rw [dif_pos h]
    by_cases h5:kp text[k]=true
    ·rw [h5,br_tt]
     refine Or.inr ⟨((k+1:Nat):Int),by rw [ji (by omega)];rfl,⟨k+1,rfl,by omega,?_⟩,by omega⟩
     rw [hd,hdr,List.takeWhile_cons_of_pos h5,List.length_cons];omega
    ·rw [eq_false_of_ne_true h5,br_ff]
     refine Or.inl ⟨_,rfl,?_⟩
     rw [hd,hdr,List.takeWhile_cons_of_neg h5];simp
   ·rw [dif_neg h,br_ff]
    refine Or.inl ⟨_,rfl,?_⟩
    rw [hd,List.drop_eq_nil_of_le (by omega)];simp)
  (s:=(i:Int)) ⟨i,rfl,hi,rfl⟩
 rw [h1,h2]
theorem number_ok (sg:Bool) (text:List UInt8) (hL:text.length≤9223372036854775807) :
 W.whole_number text sg=some (((Yf sg text).1:Int),(Yf sg text).2)∧W.jR text sg sg=some (((Yf sg text).1:Int),(Yf sg text).2):=by
 obtain ⟨i,hi0⟩:∃i:Nat,(if sg&&(text.head? == some 45) then 1 else 0)=i:=⟨_,rfl⟩
 have hi:i≤text.length:=by
  rw [←hi0]
  split
  ·rename_i h
   cases text with
   | nil=>simp at h
   | cons=>simp
  ·omega
 have hi1:i≤1:=by rw [←hi0];split<;>omega
 have e1:W.whole_number.cg_ text sg 0 Option.some=some (i:Int):=by
  unfold W.whole_number.cg_ W.whole_number.c2
  rw [←hi0]
  cases sg
  ·rfl
  ·rw [br_tt,show Array.toList (ByteArray.data (ByteArray.mk #[(45:UInt8)]))=[45] from rfl,hasPrefix1,ja,ja,Bool.true_and]
   cases text.head? == some 45<;>rfl
 have e2:W.jR.cQ_ text sg sg 0 Option.some=some (sg&&decide (i=0),(i:Int)):=by
  unfold W.jR.cQ_ W.jR.c2
  rw [←hi0]
  cases sg
  ·rfl
  ·rw [br_tt]
   cases text with
   | nil=>rfl
   | cons c l=>
     rw [jS (by simp<;>omega),show ((0:Int))=((0:Nat):Int) from rfl,Uu _ 0 (by simp),ja,ja]
     simp only [List.head?_cons,List.getElem_cons_zero,Bool.true_and]
     by_cases h3:c=45
     ·subst h3;rfl
     ·have h4:((c.toNat:Int)==45)=false:=by
       apply beq_false_of_ne
       intro e
       apply h3
       apply UInt8.toNat_inj.1
       show c.toNat=45
       omega
      have h5:(some c==some 45)=false:=beq_false_of_ne (by simpa using h3)
      rw [h4,h5];rfl
 have e3:W.jR.c5 text (i:Int) Option.some=some ((text.drop i).head? == some 48):=by
  unfold W.jR.c5
  by_cases h:i<text.length
  ·rw [jS (by omega),Uu _ i h,ja,List.head?_drop,List.getElem?_eq_getElem h]
   congr 1
   generalize text[i]=c
   by_cases h5:c=48
   ·subst h5;rfl
   ·have h6:(some c==some 48)=false:=beq_false_of_ne (by simpa using h5)
    rw [h6]
    apply beq_false_of_ne
    intro e
    apply h5
    apply UInt8.toNat_inj.1
    show c.toNat=48
    omega
  ·rw [jO (by omega),List.head?_drop,List.getElem?_eq_none (by omega)];rfl
 have hl:=digits_loop text i hi hL
 obtain ⟨m,hm⟩:∃m:Nat,((text.drop i).takeWhile kp).length=m:=⟨_,rfl⟩
 have hml:i+m≤text.length:=by
  have:=tw_le kp (text.drop i)
  rw [List.length_drop] at this;omega
 rw [hm] at hl
 have hspec:Yf sg text=if (text.drop i).head? == some 48 then (if sg&&i==0 then (1,true) else (i,false)) else (i+m,decide (0<m)):=by
  unfold Yf
  simp only [hi0,hm]
 have hpos:decide (((i+m:Nat):Int)>(i:Int))=decide (0<m):=by rw [decide_eq_decide];omega
 have hnum:W.whole_number text sg=br ((text.drop i).head? == some 48) (br (sg&&decide (i=0)) (some (1,true)) (some ((i:Int),false))) (some (((i+m:Nat):Int),decide (0<m))):=by
  unfold W.whole_number
  rw [e1,ja,jB (by simp<;>omega),ja,show Array.toList (ByteArray.data (ByteArray.mk #[(48:UInt8)]))=[48] from rfl,hasPrefix1,ja,loops_same,hl,ja]
  rw [Int.toNat_natCast,Int.toNat_natCast,List.take_length,hpos]
  unfold W.whole_number.c5
  congr 1
  cases sg
  ·rfl
  ·simp only [Bool.not_true,br_ff,ja]
   rcases (by omega:i=0∨i=1) with h | h<;>subst h<;>rfl
 have hword:W.jR text sg sg=br ((text.drop i).head? == some 48) (br (sg&&decide (i=0)) (some (1,true)) (some ((i:Int),false))) (some (((i+m:Nat):Int),decide (0<m))):=by
  unfold W.jR
  rw [e2,ja,e3,ja]
  simp only
  rw [hl,ja,hpos]
  congr 1
  rcases (by omega:i=0∨i=1) with h | h<;>subst h
  ·cases sg<;>rfl
  ·cases sg<;>rfl
 rw [hnum,hword,hspec]
 have key:br ((text.drop i).head? == some 48) (br (sg&&decide (i=0)) (some ((1:Int),true)) (some ((i:Int),false))) (some (((i+m:Nat):Int),decide (0<m))) =
  some ((((if (text.drop i).head? == some 48 then (if sg&&i==0 then (1,true) else (i,false)) else (i+m,decide (0<m)):Nat×Bool)).1:Int),((if (text.drop i).head? == some 48 then (if sg&&i==0 then (1,true) else (i,false)) else (i+m,decide (0<m)):Nat×Bool)).2):=by
  cases (text.drop i).head? == some 48
  ·rfl
  ·rcases (by omega:i=0∨i=1) with h | h<;>subst h<;>cases sg<;>rfl
 exact ⟨key,key⟩
theorem takeWhile_all {p:UInt8→Bool} {l:List UInt8} (h:∀c∈l,p c=true):l.takeWhile p=l:=by
 induction l with
 | nil=>rfl
 | cons c l ih=>
   rw [List.takeWhile_cons_of_pos (h c (List.mem_cons_self ..)),ih fun x hx=>h x (List.mem_cons_of_mem _ hx)]
theorem Canon.whole {text:List UInt8} (h:Canon text):Yf true text=(text.length,true):=by
 rcases h with rfl | ⟨neg,ds,h1,h2,h3,rfl⟩
 ·rfl
 ·unfold Yf
  have hd:=takeWhile_all h2
  have hl:0<ds.length:=by cases ds with | nil=>exact absurd rfl h1 | cons=>simp
  cases neg
  ·have:ds.head? ≠ some 45:=Vk h2
   simp [beq_false_of_ne this,beq_false_of_ne h3,hd,h1]
   omega
  ·simp [beq_false_of_ne h3,hd,h1]
   omega
theorem numLen_le (sg:Bool) (text:List UInt8):(Yf sg text).1≤text.length:=by
 unfold Yf
 have key:∀i:Nat,i≤text.length→i+((text.drop i).takeWhile kp).length≤text.length:=by
  intro i hi
  have:=tw_le kp (text.drop i)
  rw [List.length_drop] at this;omega
 by_cases hs:(sg&&(text.head? == some 45))=true
 ·have h1:1≤text.length:=by
   cases text with
   | nil=>simp at hs
   | cons=>simp
  simp only [hs,if_true]
  split
  ·split
   ·exact h1
   ·exact h1
  ·exact key 1 h1
 ·simp only [eq_false_of_ne_true hs,Bool.false_eq_true,if_false]
  split
  ·rename_i h0
   have h1:1≤text.length:=by
    cases text with
    | nil=>simp at h0
    | cons=>simp
   split<;>simp only<;>omega
  ·exact key 0 (Nat.zero_le _)
theorem numLen_canon {sg:Bool} {text:List UInt8} (h:(Yf sg text).2=true):Canon (text.take (Yf sg text).1)∧(sg=false→kJ (text.take (Yf sg text).1)∧(text.take (Yf sg text).1).head? ≠ some 48∧text.take (Yf sg text).1≠[]):=by
 have tk:∀l:List UInt8,l.take (l.takeWhile kp).length=l.takeWhile kp:=fun l=>by
  induction l with
  | nil=>rfl
  | cons c l ih=>
    by_cases hc:kp c=true
    ·rw [List.takeWhile_cons_of_pos hc,List.length_cons,List.take_succ_cons,ih]
    ·rw [List.takeWhile_cons_of_neg hc];rfl
 have dw:∀l:List UInt8,kJ (l.takeWhile kp):=fun l c hc=>by
  induction l with
  | nil=>cases hc
  | cons a l ih=>
    by_cases ha:kp a=true
    ·rw [List.takeWhile_cons_of_pos ha] at hc
     rcases List.mem_cons.1 hc with rfl | hc
     ·exact ha
     ·exact ih hc
    ·rw [List.takeWhile_cons_of_neg ha] at hc;cases hc
 have hw:∀l:List UInt8,l.head? ≠ some 48→(l.takeWhile kp).head? ≠ some 48:=fun l hl=>by
  cases l with
  | nil=>simp
  | cons a l=>
    by_cases ha:kp a=true
    ·rw [List.takeWhile_cons_of_pos ha];simpa using hl
    ·rw [List.takeWhile_cons_of_neg ha];simp
 unfold Yf at h ⊢
 by_cases hs:(sg&&(text.head? == some 45))=true
 ·simp only [hs,if_true] at h ⊢
  rw [Bool.and_eq_true] at hs
  obtain ⟨hsg,hhd⟩:=hs
  have hhd:=beq_iff_eq.1 hhd
  obtain ⟨l,rfl⟩:∃l,text=45::l:=by
   cases text with
   | nil=>simp at hhd
   | cons c l=>simp at hhd;exact ⟨l,by rw [hhd]⟩
  simp only [List.drop_succ_cons,List.drop_zero] at h ⊢
  by_cases h0:l.head?=some 48
  ·rw [h0] at h;simp at h
  ·rw [beq_false_of_ne h0] at h ⊢
   simp only [Bool.false_eq_true,if_false,decide_eq_true_eq] at h ⊢
   rw [Nat.add_comm,List.take_succ_cons,tk]
   refine ⟨Or.inr ⟨true,l.takeWhile kp,fun e=>by rw [e] at h;simp at h,dw l,hw l h0,rfl⟩,fun e=>by rw [e] at hsg;cases hsg⟩
 ·simp only [eq_false_of_ne_true hs,Bool.false_eq_true,if_false,List.drop_zero,Nat.zero_add] at h ⊢
  by_cases h0:text.head?=some 48
  ·rw [h0] at h ⊢
   cases sg with
   | false=>simp at h
   | true=>
     simp only [beq_self_eq_true,if_true,Bool.and_self] at h ⊢
     obtain ⟨l,rfl⟩:∃l,text=48::l:=by
      cases text with
      | nil=>simp at h0
      | cons c l=>simp at h0;exact ⟨l,by rw [h0]⟩
     exact ⟨Or.inl rfl,fun e=>by cases e⟩
  ·rw [beq_false_of_ne h0] at h ⊢
   simp only [Bool.false_eq_true,if_false,decide_eq_true_eq] at h ⊢
   rw [tk]
   have hne:text.takeWhile kp≠[]:=fun e=>by rw [e] at h;simp at h
   exact ⟨Or.inr ⟨false,_,hne,dw text,hw text h0,rfl⟩,fun _=>⟨dw text,hw text h0,hne⟩⟩
structure Said (text ds:List UInt8) (v:Int):Prop where
 dg:kJ ds
 ne:ds≠[]
 len:text.length≤ds.length+1
 txt:Txt v text
 small:v.natAbs<10^ds.length
 trim:W.Jq text [45]=some ds
 of:W.JH text=some (ds.length:Int)
 rd:ds.length≤1000 → ∃x z,W.whole_Parse text=some (x,(0,0))∧True∧W.jC text=some z∧Rep 4294967296 x v∧Rep 10000 z v∧x.2.length≤1000∧z.2.length≤1000
theorem Canon.said {text:List UInt8} (h:Canon text) (hL:text.length≤9223372036854775807):∃ds v,Said text ds v:=by
 obtain ⟨n1,n2⟩:=number_ok true text hL
 rw [h.whole] at n1 n2
 obtain ⟨neg,ds,p1,p2,p3⟩:=h.parts
 have hh:(text.head? == some 45)=neg:=by
  rw [p3]
  cases neg
  ·exact beq_false_of_ne (Vk p2)
  ·rfl
 have hlen:text.length=(if neg then 1 else 0)+ds.length:=by rw [p3];cases neg<;>simp<;>omega
 have htrim:W.Jq text [45]=some ds:=by
  rw [trim_ok text hL]
  cases neg
  ·rw [if_neg (by simpa using hh),p3];rfl
  ·rw [if_pos (by simpa using hh),p3];rfl
 have hdo:W.JH text=some (ds.length:Int):=by
  unfold W.JH
  rw [(sign_test text).2,ja,hh]
  cases neg
  ·rw [br_ff,hlen];simp
  ·rw [br_tt,ji (by omega),hlen];simp;omega
 have hb:=Yy p2
 have hnat:(dec ds).natAbs<10^ds.length:=by
  have h2:=hb.2
  have:((10^ds.length:Nat):Int)=(10:Int)^ds.length:=by rw [Int.natCast_pow];rfl
  omega
 refine ⟨ds,if neg then-dec ds else dec ds,p2,p1,by rw [hlen];split<;>omega,?_,by cases neg<;>simpa using hnat,htrim,hdo,fun hs=>?_⟩
 ·rcases h with rfl | ⟨neg',ds',q1,q2,q3,q4⟩
  ·have:ds=[48]∧neg=false:=by
    cases neg
    ·exact ⟨by simpa using p3.symm,rfl⟩
    ·simp at p3
   rw [this.1,this.2]
   exact Or.inl ⟨rfl,rfl⟩
  ·have hsame:neg'=neg∧ds'=ds:=by
    have e:(if neg then [45] else [])++ds=(if neg' then [45] else [])++ds':=by rw [←p3,q4]
    cases neg<;>cases neg'
    ·exact ⟨rfl,by simpa using e.symm⟩
    ·exfalso
     have:=Vk p2
     rw [show ds=45::ds' by simpa using e] at this
     simp at this
    ·exfalso
     have:=Vk q2
     rw [show ds'=45::ds by simpa using e.symm] at this
     simp at this
    ·exact ⟨rfl,by simpa using e.symm⟩
   obtain ⟨rfl,rfl⟩:=hsame
   have hge:=dec_ge q2 q1 q3
   have hp:(0:Int)<10^(ds'.length-1):=Int.pow_pos (by decide)
   refine Or.inr ⟨by cases neg'<;>simp<;>omega,ds',⟨q2,q1,q3,by cases neg'<;>simp<;>omega⟩,?_⟩
   rw [q4]
   cases neg'
   ·have:¬dec ds'<0:=by omega
    simp [this]
   ·have:- dec ds'<0:=by omega
    rw [if_pos rfl,if_pos rfl,if_pos this]
 ·obtain ⟨m,q1,q2,q3,q4⟩:=digits_ok ds p2 (by omega)
  obtain ⟨r,s1,s2,s3⟩:=Yr (decide ((ds.length:Int)<(text.length:Int))) m q2 (by omega)
  have hneg:decide ((ds.length:Int)<(text.length:Int))=neg:=by
   rw [hlen];cases neg<;>simp<;>omega
  obtain ⟨w,t1,t2,t3,t4⟩:=zdigits_ok ds p2 (by omega)
  obtain ⟨z,u1,u2,u3⟩:=YD neg w.2 t2 (by omega)
  have hz:W.jC text=some z:=by
   unfold W.jC
   rw [(sign_test text).1,ja,hh]
   have:W.jC.cg_ text neg Option.some=some ds:=by
    unfold W.jC.cg_
    cases neg
    ·rw [br_ff,p3];rfl
    ·rw [br_tt,jB (by rw [hlen];simp;omega),ja,Int.toNat_natCast,List.take_length,p3];rfl
   rw [this,ja,t1,ja,u1];rfl
  refine ⟨r,z,?_,?_,hz,by rw [hneg,q4] at s2;exact s2,by rw [t4] at u2;exact u2,by omega,by omega⟩
  ·unfold W.whole_Parse
   have c2:W.whole_Parse.c2 text (text.length:Int) true Option.some=some false:=by
    unfold W.whole_Parse.c2
    simp [br]
   rw [n1,ja]
   simp only
   rw [c2,ja,br_ff,htrim,ja,jO (by omega),q1,ja,s1];rfl
  ·trivial
theorem Txt.inj {u v:Int} {l:List UInt8} (h:Txt u l) (k:Txt v l):u=v:=by
 rcases h with ⟨h0,rfl⟩ | ⟨h0,D,⟨d1,d2,d3,d4⟩,rfl⟩
 ·rcases k with ⟨k0,_⟩ | ⟨k0,E,⟨e1,e2,e3,e4⟩,h⟩
  ·omega
  ·exfalso
   split at h
   ·cases h
   ·simp only [List.nil_append] at h
    rw [←h] at e3
    simp at e3
 ·rcases k with ⟨k0,h⟩ | ⟨k0,E,⟨e1,e2,e3,e4⟩,h⟩
  ·exfalso
   split at h
   ·cases h
   ·simp only [List.nil_append] at h
    rw [h] at d3
    simp at d3
  ·by_cases hu:u<0<;>by_cases hv:v<0
   ·simp [hu,hv] at h
    rw [h] at d4;omega
   ·exfalso
    simp only [hu,hv,if_true,if_false,List.nil_append,List.cons_append] at h
    have:=Vk e1
    rw [←h] at this;simp at this
   ·exfalso
    simp only [hu,hv,if_true,if_false,List.nil_append,List.cons_append] at h
    have:=Vk d1
    rw [h] at this;simp at this
   ·simp [hu,hv] at h
    rw [h] at d4;omega
theorem IsDec.len {D:List UInt8} {v:Int} {n:Nat} (h:IsDec D v) (hv:v<10^n):D.length≤n:=by
 obtain ⟨d1,d2,d3,d4⟩:=h
 have:=dec_ge d1 d2 d3
 rcases Nat.lt_or_ge n D.length with hc | hc
 ·have:(10:Int)^n≤10^(D.length-1):=YH (by decide) (by omega)
  omega
 ·exact hc
end Go.Ql
end
section
namespace Go.Ql
def lowP (u v:Int):Int:=if v<0 then-(u / (Int.gcd u v:Int)) else u / (Int.gcd u v:Int)
def lowQ (u v:Int):Int:=if v<0 then-(v / (Int.gcd u v:Int)) else v / (Int.gcd u v:Int)
abbrev Fr:=(Bool×List Int)×(Bool×List Int)
structure FF (x g:Fr) (p q:Int) (L:Nat):Prop where
 x1:Rep 4294967296 x.1 p
 x2:Rep 4294967296 x.2 (q-1)
 g1:Rep 10000 g.1 p
 g2:Rep 10000 g.2 q
 pos:0<q
 l1:x.1.2.length≤L
 l2:x.2.2.length≤L
 l3:g.1.2.length≤L
 l4:g.2.2.length≤L
theorem gcd_facts (u:Int) {v:Int} (hv:v≠0):0<(Int.gcd u v:Int)∧(Int.gcd u v:Int)*(u / (Int.gcd u v:Int))=u∧(Int.gcd u v:Int)*(v / (Int.gcd u v:Int))=v:=by
 refine ⟨?_,Int.mul_ediv_cancel' (Int.gcd_dvd_left ..),Int.mul_ediv_cancel' (Int.gcd_dvd_right ..)⟩
 have:Int.gcd u v≠0:=fun e=>hv (Int.gcd_eq_zero_iff.1 e).2
 omega
theorem abs_ediv_le (u:Int) {g:Int} (hg:0<g) (h:g*(u / g)=u):(u / g).natAbs≤u.natAbs:=by
 have h1:u.natAbs=g.natAbs*(u / g).natAbs:=by rw [←Int.natAbs_mul,h]
 have h2:1*(u / g).natAbs≤g.natAbs*(u / g).natAbs:=Nat.mul_le_mul_right _ (by omega)
 omega
theorem low_facts (u:Int) {v:Int} (hv:v≠0):0<lowQ u v∧(lowP u v).natAbs≤u.natAbs∧(lowQ u v).natAbs≤v.natAbs:=by
 obtain ⟨h1,h2,h3⟩:=gcd_facts u hv
 have h4:=abs_ediv_le u h1 h2
 have h5:=abs_ediv_le v h1 h3
 have h6:v / (Int.gcd u v:Int)≠0:=fun e=>by rw [e] at h3;omega
 unfold lowP lowQ
 by_cases h:v<0
 ·simp only [h,if_true]
  have:v / (Int.gcd u v:Int)<0:=by
   rcases Int.lt_trichotomy (v / (Int.gcd u v:Int)) 0 with h7 | h7 | h7
   ·exact h7
   ·exact absurd h7 h6
   ·have:=Int.mul_pos h1 h7;omega
  omega
 ·simp only [h,if_false]
  have:0<v / (Int.gcd u v:Int):=by
   rcases Int.lt_trichotomy (v / (Int.gcd u v:Int)) 0 with h7 | h7 | h7
   ·have:=Int.mul_neg_of_pos_of_neg h1 h7;omega
   ·exact absurd h7 h6
   ·exact h7
  omega
theorem sgn_neg {v:Int}:decide (sgn v<0)=decide (v<0):=by
 unfold sgn
 rw [decide_eq_decide]
 split
 ·simp;omega
 ·split<;>simp<;>omega
theorem lowest_ff {a b c d:Bool×List Int} {u v:Int} {L:Nat} (ha:Rep 4294967296 a u) (hb:Rep 4294967296 b v) (hc:Rep 10000 c u) (hd:Rep 10000 d v)
 (la:a.2.length≤L) (lb:b.2.length≤L) (lc:c.2.length≤L) (ld:d.2.length≤L) (hL:L<50000) (hv:v≠0) :
 ∃z k,W.whole_lowest a b=some z∧W.Jy c d=some (k,0,0)∧FF z k (lowP u v) (lowQ u v) (L+1):=by
 have hB:(1:Int)<4294967296:=by decide
 have hC:(1:Int)<10000:=by decide
 obtain ⟨f1,f2,f3⟩:=gcd_facts u hv
 obtain ⟨p1,p2,p3⟩:=low_facts u hv
 have f4:=abs_ediv_le u f1 f2
 have f5:=abs_ediv_le v f1 f3
 have hne:v / (Int.gcd u v:Int)≠0:=fun e=>by rw [e] at f3;omega
 obtain ⟨gi,a1,a2,a3⟩:=igcd_ok ha hb (L:=L) la lb (by omega)
 obtain ⟨gz,b1,b2,b3⟩:=zgcd_ok hc hd (L:=L) lc ld (by omega)
 obtain ⟨q1,r1,c1,c2,_,_,_⟩:=idiv_ok ha a2 (by omega) (by omega) (by omega)
 obtain ⟨q2,r2,d1,d2,_,_,_⟩:=idiv_ok hb a2 (by omega) (by omega) (by omega)
 obtain ⟨q3,r3,e1,e2,_,_,_⟩:=zdiv_ok hc b2 (by omega) (by omega) (by omega)
 obtain ⟨q4,r4,g1,g2,_,_,_⟩:=zdiv_ok hd b2 (by omega) (by omega) (by omega)
 have m1:=Rep.short hB c2 ha f4
 have m2:=Rep.short hB d2 hb f5
 have m3:=Rep.short hC e2 hc f4
 have m4:=Rep.short hC g2 hd f5
 have hsame:v / (Int.gcd u v:Int)<0↔v<0:=by
  constructor
  ·intro h
   have:=Int.mul_neg_of_pos_of_neg f1 h;omega
  ·intro h
   rcases Int.lt_trichotomy (v / (Int.gcd u v:Int)) 0 with h7 | h7 | h7
   ·exact h7
   ·exact absurd h7 hne
   ·have:=Int.mul_pos f1 h7;omega
 have k1:∃x y:Bool×List Int,W.whole_lowest.cv_ q1.1 q1.2 q2.1 q2.2 Option.some=some (x.1,x.2,y.1,y.2)∧Rep 4294967296 x (lowP u v)∧Rep 4294967296 y (lowQ u v):=by
  unfold W.whole_lowest.cv_
  simp only [JA]
  rw [Hm d2,ja,sgn_neg]
  unfold lowP lowQ
  by_cases h:v<0
  ·rw [jS (hsame.2 h),if_pos h,if_pos h]
   obtain ⟨x,x1,x2,x3⟩:=neg_ok c2 (by omega)
   obtain ⟨y,y1,y2,y3⟩:=neg_ok d2 (by omega)
   have c5:W.whole_lowest.c5 q1.1 q1.2 q2.1 q2.2 Option.some=some (x.1,x.2,y.1,y.2):=by
    unfold W.whole_lowest.c5
    simp only [JA]
    rw [x1,ja,y1,ja]
   rw [c5,ja]
   exact ⟨x,y,rfl,x2,y2⟩
  ·rw [jO (fun h2=>h (hsame.1 h2)),if_neg h,if_neg h]
   exact ⟨q1,q2,rfl,c2,d2⟩
 have k2:∃x y:Bool×List Int,W.Jy.cx_ q3.1 q3.2 q4.1 q4.2 Option.some=some (x.1,x.2,y.1,y.2)∧Rep 10000 x (lowP u v)∧Rep 10000 y (lowQ u v):=by
  unfold W.Jy.cx_
  have hneg:q4.1=decide (v<0):=by
   have h1:=g2.val
   have h2:=g2.absval (by decide)
   have h3:=g2.neg
   have h4:=g2.pos hC
   cases hq:q4.1
   ·rw [hq] at h1
    simp only [Bool.false_eq_true,if_false] at h1
    rw [eq_comm,decide_eq_false_iff_not]
    intro h5
    have:=hsame.2 h5;omega
   ·rw [hq] at h1
    simp only [if_true] at h1
    have:=h4 (h3 hq)
    rw [eq_comm,decide_eq_true_eq,←hsame]
    omega
  rw [hneg]
  unfold lowP lowQ
  by_cases h:v<0
  ·rw [jS h,if_pos h,if_pos h]
   obtain ⟨x,x1,x2,x3⟩:=zneg_ok e2 (by omega)
   obtain ⟨y,y1,y2,y3⟩:=zneg_ok g2 (by omega)
   have c7:W.Jy.c7 q3.1 q3.2 (decide (v<0)) q4.2 Option.some=some (x.1,x.2,y.1,y.2):=by
    unfold W.Jy.c7
    rw [←hneg]
    simp only [JA]
    rw [x1,ja,y1,ja]
   rw [c7,ja]
   exact ⟨x,y,rfl,x2,y2⟩
  ·rw [jO h,if_neg h,if_neg h,←hneg]
   exact ⟨q3,q4,rfl,e2,g2⟩
 obtain ⟨x,y,x0,x1,y1⟩:=k1
 obtain ⟨s,t,s0,s1,t1⟩:=k2
 have n1:=Rep.short hB x1 ha p2
 have n2:=Rep.short hB y1 hb p3
 have n3:=Rep.short hC s1 hc p2
 have n4:=Rep.short hC t1 hd p3
 obtain ⟨o,o1,o2,o3⟩:=of_ok (n:=1) (by decide)
 obtain ⟨w,w1,w2,w3⟩:=sub_ok y1 o2 (by omega) (by omega)
 have n5:=Rep.short hB w2 hb (by omega)
 have c6:W.whole_lowest.c6 y.1 y.2 Option.some=some (w.1,w.2):=by
  unfold W.whole_lowest.c6
  simp only [JA]
  rw [o1,ja,w1,ja]
 refine ⟨(x,w),(s,t),?_,?_,⟨x1,w2,s1,t1,p1,by simp only;omega,by simp only;omega,by simp only;omega,by simp only;omega⟩⟩
 ·unfold W.whole_lowest
  simp only [JA]
  rw [a1,ja,c1,ja,d1,ja]
  simp only
  rw [x0,ja]
  simp only
  rw [c6,ja]
 ·unfold W.Jy
  simp only [JA]
  have hz:((d.2.length:Int)==0)=false:=by
   have:=(hd.pos_of hC).2 hv
   apply beq_false_of_ne;omega
  rw [hz,br_ff,b1,ja,e1,ja,g1,ja]
  simp only
  rw [s0,ja]
theorem fover_of {c d:Bool×List Int} {k:Fr} {f:Int×Int} (h:W.Jy c d=some (k,f)):W.kD c d=some k:=by
 unfold W.kD
 simp only [JA]
 rw [h,ja]
theorem one_ff:∃g,W.Jt 1=some g∧FF ((false,[]),false,[]) ((false,[]),g) 0 1 5:=by
 obtain ⟨o,o1,o2,o3⟩:=Ht (n:=1) (by decide)
 exact ⟨o,o1,⟨Rep.nil,Rep.nil,Rep.nil,o2,by decide,by simp,by simp,by simp,o3⟩⟩
theorem VU {x:Fr} {q:Int} (h:Rep 4294967296 x.2 (q-1)) (l:x.2.2.length<1000000):∃r,W.whole_Frac_below x=some r∧Rep 4294967296 r q∧r.2.length≤x.2.2.length+3:=by
 obtain ⟨o,o1,o2,o3⟩:=of_ok (n:=1) (by decide)
 obtain ⟨w,w1,w2,w3⟩:=add_ok h o2 (by omega) (by omega)
 refine ⟨w,?_,w2.eq_of (by omega),by omega⟩
 unfold W.whole_Frac_below W.whole_Frac_below.c1
 simp only [JA]
 rw [o1,ja,w1,ja,ja]
theorem Txt.one_iff {q:Int} {l:List UInt8} (h:Txt q l):l=[49]↔q=1:=by
 have h1:Txt 1 [49]:=Or.inr ⟨by decide,[49],⟨by unfold kJ;decide,by decide,by decide,by decide⟩,rfl⟩
 constructor
 ·intro e;subst e;exact h.inj h1
 ·intro e;subst e;exact h.one h1
theorem txt_len {x:Bool×List Int} {v:Int} {l:List UInt8} (h:Rep 4294967296 x v) (k:Txt v l):l.length≤10*x.2.length+2:=by
 rcases k with ⟨_,rfl⟩ | ⟨h0,D,hd,rfl⟩
 ·simp
 ·have h1:=Yk (B:=4294967296) (by decide) h.dig
  rw [h.absval (by decide)] at h1
  have h2:∀n:Nat,(4294967296:Int)^n≤10^(10*n):=by
   intro n
   induction n with
   | zero=>simp
   | succ n ih=>
     rw [Int.pow_succ,show 10*(n+1)=10*n+10 by omega,Int.pow_add]
     exact Int.mul_le_mul ih (by decide) (by decide) (Int.le_of_lt (Int.pow_pos (by decide)))
  have:=hd.len (n:=10*x.2.length) (by have:=h2 x.2.length;omega)
  rw [List.length_append]
  split<;>simp<;>omega
theorem ftext_ff {x g:Fr} {p q:Int} {L:Nat} (h:FF x g p q L) (hL:L<500000):∃l,W.whole_Frac_Text x=some l∧W.JO g=some l∧(q=1→Txt p l):=by
 obtain ⟨x1,x2,g1,g2,pos,l1,l2,l3,l4⟩:=h
 obtain ⟨t,t1,t2⟩:=text_ok x1 (by omega)
 obtain ⟨t',t3,t4⟩:=ztext_ok g1 (by omega)
 have e:=t4.one t2
 subst e
 obtain ⟨b,b1,b2,b3⟩:=VU x2 (by omega)
 obtain ⟨s,s1,s2⟩:=text_ok b2 (by omega)
 obtain ⟨s',s3,s4⟩:=ztext_ok g2 (by omega)
 have e:=s4.one s2
 subst e
 have ln1:=txt_len x1 t2
 have ln2:=txt_len b2 s2
 have hsg:(sgn (q-1)==0)=decide (q=1):=by
  unfold sgn
  split
  ·omega
  ·split
   ·rw [decide_eq_true (by omega)];rfl
   ·rw [decide_eq_false (by omega)];rfl
 have hs1:(s'==[49])=decide (q=1):=by
  by_cases h:q=1
  ·rw [decide_eq_true h,s4.one_iff.2 h];rfl
  ·rw [decide_eq_false h]
   exact beq_false_of_ne fun e=>h (s4.one_iff.1 e)
 have hx:W.whole_Frac_Text x=br (decide (q=1)) (some t') (some (t'++[47]++s')):=by
  unfold W.whole_Frac_Text
  simp only [JA]
  rw [Hm x2,ja,hsg,t1]
  congr 1
  have c3:W.whole_Frac_Text.c3 x.1.1 x.1.2 x.2.1 x.2.2 Option.some=some (t'++[47]++s'):=by
   unfold W.whole_Frac_Text.c3
   simp only [JA]
   rw [t1,ja,jB (by simp;omega),ja,b1,ja,s1,ja,jB (by simp;omega),ja]
  rw [c3,ja]
 have hg:W.JO g=br (decide (q=1)) (some t') (some (t'++[47]++s')):=by
  unfold W.JO
  simp only [JA]
  rw [s3,ja,hs1,t3]
  congr 1
  have c3:W.JO.c3 g.1.1 g.1.2 g.2.1 g.2.2 Option.some=some (t'++[47]++s'):=by
   unfold W.JO.c3
   simp only [JA]
   rw [t3,ja,jB (by simp;omega),ja,s3,ja,jB (by simp;omega),ja]
  rw [c3,ja]
 rw [hx,hg]
 by_cases h:q=1
 ·rw [jS h];exact ⟨_,rfl,rfl,fun _=>t2⟩
 ·rw [jO h];exact ⟨_,rfl,rfl,fun e=>absurd e h⟩
theorem add_ff {x g y h:Fr} {p q r s:Int} {L:Nat} (hx:FF x g p q L) (hy:FF y h r s L) (hL:L<5000) :
 ∃z k,W.whole_Frac_Add x y=some z∧W.ka g h=some k∧FF z k (lowP (p*s+r*q) (q*s)) (lowQ (p*s+r*q) (q*s)) (5*L+20):=by
 obtain ⟨x1,x2,g1,g2,xp,l1,l2,l3,l4⟩:=hx
 obtain ⟨y1,y2,h1,h2,yp,m1,m2,m3,m4⟩:=hy
 obtain ⟨bx,bx1,bx2,bx3⟩:=VU x2 (by omega)
 obtain ⟨by',by1,by2,by3⟩:=VU y2 (by omega)
 obtain ⟨a,a1,a2,a3⟩:=UY x1 by2 (by omega) (by omega)
 obtain ⟨b,b1,b2,b3⟩:=UY y1 bx2 (by omega) (by omega)
 obtain ⟨c,c1,c2,c3⟩:=add_ok a2 b2 (by omega) (by omega)
 obtain ⟨d,d1,d2,d3⟩:=UY bx2 by2 (by omega) (by omega)
 obtain ⟨e,e1,e2,e3⟩:=VN g1 h2 (by omega) (by omega)
 obtain ⟨f,f1,f2,f3⟩:=VN h1 g2 (by omega) (by omega)
 obtain ⟨i,i1,i2,i3⟩:=zadd_ok e2 f2 (by omega) (by omega)
 obtain ⟨j,j1,j2,j3⟩:=VN g2 h2 (by omega) (by omega)
 have hne:q*s≠0:=Int.ne_of_gt (Int.mul_pos xp yp)
 obtain ⟨z,k,z1,k1,zz⟩:=lowest_ff c2 d2 i2 j2 (L:=5*L+19) (by omega) (by omega) (by omega) (by omega) (by omega) hne
 refine ⟨z,k,?_,?_,zz⟩
 ·unfold W.whole_Frac_Add W.whole_Frac_Add.c1
  simp only [JA]
  simp only [bx1,by1,a1,b1,c1,d1,z1,ja,JA]
 ·unfold W.ka W.ka.c1
  simp only [JA]
  simp only [e1,f1,i1,j1,fover_of k1,ja,JA]
theorem sub_ff {x g y h:Fr} {p q r s:Int} {L:Nat} (hx:FF x g p q L) (hy:FF y h r s L) (hL:L<5000) :
 ∃z k,W.whole_Frac_Sub x y=some z∧W.kh g h=some k∧FF z k (lowP (p*s + -r*q) (q*s)) (lowQ (p*s + -r*q) (q*s)) (5*L+20):=by
 obtain ⟨n,n1,n2,n3⟩:=neg_ok hy.x1 (by have:=hy.l1;omega)
 obtain ⟨m,m1,m2,m3⟩:=zneg_ok hy.g1 (by have:=hy.l3;omega)
 have hy':FF (n,y.2) (m,h.2) (-r) s L:=⟨n2,hy.x2,m2,hy.g2,hy.pos,by have:=hy.l1;simp only;omega,hy.l2,by have:=hy.l3;simp only;omega,hy.l4⟩
 obtain ⟨z,k,z1,k1,zz⟩:=add_ff hx hy' hL
 refine ⟨z,k,?_,?_,zz⟩
 ·unfold W.whole_Frac_Sub W.whole_Frac_Sub.c1
  simp only [JA]
  simp only [n1,ja,JA]
  rw [z1,ja,ja]
 ·unfold W.kh W.kh.c1
  simp only [JA]
  simp only [m1,ja,JA]
  rw [k1,ja,ja]
theorem mul_ff {x g y h:Fr} {p q r s:Int} {L:Nat} (hx:FF x g p q L) (hy:FF y h r s L) (hL:L<5000) :
 ∃z k,W.whole_Frac_Mul x y=some z∧W.JY g h=some k∧FF z k (lowP (p*r) (q*s)) (lowQ (p*r) (q*s)) (5*L+20):=by
 obtain ⟨x1,x2,g1,g2,xp,l1,l2,l3,l4⟩:=hx
 obtain ⟨y1,y2,h1,h2,yp,m1,m2,m3,m4⟩:=hy
 obtain ⟨bx,bx1,bx2,bx3⟩:=VU x2 (by omega)
 obtain ⟨by',by1,by2,by3⟩:=VU y2 (by omega)
 obtain ⟨c,c1,c2,c3⟩:=UY x1 y1 (by omega) (by omega)
 obtain ⟨d,d1,d2,d3⟩:=UY bx2 by2 (by omega) (by omega)
 obtain ⟨i,i1,i2,i3⟩:=VN g1 h1 (by omega) (by omega)
 obtain ⟨j,j1,j2,j3⟩:=VN g2 h2 (by omega) (by omega)
 have hne:q*s≠0:=Int.ne_of_gt (Int.mul_pos xp yp)
 obtain ⟨z,k,z1,k1,zz⟩:=lowest_ff c2 d2 i2 j2 (L:=5*L+19) (by omega) (by omega) (by omega) (by omega) (by omega) hne
 refine ⟨z,k,?_,?_,zz⟩
 ·unfold W.whole_Frac_Mul W.whole_Frac_Mul.c1
  simp only [JA]
  simp only [bx1,by1,c1,d1,z1,ja,JA]
 ·unfold W.JY W.JY.c1
  simp only [JA]
  simp only [i1,j1,fover_of k1,ja,JA]
theorem cmp_ff {x g y h:Fr} {p q r s:Int} {L:Nat} (hx:FF x g p q L) (hy:FF y h r s L) (hL:L<5000) :
 W.whole_Frac_Cmp x y=some (sgn (p*s-r*q))∧W.kl g h=some (sgn (p*s-r*q)):=by
 obtain ⟨x1,x2,g1,g2,xp,l1,l2,l3,l4⟩:=hx
 obtain ⟨y1,y2,h1,h2,yp,m1,m2,m3,m4⟩:=hy
 obtain ⟨bx,bx1,bx2,bx3⟩:=VU x2 (by omega)
 obtain ⟨by',by1,by2,by3⟩:=VU y2 (by omega)
 obtain ⟨c,c1,c2,c3⟩:=UY x1 by2 (by omega) (by omega)
 obtain ⟨d,d1,d2,d3⟩:=UY y1 bx2 (by omega) (by omega)
 obtain ⟨i,i1,i2,i3⟩:=VN g1 h2 (by omega) (by omega)
 obtain ⟨j,j1,j2,j3⟩:=VN h1 g2 (by omega) (by omega)
 refine ⟨?_,?_⟩
 ·unfold W.whole_Frac_Cmp W.whole_Frac_Cmp.c1
  simp only [JA]
  simp only [bx1,by1,c1,d1,ja,icmp_ok c2 d2 (by omega) (by omega)]
 ·unfold W.kl W.kl.c1
  simp only [JA]
  simp only [i1,j1,ja,zcmp_ok i2 j2 (by omega) (by omega)]
end Go.Ql
end
section
namespace Go.Ql
theorem take_all (l:List UInt8):l.take (Int.toNat (l.length:Int))=l:=by rw [Int.toNat_natCast,List.take_length]
def tenTo (n:Nat):Nat:=10^n
theorem tenTo_le {v n:Nat} (h:v<10^n):∀m,n≤m→v≤tenTo m:=fun m hm=>Nat.le_trans (Nat.le_of_lt h) (Nat.pow_le_pow_right (by decide) hm)
theorem tenTo_pos:∀m,1≤tenTo m:=fun m=>Nat.pow_pos (by decide)
def Kf:Nat:=tenTo 1000
theorem Kf_pos:1≤Kf:=tenTo_pos 1000
theorem Kf_of {v n:Nat} (h:v<10^n) (hn:n≤1000):v≤Kf:=tenTo_le h 1000 hn
theorem fparse_ok (text:List UInt8) (hL:text.length≤9223372036854775807) :
 ∃x g f p q,W.whole_ParseFrac text=some (x,f)∧W.jw text=some (g,f)∧FF x g p q 1001∧p.natAbs≤Kf∧q.natAbs≤Kf:=by
 obtain ⟨n1,n2⟩:=number_ok true text hL
 have hle:=numLen_le true text
 have hcan:=numLen_canon (sg:=true) (text:=text)
 obtain ⟨o,o1,o2⟩:=one_ff
 have nought:∀f:Int×Int,∃x g f' p q,(some (((false,[]),(false,[])),f):Option (Fr×Int×Int))=some (x,f')∧(some (((false,[]),o),f):Option (Fr×Int×Int))=some (g,f')∧FF x g p q 1001∧p.natAbs≤Kf∧q.natAbs≤Kf:=fun f=>
  ⟨_,_,f,0,1,rfl,rfl,⟨o2.x1,o2.x2,o2.g1,o2.g2,o2.pos,by simp,by simp,by simp,by have:=o2.l4;simp only at this ⊢;omega⟩,Nat.zero_le _,Kf_pos⟩
 generalize hn:(Yf true text).1=n at *
 generalize hok:(Yf true text).2=ok at *
 
 have c3:W.whole_ParseFrac.c3 text (n:Int) ok Option.some=some (ok&&(text[n]? == some 47))∧W.jw.c4 text (n:Int) ok Option.some=some (ok&&(text[n]? == some 47)):=by
  have key:W.whole_ParseFrac.c3 text (n:Int) ok Option.some=some (ok&&(text[n]? == some 47)):=by
   unfold W.whole_ParseFrac.c3
   cases ok
   ·rfl
   ·rw [br_tt,Bool.true_and]
    by_cases h:n<text.length
    ·rw [jS (by omega),Uu text n h,ja,List.getElem?_eq_getElem h]
     congr 1
     generalize text[n]=c
     by_cases h5:c=47
     ·subst h5;rfl
     ·have h6:(some c==some 47)=false:=beq_false_of_ne (by simpa using h5)
      rw [h6]
      apply beq_false_of_ne
      intro e
      apply h5
      apply UInt8.toNat_inj.1
      show c.toNat=47
      omega
    ·rw [jO (by omega),List.getElem?_eq_none (by omega)];rfl
  exact ⟨key,key⟩
 unfold W.whole_ParseFrac W.jw
 rw [n1,ja,o1,ja,n2,ja]
 simp only
 rw [jB (by simp;omega),ja]
 unfold W.whole_ParseFrac.cZ_ W.jw.caa_
 rw [c3.1,c3.2,ja,ja]
 simp only [Int.toNat_natCast,List.take_length]
 by_cases hcut:(ok&&(text[n]? == some 47))=true
 ·
  rw [hcut,br_tt,br_tt]
  rw [Bool.and_eq_true] at hcut
  obtain ⟨hokt,hbar⟩:=hcut
  subst hokt
  have hbar:=beq_iff_eq.1 hbar
  have hnl:n<text.length:=by
   rcases Nat.lt_or_ge n text.length with h | h
   ·exact h
   ·rw [List.getElem?_eq_none h] at hbar;cases hbar
  rw [ji (x:=(n:Int)+1) (by omega),jB (by simp;omega),ja,show ((n:Int)+1).toNat=n+1 by omega]
  obtain ⟨m1,m2⟩:=number_ok false (text.drop (n+1)) (by rw [List.length_drop];omega)
  have mle:=numLen_le false (text.drop (n+1))
  have mcan:=numLen_canon (sg:=false) (text:=text.drop (n+1))
  rw [List.length_drop] at mle
  generalize hk:(Yf false (text.drop (n+1))).1=k at *
  generalize hmore:(Yf false (text.drop (n+1))).2=more at *
  rw [m1,ja,m2,ja,ja]
  simp only
  rw [ji (x:=(n:Int)+1+(k:Int)) (by omega),jB (by simp;omega),ja,ja]
  simp only
  have c6:W.whole_ParseFrac.c6 text ((n:Int)+1+(k:Int)) more Option.some=some (!more||decide (n+1+k<text.length))∧W.jw.c8 text more ((n:Int)+1+(k:Int)) Option.some=some (!more||decide (n+1+k<text.length)):=by
   have key:W.whole_ParseFrac.c6 text ((n:Int)+1+(k:Int)) more Option.some=some (!more||decide (n+1+k<text.length)):=by
    unfold W.whole_ParseFrac.c6
    cases more
    ·rfl
    ·rw [Bool.not_true,br_ff,Bool.false_or];congr 1;rw [decide_eq_decide];omega
   exact ⟨key,key⟩
  simp only [ja,c6.1,c6.2]
  by_cases hbad:(!more||decide (n+1+k<text.length))=true
  ·rw [ko hbad,ko hbad]
   exact nought (1,(n:Int)+1+(k:Int))
  rw [JQ (eq_false_of_ne_true hbad),JQ (eq_false_of_ne_true hbad)]
  have hg:more=true∧text.length=n+1+k:=by
   cases more<;>simp at hbad ⊢
   omega
  obtain ⟨hcan1,_⟩:=hcan rfl
  obtain ⟨mcan1,mcan2⟩:=mcan hg.1
  have hk':(text.drop (n+1)).take k=text.drop (n+1):=List.take_of_length_le (by rw [List.length_drop];omega)
  rw [hk'] at mcan1 mcan2
  have htail:List.drop (n+1) (List.take ((n:Int)+1+(k:Int)).toNat text)=text.drop (n+1):=by
   rw [List.take_of_length_le (by omega)]
  rw [htail]
  obtain ⟨ds,u,hs⟩:=hcan1.said (by rw [List.length_take];omega)
  obtain ⟨es,v,ht⟩:=mcan1.said (by rw [List.length_drop];omega)
  have hes:es=text.drop (n+1):=by
   have:=ht.trim
   rw [trim_ok _ (by rw [List.length_drop];omega),if_neg (Vk (mcan2 rfl).1)] at this
   exact (Option.some.inj this).symm
  have hesl:es.length=k:=by rw [hes,List.length_drop];omega
  have c8:W.whole_ParseFrac.c8 (text.take n) (text.drop (n+1)) Option.some=some (decide (ds.length>1000∨k>1000)):=by
   unfold W.whole_ParseFrac.c8
   rw [show Array.toList (ByteArray.data (ByteArray.mk #[(45:UInt8)]))=[45] from rfl,hs.trim,ja,List.length_drop]
   by_cases h:(ds.length:Int)>1000
   ·rw [jS h,decide_eq_true (Or.inl (by omega))]
   ·rw [jO h];congr 1;rw [decide_eq_decide];omega
  have c10:W.jw.c10 text (n:Int) ((n:Int)+1+(k:Int)) Option.some=some (decide (ds.length>1000∨k>1000)):=by
   unfold W.jw.c10
   rw [jB (by simp;omega),ja,Int.toNat_natCast,hs.of,ja,ji (x:=(n:Int)+1+(k:Int)-(n:Int)) (by omega),ji (by omega)]
   by_cases h:(ds.length:Int)>1000
   ·rw [jS h,decide_eq_true (Or.inl (by omega))]
   ·rw [jO h];congr 1;rw [decide_eq_decide];omega
  simp only [ja,c8,c10]
  by_cases hlong:ds.length>1000∨k>1000
  ·rw [jS hlong,jS hlong]
   exact nought (2,0)
  rw [jO hlong,jO hlong]
  obtain ⟨a,c,a1,_,a3,a4,a5,a6,a7⟩:=hs.rd (by omega)
  obtain ⟨b,d,b1,_,b3,b4,b5,b6,b7⟩:=ht.rd (by omega)
  have hv:v≠0:=by
   intro e
   have h1:=ht.txt
   rw [e] at h1
   rcases h1 with ⟨_,h1⟩ | ⟨h1,_⟩
   ·exact (mcan2 rfl).2.1 (by rw [h1];rfl)
   ·exact h1 rfl
  obtain ⟨z,w,z1,w1,zz⟩:=lowest_ff a4 b4 a5 b5 (L:=1000) (by omega) (by omega) (by omega) (by omega) (by omega) hv
  obtain ⟨t,t1,t2,_⟩:=ftext_ff zz (by omega)
  simp only [a1,ja,Bool.not_true,br_ff,b1,JA,z1,t1,a3]
  have c14:W.jw.c14 text (n:Int) Option.some=some (w.1.1,w.1.2,w.2.1,w.2.2):=by
   unfold W.jw.c14
   rw [jB (by simp;omega),ja,Int.toNat_natCast,a3,ja,ji (x:=(n:Int)+1) (by omega),jB (by simp;omega),ja,take_all,show ((n:Int)+1).toNat=n+1 by omega,b3,ja,fover_of w1,ja]
  have c25:W.jw.cu_ text (n:Int) ((n:Int)+1+(k:Int)) c.1 c.2 o.1 o.2 Option.some=some (w.1.1,w.1.2,w.2.1,w.2.2):=by
   unfold W.jw.cu_
   rw [jS (by omega),c14,ja]
  simp only [c25,ja,JA,t2]
  by_cases hform:(!t==text)=true
  ·rw [ko hform,ko hform]
   exact nought (3,0)
  ·rw [JQ (eq_false_of_ne_true hform),JQ (eq_false_of_ne_true hform)]
   exact ⟨z,w,(0,0),_,_,rfl,rfl,zz,Nat.le_trans (low_facts u hv).2.1 (Kf_of hs.small (by omega)),Nat.le_trans (low_facts u hv).2.2 (Kf_of ht.small (by omega))⟩
 ·rw [eq_false_of_ne_true hcut,br_ff,br_ff,ja,ja]
  simp only
  have c6:W.whole_ParseFrac.c6 text (n:Int) ok Option.some=some (!ok||decide (n<text.length))∧W.jw.c8 text ok (n:Int) Option.some=some (!ok||decide (n<text.length)):=by
   have key:W.whole_ParseFrac.c6 text (n:Int) ok Option.some=some (!ok||decide (n<text.length)):=by
    unfold W.whole_ParseFrac.c6
    cases ok
    ·rfl
    ·rw [Bool.not_true,br_ff,Bool.false_or];congr 1;rw [decide_eq_decide];omega
   exact ⟨key,key⟩
  simp only [ja,c6.1,c6.2]
  by_cases hbad:(!ok||decide (n<text.length))=true
  ·rw [ko hbad,ko hbad]
   exact nought (1,(n:Int))
  rw [JQ (eq_false_of_ne_true hbad),JQ (eq_false_of_ne_true hbad)]
  have hg:ok=true∧text.length=n:=by
   cases ok<;>simp at hbad ⊢
   omega
  obtain ⟨hcan1,_⟩:=hcan hg.1
  have htk:text.take n=text:=List.take_of_length_le (by omega)
  rw [htk] at hcan1 ⊢
  obtain ⟨ds,u,hs⟩:=hcan1.said hL
  have c8:W.whole_ParseFrac.c8 text [] Option.some=some (decide (ds.length>1000)):=by
   unfold W.whole_ParseFrac.c8
   rw [show Array.toList (ByteArray.data (ByteArray.mk #[(45:UInt8)]))=[45] from rfl,hs.trim,ja]
   by_cases h:(ds.length:Int)>1000
   ·rw [jS h,decide_eq_true (by omega)]
   ·rw [jO h,decide_eq_false (by simp),decide_eq_false (by omega)]
  have c10:W.jw.c10 text (n:Int) (n:Int) Option.some=some (decide (ds.length>1000)):=by
   unfold W.jw.c10
   rw [jB (by simp;omega),ja,Int.toNat_natCast,htk,hs.of,ja,ji (x:=(n:Int)-(n:Int)) (by omega),ji (by omega)]
   by_cases h:(ds.length:Int)>1000
   ·rw [jS h,decide_eq_true (by omega)]
   ·rw [jO h];congr 1;rw [decide_eq_decide];omega
  simp only [ja,c8,c10]
  by_cases hlong:ds.length>1000
  ·rw [jS hlong,jS hlong]
   exact nought (2,0)
  rw [jO hlong,jO hlong]
  obtain ⟨a,c,a1,_,a3,a4,a5,a6,a7⟩:=hs.rd (by omega)
  have zz:FF (a,false,[]) (c,o) u 1 1001:=⟨a4,Rep.nil,a5,o2.g2,by decide,by simp only;omega,by simp,by simp only;omega,by have:=o2.l4;simp only at this ⊢;omega⟩
  obtain ⟨t,t1,t2,t3⟩:=ftext_ff zz (by omega)
  have htt:t=text:=(t3 rfl).one hs.txt
  simp only [a1,ja,Bool.not_false,br_tt,a3,JA]
  have c25:W.jw.cu_ text (n:Int) (n:Int) c.1 c.2 o.1 o.2 Option.some=some (c.1,c.2,o.1,o.2):=by
   unfold W.jw.cu_
   rw [jO (by omega)]
  simp only [c25,ja,JA,t2,htt]
  have:(!text==text)=false:=by simp
  rw [this,br_ff]
  exact ⟨_,_,(0,0),_,_,rfl,rfl,zz,Kf_of hs.small (by omega),Kf_pos⟩
end Go.Ql
end
section
namespace Go.Ql
theorem low_gcd (u:Int) {v:Int} (hv:v≠0):Int.gcd (lowP u v) (lowQ u v)=1:=by
 obtain ⟨h1,h2,h3⟩:=gcd_facts u hv
 have h4:Int.gcd (u / (Int.gcd u v:Int)) (v / (Int.gcd u v:Int))=1:=by
  have h5:Int.gcd ((Int.gcd u v:Int)*(u / (Int.gcd u v:Int))) ((Int.gcd u v:Int)*(v / (Int.gcd u v:Int)))=(Int.gcd u v:Int).natAbs*Int.gcd (u / (Int.gcd u v:Int)) (v / (Int.gcd u v:Int)):=Int.gcd_mul_left ..
  rw [h2,h3] at h5
  have h6:(Int.gcd u v:Int).natAbs=Int.gcd u v:=Int.natAbs_natCast _
  rw [h6] at h5
  have h7:Int.gcd u v*1=Int.gcd u v*Int.gcd (u / (Int.gcd u v:Int)) (v / (Int.gcd u v:Int)):=by rw [Nat.mul_one];exact h5
  exact (Nat.eq_of_mul_eq_mul_left (by omega) h7).symm
 unfold lowP lowQ
 split<;>simp [h4]
theorem low_cross (u:Int) {v:Int} (hv:v≠0):lowP u v*v=lowQ u v*u:=by
 obtain ⟨h1,h2,h3⟩:=gcd_facts u hv
 have h4:u / (Int.gcd u v:Int)*v=v / (Int.gcd u v:Int)*u:=by
  generalize (Int.gcd u v:Int)=g at *
  generalize u / g=x at *
  generalize v / g=y at *
  rw [←h2,←h3];grind
 unfold lowP lowQ
 split
 ·rw [Int.neg_mul,Int.neg_mul,h4]
 ·exact h4
end Go.Ql
end
end
