/- The reference's numbers, gates and runs. -/
import Derived.Test.YtjlbeiadpdgchaaWc
import Derived.Test.YtjlbeiadpdgchaaPc
import Derived.Test.YtjlbeiadpdgchaaPa
import Derived.Lib.Join
import Derived.Lib.ItoaNum
set_option linter.all false
section
section
section
namespace Go.Ql
structure Rep (B:Int) (x:Bool×List Int) (v:Int):Prop where
 dig:Dig B x.2
 last:x.2≠[]→x.2.getD (x.2.length-1) 0≠0
 neg:x.1=true→x.2≠[]
 val:v=if x.1 then-val B x.2 else val B x.2
end Go.Ql
end
section
namespace Go.Ql
def Trim (l:List Int):Prop:=l≠[]→l.getD (l.length-1) 0≠0
theorem val_ge {B:Int} (hB:1<B) {l:List Int} (h:Dig B l) (ht:Trim l) (hn:l≠[]):B^(l.length-1)≤val B l:=by
 have h0:l.length≠0:=fun e=>hn (List.eq_nil_of_length_eq_zero e)
 have h1:=val_take_succ B (l.length-1) l
 rw [show l.length-1+1=l.length by omega,List.take_length] at h1
 have h2:=h.getD (by omega) (l.length-1)
 have h3:=ht hn
 have h4:=val_nonneg (by omega) (h.take (l.length-1))
 have h5:B^(l.length-1)*1≤B^(l.length-1)*l.getD (l.length-1) 0:=Int.mul_le_mul_of_nonneg_left (by omega) (Int.le_of_lt (Int.pow_pos (by omega)))
 omega
theorem Ni {B:Int} (hB:1<B) {m n:Nat} (h:m≤n):B^m≤B^n:=by
 induction n with
 | zero=>rw [show m=0 by omega];exact Int.le_refl _
 | succ n ih=>
   by_cases e:m=n+1
   ·rw [e];exact Int.le_refl _
   ·have h1:=ih (by omega)
    have h2:0<B^n:=Int.pow_pos (by omega)
    rw [Int.pow_succ]
    have h3:B^n*1≤B^n*B:=Int.mul_le_mul_of_nonneg_left (by omega) (by omega)
    omega
theorem val_lt_of_len {B:Int} (hB:1<B) {a b:List Int} (ha:Dig B a) (hb:Dig B b) (tb:Trim b) (h:a.length<b.length):val B a<val B b:=by
 have h1:=val_lt (by omega) ha
 have h2:=val_ge hB hb tb (by intro e;rw [e] at h;simp at h)
 have h3:=Ni hB (show a.length≤b.length-1 by omega)
 omega
theorem len_le {B:Int} (hB:1<B) {a b:List Int} (ha:Dig B a) (hb:Dig B b) (tb:Trim b) (h:val B b≤val B a):b.length≤a.length:=by
 by_cases h1:b.length≤a.length
 ·exact h1
 ·have:=val_lt_of_len hB ha hb tb (by omega);omega
end Go.Ql
end
section
namespace Go.Ql
def qsgn (v:Int):Int:=if v<0 then -1 else if v=0 then 0 else 1
theorem Rep.pos {B:Int} (hB:1<B) {x:Bool×List Int} {v:Int} (h:Rep B x v) (hn:x.2≠[]):0<Ql.val B x.2:=by
 have h1:=val_ge hB h.dig h.last hn
 have h2:0<B^(x.2.length-1):=Int.pow_pos (by omega)
 omega
theorem Rep.sgn {B:Int} (hB:1<B) {x:Bool×List Int} {v:Int} (h:Rep B x v) :
 qsgn v=if x.2.length=0 then 0 else if x.1 then -1 else 1:=by
 by_cases hn:x.2=[]
 ·have h1:=h.val
  rw [hn] at h1 ⊢
  have:v=0:=by rw [h1];simp [Ql.val]
  simp [this,Ql.qsgn]
 ·have h1:=h.pos hB hn
  have h2:x.2.length≠0:=fun e=>hn (List.eq_nil_of_length_eq_zero e)
  have h3:=h.val
  rw [if_neg h2]
  unfold Ql.qsgn
  cases hx:x.1<;>simp only [hx,Bool.false_eq_true,if_false,if_true] at h3 ⊢ <;> split<;>(try split)<;>omega
end Go.Ql
end
section
namespace Go.Ql
def Hr (c:UInt8):Bool:=decide (48≤c.toNat)&&decide (c.toNat≤57)
def Canon (text:List UInt8):Prop:=text=[48] ∨ ∃(neg:Bool) (ds:List UInt8),ds≠[]∧(∀c∈ds,Hr c=true)∧ds.head? ≠ some 48∧text=(if neg then [45] else [])++ds
end Go.Ql
end
section
namespace Go.Ql
def dg (c:UInt8):Int:=(c.toNat:Int)-48
def qdec (l:List UInt8):Int:=l.foldl (fun n c=>n*10+dg c) 0
theorem dec_from (n:Int) (l:List UInt8):l.foldl (fun n c=>n*10+dg c) n=n*10^l.length+qdec l:=by
 induction l generalizing n with
 | nil=>simp [qdec]
 | cons c l ih=>
   have h1:=ih (n*10+dg c)
   have h2:=ih (0*10+dg c)
   simp only [qdec,List.foldl_cons,List.length_cons,Int.pow_succ] at h1 h2 ⊢
   rw [h1,h2]
   grind
theorem dec_append (l m:List UInt8):qdec (l++m)=qdec l*10^m.length+qdec m:=by
 unfold qdec
 rw [List.foldl_append,dec_from];rfl
theorem dec_snoc (l:List UInt8) (c:UInt8):qdec (l++[c])=qdec l*10+dg c:=by
 rw [dec_append];simp [qdec]
def Vc (l:List UInt8):Prop:=∀c∈l,Hr c=true
theorem dg_of {c:UInt8} (h:Hr c=true):0≤dg c∧dg c≤9:=by
 simp only [Hr,Bool.and_eq_true,decide_eq_true_eq] at h
 unfold dg;omega
theorem Ur:∀{l:List UInt8},Vc l→0≤qdec l∧qdec l<10^l.length
 | [],_=>by simp [qdec]
 | c::l,h=>by
   have h1:=Ur (l:=l) (fun x hx=>h x (List.mem_cons_of_mem _ hx))
   have h2:=dg_of (h c (List.mem_cons_self ..))
   have h3:=dec_append [c] l
   have h4:qdec [c]=dg c:=by simp [qdec]
   rw [List.singleton_append,h4] at h3
   have h5:0<(10:Int)^l.length:=Int.pow_pos (by decide)
   have h6:dg c*10^l.length≤9*10^l.length:=Int.mul_le_mul_of_nonneg_right h2.2 (by omega)
   have h7:0≤dg c*10^l.length:=Int.mul_nonneg h2.1 (by omega)
   simp only [List.length_cons,Int.pow_succ]
   omega
end Go.Ql
end
section
namespace Go.Ql
theorem Canon.parts {text:List UInt8} (h:Canon text):∃(neg:Bool) (ds:List UInt8),ds≠[]∧Vc ds∧text=(if neg then [45] else [])++ds:=by
 rcases h with rfl | ⟨neg,ds,h1,h2,_,h4⟩
 ·exact ⟨false,[48],by simp,fun c hc=>by simp at hc;subst hc;rfl,rfl⟩
 ·exact ⟨neg,ds,h1,h2,h4⟩
end Go.Ql
end
section
namespace Go.Ql
theorem dg_inj {c d:UInt8} (h:dg c=dg d):c=d:=by
 apply UInt8.toNat_inj.1
 unfold dg at h;omega
theorem dec_cons (c:UInt8) (l:List UInt8):qdec (c::l)=dg c*10^l.length+qdec l:=by
 have h3:=dec_append [c] l
 have h4:qdec [c]=dg c:=by simp [qdec]
 rw [List.singleton_append,h4] at h3
 exact h3
theorem dec_inj:∀{l m:List UInt8},Vc l→Vc m→l.length=m.length→qdec l=qdec m→l=m
 | [],[],_,_,_,_=>rfl
 | c::l,d::m,hl,hm,e,h=>by
   have hl':Vc l:=fun x hx=>hl x (List.mem_cons_of_mem _ hx)
   have hm':Vc m:=fun x hx=>hm x (List.mem_cons_of_mem _ hx)
   have e':l.length=m.length:=by simpa using e
   have b1:=Ur hl'
   have b2:=Ur hm'
   rw [dec_cons,dec_cons,e'] at h
   rw [e'] at b1
   have hP:(0:Int)<10^m.length:=Int.pow_pos (by decide)
   have hc:dg c=dg d:=by
    rcases Int.lt_trichotomy (dg c) (dg d) with h1 | h1 | h1
    ·have:=Int.mul_le_mul_of_nonneg_right (show dg c+1≤dg d by omega) (Int.le_of_lt hP)
     rw [Int.add_mul] at this;omega
    ·exact h1
    ·have:=Int.mul_le_mul_of_nonneg_right (show dg d+1≤dg c by omega) (Int.le_of_lt hP)
     rw [Int.add_mul] at this;omega
   rw [hc] at h
   rw [dg_inj hc,dec_inj hl' hm' e' (by omega)]
 | [],_::_,_,_,e,_=>by simp at e
 | _::_,[],_,_,e,_=>by simp at e
theorem dec_ge {l:List UInt8} (h:Vc l) (hn:l≠[]) (h0:l.head? ≠ some 48):10^(l.length-1)≤qdec l:=by
 cases l with
 | nil=>exact absurd rfl hn
 | cons c l=>
   have hl':Vc l:=fun x hx=>h x (List.mem_cons_of_mem _ hx)
   have b1:=Ur hl'
   have hd:=dg_of (h c (List.mem_cons_self ..))
   have h1:dg c≠0:=fun e=>h0 (by
    have:dg c=dg 48:=by rw [e];rfl
    rw [dg_inj this];rfl)
   rw [dec_cons]
   have hP:(0:Int)<10^l.length:=Int.pow_pos (by decide)
   have:=Int.mul_le_mul_of_nonneg_right (show 1≤dg c by omega) (Int.le_of_lt hP)
   simp only [List.length_cons,Nat.add_sub_cancel]
   omega
theorem dec_one {l m:List UInt8} (hl:Vc l) (hm:Vc m) (nl:l≠[]) (nm:m≠[]) (l0:l.head? ≠ some 48) (m0:m.head? ≠ some 48) (h:qdec l=qdec m):l=m:=by
 have ll:l.length≠0:=fun e=>nl (List.eq_nil_of_length_eq_zero e)
 have lm:m.length≠0:=fun e=>nm (List.eq_nil_of_length_eq_zero e)
 have g1:=dec_ge hl nl l0
 have g2:=dec_ge hm nm m0
 have b1:=(Ur hl).2
 have b2:=(Ur hm).2
 refine dec_inj hl hm ?_ h
 rcases Nat.lt_trichotomy l.length m.length with e | e | e
 ·have:=Ni (B:=10) (by decide) (show l.length≤m.length-1 by omega);omega
 ·exact e
 ·have:=Ni (B:=10) (by decide) (show m.length≤l.length-1 by omega);omega
end Go.Ql
end
section
namespace Go.Ql
def bytes (l:List Int):List UInt8:=l.map fun n↦UInt8.ofNat (Int.toNat n)
theorem Ho {d:Int} (h:0≤d∧d≤9):Hr (UInt8.ofNat (Int.toNat (48+d)))=true∧dg (UInt8.ofNat (Int.toNat (48+d)))=d:=by
 have h1:(UInt8.ofNat (Int.toNat (48+d))).toNat=Int.toNat (48+d):=by
  rw [UInt8.toNat_ofNat'];omega
 unfold Hr dg
 rw [h1]
 constructor
 ·simp;omega
 ·omega
def IsDec (l:List UInt8) (v:Int):Prop:=Vc l∧l≠[]∧l.head? ≠ some 48∧qdec l=v
def four (d:Int):List Int:=[48+d / 1000,48+d / 100 % 10,48+d / 10 % 10,48+d % 10]
theorem four_digits {d:Int} (h:0≤d∧d<10000):Vc (bytes (four d))∧qdec (bytes (four d))=d:=by
 have a:=Ho (d:=d / 1000) (by omega)
 have b:=Ho (d:=d / 100 % 10) (by omega)
 have c:=Ho (d:=d / 10 % 10) (by omega)
 have e:=Ho (d:=d % 10) (by omega)
 constructor
 ·intro x hx
  simp only [bytes,four,List.map_cons,List.map_nil,List.mem_cons,List.not_mem_nil,or_false] at hx
  rcases hx with rfl | rfl | rfl | rfl
  ·exact a.1
  ·exact b.1
  ·exact c.1
  ·exact e.1
 ·simp only [bytes,four,List.map_cons,List.map_nil,qdec,List.foldl_cons,List.foldl_nil,a.2,b.2,c.2,e.2]
  omega
end Go.Ql
end
section
namespace Go.Ql
theorem bytes_len (l:List Int):(bytes l).length=l.length:=by simp [bytes]
theorem dec_skip:∀(k:Nat) (l:List UInt8),(∀j (h:j<l.length),j<k→l[j]=48)→qdec (l.drop k)=qdec l
 | 0,_,_=>rfl
 | k+1,[],_=>by simp
 | k+1,c::l,h=>by
   have h0:c=48:=h 0 (by simp) (by omega)
   rw [List.drop_succ_cons,dec_skip k l (fun j hj hk=>h (j+1) (by simpa using hj) (by omega)),dec_cons,h0]
   simp [dg]
theorem IsDec.snoc {l:List UInt8} {v d:Int} (h:IsDec l v) (hd:0≤d∧d<10000):IsDec (l++bytes (four d)) (d+10000*v):=by
 obtain ⟨h1,h2,h3,h4⟩:=h
 have hf:=four_digits hd
 refine ⟨fun c hc=>?_,by simp [h2],?_,?_⟩
 ·rcases List.mem_append.1 hc with hc | hc
  ·exact h1 c hc
  ·exact hf.1 c hc
 ·cases l with
  | nil=>exact absurd rfl h2
  | cons c l=>exact h3
 ·rw [dec_append,hf.2,h4,bytes_len]
  show v*10^4+d=_
  omega
theorem getD_byte (F:List Int) (j:Nat) (h:j<(bytes F).length):(bytes F)[j]=UInt8.ofNat (F.getD j 0).toNat:=by
 have h':j<F.length:=by rwa [bytes_len] at h
 simp [bytes,List.getD,h']
theorem IsDec.first {d:Int} (hd:0≤d∧d<10000) (h0:d≠0) {k:Nat} (hk:k≤3) (hz:∀j,j<k→(four d).getD j 0=48) (hn:k<3→(four d).getD k 0≠48):IsDec ((bytes (four d)).drop k) d:=by
 have hf:=four_digits hd
 have hl:(bytes (four d)).length=4:=by rw [bytes_len];rfl
 have hdec:qdec ((bytes (four d)).drop k)=d:=by
  rw [dec_skip k _ (fun j hj hjk=>by rw [getD_byte,hz j hjk];rfl),hf.2]
 have hne:(bytes (four d)).drop k≠[]:=by
  intro e
  have:=congrArg List.length e
  rw [List.length_drop,hl] at this
  simp at this;omega
 refine ⟨fun c hc=>hf.1 c (List.mem_of_mem_drop hc),hne,fun e=>?_,hdec⟩
 by_cases h3:k<3
 ·rw [List.head?_drop,List.getElem?_eq_getElem (by omega),getD_byte] at e
  have h5:=Option.some.inj e
  have hg:48≤(four d).getD k 0∧(four d).getD k 0≤57:=by
   rcases (by omega:k=0∨k=1∨k=2) with rfl | rfl | rfl<;>simp [four]<;>omega
  apply hn h3
  have h6:=congrArg UInt8.toNat h5
  rw [UInt8.toNat_ofNat'] at h6
  have h7:(48:UInt8).toNat=48:=rfl
  rw [h7] at h6
  omega
 ·have:∃c,(bytes (four d)).drop k=[c]:=by
   have hx:((bytes (four d)).drop k).length=1:=by rw [List.length_drop,hl];omega
   exact List.length_eq_one_iff.1 hx
  obtain ⟨c,hc⟩:=this
  rw [hc] at e hdec
  simp at e
  rw [e] at hdec
  apply h0
  rw [←hdec];rfl
def Txt (v:Int) (l:List UInt8):Prop:=(v=0∧l=[48])∨(v≠0 ∧ ∃D,IsDec D (v.natAbs:Int)∧l=(if v<0 then [45] else [])++D)
theorem Txt.one {v:Int} {l m:List UInt8} (h:Txt v l) (k:Txt v m):l=m:=by
 rcases h with ⟨h1,h2⟩ | ⟨h1,D,h2,h3⟩<;>rcases k with ⟨k1,k2⟩ | ⟨k1,E,k2,k3⟩
 ·rw [h2,k2]
 ·exact absurd h1 k1
 ·exact absurd k1 h1
 ·rw [h3,k3,dec_one h2.1 k2.1 h2.2.1 k2.2.1 h2.2.2.1 k2.2.2.1 (h2.2.2.2.trans k2.2.2.2.symm)]
end Go.Ql
end
section
namespace Go.Ql
theorem Rep.nil {B:Int}:Rep B (false,[]) 0:=⟨Dig.nil,by simp,by simp,by simp [Ql.val]⟩
theorem Rep.absval {B:Int} (hB:0≤B) {x:Bool×List Int} {v:Int} (h:Rep B x v):Ql.val B x.2=(v.natAbs:Int):=by
 have h1:=val_nonneg hB h.dig
 have h2:=h.val
 cases h0:x.1<;>simp only [h0,Bool.false_eq_true,if_false,if_true] at h2<;>omega
theorem Rep.zero_iff {B:Int} (hB:1<B) {x:Bool×List Int} {v:Int} (h:Rep B x v):x.2=[]↔v=0:=by
 constructor
 ·intro h0
  have:=h.absval (by omega)
  rw [h0] at this
  simp only [Ql.val] at this
  omega
 ·intro h0
  rcases Classical.em (x.2=[]) with h1 | h1
  ·exact h1
  ·have:=h.pos hB h1
   have:=h.absval (by omega)
   omega
theorem Rep.short {B:Int} (hB:1<B) {x y:Bool×List Int} {u v:Int} (hx:Rep B x u) (hy:Rep B y v) (h:u.natAbs≤v.natAbs):x.2.length≤y.2.length:=by
 apply len_le hB hy.dig hx.dig hx.last
 rw [hx.absval (by omega),hy.absval (by omega)]
 omega
theorem Rep.eq_of {B:Int} {x:Bool×List Int} {u v:Int} (h:Rep B x u) (e:u=v):Rep B x v:=e▸h
end Go.Ql
end
section
namespace Go.Ql
theorem Rep.few {B:Int} (hB:1<B) {x:Bool×List Int} {e:Nat} (h:Rep B x (2^e)):x.2.length≤e+1:=by
 have h2:(0:Int)<2^e:=Int.pow_pos (by decide)
 have hn:x.2≠[]:=fun h0=>by have:=(h.zero_iff hB).1 h0;omega
 have h1:=val_ge hB h.dig h.last hn
 rw [h.absval (by omega)] at h1
 rcases Nat.lt_or_ge e (x.2.length-1) with hc | hc
 ·have h3:(2:Int)^(x.2.length-1)≤B^(x.2.length-1):=by
   have:∀k:Nat,(2:Int)^k≤B^k:=by
    intro k
    induction k with
    | zero=>simp
    | succ k ih=>
      rw [Int.pow_succ,Int.pow_succ]
      exact Int.mul_le_mul ih (by omega) (by decide) (Int.le_of_lt (pow_pos (by omega) k))
   exact this _
  have h4:(2:Int)^(e+1)≤2^(x.2.length-1):=Ni (by decide) (by omega)
  rw [Int.pow_succ] at h4
  omega
 ·omega
end Go.Ql
end
section
namespace Go.Ql
theorem or_comm (x y:Int):ibits Go.BinOp.or Go.IntKind.u64 x y=ibits Go.BinOp.or Go.IntKind.u64 y x:=by
 simp only [ibits,BitVec.or_comm]
def small (v:Int):Int×Bool:=if -9223372036854775808≤v∧v≤9223372036854775807 then (v,true) else (0,false)
end Go.Ql
end
section
namespace Go.Ql
theorem twos_unique:∀{n k:Nat} {m l:Nat},2^n*(2*m+1)=2^k*(2*l+1)→n=k
 | 0,0,_,_,_=>rfl
 | 0,k+1,m,l,h=>by
   rw [Nat.pow_zero,Nat.one_mul,Nat.pow_succ,Nat.mul_comm (2^k) 2,Nat.mul_assoc] at h
   omega
 | n+1,0,m,l,h=>by
   rw [Nat.pow_zero,Nat.one_mul,Nat.pow_succ,Nat.mul_comm (2^n) 2,Nat.mul_assoc] at h
   omega
 | n+1,k+1,m,l,h=>by
   rw [Nat.pow_succ,Nat.pow_succ,Nat.mul_comm (2^n) 2,Nat.mul_comm (2^k) 2,Nat.mul_assoc,Nat.mul_assoc] at h
   rw [twos_unique (n:=n) (k:=k) (m:=m) (l:=l) (by omega)]
def Twos (v:Nat) (n:Nat):Prop:=(v=0→n=0)∧(v≠0 → ∃m,v=2^n*(2*m+1))
theorem Twos.one {v n k:Nat} (h:Twos v n) (g:Twos v k):n=k:=by
 by_cases hv:v=0
 ·rw [h.1 hv,g.1 hv]
 ·obtain ⟨m,h1⟩:=h.2 hv
  obtain ⟨l,h2⟩:=g.2 hv
  exact twos_unique (h1.symm.trans h2)
end Go.Ql
end
end
section
namespace Go.Ql
abbrev Dg:=Bool×List Int
abbrev d0:Dg:=(false,[])
theorem Rep.len_le {B:Int} (hB:1<B) {x:Dg} {v:Int} {L:Nat} (h:Rep B x v) (hv:v.natAbs<2^L):x.2.length≤L:=by
 by_cases hn:x.2=[]
 ·rw [hn];simp
 ·have h1:=val_ge hB h.dig h.last hn
  rw [h.absval (by omega)] at h1
  rcases Nat.lt_or_ge L x.2.length with hc | hc
  ·have h3:(2:Int)^(x.2.length-1)≤B^(x.2.length-1):=by
    have:∀k:Nat,(2:Int)^k≤B^k:=by
     intro k
     induction k with
     | zero=>simp
     | succ k ih=>
       rw [Int.pow_succ,Int.pow_succ]
       exact Int.mul_le_mul ih (by omega) (by decide) (Int.le_of_lt (Int.pow_pos (by omega)))
    exact this _
   have h4:(2:Int)^L≤2^(x.2.length-1):=Ni (by decide) (by omega)
   have h5:((v.natAbs:Nat):Int)<((2^L:Nat):Int):=by exact_mod_cast hv
   have h6:((2^L:Nat):Int)=(2:Int)^L:=by simp
   omega
  ·exact hc
structure Reps (B:Int) (c:List Dg) (v:Nat→Int):Prop where
 len:c.length=8
 at_:∀i,i<8→Rep B (c.getD i d0) (v i)
def Bd (v:Nat→Int) (L:Nat):Prop:=∀i,i<8→(v i).natAbs<2^L
section
variable {B:Int} {c:List Dg} {v w:Nat→Int} {L:Nat}
theorem Bd.mono {M:Nat} (h:Bd v L) (hm:L≤M):Bd v M:=fun i hi=>Nat.lt_of_lt_of_le (h i hi) (Nat.pow_le_pow_right (by omega) hm)
theorem Reps.few (hB:1<B) (h:Reps B c v) (hb:Bd v L) {i:Nat} (hi:i<8):(c.getD i d0).2.length≤L:=(h.at_ i hi).len_le hB (hb i hi)
theorem Reps.idx (h:Reps B c v) {i:Nat} (hi:i<8):Ql.idx c (i:Int)=some (c.getD i d0):=by
 rw [VD]
 have:i<c.length:=by rw [h.len];exact hi
 simp [this]
theorem Reps.congr (h:Reps B c v) (e:∀i,i<8→v i=w i):Reps B c w:=⟨h.len,fun i hi=>e i hi▸h.at_ i hi⟩
theorem Reps.set (h:Reps B c v) {i:Nat} (hi:i<8) {x:Dg} {u:Int} (hx:Rep B x u):Reps B (c.set i x) (fun j=>if j=i then u else v j):=by
 refine ⟨by rw [List.length_set];exact h.len,fun j hj=>?_⟩
 by_cases e:j=i
 ·subst e
  have:j<c.length:=by rw [h.len];exact hj
  simp only [if_pos rfl]
  have e2:(c.set j x).getD j d0=x:=by simp [this]
  rw [e2];exact hx
 ·simp only [if_neg e]
  have e2:(c.set i x).getD j d0=c.getD j d0:=by
   simp [List.getD,List.getElem?_set_ne (Ne.symm e)]
  rw [e2];exact h.at_ j hj
theorem Reps.zero:Reps B (List.replicate 8 d0) (fun _=>0):=by
 refine ⟨by simp,fun i hi=>?_⟩
 have:(List.replicate 8 d0).getD i d0=d0:=match i,hi with
  | 0,_=>rfl
  | 1,_=>rfl
  | 2,_=>rfl
  | 3,_=>rfl
  | 4,_=>rfl
  | 5,_=>rfl
  | 6,_=>rfl
  | 7,_=>rfl
 rw [this];exact Rep.nil
theorem Bd.zero:Bd (fun _=>0) L:=fun _ _=>by simp;exact Nat.pow_pos (by omega)
theorem Reps.one (h:Reps B c v) (h':Reps B c w) (hB:0≤B):∀i,i<8→v i=w i:=fun i hi=>by
 rw [(h.at_ i hi).val,(h'.at_ i hi).val]
end
structure Num (B:Int) (x:List Dg×Int) (k:K) (L E:Nat):Prop where
 has:∃v e,Reps B x.1 v∧x.2=((e:Nat):Int)∧KCan v e∧kv v e=k∧Bd v L∧e≤E
theorem Num.eq_of {B:Int} {x:List Dg×Int} {k l:K} {L E:Nat} (h:Num B x k L E) (e:k=l):Num B x l L E:=e▸h
theorem KCan.zero:KCan (fun _=>0) 0:=.inl rfl
theorem kv_zero (e:Nat):kv (fun _=>0) e=K.zero:=by simp [kv,K.zero]
theorem Num.same {B C:Int} {x y:List Dg×Int} {k:K} {L E M F:Nat} (h:Num B x k L E) (g:Num C y k M F) :
 ∃v e,Reps B x.1 v∧Reps C y.1 v∧x.2=((e:Nat):Int)∧y.2=(e:Int)∧Bd v L∧e≤E:=by
 obtain ⟨v,e,h1,h2,h3,h4,h5,h6⟩:=h.has
 obtain ⟨w,f,g1,g2,g3,g4,_,_⟩:=g.has
 obtain ⟨ef,hvw⟩:=kv_inj (h4.trans g4.symm) h3 g3
 subst ef
 exact ⟨v,e,h1,g1.congr (fun i hi=>(hvw i hi).symm),h2,g2,h5,h6⟩
end Go.Ql
end
section
namespace Go.Ql
def dn (u:Int) (n:Int):Int:=if 0≤n then u / 2^n.toNat else u*2^(-n).toNat
end Go.Ql
end
section
namespace Go.Ql
theorem kv_add (v w:Nat→Int) (e:Nat):K.add (kv v e) (kv w e)=kv (fun i=>v i+w i) e:=by
 simp only [K.add,kv,Rat.intCast_add,K.mk.injEq]
 refine ⟨?_,?_,?_,?_,?_,?_,?_,?_⟩<;>grind
theorem Bd.add {v w:Nat→Int} {L M:Nat} (h:Bd v L) (g:Bd w M):Bd (fun i=>v i+w i) (L+M+1):=fun i hi=>by
 have h1:=h i hi
 have h2:=g i hi
 have h3:2^L≤2^(L+M):=Nat.pow_le_pow_right (by decide) (by omega)
 have h4:2^M≤2^(L+M):=Nat.pow_le_pow_right (by decide) (by omega)
 rw [Nat.pow_succ]
 have:=Int.natAbs_add_le (v i) (w i)
 simp only
 omega
theorem Bd.up {v:Nat→Int} {L:Nat} (h:Bd v L) (n:Nat):Bd (fun i=>v i*2^n) (L+n):=fun i hi=>by
 have:=h i hi
 simp only
 rw [Int.natAbs_mul,Int.natAbs_pow,Nat.pow_add]
 exact Nat.mul_lt_mul_of_pos_right this (Nat.pow_pos (by decide))
end Go.Ql
end
section
namespace Go.Ql
def tv1 (v:Nat→Int):Nat→Int:=fun j=>if j=0 then-v 7 else v (j-1)
def tv (v:Nat→Int):Nat→Nat→Int
 | 0=>v
 | n+1=>tv1 (tv v n)
theorem kv_turn1 (v:Nat→Int) (e:Nat):kv (tv1 v) e=K.turn1 (kv v e):=by
 simp only [kv,tv1,K.turn1,K.mk.injEq,Rat.intCast_neg]
 refine ⟨?_,rfl,rfl,rfl,rfl,rfl,rfl,rfl⟩
 simp only [if_true]
 grind
theorem kv_turn (v:Nat→Int) (e:Nat):∀n,kv (tv v n) e=K.turn (kv v e) n
 | 0=>rfl
 | n+1=>by rw [tv,kv_turn1,kv_turn v e n];rfl
theorem tv_bd {v:Nat→Int} {L:Nat} (h:Bd v L):∀n,Bd (tv v n) L
 | 0=>h
 | n+1=>fun i hi=>by
   have ih:=tv_bd h n
   simp only [tv,tv1]
   split
   ·rw [Int.natAbs_neg];exact ih 7 (by omega)
   ·exact ih (i-1) (by omega)
end Go.Ql
end
section
namespace Go.Ql
def rows (v w:Nat→Int):Nat→Nat→Int
 | 0=>fun _=>0
 | n+1=>fun p=>rows v w n p+v n*tv w n p
end Go.Ql
end
section
namespace Go.Ql
abbrev NumT:=List Dg×Int
def Nought (v:Nat→Int):Prop:=∀i,i<8→v i=0
instance {v:Nat→Int}:Decidable (Nought v):=by unfold Nought;infer_instance
structure PNum (B:Int) (x:NumT) (k:K) (L E:Nat):Prop where
 has:∃v e,Reps B x.1 v∧x.2=((e:Nat):Int)∧kv v e=k∧Bd v L∧e≤E
theorem Num.pre {B:Int} {x:NumT} {k:K} {L E:Nat} (h:Num B x k L E):PNum B x k L E:=by
 obtain ⟨v,e,h1,h2,_,h4,h5,h6⟩:=h.has
 exact ⟨v,e,h1,h2,h4,h5,h6⟩
theorem kv_le {v w:Nat→Int} {e f M:Nat} (h:kv v e=kv w f) (hb:Bd w M) (hf:e≤f):Bd v M:=by
 obtain ⟨k,rfl⟩:∃k,f=e+k:=⟨f-e,by omega⟩
 intro i hi
 have h1:=kv_at h i hi
 rw [←hp_up (v i) e k] at h1
 have h3:=hp_ne (e+k)
 have h4:((v i*2^k:Int):Rat)=(w i:Rat):=by
  generalize ((v i*2^k:Int):Rat)=a at h1 ⊢
  generalize (w i:Rat)=b at h1 ⊢
  generalize hp (e+k)=c at h1 h3
  grind
 have h5:v i*2^k=w i:=by exact_mod_cast h4
 have h6:=hb i hi
 rw [←h5,Int.natAbs_mul] at h6
 have h7:0<((2:Int)^k).natAbs:=by rw [Int.natAbs_pow];exact Nat.pow_pos (by decide)
 exact Nat.lt_of_le_of_lt (Nat.le_mul_of_pos_right _ h7) h6
theorem KCan.least {v w:Nat→Int} {e f:Nat} (h:kv v e=kv w f) (hv:KCan v e):e≤f:=by
 rcases Nat.lt_or_ge f e with h1 | h1
 ·obtain ⟨k,rfl⟩:∃k,e=f+k:=⟨e-f,by omega⟩
  have:=(kv_inj_le h.symm hv).1
  omega
 ·exact h1
theorem PNum.tight {B:Int} {x:NumT} {k:K} {L E M e:Nat} {w:Nat→Int} (h:PNum B x k L E) (hk:kv w e=k) (hb:Bd w M) (he:E≤e):PNum B x k M E:=by
 obtain ⟨v,f,h1,h2,h4,h5,h6⟩:=h.has
 exact ⟨v,f,h1,h2,h4,kv_le (h4.trans hk.symm) hb (by omega),h6⟩
theorem Num.tight {B:Int} {x:NumT} {k:K} {L E M e:Nat} {w:Nat→Int} (h:Num B x k L E) (hk:kv w e=k) (hb:Bd w M):Num B x k M e:=by
 obtain ⟨v,f,h1,h2,h3,h4,h5,h6⟩:=h.has
 have hl:=KCan.least (h4.trans hk.symm) h3
 exact ⟨v,f,h1,h2,h3,h4,kv_le (h4.trans hk.symm) hb hl,hl⟩
end Go.Ql
end
section
namespace Go.Ql
theorem kv_half1 (v:Nat→Int) (e:Nat):kv v (e+1)=K.sm (1 / 2) (kv v e):=by
 apply K.eq_of<;>simp only [kv,K.sm,hp]<;>grind
end Go.Ql
end
section
namespace Go.Ql
theorem decD_is:∀u:Nat,0<u→IsDec (Go.Lib.decDigits u) (u:Int):=by
 intro u
 induction u using Nat.strongRecOn with
 | _ u ih=>
   intro hu
   by_cases h:u<10
   ·rw [Go.Lib.decDigits,dif_pos h]
    have hb:=Ho (d:=(u:Int)) (by omega)
    have e:Int.toNat (48+(u:Int))=48+u:=by omega
    rw [e] at hb
    refine ⟨fun c hc=>?_,by simp,?_,?_⟩
    ·rw [List.mem_singleton.1 hc];exact hb.1
    ·intro h0
     have h1:UInt8.ofNat (48+u)=48:=by simpa using h0
     have h2:=hb.2
     rw [h1] at h2
     have h3:dg 48=0:=by decide
     omega
    ·show qdec [UInt8.ofNat (48+u)]=_
     simp only [qdec,List.foldl_cons,List.foldl_nil]
     omega
   ·rw [Go.Lib.decDigits,dif_neg h]
    obtain ⟨h1,h2,h3,h4⟩:=ih (u / 10) (by omega) (by omega)
    have hb:=Ho (d:=((u % 10:Nat):Int)) (by omega)
    have e:Int.toNat (48+((u % 10:Nat):Int))=48+u % 10:=by omega
    rw [e] at hb
    refine ⟨fun c hc=>?_,by simp [h2],?_,?_⟩
    ·rcases List.mem_append.1 hc with hc | hc
     ·exact h1 c hc
     ·rw [List.mem_singleton.1 hc];exact hb.1
    ·cases hl:Go.Lib.decDigits (u / 10) with
     | nil=>exact absurd hl h2
     | cons c l=>rw [hl] at h3;exact h3
    ·rw [dec_snoc,h4,hb.2]
     omega
theorem itoa_txt (n:Int):Txt n (Go.Lib.itoa n):=by
 unfold Go.Lib.itoa
 by_cases h0:n=0
 ·subst h0
  left
  refine ⟨rfl,?_⟩
  rw [if_neg (by decide),Go.Lib.decDigits,dif_pos (by decide)]
  rfl
 ·right
  refine ⟨h0,Go.Lib.decDigits n.natAbs,decD_is _ (by omega),?_⟩
  by_cases hn:n<0
  ·rw [if_pos hn,if_pos hn];rfl
  ·rw [if_neg hn,if_neg hn,show n.toNat=n.natAbs by omega];rfl
def YV (v:Nat→Int):Nat→Nat
 | 0=>0
 | n+1=>if v n≠0 then n else YV v n
theorem lastTo_lt (v:Nat→Int):∀n,0<n→YV v n<n
 | n+1,_=>by
   unfold YV
   split
   ·omega
   ·cases n with
    | zero=>simp [YV]
    | succ n=>have:=lastTo_lt v (n+1) (by omega);omega
def bodyT (v:Nat→Int):Nat→List UInt8
 | 0=>Go.Lib.itoa (v 0)
 | n+1=>bodyT v n++(44::Go.Lib.itoa (v (n+1)))
def ntext (v:Nat→Int) (e:Nat):List UInt8:=bodyT v (YV v 8)++(if e=0 then [] else 47::Go.Lib.itoa (e:Int))
theorem lastTo_congr {v w:Nat→Int}:∀n,(∀i,i<n→v i=w i)→YV v n=YV w n
 | 0,_=>rfl
 | n+1,h=>by simp only [YV,h n (by omega),lastTo_congr n (fun i hi=>h i (by omega))]
theorem bodyT_congr {v w:Nat→Int}:∀n,(∀i,i≤n→v i=w i)→bodyT v n=bodyT w n
 | 0,h=>by simp only [bodyT,h 0 (by omega)]
 | n+1,h=>by simp only [bodyT,h (n+1) (by omega),bodyT_congr n (fun i hi=>h i (by omega))]
theorem ntext_congr {v w:Nat→Int} (e:Nat) (h:∀i,i<8→v i=w i):ntext v e=ntext w e:=by
 have hl:=lastTo_lt v 8 (by decide)
 unfold ntext
 rw [←lastTo_congr 8 h,bodyT_congr _ (fun i hi=>h i (by omega))]
def KTxt (k:K) (l:List UInt8):Prop:=∃v e,KCan v e∧kv v e=k∧l=ntext v e
theorem KTxt.one {k:K} {l m:List UInt8} (h:KTxt k l) (g:KTxt k m):l=m:=by
 obtain ⟨v,e,h1,h2,rfl⟩:=h
 obtain ⟨w,f,g1,g2,rfl⟩:=g
 obtain ⟨rfl,h3⟩:=kv_inj (h2.trans g2.symm) h1 g1
 exact ntext_congr e h3
end Go.Ql
end
section
namespace Go.Ql
def FitsK (k:K) (L t:Nat):Prop:=∃w,kv w t=k∧Bd w L
theorem FitsK.mono {k:K} {L M t:Nat} (h:FitsK k L t) (hm:L≤M):FitsK k M t:=by
 obtain ⟨w,h1,h2⟩:=h
 exact ⟨w,h1,h2.mono hm⟩
theorem FitsK.up {k:K} {L t:Nat} (h:FitsK k L t) (n:Nat):FitsK k (L+n) (t+n):=by
 obtain ⟨w,h1,h2⟩:=h
 exact ⟨fun i=>w i*2^n,by rw [kv_up,h1],h2.up n⟩
theorem FitsK.zero (L t:Nat):FitsK K.zero L t:=⟨fun _=>0,kv_zero t,Bd.zero⟩
theorem FitsK.turn {k:K} {L t:Nat} (h:FitsK k L t) (n:Nat):FitsK (K.turn k n) L t:=by
 obtain ⟨w,h1,h2⟩:=h
 exact ⟨tv w n,by rw [kv_turn,h1],tv_bd h2 n⟩
theorem FitsK.neg {k:K} {L t:Nat} (h:FitsK k L t):FitsK (K.neg k) L t:=h.turn 8
theorem FitsK.add {k l:K} {L t:Nat} (h:FitsK k L t) (g:FitsK l L t):FitsK (K.add k l) (L+1) t:=by
 obtain ⟨w,h1,h2⟩:=h
 obtain ⟨u,g1,g2⟩:=g
 refine ⟨fun i=>w i+u i,by rw [←kv_add,h1,g1],fun i hi=>?_⟩
 have a:=h2 i hi
 have b:=g2 i hi
 have c:=Int.natAbs_add_le (w i) (u i)
 rw [Nat.pow_succ]
 simp only
 omega
theorem FitsK.half {k:K} {L t:Nat} (h:FitsK k L t):FitsK (K.half k) (L+1) (t+1):=by
 obtain ⟨w,h1,h2⟩:=((h.turn 2).add (h.turn 6).neg)
 refine ⟨w,?_,h2⟩
 rw [kv_half1,h1]
 rfl
theorem Num.fit {B:Int} {x:NumT} {k:K} {L E M t:Nat} (h:Num B x k L E) (f:FitsK k M t):Num B x k M t:=by
 obtain ⟨w,h1,h2⟩:=f
 exact h.tight h1 h2
theorem Num.fits {B:Int} {x:NumT} {k:K} {L E:Nat} (h:Num B x k L E):FitsK k (L+E) E:=by
 obtain ⟨v,e,h1,h2,h3,h4,h5,h6⟩:=h.has
 have:=(show FitsK k L e from ⟨v,h4,h5⟩).up (E-e)
 rw [show e+(E-e)=E by omega] at this
 exact this.mono (by omega)
end Go.Ql
end
end

section
section
namespace Go.Ql
theorem pow63 {q:Int} (h:0≤q∧q≤62):IntKind.i64.wrap ((1:Int)*(2:Int)^Min.min (Int.toNat q) (64:Nat))=((2^q.toNat:Nat):Int):=by
 rw [Nat.min_eq_left (by omega),Int.one_mul]
 have h1:(2:Nat)^q.toNat≤2^62:=Nat.pow_le_pow_right (by omega) (by omega)
 have h2:((2^q.toNat:Nat):Int)=(2:Int)^q.toNat:=by simp
 have h3:(2:Nat)^62=4611686018427387904:=by decide
 rw [h3] at h1
 rw [←h2,jH (by have:=Int.natCast_nonneg (2^q.toNat);omega)]
def Qs (l:List Int):Prop:=∀q∈l,0≤q∧q<62
def condK (bits:List Int) (o:GOp):Bool:=o.2.2.2.2.2.all fun c=>(decide (c≤0)||bits.getD (c-1).toNat 0==1)&&(decide (0≤c)||bits.getD (-c-1).toNat 0==0)
end Go.Ql
end
section
namespace Go.Ql
def z0:NumT:=(List.replicate 8 d0,(0:Int))
structure Amps (l:List NumT) (N:Nat) (v:KV) (t:Nat):Prop where
 len:l.length=N
 at_:∀x,x<N→Num 10000 (l.getD x z0) (v x) (2*t+1) t
 fit:∀x,x<N→FitsK (v x) (2*t+1) t
def cut (i:Nat) (v:KV):KV:=fun x=>if x<i then v x else K.zero
structure Ok1 (o:GOp) (n:Nat):Prop where
 q:0≤o.2.2.2.1∧o.2.2.2.1<n
 k:0≤o.2.1
 qs:Qs o.2.2.1
 len:o.2.2.1.length<2^62
 out:o.2.2.2.1∉o.2.2.1
theorem Ok1.ones {o:GOp} {n:Nat} (h:Ok1 o n) (x:Nat):onesB o.2.2.1 (fl o.2.2.2.1 x)=onesB o.2.2.1 x:=
 ones_other (fun q hq=>(h.qs q hq).1) h.q.1 h.out x
end Go.Ql
end
section
namespace Go.Ql
def outK (q:Int) (b:Int) (v:KV):KV:=fun x=>if bt q x=decide (b=1) then v x else K.zero
abbrev SK:=KV×List Int×Nat
def meetK (o:GOp) (b:Int) (s:SK):SK:=
 (if o.1≠5∧b=1 then xK [] o.2.2.2.1 (outK o.2.2.2.1 b s.1) else outK o.2.2.2.1 b s.1,if o.1=5 then s.2.1.set o.2.2.2.2.1.toNat b else s.2.1,s.2.2+1)
theorem Amps.up {l:List NumT} {N t:Nat} {v:KV} (h:Amps l N v t):Amps l N v (t+1):=by
 have hf:∀x,x<N→FitsK (v x) (2*(t+1)+1) (t+1):=fun x hx=>((h.fit x hx).up 1).mono (by omega)
 exact ⟨h.len,fun x hx=>(h.at_ x hx).fit (hf x hx),hf⟩
structure OkP (o:GOp) (n bn:Nat):Prop where
 gate:Ok1 o n
 ifs:o.2.2.2.2.2.length<2^62
 cond:∀c∈o.2.2.2.2.2,c≠0∧c≤(bn:Int) ∧ -c≤(bn:Int)
 bit:o.1=5→0≤o.2.2.2.2.1∧o.2.2.2.2.1<(bn:Int)
end Go.Ql
end
end

section

end
