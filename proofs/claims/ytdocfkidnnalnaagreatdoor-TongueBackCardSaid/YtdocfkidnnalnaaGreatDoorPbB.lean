/- Plain laws: whole numbers of the reference. -/
import Derived.Test.YtdocfkidnnalnaaGreatDoorWcB
import Derived.Test.YtdocfkidnnalnaaGreatDoorPaB
set_option linter.all false
section
section
namespace Go.Ql
theorem pow_le {B:Int} (hB:1<B) {m n:Nat} (h:m≤n):B^m≤B^n:=by
 induction n with
 | zero=>rw [show m=0 by omega];exact Int.le_refl _
 | succ n ih=>
   by_cases e:m=n+1
   ·rw [e];exact Int.le_refl _
   ·have h1:=ih (by omega)
    have h2:0<B^n:=Int.pow_pos (by omega)
    rw [Int.pow_succ]
    have h3:B^n*1≤B^n*B:=Int.mul_le_mul_of_nonneg_left (by omega) (by omega)
    omega
end Go.Ql
end
section
namespace Go.Ql
def HE (c:UInt8):Bool:=decide (48≤c.toNat)&&decide (c.toNat≤57)
end Go.Ql
end
section
namespace Go.Ql
def dg (c:UInt8):Int:=(c.toNat:Int)-48
def dec (l:Z6):Int:=l.foldl (fun n c=>n*10+dg c) 0
theorem dec_from (n:Int) (l:Z6):l.foldl (fun n c=>n*10+dg c) n=n*10^l.length+dec l:=by
 induction l generalizing n with
 | nil=>simp [dec]
 | cons c l ih=>
   have h1:=ih (n*10+dg c)
   have h2:=ih (0*10+dg c)
   simp only [dec,List.foldl_cons,za,Int.pow_succ] at h1 h2 ⊢
   rw [h1,h2]
   grind
theorem dec_append (l m:Z6):dec (l++m)=dec l*10^m.length+dec m:=by
 unfold dec
 rw [List.foldl_append,dec_from];rfl
theorem dec_snoc (l:Z6) (c:UInt8):dec (l++[c])=dec l*10+dg c:=by
 rw [dec_append];simp [dec]
def VB (l:Z6):Prop:=∀c∈l,HE c=true
theorem dg_of {c:UInt8} (h:HE c=true):0≤dg c∧dg c≤9:=by
 simp only [HE,z7,zi] at h
 unfold dg;omega
theorem Uh:∀{l:Z6},VB l→0≤dec l∧dec l<10^l.length
 | [],_=>by simp [dec]
 | c::l,h=>by
   have h1:=Uh (l:=l) (fun x hx=>h x (zv _ hx))
   have h2:=dg_of (h c (List.mem_cons_self ..))
   have h3:=dec_append [c] l
   have h4:dec [c]=dg c:=by simp [dec]
   rw [List.singleton_append,h4] at h3
   have h5:0<(10:Int)^l.length:=Int.pow_pos (by decide)
   have h6:dg c*10^l.length≤9*10^l.length:=Int.mul_le_mul_of_nonneg_right h2.2 (by omega)
   have h7:0≤dg c*10^l.length:=Int.mul_nonneg h2.1 (by omega)
   simp only [za,Int.pow_succ]
   omega
end Go.Ql
end
section
namespace Go.Ql
theorem dg_inj {c d:UInt8} (h:dg c=dg d):c=d:=by
 apply UInt8.toNat_inj.1
 unfold dg at h;omega
theorem dec_cons (c:UInt8) (l:Z6):dec (c::l)=dg c*10^l.length+dec l:=by
 have h3:=dec_append [c] l
 have h4:dec [c]=dg c:=by simp [dec]
 rw [List.singleton_append,h4] at h3
 exact h3
theorem dec_inj:∀{l m:Z6},VB l→VB m→l.length=m.length→dec l=dec m→l=m
 | [],[],_,_,_,_=>rfl
 | c::l,d::m,hl,hm,e,h=>by
   have hl':VB l:=fun x hx=>hl x (zv _ hx)
   have hm':VB m:=fun x hx=>hm x (zv _ hx)
   have e':l.length=m.length:=by simpa using e
   have b1:=Uh hl'
   have b2:=Uh hm'
   rw [dec_cons,dec_cons,e'] at h
   rw [e'] at b1
   have hP:(0:Int)<10^m.length:=Int.pow_pos (by decide)
   have hc:dg c=dg d:=by
    rcases Int.lt_trichotomy (dg c) (dg d) with h1 | h1 | h1
    ·have:=Int.mul_le_mul_of_nonneg_right (show dg c+1≤dg d by omega) (Int.le_of_lt hP)
     rw [Int.add_mul] at this;omega
    ·exact h1
    ·have:=Int.mul_le_mul_of_nonneg_right (show dg d+1≤dg c by omega) (Int.le_of_lt hP)
     rw [Int.add_mul] at this;omega
   rw [hc] at h
   rw [dg_inj hc,dec_inj hl' hm' e' (by omega)]
 | [],_::_,_,_,e,_=>by simp at e
 | _::_,[],_,_,e,_=>by simp at e
theorem dec_ge {l:Z6} (h:VB l) (hn:l≠[]) (h0:l.head? ≠ some 48):10^(l.length-1)≤dec l:=by
 cases l with
 | nil=>exact absurd rfl hn
 | cons c l=>
   have hl':VB l:=fun x hx=>h x (zv _ hx)
   have b1:=Uh hl'
   have hd:=dg_of (h c (List.mem_cons_self ..))
   have h1:dg c≠0:=fun e=>h0 (by
    have:dg c=dg 48:=by rw [e];rfl
    rw [dg_inj this];rfl)
   rw [dec_cons]
   have hP:(0:Int)<10^l.length:=Int.pow_pos (by decide)
   have:=Int.mul_le_mul_of_nonneg_right (show 1≤dg c by omega) (Int.le_of_lt hP)
   simp only [za,Nat.add_sub_cancel]
   omega
theorem dec_one {l m:Z6} (hl:VB l) (hm:VB m) (nl:l≠[]) (nm:m≠[]) (l0:l.head? ≠ some 48) (m0:m.head? ≠ some 48) (h:dec l=dec m):l=m:=by
 have ll:l.length≠0:=fun e=>nl (zg e)
 have lm:m.length≠0:=fun e=>nm (zg e)
 have g1:=dec_ge hl nl l0
 have g2:=dec_ge hm nm m0
 have b1:=(Uh hl).2
 have b2:=(Uh hm).2
 refine dec_inj hl hm ?_ h
 rcases Nat.lt_trichotomy l.length m.length with e | e | e
 ·have:=pow_le (B:=10) (by decide) (show l.length≤m.length-1 by omega);omega
 ·exact e
 ·have:=pow_le (B:=10) (by decide) (show m.length≤l.length-1 by omega);omega
end Go.Ql
end
section
namespace Go.Ql
def bytes (l:List Int):Z6:=l.map fun n↦UInt8.ofNat (Int.toNat n)
theorem He {d:Int} (h:0≤d∧d≤9):HE (UInt8.ofNat (Int.toNat (48+d)))=true∧dg (UInt8.ofNat (Int.toNat (48+d)))=d:=by
 have h1:(UInt8.ofNat (Int.toNat (48+d))).toNat=Int.toNat (48+d):=by
  rw [UInt8.toNat_ofNat'];omega
 unfold HE dg
 rw [h1]
 constructor
 ·simp;omega
 ·omega
def IsDec (l:Z6) (v:Int):Prop:=VB l∧l≠[]∧l.head? ≠ some 48∧dec l=v
def four (d:Int):List Int:=[48+d / 1000,48+d / 100 % 10,48+d / 10 % 10,48+d % 10]
theorem four_digits {d:Int} (h:0≤d∧d<10000):VB (bytes (four d))∧dec (bytes (four d))=d:=by
 have a:=He (d:=d / 1000) (by omega)
 have b:=He (d:=d / 100 % 10) (by omega)
 have c:=He (d:=d / 10 % 10) (by omega)
 have e:=He (d:=d % 10) (by omega)
 constructor
 ·intro x hx
  simp only [bytes,four,List.map_cons,List.map_nil,zz,List.not_mem_nil,or_false] at hx
  rcases hx with rfl | rfl | rfl | rfl
  ·exact a.1
  ·exact b.1
  ·exact c.1
  ·exact e.1
 ·simp only [bytes,four,List.map_cons,List.map_nil,dec,List.foldl_cons,List.foldl_nil,a.2,b.2,c.2,e.2]
  omega
end Go.Ql
end
section
namespace Go.Ql
theorem bytes_len (l:List Int):(bytes l).length=l.length:=by simp [bytes]
theorem dec_skip:∀(k:Nat) (l:Z6),(∀j (h:j<l.length),j<k→l[j]=48)→dec (l.drop k)=dec l
 | 0,_,_=>rfl
 | k+1,[],_=>by simp
 | k+1,c::l,h=>by
   have h0:c=48:=h 0 (by simp) (by omega)
   rw [List.drop_succ_cons,dec_skip k l (fun j hj hk=>h (j+1) (by simpa using hj) (by omega)),dec_cons,h0]
   simp [dg]
theorem getD_byte (F:List Int) (j:Nat) (h:j<(bytes F).length):(bytes F)[j]=UInt8.ofNat (F.getD j 0).toNat:=by
 have h':j<F.length:=by rwa [bytes_len] at h
 simp [bytes,List.getD,h']
theorem IsDec.first {d:Int} (hd:0≤d∧d<10000) (h0:d≠0) {k:Nat} (hk:k≤3) (hz:∀j,j<k→(four d).getD j 0=48) (hn:k<3→(four d).getD k 0≠48):IsDec ((bytes (four d)).drop k) d:=by
 have hf:=four_digits hd
 have hl:(bytes (four d)).length=4:=by rw [bytes_len];rfl
 have hdec:dec ((bytes (four d)).drop k)=d:=by
  rw [dec_skip k _ (fun j hj hjk=>by rw [getD_byte,hz j hjk];rfl),hf.2]
 have hne:(bytes (four d)).drop k≠[]:=by
  intro e
  have:=congrArg List.length e
  rw [zo,hl] at this
  simp at this;omega
 refine ⟨fun c hc=>hf.1 c (List.mem_of_mem_drop hc),hne,fun e=>?_,hdec⟩
 by_cases h3:k<3
 ·rw [List.head?_drop,Z3 (by omega),getD_byte] at e
  have h5:=Option.some.inj e
  have hg:48≤(four d).getD k 0∧(four d).getD k 0≤57:=by
   rcases (by omega:k=0∨k=1∨k=2) with rfl | rfl | rfl<;>simp [four]<;>omega
  apply hn h3
  have h6:=congrArg UInt8.toNat h5
  rw [UInt8.toNat_ofNat'] at h6
  have h7:(48:UInt8).toNat=48:=rfl
  rw [h7] at h6
  omega
 ·have:∃c,(bytes (four d)).drop k=[c]:=by
   have hx:((bytes (four d)).drop k).length=1:=by rw [zo,hl];omega
   exact List.length_eq_one_iff.1 hx
  obtain ⟨c,hc⟩:=this
  rw [hc] at e hdec
  simp at e
  rw [e] at hdec
  apply h0
  rw [←hdec];rfl
def Txt (v:Int) (l:Z6):Prop:=(v=0∧l=[48])∨(v≠0 ∧ ∃D,IsDec D (v.natAbs:Int)∧l=(if v<0 then [45] else [])++D)
theorem Txt.one {v:Int} {l m:Z6} (h:Txt v l) (k:Txt v m):l=m:=by
 rcases h with ⟨h1,h2⟩ | ⟨h1,D,h2,h3⟩<;>rcases k with ⟨k1,k2⟩ | ⟨k1,E,k2,k3⟩
 ·rw [h2,k2]
 ·exact absurd h1 k1
 ·exact absurd k1 h1
 ·rw [h3,k3,dec_one h2.1 k2.1 h2.2.1 k2.2.1 h2.2.2.1 k2.2.2.1 (h2.2.2.2.trans k2.2.2.2.symm)]
end Go.Ql
end
end
