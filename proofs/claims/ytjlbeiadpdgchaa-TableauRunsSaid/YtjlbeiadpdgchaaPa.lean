/- Plain laws: loops, bits. -/
import Derived.Test.YtjlbeiadpdgchaaLf
import Derived.IntWalk
set_option linter.all false
section
namespace Go.Ql
section
variable {S R:Type} {f:S→Option (S⊕R)}
theorem Yx {s:S} {r:R} (h:f s=some (.inr r)):iter f s=some r:=YH (n:=1) (by simp [iterN,h])
theorem Yk {s s':S} {r:R} (h:f s=some (.inl s')) (h':iter f s'=some r):iter f s=some r:=by
 obtain ⟨n,hn⟩:=iter_some h'
 exact YH (n:=n+1) (by simp [iterN,h,hn])
theorem Ye {J:S→Prop} {Q:R→Prop} (m:S→Nat) (hstep : ∀ s,J s→(∃ r,f s=some (.inr r)∧Q r) ∨ ∃ s',f s=some (.inl s')∧J s'∧m s' < m s) {s:S} (h:J s) : ∃ r,iter f s=some r∧Q r:=by
 have key : ∀ (k:Nat) (s:S),m s≤k→J s → ∃ r,iter f s=some r∧Q r:=by
  intro k
  induction k with
  | zero=>
    intro s hk hj
    rcases hstep s hj with ⟨r,h1,h2⟩ | ⟨s',h1,h2,h3⟩
    ·exact ⟨r,Yx h1,h2⟩
    ·omega
  | succ k ih=>
    intro s hk hj
    rcases hstep s hj with ⟨r,h1,h2⟩ | ⟨s',h1,h2,h3⟩
    ·exact ⟨r,Yx h1,h2⟩
    ·obtain ⟨r,h4,h5⟩:=ih s' (by omega) h2
     exact ⟨r,Yk h1 h4,h5⟩
 exact key (m s) s (Nat.le_refl _) h
end
theorem jj {α β:Type} {p:Option α} {x:α} {k:α→Option β} {r:Option β} (h:p=some x) (h':k x=r):bnd p k=r:=by rw [h];exact h'
theorem je {α β:Type} {x:α} {k:α→Option β}:bnd (some x) k=k x:=rfl
theorem jN {α:Type} {x y:α} {b:Bool} (h:b=true):br b x y=x:=by rw [h];rfl
theorem jq {α:Type} {x y:α} {b:Bool} (h:b=false):br b x y=y:=by rw [h];rfl
theorem jY {α:Type} {x y:α} {p:Prop} [Decidable p] (h:p):br (decide p) x y=x:=jN (decide_eq_true h)
theorem jP {α:Type} {x y:α} {p:Prop} [Decidable p] (h : ¬ p):br (decide p) x y=y:=jq (decide_eq_false h)
theorem Jf {b:Bool} (h:b=true):okIf b=some ():=by rw [h];rfl
theorem kA {xs:List Int} {i:Int} (n:Nat) (hi:i=n) (h:n < xs.length):idx xs i=some (xs.getD n 0):=by
 subst hi
 unfold idx
 simp [h]
theorem HA {n:Nat} {i:Int} (h0:0≤i) (h:i < (n:Int)):inR n i=some ():=by
 unfold inR
 simp [h0,h]
theorem js {x:Int} (h : -9223372036854775808≤x∧x≤9223372036854775807):IntKind.i64.wrap x=x:=IntWalk.i64_in _ (by omega)
theorem VX {x:Int} (h:0≤x∧x < 18446744073709551616):IntKind.u64.wrap x=x:=IntWalk.u64_in _ (by omega)
def val (B:Int):List Int→Int
 | []=>0
 | d::l=>d+B*val B l
def Dig (B:Int) (l:List Int):Prop:=∀ d∈l,0≤d∧d < B
theorem val_append (B:Int) (m:List Int) : ∀ l:List Int,val B (l++m)=val B l+B ^ l.length*val B m
 | []=>by simp [val]
 | d::l=>by
   simp only [List.cons_append,val,val_append B m l,List.length_cons,Int.pow_succ]
   grind
theorem val_snoc (B:Int) (l:List Int) (d:Int):val B (l++[d])=val B l+B ^ l.length*d:=by
 rw [val_append];simp [val]
theorem Dig.nil {B:Int}:Dig B []:=fun _ h=>by cases h
theorem Dig.cons {B d:Int} {l:List Int} (h:0≤d∧d < B) (hl:Dig B l):Dig B (d::l):=fun x hx=>by
 rcases List.mem_cons.1 hx with rfl | hx
 ·exact h
 ·exact hl x hx
theorem Dig.append {B:Int} {l m:List Int} (hl:Dig B l) (hm:Dig B m):Dig B (l++m):=fun x hx=>by
 rcases List.mem_append.1 hx with hx | hx
 ·exact hl x hx
 ·exact hm x hx
theorem Dig.head {B d:Int} {l:List Int} (h:Dig B (d::l)):0≤d∧d < B:=h d (List.mem_cons_self ..)
theorem Dig.tail {B d:Int} {l:List Int} (h:Dig B (d::l)):Dig B l:=fun x hx=>h x (List.mem_cons_of_mem _ hx)
theorem Dig.take {B:Int} {l:List Int} (h:Dig B l) (n:Nat):Dig B (l.take n):=fun x hx=>h x (List.mem_of_mem_take hx)
theorem Dig.drop {B:Int} {l:List Int} (h:Dig B l) (n:Nat):Dig B (l.drop n):=fun x hx=>h x (List.mem_of_mem_drop hx)
theorem Dig.getD {B:Int} {l:List Int} (hB:0 < B) (h:Dig B l) (i:Nat):0≤l.getD i 0∧l.getD i 0 < B:=by
 by_cases hi:i < l.length
 ·simp only [List.getD,List.getElem?_eq_getElem hi,Option.getD_some]
  exact h _ (List.getElem_mem hi)
 ·rw [List.getD,List.getElem?_eq_none (by omega:l.length≤i),Option.getD_none]
  omega
theorem Dig.set {B x:Int} {l:List Int} (h:Dig B l) (hx:0≤x∧x < B) (i:Nat):Dig B (l.set i x):=fun y hy=>by
 rcases List.mem_or_eq_of_mem_set hy with hy | rfl
 ·exact h y hy
 ·exact hx
theorem Dig.replicate {B:Int} (hB:0 < B) (n:Nat):Dig B (List.replicate n 0):=fun x hx=>by
 rw [(List.mem_replicate.1 hx).2];omega
theorem val_replicate (B:Int) : ∀ n:Nat,val B (List.replicate n 0)=0
 | 0=>rfl
 | n+1=>by simp [List.replicate_succ,val,val_replicate B n]
theorem YY {B:Int} (hB:0≤B) : ∀ {l:List Int},Dig B l→0≤val B l
 | [],_=>Int.le_refl 0
 | d::l,h=>by
   have h1:=YY hB h.tail
   have h2:=h.head
   have h3:=Int.mul_nonneg hB h1
   simp only [val]
   omega
theorem val_lt {B:Int} (hB:0 < B) : ∀ {l:List Int},Dig B l→val B l < B ^ l.length
 | [],_=>by simp [val]
 | d::l,h=>by
   have h1:=val_lt hB h.tail
   have h2:=h.head
   have h3:B*(val B l+1)≤B*B ^ l.length:=Int.mul_le_mul_of_nonneg_left (by omega) (by omega)
   simp only [val,List.length_cons,Int.pow_succ]
   rw [Int.mul_comm (B ^ l.length) B]
   rw [Int.mul_add] at h3
   omega
theorem kr (B:Int) : ∀ (i:Nat) (l:List Int),val B (l.take (i+1))=val B (l.take i)+B ^ i*l.getD i 0
 | _,[]=>by simp [val]
 | 0,d::l=>by simp [val]
 | i+1,d::l=>by
   have h:=kr B i l
   simp only [List.take_succ_cons,val,List.getD_cons_succ,Int.pow_succ] at h ⊢
   rw [h]
   grind
theorem val_set (B x:Int) : ∀ (i:Nat) (l:List Int),i < l.length→val B (l.set i x)=val B l+B ^ i*(x - l.getD i 0)
 | _,[],h=>by simp at h
 | 0,d::l,_=>by simp [val];omega
 | i+1,d::l,h=>by
   have h:=val_set B x i l (by simpa using h)
   simp only [List.set_cons_succ,val,List.getD_cons_succ,Int.pow_succ] at h ⊢
   rw [h]
   grind
theorem getD_set {l:List Int} {i j:Nat} {x:Int} (h:i < l.length):(l.set i x).getD j 0=if i=j then x else l.getD j 0:=by
 simp only [List.getD,List.getElem?_set]
 by_cases hij:i=j
 ·subst hij;simp [h]
 ·simp [hij]
theorem getD_replicate (n j:Nat):(List.replicate n (0:Int)).getD j 0=0:=by
 simp only [List.getD,List.getElem?_replicate]
 split <;> rfl
theorem pow_pos {B:Int} (hB:0 < B) (n:Nat):0 < B ^ n:=Int.pow_pos hB
end Go.Ql
end

section
namespace Go.Ql
section
variable {A S R:Type} {f:S→Option (S⊕R)}
theorem Yt {l:List A} (P:List A→List A→S→Prop) (Q:R→Prop)
 (step : ∀ pre a r s,l=pre++a::r→P pre (a::r) s→(∃ s',f s=some (.inl s')∧P (pre++[a]) r s')∨(∃ x,f s=some (.inr x)∧Q x))
 (done : ∀ s,P l [] s → ∃ x,f s=some (.inr x)∧Q x) {s:S} (h:P [] l s) : ∃ x,iter f s=some x∧Q x:=by
 have key : ∀ (r pre:List A) (s:S),l=pre++r→P pre r s → ∃ x,iter f s=some x∧Q x:=by
  intro r
  induction r with
  | nil=>
    intro pre s hl hp
    rw [List.append_nil] at hl
    subst hl
    obtain ⟨x,h1,h2⟩:=done s hp
    exact ⟨x,Yx h1,h2⟩
  | cons a r ih=>
    intro pre s hl hp
    rcases step pre a r s hl hp with ⟨s',h1,h2⟩ | ⟨x,h1,h2⟩
    ·obtain ⟨x,h3,h4⟩:=ih (pre++[a]) s' (by simp [hl]) h2
     exact ⟨x,Yk h1 h3,h4⟩
    ·exact ⟨x,Yx h1,h2⟩
 exact key l [] s rfl h
theorem JJ (n:Nat) (P:Nat→S→Prop) (Q:R→Prop)
 (step : ∀ i s,i < n→P i s→(∃ s',f s=some (.inl s')∧P (i+1) s')∨(∃ x,f s=some (.inr x)∧Q x))
 (done : ∀ s,P n s → ∃ x,f s=some (.inr x)∧Q x) {s:S} (h:P 0 s) : ∃ x,iter f s=some x∧Q x:=by
 have key : ∀ (k i:Nat) (s:S),i+k=n→P i s → ∃ x,iter f s=some x∧Q x:=by
  intro k
  induction k with
  | zero=>
    intro i s hi hp
    have:i=n:=by omega
    subst this
    obtain ⟨x,h1,h2⟩:=done s hp
    exact ⟨x,Yx h1,h2⟩
  | succ k ih=>
    intro i s hi hp
    rcases step i s (by omega) hp with ⟨s',h1,h2⟩ | ⟨x,h1,h2⟩
    ·obtain ⟨x,h3,h4⟩:=ih (i+1) s' (by omega) h2
     exact ⟨x,Yk h1 h3,h4⟩
    ·exact ⟨x,Yx h1,h2⟩
 exact key n 0 s (by omega) h
end
theorem br_if {α:Type} {x y:α} {b:Bool}:br b x y=if b=true then x else y:=by cases b <;> rfl
theorem JS {α β γ:Type} {x:α} {f:α→γ} {g:β→γ}:sel (.inl x) f g=f x:=rfl
theorem JZ {α β γ:Type} {x:β} {f:α→γ} {g:β→γ}:sel (.inr x) f g=g x:=rfl
theorem YO {α:Type} {pre:List α} {a:α} {r:List α}:idx (pre++a::r) (pre.length:Int)=some a:=by
 unfold idx
 simp
theorem Hq {α:Type} {l:List α} {i:Nat}:idx l (i:Int)=l[i]?:=by
 unfold idx
 simp
theorem Yd {α:Type} {l:List α} {i:Nat} (h:i < l.length):idx l (i:Int)=some l[i]:=by
 rw [Hq,List.getElem?_eq_getElem h]
theorem VN {n:Nat} {i:Nat} (h:i < n):inR n (i:Int)=some ():=HA (by omega) (by omega)
theorem br_or {b c:Bool}:br b (some true) (some c)=some (b || c):=by cases b <;> rfl
theorem UF {b c:Bool}:br b (some c) (some false)=some (b && c):=by cases b <;> rfl
theorem kw {b:Bool} {P:Prop} [Decidable P] (h:b=true↔P):some b=some (decide P):=by
 congr 1
 rw [Bool.eq_iff_iff,h]
 simp
theorem br_tt {α:Type} {x y:α}:br true x y=x:=rfl
theorem br_ff {α:Type} {x y:α}:br false x y=y:=rfl
theorem VB {α:Type} {pre:List α} {a:α} {r:List α}:decide ((pre.length:Int) < ((pre++a::r).length:Int))=true:=by
 simp only [List.length_append,List.length_cons,decide_eq_true_eq];omega
theorem Vc {n k:Nat} (h:n*k≤140737488355328∧n≤140737488355328):okIf (decide (n*k≤(140737488355328:Nat)) && decide (n≤(140737488355328:Nat)))=some ():=
 Jf (by simp [h])
end Go.Ql
end

section
set_option linter.unusedSectionVars false
namespace Go.Ql
section
variable {S E R A T:Type} {f:S→Option (S⊕R)}
def fstF (p:Nat→Bool):Nat→Nat→Option Nat
 | _,0=>none
 | i,k+1=>if p i=true then some i else fstF p (i+1) k
theorem fstF_none {p:Nat→Bool} : ∀ {i k:Nat},fstF p i k=none ↔ ∀ j,i≤j→j < i+k→p j=false:=by
 intro i k
 induction k generalizing i with
 | zero=>
   refine Iff.intro (fun _ j h1 h2 => ?_) (fun _=>rfl)
   omega
 | succ k ih=>
   unfold fstF
   by_cases h:p i=true
   ·rw [if_pos h]
    refine Iff.intro (fun h1=>nomatch h1) (fun h1 => ?_)
    have:=h1 i (by omega) (by omega)
    rw [this] at h
    cases h
   ·rw [if_neg h,ih]
    refine Iff.intro (fun h1 j h2 h3 => ?_) (fun h1 j h2 h3=>h1 j (by omega) (by omega))
    by_cases hj:j=i
    ·subst hj;simpa using h
    ·exact h1 j (by omega) (by omega)
theorem fstF_some {p:Nat→Bool} : ∀ {i k j:Nat},fstF p i k=some j→i≤j∧j < i+k∧p j=true ∧ ∀ m,i≤m→m < j→p m=false
 | i,0,j,h=>by cases h
 | i,k+1,j,h=>by
   unfold fstF at h
   by_cases hp:p i=true
   ·rw [if_pos hp] at h;cases h
    exact ⟨by omega,by omega,hp,fun m h1 h2=>by omega⟩
   ·rw [if_neg hp] at h
    obtain ⟨h1,h2,h3,h4⟩:=fstF_some h
    refine ⟨by omega,by omega,h3,fun m h5 h6 => ?_⟩
    by_cases hm:m=i
    ·subst hm;simpa using hp
    ·exact h4 m (by omega) h6
theorem iter_first {f:S→Option (S⊕(E⊕R))} {P:Nat→S→Prop} (n:Nat) (p:Nat→Bool) {X:Nat→E→Prop} {Q:R→Prop}
 (hit : ∀ i s,i < n→P i s→p i=true → ∃ e,f s=some (.inr (.inl e))∧X i e)
 (next : ∀ i s,i < n→P i s→p i=false → ∃ s',f s=some (.inl s')∧P (i+1) s')
 (done : ∀ s,P n s → ∃ r,f s=some (.inr (.inr r))∧Q r) {s:S} (h:P 0 s) :
 (∃ i e,fstF p 0 n=some i∧iter f s=some (.inl e)∧X i e) ∨ ∃ r,fstF p 0 n=none∧iter f s=some (.inr r)∧Q r:=by
 have key : ∀ (k i:Nat) (s:S),i+k=n→P i s →
  (∃ j e,fstF p i k=some j∧iter f s=some (.inl e)∧X j e) ∨ ∃ r,fstF p i k=none∧iter f s=some (.inr r)∧Q r:=by
  intro k
  induction k with
  | zero=>
    intro i s hi hp
    have:i=n:=by omega
    subst this
    obtain ⟨r,h1,h2⟩:=done s hp
    exact .inr ⟨r,rfl,Yx h1,h2⟩
  | succ k ih=>
    intro i s hi hp
    unfold fstF
    cases hpi:p i with
    | true=>
      obtain ⟨e,h1,h2⟩:=hit i s (by omega) hp hpi
      exact .inl ⟨i,e,by simp,Yx h1,h2⟩
    | false=>
      obtain ⟨s',h1,h2⟩:=next i s (by omega) hp hpi
      rcases ih (i+1) s' (by omega) h2 with ⟨j,e,h3,h4,h5⟩ | ⟨r,h3,h4,h5⟩
      ·exact .inl ⟨j,e,by simpa using h3,Yk h1 h4,h5⟩
      ·exact .inr ⟨r,by simpa using h3,Yk h1 h4,h5⟩
 exact key n 0 s (by omega) h
theorem kW {s0:S} (n:Nat) (mk:Nat→S) (r:R) (step : ∀ i,i < n→f (mk i)=some (.inl (mk (i+1)))) (done:f (mk n)=some (.inr r)) (h0:s0=mk 0):iter f s0=some r:=by
 subst h0
 obtain ⟨x,h1,h2⟩:=JJ (f:=f) n (fun i s=>s=mk i) (fun x=>x=r) (fun i s hi hs => .inl ⟨_,by rw [hs];exact step i hi,rfl⟩) (fun s hs=>⟨_,by rw [hs];exact done,rfl⟩) (s:=mk 0) rfl
 rw [h1,h2]
end
theorem Vw (w n:Nat):BitVec.ofInt w (n:Int)=BitVec.ofNat w n:=by
 simp
theorem UK {a b:Nat} (ha:a < 2 ^ 64) (hb:b < 2 ^ 64):ibits .and .u64 (a:Int) (b:Int)=((a &&& b:Nat):Int):=by
 show IntKind.u64.wrap (((BitVec.ofInt 64 (a:Int) &&& BitVec.ofInt 64 (b:Int)).toNat:Nat):Int)=_
 simp only [Vw]
 have h:=Nat.and_lt_two_pow a hb
 rw [BitVec.toNat_and,BitVec.toNat_ofNat,BitVec.toNat_ofNat,Nat.mod_eq_of_lt ha,Nat.mod_eq_of_lt hb,VX (by omega)]
theorem Hr {a b:Nat} (ha:a < 2 ^ 64) (hb:b < 2 ^ 64):ibits .xor .u64 (a:Int) (b:Int)=((a ^^^ b:Nat):Int):=by
 show IntKind.u64.wrap (((BitVec.ofInt 64 (a:Int) ^^^ BitVec.ofInt 64 (b:Int)).toNat:Nat):Int)=_
 simp only [Vw]
 have h:=Nat.xor_lt_two_pow ha hb
 rw [BitVec.toNat_xor,BitVec.toNat_ofNat,BitVec.toNat_ofNat,Nat.mod_eq_of_lt ha,Nat.mod_eq_of_lt hb,VX (by omega)]
theorem iandi64 {a b:Nat} (ha:a < 2 ^ 63) (hb:b < 2 ^ 63):ibits .and .i64 (a:Int) (b:Int)=((a &&& b:Nat):Int):=by
 show IntKind.i64.wrap (((BitVec.ofInt 64 (a:Int) &&& BitVec.ofInt 64 (b:Int)).toNat:Nat):Int)=_
 simp only [Vw]
 have h:=Nat.and_lt_two_pow a hb
 rw [BitVec.toNat_and,BitVec.toNat_ofNat,BitVec.toNat_ofNat,Nat.mod_eq_of_lt (by omega),Nat.mod_eq_of_lt (by omega),js (by omega)]
theorem ixori64 {a b:Nat} (ha:a < 2 ^ 63) (hb:b < 2 ^ 63):ibits .xor .i64 (a:Int) (b:Int)=((a ^^^ b:Nat):Int):=by
 show IntKind.i64.wrap (((BitVec.ofInt 64 (a:Int) ^^^ BitVec.ofInt 64 (b:Int)).toNat:Nat):Int)=_
 simp only [Vw]
 have h:=Nat.xor_lt_two_pow ha hb
 rw [BitVec.toNat_xor,BitVec.toNat_ofNat,BitVec.toNat_ofNat,Nat.mod_eq_of_lt (by omega),Nat.mod_eq_of_lt (by omega),js (by omega)]
def pack:List Bool→Nat
 | []=>0
 | b::r=>b.toNat+2*pack r
theorem bit_zero (b:Bool) (x:Nat):(b.toNat+2*x).testBit 0=b:=by
 cases b <;> simp [Nat.testBit_zero] <;> omega
theorem bit_succ (b:Bool) (x i:Nat):(b.toNat+2*x).testBit (i+1)=x.testBit i:=by
 rw [Nat.testBit_succ]
 congr 1
 cases b <;> simp <;> omega
theorem pack_bit : ∀ (l:List Bool) (i:Nat),(pack l).testBit i=l.getD i false
 | [],i=>by simp [pack]
 | b::r,0=>by rw [pack,bit_zero];rfl
 | b::r,i+1=>by rw [pack,bit_succ,pack_bit r i];rfl
theorem pack_lt : ∀ l:List Bool,pack l < 2 ^ l.length
 | []=>by simp [pack]
 | b::r=>by
   have:=pack_lt r
   rw [pack,List.length_cons,Nat.pow_succ]
   cases b <;> simp <;> omega
end Go.Ql
end
