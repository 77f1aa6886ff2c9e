/- Plain laws: loops, bits. -/
import Derived.Test.YtaoipmnlocbaoaaGreatLf
import Derived.IntWalk
set_option linter.all false
section
namespace Go.Ql
section
variable {S R:Type} {f:S→Option (S⊕R)}
theorem Yq {s:S} {r:R} (h:f s=some (.inr r)):iter f s=some r:=iter_of (n:=1) (by simp [iterN,h])
theorem YA {s s':S} {r:R} (h:f s=some (.inl s')) (h':iter f s'=some r):iter f s=some r:=by
 obtain ⟨n,hn⟩:=iter_some h'
 exact iter_of (n:=n+1) (by simp [iterN,h,hn])
theorem JG {J:S→Prop} {Q:R→Prop} (m:S→Nat) (hstep:∀s,J s→(∃r,f s=some (.inr r)∧Q r) ∨ ∃s',f s=some (.inl s')∧J s'∧m s'<m s) {s:S} (h:J s):∃r,iter f s=some r∧Q r:=by
 have key:∀(k:Nat) (s:S),m s≤k→J s → ∃r,iter f s=some r∧Q r:=by
  intro k
  induction k with
  | zero=>
    intro s hk hj
    rcases hstep s hj with ⟨r,h1,h2⟩ | ⟨s',h1,h2,h3⟩
    ·exact ⟨r,Yq h1,h2⟩
    ·omega
  | succ k ih=>
    intro s hk hj
    rcases hstep s hj with ⟨r,h1,h2⟩ | ⟨s',h1,h2,h3⟩
    ·exact ⟨r,Yq h1,h2⟩
    ·obtain ⟨r,h4,h5⟩:=ih s' (by omega) h2
     exact ⟨r,YA h1 h4,h5⟩
 exact key (m s) s (Nat.le_refl _) h
end
theorem Vx {α β:Type} {p:Option α} {x:α} {k:α→Option β} {r:Option β} (h:p=some x) (h':k x=r):bnd p k=r:=by rw [h];exact h'
theorem ja {α β:Type} {x:α} {k:α→Option β}:bnd (some x) k=k x:=rfl
theorem ko {α:Type} {x y:α} {b:Bool} (h:b=true):br b x y=x:=by rw [h];rfl
theorem JQ {α:Type} {x y:α} {b:Bool} (h:b=false):br b x y=y:=by rw [h];rfl
theorem jS {α:Type} {x y:α} {p:Prop} [Decidable p] (h:p):br (decide p) x y=x:=ko (decide_eq_true h)
theorem jO {α:Type} {x y:α} {p:Prop} [Decidable p] (h:¬p):br (decide p) x y=y:=JQ (decide_eq_false h)
theorem jB {b:Bool} (h:b=true):okIf b=some ():=by rw [h];rfl
theorem Jz {xs:List Int} {i:Int} (n:Nat) (hi:i=n) (h:n<xs.length):idx xs i=some (xs.getD n 0):=by
 subst hi
 unfold idx
 simp [h]
theorem kE {n:Nat} {i:Int} (h0:0≤i) (h:i<(n:Int)):inR n i=some ():=by
 unfold inR
 simp [h0,h]
theorem ji {x:Int} (h:-9223372036854775808≤x∧x≤9223372036854775807):IntKind.i64.wrap x=x:=IntWalk.i64_in _ (by omega)
theorem Js {x:Int} (h:0≤x∧x<18446744073709551616):IntKind.u64.wrap x=x:=IntWalk.u64_in _ (by omega)
theorem YC {x:Int} (h:0≤x∧x<4294967296):IntKind.u32.wrap x=x:=IntWalk.u32_in _ (by omega)
theorem kB {x:Int}:IntKind.u32.wrap x=x % 4294967296:=by
 simp [IntKind.wrap,IntKind.signed,IntKind.bits]
def val (B:Int):List Int→Int
 | []=>0
 | d::l=>d+B*val B l
def Dig (B:Int) (l:List Int):Prop:=∀d∈l,0≤d∧d<B
theorem val_append (B:Int) (m:List Int):∀l:List Int,val B (l++m)=val B l+B^l.length*val B m
 | []=>by simp [val]
 | d::l=>by
   simp only [List.cons_append,val,val_append B m l,List.length_cons,Int.pow_succ]
   grind
theorem UC (B:Int) (l:List Int) (d:Int):val B (l++[d])=val B l+B^l.length*d:=by
 rw [val_append];simp [val]
theorem Dig.nil {B:Int}:Dig B []:=fun _ h=>by cases h
theorem Dig.cons {B d:Int} {l:List Int} (h:0≤d∧d<B) (hl:Dig B l):Dig B (d::l):=fun x hx=>by
 rcases List.mem_cons.1 hx with rfl | hx
 ·exact h
 ·exact hl x hx
theorem Dig.append {B:Int} {l m:List Int} (hl:Dig B l) (hm:Dig B m):Dig B (l++m):=fun x hx=>by
 rcases List.mem_append.1 hx with hx | hx
 ·exact hl x hx
 ·exact hm x hx
theorem Dig.head {B d:Int} {l:List Int} (h:Dig B (d::l)):0≤d∧d<B:=h d (List.mem_cons_self ..)
theorem Dig.tail {B d:Int} {l:List Int} (h:Dig B (d::l)):Dig B l:=fun x hx=>h x (List.mem_cons_of_mem _ hx)
theorem Dig.take {B:Int} {l:List Int} (h:Dig B l) (n:Nat):Dig B (l.take n):=fun x hx=>h x (List.mem_of_mem_take hx)
theorem Dig.drop {B:Int} {l:List Int} (h:Dig B l) (n:Nat):Dig B (l.drop n):=fun x hx=>h x (List.mem_of_mem_drop hx)
theorem Dig.getD {B:Int} {l:List Int} (hB:0<B) (h:Dig B l) (i:Nat):0≤l.getD i 0∧l.getD i 0<B:=by
 by_cases hi:i<l.length
 ·simp only [List.getD,List.getElem?_eq_getElem hi,Option.getD_some]
  exact h _ (List.getElem_mem hi)
 ·rw [List.getD,List.getElem?_eq_none (by omega:l.length≤i),Option.getD_none]
  omega
theorem Dig.set {B x:Int} {l:List Int} (h:Dig B l) (hx:0≤x∧x<B) (i:Nat):Dig B (l.set i x):=fun y hy=>by
 rcases List.mem_or_eq_of_mem_set hy with hy | rfl
 ·exact h y hy
 ·exact hx
theorem Dig.replicate {B:Int} (hB:0<B) (n:Nat):Dig B (List.replicate n 0):=fun x hx=>by
 rw [(List.mem_replicate.1 hx).2];omega
theorem Ya (B:Int):∀n:Nat,val B (List.replicate n 0)=0
 | 0=>rfl
 | n+1=>by simp [List.replicate_succ,val,Ya B n]
theorem JT {B:Int} (hB:0≤B):∀{l:List Int},Dig B l→0≤val B l
 | [],_=>Int.le_refl 0
 | d::l,h=>by
   have h1:=JT hB h.tail
   have h2:=h.head
   have h3:=Int.mul_nonneg hB h1
   simp only [val]
   omega
theorem Yk {B:Int} (hB:0<B):∀{l:List Int},Dig B l→val B l<B^l.length
 | [],_=>by simp [val]
 | d::l,h=>by
   have h1:=Yk hB h.tail
   have h2:=h.head
   have h3:B*(val B l+1)≤B*B^l.length:=Int.mul_le_mul_of_nonneg_left (by omega) (by omega)
   simp only [val,List.length_cons,Int.pow_succ]
   rw [Int.mul_comm (B^l.length) B]
   rw [Int.mul_add] at h3
   omega
theorem jX (B:Int):∀(i:Nat) (l:List Int),val B (l.take (i+1))=val B (l.take i)+B^i*l.getD i 0
 | _,[]=>by simp [val]
 | 0,d::l=>by simp [val]
 | i+1,d::l=>by
   have h:=jX B i l
   simp only [List.take_succ_cons,val,List.getD_cons_succ,Int.pow_succ] at h ⊢
   rw [h]
   grind
theorem kW (B x:Int):∀(i:Nat) (l:List Int),i<l.length→val B (l.set i x)=val B l+B^i*(x-l.getD i 0)
 | _,[],h=>by simp at h
 | 0,d::l,_=>by simp [val];omega
 | i+1,d::l,h=>by
   have h:=kW B x i l (by simpa using h)
   simp only [List.set_cons_succ,val,List.getD_cons_succ,Int.pow_succ] at h ⊢
   rw [h]
   grind
theorem ku {l:List Int} {i j:Nat} {x:Int} (h:i<l.length):(l.set i x).getD j 0=if i=j then x else l.getD j 0:=by
 simp only [List.getD,List.getElem?_set]
 by_cases hij:i=j
 ·subst hij;simp [h]
 ·simp [hij]
theorem kS (n j:Nat):(List.replicate n (0:Int)).getD j 0=0:=by
 simp only [List.getD,List.getElem?_replicate]
 split<;>rfl
theorem pow_pos {B:Int} (hB:0<B) (n:Nat):0<B^n:=Int.pow_pos hB
end Go.Ql
end

section
namespace Go.Ql
section
variable {A S R:Type} {f:S→Option (S⊕R)}
theorem iter_each {l:List A} (P:List A→List A→S→Prop) (Q:R→Prop)
 (step:∀pre a r s,l=pre++a::r→P pre (a::r) s→(∃s',f s=some (.inl s')∧P (pre++[a]) r s')∨(∃x,f s=some (.inr x)∧Q x))
 (done:∀s,P l [] s → ∃x,f s=some (.inr x)∧Q x) {s:S} (h:P [] l s):∃x,iter f s=some x∧Q x:=by
 have key:∀(r pre:List A) (s:S),l=pre++r→P pre r s → ∃x,iter f s=some x∧Q x:=by
  intro r
  induction r with
  | nil=>
    intro pre s hl hp
    rw [List.append_nil] at hl
    subst hl
    obtain ⟨x,h1,h2⟩:=done s hp
    exact ⟨x,Yq h1,h2⟩
  | cons a r ih=>
    intro pre s hl hp
    rcases step pre a r s hl hp with ⟨s',h1,h2⟩ | ⟨x,h1,h2⟩
    ·obtain ⟨x,h3,h4⟩:=ih (pre++[a]) s' (by simp [hl]) h2
     exact ⟨x,YA h1 h3,h4⟩
    ·exact ⟨x,Yq h1,h2⟩
 exact key l [] s rfl h
theorem Ud (n:Nat) (P:Nat→S→Prop) (Q:R→Prop)
 (step:∀i s,i<n→P i s→(∃s',f s=some (.inl s')∧P (i+1) s')∨(∃x,f s=some (.inr x)∧Q x))
 (done:∀s,P n s → ∃x,f s=some (.inr x)∧Q x) {s:S} (h:P 0 s):∃x,iter f s=some x∧Q x:=by
 have key:∀(k i:Nat) (s:S),i+k=n→P i s → ∃x,iter f s=some x∧Q x:=by
  intro k
  induction k with
  | zero=>
    intro i s hi hp
    have:i=n:=by omega
    subst this
    obtain ⟨x,h1,h2⟩:=done s hp
    exact ⟨x,Yq h1,h2⟩
  | succ k ih=>
    intro i s hi hp
    rcases step i s (by omega) hp with ⟨s',h1,h2⟩ | ⟨x,h1,h2⟩
    ·obtain ⟨x,h3,h4⟩:=ih (i+1) s' (by omega) h2
     exact ⟨x,YA h1 h3,h4⟩
    ·exact ⟨x,Yq h1,h2⟩
 exact key n 0 s (by omega) h
end
theorem br_if {α:Type} {x y:α} {b:Bool}:br b x y=if b=true then x else y:=by cases b<;>rfl
theorem sel_inl {α β γ:Type} {x:α} {f:α→γ} {g:β→γ}:sel (.inl x) f g=f x:=rfl
theorem Vg {α β γ:Type} {x:β} {f:α→γ} {g:β→γ}:sel (.inr x) f g=g x:=rfl
theorem idx_mid {α:Type} {pre:List α} {a:α} {r:List α}:idx (pre++a::r) (pre.length:Int)=some a:=by
 unfold idx
 simp
theorem idx_at {α:Type} {l:List α} {i:Nat}:idx l (i:Int)=l[i]?:=by
 unfold idx
 simp
theorem JJ {α:Type} {l:List α} {i:Nat} (h:i<l.length):idx l (i:Int)=some l[i]:=by
 rw [idx_at,List.getElem?_eq_getElem h]
theorem UH {n:Nat} {i:Nat} (h:i<n):inR n (i:Int)=some ():=kE (by omega) (by omega)
theorem br_or {b c:Bool}:br b (some true) (some c)=some (b||c):=by cases b<;>rfl
theorem some_dec {b:Bool} {P:Prop} [Decidable P] (h:b=true↔P):some b=some (decide P):=by
 congr 1
 rw [Bool.eq_iff_iff,h]
 simp
theorem br_tt {α:Type} {x y:α}:br true x y=x:=rfl
theorem br_ff {α:Type} {x y:α}:br false x y=y:=rfl
theorem lt_app {α:Type} {pre:List α} {a:α} {r:List α}:decide ((pre.length:Int)<((pre++a::r).length:Int))=true:=by
 simp only [List.length_append,List.length_cons,decide_eq_true_eq];omega
end Go.Ql
end

section
namespace Go.Ql
section
variable {S E R A T:Type} {f:S→Option (S⊕R)}
def fstF (p:Nat→Bool):Nat→Nat→Option Nat
 | _,0=>none
 | i,k+1=>if p i=true then some i else fstF p (i+1) k
theorem Vi {p:Nat→Bool}:∀{i k:Nat},fstF p i k=none ↔ ∀j,i≤j→j<i+k→p j=false:=by
 intro i k
 induction k generalizing i with
 | zero=>
   refine Iff.intro (fun _ j h1 h2=>?_) (fun _=>rfl)
   omega
 | succ k ih=>
   unfold fstF
   by_cases h:p i=true
   ·rw [if_pos h]
    refine Iff.intro (fun h1=>nomatch h1) (fun h1=>?_)
    have:=h1 i (by omega) (by omega)
    rw [this] at h
    cases h
   ·rw [if_neg h,ih]
    refine Iff.intro (fun h1 j h2 h3=>?_) (fun h1 j h2 h3=>h1 j (by omega) (by omega))
    by_cases hj:j=i
    ·subst hj;simpa using h
    ·exact h1 j (by omega) (by omega)
theorem Uc {p:Nat→Bool}:∀{i k j:Nat},fstF p i k=some j→i≤j∧j<i+k∧p j=true ∧ ∀m,i≤m→m<j→p m=false
 | i,0,j,h=>by cases h
 | i,k+1,j,h=>by
   unfold fstF at h
   by_cases hp:p i=true
   ·rw [if_pos hp] at h;cases h
    exact ⟨by omega,by omega,hp,fun m h1 h2=>by omega⟩
   ·rw [if_neg hp] at h
    obtain ⟨h1,h2,h3,h4⟩:=Uc h
    refine ⟨by omega,by omega,h3,fun m h5 h6=>?_⟩
    by_cases hm:m=i
    ·subst hm;simpa using hp
    ·exact h4 m (by omega) h6
theorem kZ {f:S→Option (S⊕(E⊕R))} {P:Nat→S→Prop} (n:Nat) (p:Nat→Bool) {X:Nat→E→Prop} {Q:R→Prop}
 (hit:∀i s,i<n→P i s→p i=true → ∃e,f s=some (.inr (.inl e))∧X i e)
 (next:∀i s,i<n→P i s→p i=false → ∃s',f s=some (.inl s')∧P (i+1) s')
 (done:∀s,P n s → ∃r,f s=some (.inr (.inr r))∧Q r) {s:S} (h:P 0 s) :
 (∃i e,fstF p 0 n=some i∧iter f s=some (.inl e)∧X i e) ∨ ∃r,fstF p 0 n=none∧iter f s=some (.inr r)∧Q r:=by
 have key:∀(k i:Nat) (s:S),i+k=n→P i s →
  (∃j e,fstF p i k=some j∧iter f s=some (.inl e)∧X j e) ∨ ∃r,fstF p i k=none∧iter f s=some (.inr r)∧Q r:=by
  intro k
  induction k with
  | zero=>
    intro i s hi hp
    have:i=n:=by omega
    subst this
    obtain ⟨r,h1,h2⟩:=done s hp
    exact .inr ⟨r,rfl,Yq h1,h2⟩
  | succ k ih=>
    intro i s hi hp
    unfold fstF
    cases hpi:p i with
    | true=>
      obtain ⟨e,h1,h2⟩:=hit i s (by omega) hp hpi
      exact .inl ⟨i,e,by simp,Yq h1,h2⟩
    | false=>
      obtain ⟨s',h1,h2⟩:=next i s (by omega) hp hpi
      rcases ih (i+1) s' (by omega) h2 with ⟨j,e,h3,h4,h5⟩ | ⟨r,h3,h4,h5⟩
      ·exact .inl ⟨j,e,by simpa using h3,YA h1 h4,h5⟩
      ·exact .inr ⟨r,by simpa using h3,YA h1 h4,h5⟩
 exact key n 0 s (by omega) h
theorem VD {l:List A} {t0:T} {s0:S} (mk:Nat→T→S) (g:T→A→T) (out:T→R)
 (step:∀pre a r t,l=pre++a::r→t=pre.foldl g t0→f (mk pre.length t)=some (.inl (mk (pre.length+1) (g t a))))
 (done:f (mk l.length (l.foldl g t0))=some (.inr (out (l.foldl g t0)))) (h0:s0=mk 0 t0):iter f s0=some (out (l.foldl g t0)):=by
 subst h0
 obtain ⟨x,h1,h2⟩:=iter_each (f:=f) (l:=l) (fun pre r s=>s=mk pre.length (pre.foldl g t0)) (fun x=>x=out (l.foldl g t0))
  (fun pre a r s hl hs=>.inl ⟨mk (pre.length+1) (g (pre.foldl g t0) a),by subst hs;exact step pre a r _ hl rfl,by rw [List.foldl_append,List.length_append];rfl⟩)
  (fun s hs=>⟨out (l.foldl g t0),by subst hs;exact done,rfl⟩) (s:=mk 0 t0) rfl
 rw [h1,h2]
theorem Yg {s0:S} (n:Nat) (mk:Nat→S) (r:R) (step:∀i,i<n→f (mk i)=some (.inl (mk (i+1)))) (done:f (mk n)=some (.inr r)) (h0:s0=mk 0):iter f s0=some r:=by
 subst h0
 obtain ⟨x,h1,h2⟩:=Ud (f:=f) n (fun i s=>s=mk i) (fun x=>x=r) (fun i s hi hs=>.inl ⟨_,by rw [hs];exact step i hi,rfl⟩) (fun s hs=>⟨_,by rw [hs];exact done,rfl⟩) (s:=mk 0) rfl
 rw [h1,h2]
end
theorem bv_ofInt_nat (w n:Nat):BitVec.ofInt w (n:Int)=BitVec.ofNat w n:=by
 simp
theorem ior64 {a b:Nat} (ha:a<2^64) (hb:b<2^64):ibits .or .u64 (a:Int) (b:Int)=((a ||| b:Nat):Int):=by
 show IntKind.u64.wrap (((BitVec.ofInt 64 (a:Int) ||| BitVec.ofInt 64 (b:Int)).toNat:Nat):Int)=_
 simp only [bv_ofInt_nat]
 have h:=Nat.or_lt_two_pow ha hb
 rw [BitVec.toNat_or,BitVec.toNat_ofNat,BitVec.toNat_ofNat,Nat.mod_eq_of_lt ha,Nat.mod_eq_of_lt hb,Js (by omega)]
theorem iand64 {a b:Nat} (ha:a<2^64) (hb:b<2^64):ibits .and .u64 (a:Int) (b:Int)=((a &&& b:Nat):Int):=by
 show IntKind.u64.wrap (((BitVec.ofInt 64 (a:Int) &&& BitVec.ofInt 64 (b:Int)).toNat:Nat):Int)=_
 simp only [bv_ofInt_nat]
 have h:=Nat.and_lt_two_pow a hb
 rw [BitVec.toNat_and,BitVec.toNat_ofNat,BitVec.toNat_ofNat,Nat.mod_eq_of_lt ha,Nat.mod_eq_of_lt hb,Js (by omega)]
theorem ixor64 {a b:Nat} (ha:a<2^64) (hb:b<2^64):ibits .xor .u64 (a:Int) (b:Int)=((a^^^b:Nat):Int):=by
 show IntKind.u64.wrap (((BitVec.ofInt 64 (a:Int)^^^BitVec.ofInt 64 (b:Int)).toNat:Nat):Int)=_
 simp only [bv_ofInt_nat]
 have h:=Nat.xor_lt_two_pow ha hb
 rw [BitVec.toNat_xor,BitVec.toNat_ofNat,BitVec.toNat_ofNat,Nat.mod_eq_of_lt ha,Nat.mod_eq_of_lt hb,Js (by omega)]
theorem iori64 {a b:Nat} (ha:a<2^63) (hb:b<2^63):ibits .or .i64 (a:Int) (b:Int)=((a ||| b:Nat):Int):=by
 show IntKind.i64.wrap (((BitVec.ofInt 64 (a:Int) ||| BitVec.ofInt 64 (b:Int)).toNat:Nat):Int)=_
 simp only [bv_ofInt_nat]
 have h:=Nat.or_lt_two_pow ha hb
 rw [BitVec.toNat_or,BitVec.toNat_ofNat,BitVec.toNat_ofNat,Nat.mod_eq_of_lt (by omega),Nat.mod_eq_of_lt (by omega),ji (by omega)]
def pack:List Bool→Nat
 | []=>0
 | b::r=>b.toNat+2*pack r
theorem Vw (b:Bool) (x:Nat):(b.toNat+2*x).testBit 0=b:=by
 cases b<;>simp [Nat.testBit_zero]<;>omega
theorem VV (b:Bool) (x i:Nat):(b.toNat+2*x).testBit (i+1)=x.testBit i:=by
 rw [Nat.testBit_succ]
 congr 1
 cases b<;>simp<;>omega
theorem pack_bit:∀(l:List Bool) (i:Nat),(pack l).testBit i=l.getD i false
 | [],i=>by simp [pack]
 | b::r,0=>by rw [pack,Vw];rfl
 | b::r,i+1=>by rw [pack,VV,pack_bit r i];rfl
theorem Uf:∀l:List Bool,pack l<2^l.length
 | []=>by simp [pack]
 | b::r=>by
   have:=Uf r
   rw [pack,List.length_cons,Nat.pow_succ]
   cases b<;>simp<;>omega
theorem Ux (m:List Bool):∀l:List Bool,pack (l++m)=pack l+2^l.length*pack m
 | []=>by simp [pack]
 | b::r=>by
   rw [List.cons_append,pack,pack,Ux m r,List.length_cons,Nat.pow_succ]
   grind
theorem pack_falses:∀k:Nat,pack (List.replicate k false)=0
 | 0=>rfl
 | k+1=>by rw [List.replicate_succ,pack,pack_falses k];rfl
theorem pack_xor:∀(l m:List Bool),l.length=m.length→pack l^^^pack m=pack (List.zipWith (· != ·) l m)
 | [],[],_=>rfl
 | a::l,b::m,h=>by
   rw [List.zipWith_cons_cons,pack,pack,pack,←pack_xor l m (by simpa using h)]
   apply Nat.eq_of_testBit_eq
   intro i
   cases i with
   | zero=>rw [Nat.testBit_xor,Vw,Vw,Vw]
   | succ i=>rw [Nat.testBit_xor,VV,VV,VV,Nat.testBit_xor]
theorem pack_and:∀(l m:List Bool),l.length=m.length→pack l &&& pack m=pack (List.zipWith (· && ·) l m)
 | [],[],_=>rfl
 | a::l,b::m,h=>by
   rw [List.zipWith_cons_cons,pack,pack,pack,←pack_and l m (by simpa using h)]
   apply Nat.eq_of_testBit_eq
   intro i
   cases i with
   | zero=>rw [Nat.testBit_and,Vw,Vw,Vw]
   | succ i=>rw [Nat.testBit_and,VV,VV,VV,Nat.testBit_and]
theorem pack_inj:∀{l m:List Bool},l.length=m.length→pack l=pack m→l=m
 | [],[],_,_=>rfl
 | a::l,b::m,h,e=>by
   have h0:=congrArg (·.testBit 0) e
   simp only [pack,Vw] at h0
   subst h0
   have:pack l=pack m:=by simp only [pack] at e;omega
   rw [pack_inj (by simpa using h) this]
theorem or_high {a q:Nat} (h:a<2^q) (b:Bool):a ||| (b.toNat*2^q)=a+2^q*b.toNat:=by
 rw [Nat.mul_comm,Nat.or_comm,Nat.add_comm]
 exact (Nat.two_pow_add_eq_or_of_lt h _).symm
end Go.Ql
end
