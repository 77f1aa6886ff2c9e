/- Plain laws of images, and of circuits made anew, of all arguments. -/
import Derived.Test.YtjlbeiadpdgchaaPc
import Derived.Test.YtjlbeiadpdgchaaPd
import Derived.Test.YtjlbeiadpdgchaaGa
set_option linter.all false
section
set_option linter.unusedSectionVars false
set_option linter.unusedVariables false
set_option maxHeartbeats 1000000
namespace Go.Ql
abbrev L3:=List (Int×Int×Bool)
def s0T:L3:=[(0,1,false),(0,2,true)]
def b0T:L3:=[(1,0,false),(2,0,false)]
def s1T:L3:=[(1,0,false),(0,2,true)]
def b1T:L3:=[(0,1,false),(2,0,false)]
def s2T:L3:=[(3,0,false),(0,3,true)]
def b2T:L3:=[(0,1,false),(2,0,false)]
def cT:Cir:=(2,0,[(3,0,[],0,0,[]),(2,0,[0],1,0,[])])
theorem begT:W.jr 2 2=some (2,s0T,b0T,()):=by
 unfold W.jr
 exact bnd_of (iter_of (n:=3) (r:=((2:Int),s0T,b0T)) (by kernel_rfl)) rfl
theorem holdsT (o:GOp) (h:o.2.2.2.2.2=[]) (bits:List Int):W.jC o bits=some true:=by
 unfold W.jC
 rw [h]
 exact bnd_of (iter_of (n:=1) (r:=.inr (0:Int)) (by kernel_rfl)) rfl
theorem gate1T:W.jn (3,0,[],0,0,[]) 2 s0T b0T=some (s1T,b1T,2,()):=by
 unfold W.jn
 exact bnd_of (iter_of (n:=3) (r:=((2:Int),s1T,b1T)) (by kernel_rfl)) rfl
theorem gate2T:W.jn (2,0,[0],1,0,[]) 2 s1T b1T=some (s2T,b2T,2,()):=by
 unfold W.jn
 exact bnd_of (iter_of (n:=3) (r:=((2:Int),s2T,b2T)) (by kernel_rfl)) rfl
theorem redT:W.je s2T 2=some s2T:=by
 unfold W.je
 refine bnd_of (x:=()) (by kernel_rfl) ?_
 have c0:W.je.c220528 0 0 2 s2T some=some (1,2,s2T):=by
  unfold W.je.c220528
  refine bnd_of (iter_of (n:=3) (r:=((0:Int),(2:Int),(0:Int))) (by kernel_rfl)) ?_
  rw [br_false (by kernel_rfl)]
  refine bnd_of (x:=s2T) (by kernel_rfl) ?_
  exact bnd_of (iter_of (n:=3) (r:=((2:Int),(2:Int),(0:Int),s2T)) (by kernel_rfl)) (by kernel_rfl)
 have c1:W.je.c220528 1 1 2 s2T some=some (1,2,s2T):=by
  unfold W.je.c220528
  refine bnd_of (iter_of (n:=3) (r:=((2:Int),(2:Int),(1:Int))) (by kernel_rfl)) ?_
  rw [br_true (by kernel_rfl)]
 have c2:W.je.c220528 1 2 2 s2T some=some (2,2,s2T):=by
  unfold W.je.c220528
  refine bnd_of (iter_of (n:=3) (r:=((1:Int),(2:Int),(2:Int))) (by kernel_rfl)) ?_
  rw [br_false (by kernel_rfl)]
  refine bnd_of (x:=s2T) (by kernel_rfl) ?_
  exact bnd_of (iter_of (n:=3) (r:=((2:Int),(2:Int),(2:Int),s2T)) (by kernel_rfl)) (by kernel_rfl)
 have c3:W.je.c220528 2 3 2 s2T some=some (2,2,s2T):=by
  unfold W.je.c220528
  refine bnd_of (iter_of (n:=3) (r:=((2:Int),(2:Int),(3:Int))) (by kernel_rfl)) ?_
  rw [br_true (by kernel_rfl)]
 have e:iter (fun s:Int×Int×Int×L3↦W.je.c100004 (Prod.fst s) (IntKind.wrap IntKind.i64 ((2:Int)*2)) (Prod.fst (Prod.snd s)) (Prod.fst (Prod.snd (Prod.snd s))) (Prod.snd (Prod.snd (Prod.snd s))) some) ((0:Int),(0:Int),(2:Int),s2T)=some (2,4,2,s2T):=by
  refine iter_inl (s':=(1,1,2,s2T)) ?_ (iter_inl (s':=(1,2,2,s2T)) ?_ (iter_inl (s':=(2,3,2,s2T)) ?_ (iter_inl (s':=(2,4,2,s2T)) ?_ (iter_inr ?_))))
  ·unfold W.je.c100004
   rw [br_true (by kernel_rfl)]
   exact bnd_of c0 (by kernel_rfl)
  ·unfold W.je.c100004
   rw [br_true (by kernel_rfl)]
   exact bnd_of c1 (by kernel_rfl)
  ·unfold W.je.c100004
   rw [br_true (by kernel_rfl)]
   exact bnd_of c2 (by kernel_rfl)
  ·unfold W.je.c100004
   rw [br_true (by kernel_rfl)]
   exact bnd_of c3 (by kernel_rfl)
  ·unfold W.je.c100004
   rw [br_false (by kernel_rfl)]
 exact bnd_of e rfl
def t1T:Tx:=[43,88,88]
def t2T:Tx:=[45,90,90]
theorem textsT:W.jm (3,0,false) 2=some t1T∧W.jm (0,3,true) 2=some t2T:=
 ⟨text_pe (n:=2) (by decide) (p:=⟨3,0,false⟩) ⟨by decide,by decide⟩,text_pe (n:=2) (by decide) (p:=⟨0,3,true⟩) ⟨by decide,by decide⟩⟩
theorem runT:W.jg cT 2 []=some ([t1T,t2T],[],0,0,0):=by
 have hw:WCir cT:=⟨by decide,fun o ho=>by
  rcases List.mem_cons.1 ho with rfl | ho
  ·exact ⟨by decide,by decide⟩
  ·rcases List.mem_cons.1 ho with rfl | ho
   ·exact ⟨by decide,by decide⟩
   ·cases ho⟩
 unfold W.jg
 refine bnd_of ((check_ok cT hw).trans (congrArg some (show chk cT=(0,0) by decide))) ?_
 rw [br_false (by kernel_rfl)]
 refine bnd_of (x:=false) (by kernel_rfl) ?_
 rw [br_false (by kernel_rfl)]
 refine bnd_of ((stranger_ok cT (by decide)).trans (congrArg some (show strange 0 cT.2.2=(0,0) by decide))) ?_
 rw [br_false (by kernel_rfl)]
 refine bnd_of (show W.jg.c10 2 2 0 some=some (2,s0T,b0T) from bnd_of begT (by kernel_rfl)) ?_
 refine bnd_of (x:=.inr ((0:Int),(2:Int),(2:Int),([]:List Int),s2T,b2T)) (iter_inl (s':=((0:Int),(1:Int),(2:Int),([]:List Int),s1T,b1T)) ?_ (iter_inl (s':=((0:Int),(2:Int),(2:Int),([]:List Int),s2T,b2T)) ?_ (iter_inr ?_))) ?_
 ·unfold W.jg.c100012
  rw [br_true (by kernel_rfl)]
  refine bnd_of (x:=.inl ((0:Int),(2:Int),([]:List Int),s1T,b1T)) ?_ (by kernel_rfl)
  unfold W.jg.c253291
  refine bnd_of (x:=((3:Int),(0:Int),[],(0:Int),(0:Int),[])) (by kernel_rfl) (bnd_of (holdsT (3,0,[],0,0,[]) rfl []) ?_)
  rw [br_false (by kernel_rfl),br_true (by kernel_rfl)]
  exact bnd_of gate1T (by kernel_rfl)
 ·unfold W.jg.c100012
  rw [br_true (by kernel_rfl)]
  refine bnd_of (x:=.inl ((0:Int),(2:Int),([]:List Int),s2T,b2T)) ?_ (by kernel_rfl)
  unfold W.jg.c253291
  refine bnd_of (x:=((2:Int),(0:Int),[0],(1:Int),(0:Int),[])) (by kernel_rfl) (bnd_of (holdsT (2,0,[0],1,0,[]) rfl []) ?_)
  rw [br_false (by kernel_rfl),br_true (by kernel_rfl)]
  exact bnd_of gate2T (by kernel_rfl)
 ·unfold W.jg.c100012
  rw [br_false (by kernel_rfl)]
 ·rw [sel_inr]
  refine bnd_of (show W.jg.c29 2 s2T some=some (s2T,2) from bnd_of redT (by kernel_rfl)) ?_
  refine bnd_of (x:=((2:Int),[t1T,t2T])) (iter_inl (s':=((1:Int),[t1T])) ?_ (iter_inl (s':=((2:Int),[t1T,t2T])) ?_ (iter_inr ?_))) rfl
  ·unfold W.jg.c100030
   rw [br_true (by kernel_rfl)]
   refine bnd_of (x:=((3:Int),(0:Int),false)) (by kernel_rfl) ?_
   exact bnd_of (x:=[t1T]) (bnd_of textsT.1 (by kernel_rfl)) (by kernel_rfl)
  ·unfold W.jg.c100030
   rw [br_true (by kernel_rfl)]
   refine bnd_of (x:=((0:Int),(3:Int),true)) (by kernel_rfl) ?_
   exact bnd_of (x:=[t1T,t2T]) (bnd_of textsT.2 (by kernel_rfl)) (by kernel_rfl)
  ·unfold W.jg.c100030
   rw [br_false (by kernel_rfl)]
theorem begunT:W.jI=some true:=by
 unfold W.jI
 refine bnd_of runT ?_
 have h:W.jI.c2 [t1T,t2T] 0 some=some true:=by
  unfold W.jI.c2
  rw [br_true (by kernel_rfl)]
  exact bnd_of (sameTexts_self [t1T,t2T] (by decide)) rfl
 exact bnd_of h rfl
end Go.Ql
end

section
set_option linter.unusedSectionVars false
set_option linter.unusedVariables false
set_option maxHeartbeats 2000000
namespace Go.Ql
def nrm (a:K):K:=K.mul a (K.conj a)
theorem nrm_turn1 (a:K):nrm (K.turn1 a)=nrm a:=by
 apply K.eq_of <;> simp only [nrm,K.mul,K.conj,K.turn1] <;> grind
theorem nrm_turn (a:K) : ∀ n,nrm (K.turn a n)=nrm a
 | 0=>rfl
 | n+1=>by rw [K.turn,nrm_turn1,nrm_turn a n]
theorem nrm_pair (a b:K):K.add (nrm (K.add (K.half b) (K.half a))) (nrm (K.add (K.half a) (K.neg (K.half b))))=K.add (nrm a) (nrm b):=by
 apply K.eq_of <;> simp only [nrm,K.mul,K.conj,K.half,K.sm,K.sub,K.turn,K.turn1,K.neg,K.add] <;> grind
theorem nrm_zero:nrm K.zero=K.zero:=K.zero_mul _
theorem add_swap (a b c d:K):K.add (K.add a b) (K.add c d)=K.add (K.add a c) (K.add b d):=by
 apply K.eq_of <;> simp only [K.add] <;> grind
theorem add_twice {a b:K} (h:K.add a a=K.add b b):a=b:=by
 have h0:=congrArg K.c0 h
 have h1:=congrArg K.c1 h
 have h2:=congrArg K.c2 h
 have h3:=congrArg K.c3 h
 have h4:=congrArg K.c4 h
 have h5:=congrArg K.c5 h
 have h6:=congrArg K.c6 h
 have h7:=congrArg K.c7 h
 simp only [K.add] at h0 h1 h2 h3 h4 h5 h6 h7
 apply K.eq_of <;> grind
def suL (f:Nat→K):List Nat→K
 | []=>K.zero
 | x::l=>K.add (f x) (suL f l)
theorem suL_perm (f:Nat→K) {l m:List Nat} (h:l.Perm m):suL f l=suL f m:=by
 induction h with
 | nil=>rfl
 | cons a _ ih=>rw [suL,suL,ih]
 | swap a b l=>rw [suL,suL,suL,suL,← K.add_assoc,← K.add_assoc,K.add_comm (f b)]
 | trans _ _ ih1 ih2=>rw [ih1,ih2]
theorem suL_map (f:Nat→K) (g:Nat→Nat) : ∀ l,suL f (l.map g)=suL (fun x=>f (g x)) l
 | []=>rfl
 | x::l=>by rw [List.map_cons,suL,suL,suL_map f g l]
theorem suL_add (f g:Nat→K) : ∀ l,suL (fun x=>K.add (f x) (g x)) l=K.add (suL f l) (suL g l)
 | []=>(K.add_zero _).symm
 | x::l=>by rw [suL,suL,suL,suL_add f g l,add_swap]
theorem suL_congr {f g:Nat→K} : ∀ {l:List Nat},(∀ x∈l,f x=g x)→suL f l=suL g l
 | [],_=>rfl
 | x::l,h=>by rw [suL,suL,h x (List.mem_cons_self ..),suL_congr fun y hy=>h y (List.mem_cons_of_mem _ hy)]
theorem perm_of_nodup : ∀ {l m:List Nat},l.Nodup→m.Nodup→(∀ x,x∈l↔x∈m)→l.Perm m
 | [],m,_,_,h=>by
  have:m=[]:=List.eq_nil_iff_forall_not_mem.2 fun x hx=>by have:=(h x).2 hx;cases this
  rw [this]
 | a::l,m,hl,hm,h=>by
  rw [List.nodup_cons] at hl
  have ha:a∈m:=(h a).1 (List.mem_cons_self ..)
  refine (List.Perm.cons a (perm_of_nodup hl.2 (hm.erase a) fun x => ?_)).trans (List.perm_cons_erase ha).symm
  rw [List.Nodup.mem_erase_iff hm]
  constructor
  ·intro hx
   exact ⟨fun e=>hl.1 (e ▸ hx),(h x).1 (List.mem_cons_of_mem _ hx)⟩
  ·rintro ⟨h1,h2⟩
   rcases List.mem_cons.1 ((h x).2 h2) with e | e
   ·exact absurd e h1
   ·exact e
theorem suL_inv (f:Nat→K) {g:Nat→Nat} {N:Nat} (hg : ∀ x,x < N→g x < N) (hi : ∀ x,x < N→g (g x)=x):suL (fun x=>f (g x)) (List.range N)=suL f (List.range N):=by
 rw [← suL_map f g]
 refine suL_perm f (perm_of_nodup ?_ List.nodup_range fun x => ?_)
 ·unfold List.Nodup
  rw [List.pairwise_map]
  refine List.nodup_range.imp_of_mem fun {a b} ha hb h e=>h ?_
  rw [← hi a (List.mem_range.1 ha),e,hi b (List.mem_range.1 hb)]
 ·rw [List.mem_map,List.mem_range]
  constructor
  ·rintro ⟨y,hy,rfl⟩
   exact hg y (List.mem_range.1 hy)
  ·exact fun hx=>⟨g x,List.mem_range.2 (hg x hx),hi x hx⟩
def lenK (n:Nat) (v:KV):K:=suL (fun x=>nrm (v x)) (List.range (2 ^ n))
theorem fl_lt' {q:Int} {n x:Nat} (hq:0≤q∧q < n) (hx:x < 2 ^ n):fl q x < 2 ^ n:=Nat.xor_lt_two_pow hx (Nat.pow_lt_pow_right (by decide) (by omega))
theorem len_x {n:Nat} {l:List Int} {q:Int} (hq:0≤q∧q < n) (hl:Nn l) (h:q∉l) (v:KV):lenK n (xK l q v)=lenK n v:=by
 unfold lenK
 have e : ∀ x,nrm (xK l q v x)=nrm (v (if onesB l x=true then fl q x else x)):=fun x=>by
  unfold xK;split <;> rfl
 rw [suL_congr fun x _=>e x]
 refine suL_inv (fun x=>nrm (v x)) (fun x hx => ?_) fun x hx => ?_
 ·split
  ·exact fl_lt' hq hx
  ·exact hx
 ·by_cases h1:onesB l x=true
  ·rw [if_pos h1,if_pos (by rw [ones_other hl hq.1 h];exact h1),fl_fl]
  ·rw [if_neg h1,if_neg h1]
theorem len_p {n:Nat} (l:List Int) (k:Int) (v:KV):lenK n (pK l k v)=lenK n v:=by
 unfold lenK
 refine suL_congr fun x _ => ?_
 unfold pK
 split
 ·exact nrm_turn _ _
 ·rfl
theorem len_h {n:Nat} {q:Int} (hq:0≤q∧q < n) (v:KV):lenK n (hK q v)=lenK n v:=by
 apply add_twice
 have p1:=suL_inv (N:=2 ^ n) (fun x=>nrm (hK q v x)) (g:=fl q) (fun x hx=>fl_lt' hq hx) (fun x _=>fl_fl q x)
 have p2:=suL_inv (N:=2 ^ n) (fun x=>nrm (v x)) (g:=fl q) (fun x hx=>fl_lt' hq hx) (fun x _=>fl_fl q x)
 have e : ∀ x,K.add (nrm (hK q v x)) (nrm (hK q v (fl q x)))=K.add (nrm (v x)) (nrm (v (fl q x))):=fun x=>by
  unfold hK
  simp only [fl_fl,bt_self]
  generalize v x=a
  generalize v (fl q x)=b
  cases bt q x with
  | false=>
   rw [if_neg (by decide),Bool.not_false,if_pos rfl]
   exact nrm_pair a b
  | true=>
   rw [if_pos rfl,Bool.not_true,if_neg (by decide),K.add_comm (nrm (K.add (K.half b) (K.neg (K.half a)))),K.add_comm (nrm a)]
   exact nrm_pair b a
 have h2:=suL_add (fun x=>nrm (hK q v x)) (fun x=>nrm (hK q v (fl q x))) (List.range (2 ^ n))
 rw [suL_congr fun x _=>e x,suL_add,p1,p2] at h2
 exact h2.symm
theorem len_gate {n:Nat} {o:GOp} (h:StO n o) (v:KV):lenK n (gateK o v)=lenK n v:=by
 obtain ⟨k,K1,l,q,b,on⟩:=o
 obtain ⟨hq,hc,hk,hf⟩:=h
 simp only at hq hc hk hf
 have hn:Nn l:=fun c hc'=>(hc c hc').1.1
 have hnq:q∉l:=fun hq'=>(hc q hq').2 rfl
 rcases hf with ⟨rfl,h1⟩ | ⟨rfl,rfl⟩ | ⟨rfl,rfl,h2⟩ | ⟨rfl,h1,h2⟩ | ⟨rfl,rfl⟩
 ·rw [gate_x];exact len_x hq hn hnq v
 ·rw [gate_h1];exact len_h hq v
 ·rw [gate_p _ _ _ _ _ _ hk.1];exact len_p _ _ v
 ·rw [gate_p _ _ _ _ _ _ hk.1];exact len_p _ _ v
 ·rw [gate_phase _ _ _ _ _ hk.1];exact len_p _ _ v
theorem len_run {n:Nat} : ∀ {l:List GOp},(∀ o∈l,StO n o) → ∀ v,lenK n (runK l v)=lenK n v
 | [],_,_=>rfl
 | o::l,h,v=>by rw [runK,len_run fun r hr=>h r (List.mem_cons_of_mem _ hr),len_gate (h o (List.mem_cons_self ..))]
theorem suL_one {f:Nat→K} {N:Nat} (hN:0 < N) (h : ∀ x,x≠0→f x=K.zero):suL f (List.range N)=f 0:=by
 have z : ∀ l:List Nat,(∀ x∈l,x≠0)→suL f l=K.zero:=by
  intro l
  induction l with
  | nil=>intro _;rfl
  | cons a l ih=>intro hl;rw [suL,h a (hl a (List.mem_cons_self ..)),ih fun x hx=>hl x (List.mem_cons_of_mem _ hx)];exact K.add_zero _
 obtain ⟨m,rfl⟩ : ∃ m,N=m+1:=⟨N - 1,by omega⟩
 rw [List.range_succ_eq_map,suL,z _ fun x hx=>by
  obtain ⟨y,_,rfl⟩:=List.mem_map.1 hx
  omega]
 exact K.add_zero _
theorem scalar_len {n:Nat} {l:List GOp} (h : ∀ o∈l,StO n o) {lam:K} (hl : ∀ y,runK l (baK 0) y=if y=0 then lam else K.zero):nrm lam=K.one:=by
 have h1:=len_run h (baK 0)
 have e1:lenK n (runK l (baK 0))=nrm lam:=by
  unfold lenK
  rw [suL_one (Nat.two_pow_pos n) fun x hx=>by rw [hl,if_neg hx,nrm_zero],hl,if_pos rfl]
 have e2:lenK n (baK 0)=K.one:=by
  unfold lenK
  rw [suL_one (Nat.two_pow_pos n) fun x hx=>by rw [baK,if_neg hx,nrm_zero],baK,if_pos rfl]
  apply K.eq_of <;> simp only [nrm,K.mul,K.conj,K.one] <;> grind
 rw [← e1,h1,e2]
end Go.Ql
end

section
set_option linter.unusedSectionVars false
set_option linter.unusedVariables false
set_option maxHeartbeats 2000000
namespace Go.Ql
def chk4 (x0 x1 x2 x3 x4 x5 x6 x7:Nat):Bool:=
 !(Nat.beq ((x0*x0+x1*x1+x2*x2+x3*x3+x4*x4+x5*x5+x6*x6+x7*x7) % 4) 0 &&
  Nat.beq ((3*(x0*x7)+x1*x0+x2*x1+x3*x2+x4*x3+x5*x4+x6*x5+x7*x6) % 4) 0 &&
  Nat.beq ((3*(x0*x6)+3*(x1*x7)+x2*x0+x3*x1+x4*x2+x5*x3+x6*x4+x7*x5) % 4) 0 &&
  Nat.beq ((3*(x0*x5)+3*(x1*x6)+3*(x2*x7)+x3*x0+x4*x1+x5*x2+x6*x3+x7*x4) % 4) 0) ||
 (Nat.beq (x0 % 2) 0 && Nat.beq (x1 % 2) 0 && Nat.beq (x2 % 2) 0 && Nat.beq (x3 % 2) 0 && Nat.beq (x4 % 2) 0 && Nat.beq (x5 % 2) 0 && Nat.beq (x6 % 2) 0 && Nat.beq (x7 % 2) 0)
def all4 (f:Nat→Bool):Bool:=f 0 && f 1 && f 2 && f 3
theorem all4_at {f:Nat→Bool} (h:all4 f=true) {x:Nat} (hx:x < 4):f x=true:=by
 simp only [all4,Bool.and_eq_true] at h
 have:x=0∨x=1∨x=2∨x=3:=by omega
 rcases this with rfl | rfl | rfl | rfl
 ·exact h.1.1.1
 ·exact h.1.1.2
 ·exact h.1.2
 ·exact h.2
theorem chk_all:(all4 fun a=>all4 fun b=>all4 fun c=>all4 fun d=>all4 fun e=>all4 fun f=>all4 fun g=>all4 fun h=>chk4 a b c d e f g h)=true:=by decide +kernel
def c0Z (w0 w1 w2 w3 w4 w5 w6 w7:Int):Int:=w0*w0+w1*w1+w2*w2+w3*w3+w4*w4+w5*w5+w6*w6+w7*w7
def c1Z (w0 w1 w2 w3 w4 w5 w6 w7:Int):Int:=-(w0*w7)+w1*w0+w2*w1+w3*w2+w4*w3+w5*w4+w6*w5+w7*w6
def c2Z (w0 w1 w2 w3 w4 w5 w6 w7:Int):Int:=-(w0*w6) - w1*w7+w2*w0+w3*w1+w4*w2+w5*w3+w6*w4+w7*w5
def c3Z (w0 w1 w2 w3 w4 w5 w6 w7:Int):Int:=-(w0*w5) - w1*w6 - w2*w7+w3*w0+w4*w1+w5*w2+w6*w3+w7*w4
theorem c0_mod (x0 x1 x2 x3 x4 x5 x6 x7 k0 k1 k2 k3 k4 k5 k6 k7:Int) : ∃ m,c0Z (x0+4*k0) (x1+4*k1) (x2+4*k2) (x3+4*k3) (x4+4*k4) (x5+4*k5) (x6+4*k6) (x7+4*k7)=c0Z x0 x1 x2 x3 x4 x5 x6 x7+4*m:=
 ⟨((x0*k0+k0*x0+4*(k0*k0)))+((x1*k1+k1*x1+4*(k1*k1)))+((x2*k2+k2*x2+4*(k2*k2)))+((x3*k3+k3*x3+4*(k3*k3)))+((x4*k4+k4*x4+4*(k4*k4)))+((x5*k5+k5*x5+4*(k5*k5)))+((x6*k6+k6*x6+4*(k6*k6)))+((x7*k7+k7*x7+4*(k7*k7))),by unfold c0Z;grind⟩
theorem c1_mod (x0 x1 x2 x3 x4 x5 x6 x7 k0 k1 k2 k3 k4 k5 k6 k7:Int) : ∃ m,c1Z (x0+4*k0) (x1+4*k1) (x2+4*k2) (x3+4*k3) (x4+4*k4) (x5+4*k5) (x6+4*k6) (x7+4*k7)=c1Z x0 x1 x2 x3 x4 x5 x6 x7+4*m:=
 ⟨(-(x0*k7+k0*x7+4*(k0*k7)))+((x1*k0+k1*x0+4*(k1*k0)))+((x2*k1+k2*x1+4*(k2*k1)))+((x3*k2+k3*x2+4*(k3*k2)))+((x4*k3+k4*x3+4*(k4*k3)))+((x5*k4+k5*x4+4*(k5*k4)))+((x6*k5+k6*x5+4*(k6*k5)))+((x7*k6+k7*x6+4*(k7*k6))),by unfold c1Z;grind⟩
theorem c2_mod (x0 x1 x2 x3 x4 x5 x6 x7 k0 k1 k2 k3 k4 k5 k6 k7:Int) : ∃ m,c2Z (x0+4*k0) (x1+4*k1) (x2+4*k2) (x3+4*k3) (x4+4*k4) (x5+4*k5) (x6+4*k6) (x7+4*k7)=c2Z x0 x1 x2 x3 x4 x5 x6 x7+4*m:=
 ⟨(-(x0*k6+k0*x6+4*(k0*k6)))+(-(x1*k7+k1*x7+4*(k1*k7)))+((x2*k0+k2*x0+4*(k2*k0)))+((x3*k1+k3*x1+4*(k3*k1)))+((x4*k2+k4*x2+4*(k4*k2)))+((x5*k3+k5*x3+4*(k5*k3)))+((x6*k4+k6*x4+4*(k6*k4)))+((x7*k5+k7*x5+4*(k7*k5))),by unfold c2Z;grind⟩
theorem c3_mod (x0 x1 x2 x3 x4 x5 x6 x7 k0 k1 k2 k3 k4 k5 k6 k7:Int) : ∃ m,c3Z (x0+4*k0) (x1+4*k1) (x2+4*k2) (x3+4*k3) (x4+4*k4) (x5+4*k5) (x6+4*k6) (x7+4*k7)=c3Z x0 x1 x2 x3 x4 x5 x6 x7+4*m:=
 ⟨(-(x0*k5+k0*x5+4*(k0*k5)))+(-(x1*k6+k1*x6+4*(k1*k6)))+(-(x2*k7+k2*x7+4*(k2*k7)))+((x3*k0+k3*x0+4*(k3*k0)))+((x4*k1+k4*x1+4*(k4*k1)))+((x5*k2+k5*x2+4*(k5*k2)))+((x6*k3+k6*x3+4*(k6*k3)))+((x7*k4+k7*x4+4*(k7*k4))),by unfold c3Z;grind⟩
theorem c0_nat (x0 x1 x2 x3 x4 x5 x6 x7:Nat) (h:c0Z (x0:Int) (x1:Int) (x2:Int) (x3:Int) (x4:Int) (x5:Int) (x6:Int) (x7:Int) % 4=0):(x0*x0+x1*x1+x2*x2+x3*x3+x4*x4+x5*x5+x6*x6+x7*x7) % 4=0:=by
 have e:(((x0*x0+x1*x1+x2*x2+x3*x3+x4*x4+x5*x5+x6*x6+x7*x7:Nat)):Int)=c0Z (x0:Int) (x1:Int) (x2:Int) (x3:Int) (x4:Int) (x5:Int) (x6:Int) (x7:Int)+4*(0):=by
  unfold c0Z
  push_cast
  grind
 omega
theorem c1_nat (x0 x1 x2 x3 x4 x5 x6 x7:Nat) (h:c1Z (x0:Int) (x1:Int) (x2:Int) (x3:Int) (x4:Int) (x5:Int) (x6:Int) (x7:Int) % 4=0):(3*(x0*x7)+x1*x0+x2*x1+x3*x2+x4*x3+x5*x4+x6*x5+x7*x6) % 4=0:=by
 have e:(((3*(x0*x7)+x1*x0+x2*x1+x3*x2+x4*x3+x5*x4+x6*x5+x7*x6:Nat)):Int)=c1Z (x0:Int) (x1:Int) (x2:Int) (x3:Int) (x4:Int) (x5:Int) (x6:Int) (x7:Int)+4*((x0:Int)*(x7:Int)):=by
  unfold c1Z
  push_cast
  grind
 omega
theorem c2_nat (x0 x1 x2 x3 x4 x5 x6 x7:Nat) (h:c2Z (x0:Int) (x1:Int) (x2:Int) (x3:Int) (x4:Int) (x5:Int) (x6:Int) (x7:Int) % 4=0):(3*(x0*x6)+3*(x1*x7)+x2*x0+x3*x1+x4*x2+x5*x3+x6*x4+x7*x5) % 4=0:=by
 have e:(((3*(x0*x6)+3*(x1*x7)+x2*x0+x3*x1+x4*x2+x5*x3+x6*x4+x7*x5:Nat)):Int)=c2Z (x0:Int) (x1:Int) (x2:Int) (x3:Int) (x4:Int) (x5:Int) (x6:Int) (x7:Int)+4*((x0:Int)*(x6:Int)+(x1:Int)*(x7:Int)):=by
  unfold c2Z
  push_cast
  grind
 omega
theorem c3_nat (x0 x1 x2 x3 x4 x5 x6 x7:Nat) (h:c3Z (x0:Int) (x1:Int) (x2:Int) (x3:Int) (x4:Int) (x5:Int) (x6:Int) (x7:Int) % 4=0):(3*(x0*x5)+3*(x1*x6)+3*(x2*x7)+x3*x0+x4*x1+x5*x2+x6*x3+x7*x4) % 4=0:=by
 have e:(((3*(x0*x5)+3*(x1*x6)+3*(x2*x7)+x3*x0+x4*x1+x5*x2+x6*x3+x7*x4:Nat)):Int)=c3Z (x0:Int) (x1:Int) (x2:Int) (x3:Int) (x4:Int) (x5:Int) (x6:Int) (x7:Int)+4*((x0:Int)*(x5:Int)+(x1:Int)*(x6:Int)+(x2:Int)*(x7:Int)):=by
  unfold c3Z
  push_cast
  grind
 omega
theorem even_of {w0 w1 w2 w3 w4 w5 w6 w7:Int} (h0:c0Z w0 w1 w2 w3 w4 w5 w6 w7 % 4=0) (h1:c1Z w0 w1 w2 w3 w4 w5 w6 w7 % 4=0) (h2:c2Z w0 w1 w2 w3 w4 w5 w6 w7 % 4=0) (h3:c3Z w0 w1 w2 w3 w4 w5 w6 w7 % 4=0):w0 % 2=0∧w1 % 2=0∧w2 % 2=0∧w3 % 2=0∧w4 % 2=0∧w5 % 2=0∧w6 % 2=0∧w7 % 2=0:=by
 have sp : ∀ w:Int,∃ (x:Nat) (k:Int),w=(x:Int)+4*k∧x < 4:=fun w=>⟨(w % 4).toNat,w / 4,by omega,by omega⟩
 obtain ⟨x0,k0,rfl,l0⟩:=sp w0
 obtain ⟨x1,k1,rfl,l1⟩:=sp w1
 obtain ⟨x2,k2,rfl,l2⟩:=sp w2
 obtain ⟨x3,k3,rfl,l3⟩:=sp w3
 obtain ⟨x4,k4,rfl,l4⟩:=sp w4
 obtain ⟨x5,k5,rfl,l5⟩:=sp w5
 obtain ⟨x6,k6,rfl,l6⟩:=sp w6
 obtain ⟨x7,k7,rfl,l7⟩:=sp w7
 obtain ⟨m0,e0⟩:=c0_mod (x0:Int) (x1:Int) (x2:Int) (x3:Int) (x4:Int) (x5:Int) (x6:Int) (x7:Int) k0 k1 k2 k3 k4 k5 k6 k7
 obtain ⟨m1,e1⟩:=c1_mod (x0:Int) (x1:Int) (x2:Int) (x3:Int) (x4:Int) (x5:Int) (x6:Int) (x7:Int) k0 k1 k2 k3 k4 k5 k6 k7
 obtain ⟨m2,e2⟩:=c2_mod (x0:Int) (x1:Int) (x2:Int) (x3:Int) (x4:Int) (x5:Int) (x6:Int) (x7:Int) k0 k1 k2 k3 k4 k5 k6 k7
 obtain ⟨m3,e3⟩:=c3_mod (x0:Int) (x1:Int) (x2:Int) (x3:Int) (x4:Int) (x5:Int) (x6:Int) (x7:Int) k0 k1 k2 k3 k4 k5 k6 k7
 have n0:=c0_nat x0 x1 x2 x3 x4 x5 x6 x7 (by omega)
 have n1:=c1_nat x0 x1 x2 x3 x4 x5 x6 x7 (by omega)
 have n2:=c2_nat x0 x1 x2 x3 x4 x5 x6 x7 (by omega)
 have n3:=c3_nat x0 x1 x2 x3 x4 x5 x6 x7 (by omega)
 have hc:=chk_all
 have hc:=all4_at (all4_at (all4_at (all4_at (all4_at (all4_at (all4_at (all4_at hc l0) l1) l2) l3) l4) l5) l6) l7
 unfold chk4 at hc
 rw [n0,n1,n2,n3] at hc
 simp only [Nat.beq_eq_true_eq,Nat.beq_refl,Bool.and_self,Bool.not_true,Bool.false_or,Bool.and_eq_true] at hc
 have hb : ∀ a:Nat,Nat.beq a 0=true→a=0:=fun a h=>Nat.eq_of_beq_eq_true h
 obtain ⟨⟨⟨⟨⟨⟨⟨a0,a1⟩,a2⟩,a3⟩,a4⟩,a5⟩,a6⟩,a7⟩:=hc
 have fin : ∀ (x:Nat) (k:Int),Nat.beq (x % 2) 0=true→((x:Int)+4*k) % 2=0:=fun x k h=>by have:=hb _ h;omega
 exact ⟨fin _ _ a0,fin _ _ a1,fin _ _ a2,fin _ _ a3,fin _ _ a4,fin _ _ a5,fin _ _ a6,fin _ _ a7⟩
theorem kcan_of : ∀ (t:Nat) (w:Nat→Int),∃ w' t',kv w' t'=kv w t∧KCan w' t'
 | 0,w=>⟨w,0,rfl,.inl rfl⟩
 | t+1,w=>by
  by_cases h : ∃ i,i < 8∧w i % 2=1
  ·exact ⟨w,t+1,rfl,.inr h⟩
  ·obtain ⟨w',t',h1,h2⟩:=kcan_of t (fun i=>w i / 2)
   refine ⟨w',t',?_,h2⟩
   rw [h1,← kv_up (fun i=>w i / 2) t 1]
   refine kv_congr fun i hi => ?_
   have : ¬ w i % 2=1:=fun e=>h ⟨i,hi,e⟩
   show w i / 2*2 ^ 1=w i
   omega
theorem hp_pow (t:Nat):((2 ^ t:Int):Rat)*hp t=1:=by
 have:=hp_up 1 0 t
 rw [Int.one_mul,Nat.zero_add] at this
 rw [this]
 simp [hp]
theorem int_of_hp {c d:Int} {t:Nat} (h:(c:Rat)*(hp t*hp t)=(d:Rat)):c=d*(2 ^ t*2 ^ t):=by
 have h1:=hp_pow t
 have:((c:Int):Rat)=((d*(2 ^ t*2 ^ t):Int):Rat):=by
  rw [Rat.intCast_mul,Rat.intCast_mul]
  generalize ((2 ^ t:Int):Rat)=p at h1 ⊢
  generalize (c:Rat)=c' at h ⊢
  generalize (d:Rat)=d' at h ⊢
  generalize hp t=q at h h1
  grind
 exact_mod_cast this
theorem nrm_kv {w:Nat→Int} {t:Nat} (h:nrm (kv w t)=K.one) :
  c0Z (w 0) (w 1) (w 2) (w 3) (w 4) (w 5) (w 6) (w 7)=2 ^ t*2 ^ t∧c1Z (w 0) (w 1) (w 2) (w 3) (w 4) (w 5) (w 6) (w 7)=0 ∧
  c2Z (w 0) (w 1) (w 2) (w 3) (w 4) (w 5) (w 6) (w 7)=0∧c3Z (w 0) (w 1) (w 2) (w 3) (w 4) (w 5) (w 6) (w 7)=0:=by
 have h0:=congrArg K.c0 h
 have h1:=congrArg K.c1 h
 have h2:=congrArg K.c2 h
 have h3:=congrArg K.c3 h
 simp only [nrm,K.mul,K.conj,kv,K.one] at h0 h1 h2 h3
 have r0:((c0Z (w 0) (w 1) (w 2) (w 3) (w 4) (w 5) (w 6) (w 7):Int):Rat)*(hp t*hp t)=((1:Int):Rat):=by
  unfold c0Z;push_cast;grind
 have r1:((c1Z (w 0) (w 1) (w 2) (w 3) (w 4) (w 5) (w 6) (w 7):Int):Rat)*(hp t*hp t)=((0:Int):Rat):=by
  unfold c1Z;push_cast;grind
 have r2:((c2Z (w 0) (w 1) (w 2) (w 3) (w 4) (w 5) (w 6) (w 7):Int):Rat)*(hp t*hp t)=((0:Int):Rat):=by
  unfold c2Z;push_cast;grind
 have r3:((c3Z (w 0) (w 1) (w 2) (w 3) (w 4) (w 5) (w 6) (w 7):Int):Rat)*(hp t*hp t)=((0:Int):Rat):=by
  unfold c3Z;push_cast;grind
 have i0:=int_of_hp r0
 have i1:=int_of_hp r1
 have i2:=int_of_hp r2
 have i3:=int_of_hp r3
 rw [Int.one_mul] at i0
 rw [Int.zero_mul] at i1 i2 i3
 exact ⟨i0,i1,i2,i3⟩
theorem sq_one {a:Int} (h:a*a≤1):a=0∨a=1∨a = -1:=by
 have h1:a < 2:=by
  apply Int.lt_of_not_ge
  intro h2
  have:=Int.mul_le_mul h2 h2 (by decide) (by omega)
  omega
 have h2 : -2 < a:=by
  apply Int.lt_of_not_ge
  intro h2
  have:=Int.mul_le_mul (a:=2) (b:=2) (c:=-a) (d:=-a) (by omega) (by omega) (by decide) (by omega)
  rw [Int.neg_mul_neg] at this
  omega
 omega
theorem sq_pos (a:Int):0≤a*a:=by
 rcases Int.le_total 0 a with h | h
 ·exact Int.mul_nonneg h h
 ·have:=Int.mul_nonneg (show 0 ≤ -a by omega) (show 0 ≤ -a by omega)
  rwa [Int.neg_mul_neg] at this
theorem sq_zero {a:Int} (h:a*a=0):a=0:=by
 rcases sq_one (a:=a) (by omega) with h1 | h1 | h1
 ·exact h1
 ·rw [h1] at h;cases h
 ·rw [h1] at h;cases h
theorem sq_unit {a:Int} (h:a*a=1):a=1∨a = -1:=by
 rcases sq_one (a:=a) (by omega) with h1 | h1 | h1
 ·rw [h1] at h;cases h
 ·exact .inl h1
 ·exact .inr h1
def k8 (a0 a1 a2 a3 a4 a5 a6 a7:Int):K:=⟨(a0:Rat),(a1:Rat),(a2:Rat),(a3:Rat),(a4:Rat),(a5:Rat),(a6:Rat),(a7:Rat)⟩
theorem unit0 {a:Int} (h:a*a=1) : ∃ k,k < 16∧k8 a 0 0 0 0 0 0 0=K.turn K.one k:=by
 rcases sq_unit h with rfl | rfl
 ·exact ⟨0,by decide,by apply K.eq_of <;> decide +kernel⟩
 ·exact ⟨8,by decide,by apply K.eq_of <;> decide +kernel⟩
theorem unit1 {a:Int} (h:a*a=1) : ∃ k,k < 16∧k8 0 a 0 0 0 0 0 0=K.turn K.one k:=by
 rcases sq_unit h with rfl | rfl
 ·exact ⟨1,by decide,by apply K.eq_of <;> decide +kernel⟩
 ·exact ⟨9,by decide,by apply K.eq_of <;> decide +kernel⟩
theorem unit2 {a:Int} (h:a*a=1) : ∃ k,k < 16∧k8 0 0 a 0 0 0 0 0=K.turn K.one k:=by
 rcases sq_unit h with rfl | rfl
 ·exact ⟨2,by decide,by apply K.eq_of <;> decide +kernel⟩
 ·exact ⟨10,by decide,by apply K.eq_of <;> decide +kernel⟩
theorem unit3 {a:Int} (h:a*a=1) : ∃ k,k < 16∧k8 0 0 0 a 0 0 0 0=K.turn K.one k:=by
 rcases sq_unit h with rfl | rfl
 ·exact ⟨3,by decide,by apply K.eq_of <;> decide +kernel⟩
 ·exact ⟨11,by decide,by apply K.eq_of <;> decide +kernel⟩
theorem unit4 {a:Int} (h:a*a=1) : ∃ k,k < 16∧k8 0 0 0 0 a 0 0 0=K.turn K.one k:=by
 rcases sq_unit h with rfl | rfl
 ·exact ⟨4,by decide,by apply K.eq_of <;> decide +kernel⟩
 ·exact ⟨12,by decide,by apply K.eq_of <;> decide +kernel⟩
theorem unit5 {a:Int} (h:a*a=1) : ∃ k,k < 16∧k8 0 0 0 0 0 a 0 0=K.turn K.one k:=by
 rcases sq_unit h with rfl | rfl
 ·exact ⟨5,by decide,by apply K.eq_of <;> decide +kernel⟩
 ·exact ⟨13,by decide,by apply K.eq_of <;> decide +kernel⟩
theorem unit6 {a:Int} (h:a*a=1) : ∃ k,k < 16∧k8 0 0 0 0 0 0 a 0=K.turn K.one k:=by
 rcases sq_unit h with rfl | rfl
 ·exact ⟨6,by decide,by apply K.eq_of <;> decide +kernel⟩
 ·exact ⟨14,by decide,by apply K.eq_of <;> decide +kernel⟩
theorem unit7 {a:Int} (h:a*a=1) : ∃ k,k < 16∧k8 0 0 0 0 0 0 0 a=K.turn K.one k:=by
 rcases sq_unit h with rfl | rfl
 ·exact ⟨7,by decide,by apply K.eq_of <;> decide +kernel⟩
 ·exact ⟨15,by decide,by apply K.eq_of <;> decide +kernel⟩
theorem root_fin {a0 a1 a2 a3 a4 a5 a6 a7:Int} (h:c0Z a0 a1 a2 a3 a4 a5 a6 a7=1) : ∃ k,k < 16∧k8 a0 a1 a2 a3 a4 a5 a6 a7=K.turn K.one k:=by
 unfold c0Z at h
 have b0:=sq_pos a0;have b1:=sq_pos a1;have b2:=sq_pos a2;have b3:=sq_pos a3;have b4:=sq_pos a4;have b5:=sq_pos a5;have b6:=sq_pos a6;have b7:=sq_pos a7
 by_cases g0:a0*a0=1
 ·rw [sq_zero (a:=a1) (by omega),sq_zero (a:=a2) (by omega),sq_zero (a:=a3) (by omega),sq_zero (a:=a4) (by omega),sq_zero (a:=a5) (by omega),sq_zero (a:=a6) (by omega),sq_zero (a:=a7) (by omega)]
  exact unit0 g0
 by_cases g1:a1*a1=1
 ·rw [sq_zero (a:=a0) (by omega),sq_zero (a:=a2) (by omega),sq_zero (a:=a3) (by omega),sq_zero (a:=a4) (by omega),sq_zero (a:=a5) (by omega),sq_zero (a:=a6) (by omega),sq_zero (a:=a7) (by omega)]
  exact unit1 g1
 by_cases g2:a2*a2=1
 ·rw [sq_zero (a:=a0) (by omega),sq_zero (a:=a1) (by omega),sq_zero (a:=a3) (by omega),sq_zero (a:=a4) (by omega),sq_zero (a:=a5) (by omega),sq_zero (a:=a6) (by omega),sq_zero (a:=a7) (by omega)]
  exact unit2 g2
 by_cases g3:a3*a3=1
 ·rw [sq_zero (a:=a0) (by omega),sq_zero (a:=a1) (by omega),sq_zero (a:=a2) (by omega),sq_zero (a:=a4) (by omega),sq_zero (a:=a5) (by omega),sq_zero (a:=a6) (by omega),sq_zero (a:=a7) (by omega)]
  exact unit3 g3
 by_cases g4:a4*a4=1
 ·rw [sq_zero (a:=a0) (by omega),sq_zero (a:=a1) (by omega),sq_zero (a:=a2) (by omega),sq_zero (a:=a3) (by omega),sq_zero (a:=a5) (by omega),sq_zero (a:=a6) (by omega),sq_zero (a:=a7) (by omega)]
  exact unit4 g4
 by_cases g5:a5*a5=1
 ·rw [sq_zero (a:=a0) (by omega),sq_zero (a:=a1) (by omega),sq_zero (a:=a2) (by omega),sq_zero (a:=a3) (by omega),sq_zero (a:=a4) (by omega),sq_zero (a:=a6) (by omega),sq_zero (a:=a7) (by omega)]
  exact unit5 g5
 by_cases g6:a6*a6=1
 ·rw [sq_zero (a:=a0) (by omega),sq_zero (a:=a1) (by omega),sq_zero (a:=a2) (by omega),sq_zero (a:=a3) (by omega),sq_zero (a:=a4) (by omega),sq_zero (a:=a5) (by omega),sq_zero (a:=a7) (by omega)]
  exact unit6 g6
 by_cases g7:a7*a7=1
 ·rw [sq_zero (a:=a0) (by omega),sq_zero (a:=a1) (by omega),sq_zero (a:=a2) (by omega),sq_zero (a:=a3) (by omega),sq_zero (a:=a4) (by omega),sq_zero (a:=a5) (by omega),sq_zero (a:=a6) (by omega)]
  exact unit7 g7
 omega
theorem root_of {w:Nat→Int} {t:Nat} (h:nrm (kv w t)=K.one) : ∃ k,k < 16∧kv w t=K.turn K.one k:=by
 obtain ⟨w',t',e,hc⟩:=kcan_of t w
 rw [← e] at h ⊢
 obtain ⟨h0,h1,h2,h3⟩:=nrm_kv h
 have ht:t'=0:=by
  rcases hc with hc | ⟨i,hi,hodd⟩
  ·exact hc
  ·apply Classical.byContradiction
   intro hne
   obtain ⟨s,rfl⟩ : ∃ s,t'=s+1:=⟨t' - 1,by omega⟩
   have h4:(2 ^ (s+1)*2 ^ (s+1):Int)=4*(2 ^ s*2 ^ s):=by rw [Int.pow_succ];grind
   have ev:=even_of (by rw [h0,h4];omega) (by rw [h1];rfl) (by rw [h2];rfl) (by rw [h3];rfl)
   have:i=0∨i=1∨i=2∨i=3∨i=4∨i=5∨i=6∨i=7:=by omega
   obtain ⟨e0,e1,e2,e3,e4,e5,e6,e7⟩:=ev
   clear h0 h1 h2 h3 h4 h e
   rcases this with rfl | rfl | rfl | rfl | rfl | rfl | rfl | rfl <;> omega
 subst ht
 have e8:kv w' 0=k8 (w' 0) (w' 1) (w' 2) (w' 3) (w' 4) (w' 5) (w' 6) (w' 7):=by
  simp [kv,k8,hp]
 rw [e8]
 exact root_fin (by rw [h0];rfl)
end Go.Ql
end

section
set_option linter.unusedSectionVars false
set_option linter.unusedVariables false
set_option maxHeartbeats 1000000
namespace Go.Ql
theorem ok1_one {n q:Nat} (h:q < n) (k a:Int) (ha:0≤a):Ok1 (k,a,[],(q:Int),0,[]) n:=
 ⟨by show (0:Int)≤(q:Int)∧(q:Int) < n;omega,ha,fun _ h=>(by cases h),by show 0 < 2 ^ 62;decide,by simp⟩
abbrev AList:=List NumT
theorem texts_walk {n:Nat} (hn:n≤12) {l:AList} {v:KV} {t:Nat} (hv:Amps l (2 ^ n) v t) (ht:t≤9000) :
  ∃ T,W.Jn l=some T∧T.length=2 ^ n ∧ ∀ x,x < 2 ^ n→KTxt (v x) (T.getD x []):=by
 have h12:2 ^ n≤4096:=p12 hn
 have hlen:=hv.len
 unfold W.Jn
 obtain ⟨x,h1,T,rfl,h2,h3⟩:=iter_upto (f:=fun s:Int×List Tx↦W.Jn.c100003 l (Prod.fst s) (Prod.snd s) some) (2 ^ n)
  (fun k s => ∃ T,s=((k:Int),T)∧T.length=k ∧ ∀ x,x < k→KTxt (v x) (T.getD x [])) (fun x => ∃ T,x=(((2 ^ n:Nat):Int),T)∧T.length=2 ^ n ∧ ∀ x,x < 2 ^ n→KTxt (v x) (T.getD x []))
  (by
   rintro k s hk ⟨T,rfl,e1,e2⟩
   left
   obtain ⟨u,u1,u2⟩:=rtext_ok (hv.at_ k hk) (by omega) (by omega)
   refine ⟨(((k+1:Nat):Int),T++[u]),?_,T++[u],rfl,by simp [e1],fun x hx => ?_⟩
   ·unfold W.Jn.c100003
    rw [br_pos (by omega),idxN (by omega),bnd_val]
    refine bnd_of u1 ?_
    refine bnd_of (okIf_len (n:=T.length+1) (k:=16) (by omega)) ?_
    rw [wrap_i64 (by omega)]
    rfl
   ·by_cases hxk:x < k
    ·rw [List.getD,List.getElem?_append_left (by omega)]
     exact e2 x hxk
    ·have:x=k:=by omega
     subst this
     rw [List.getD,List.getElem?_append_right (by omega),e1,Nat.sub_self]
     exact u2)
  (by
   rintro s ⟨T,rfl,e1,e2⟩
   refine ⟨(((2 ^ n:Nat):Int),T),?_,T,rfl,e1,e2⟩
   unfold W.Jn.c100003
   rw [br_neg (by rw [hlen];omega)])
  (s:=((0:Int),[])) ⟨[],rfl,rfl,fun x hx=>absurd hx (Nat.not_lt_zero _)⟩
 exact ⟨T,bnd_of h1 rfl,h2,h3⟩
theorem texts_one {n:Nat} {v:KV} {T U:List Tx} (h1:T.length=2 ^ n) (h2 : ∀ x,x < 2 ^ n→KTxt (v x) (T.getD x [])) (k1:U.length=2 ^ n) (k2 : ∀ x,x < 2 ^ n→KTxt (v x) (U.getD x [])):T=U:=by
 apply List.ext_getElem (by omega)
 intro x a b
 have e1:=h2 x (by omega)
 have e2:=k2 x (by omega)
 rw [getD_of a] at e1
 rw [getD_of b] at e2
 exact e1.one e2
end Go.Ql
end

section
set_option linter.unusedSectionVars false
set_option linter.unusedVariables false
set_option maxHeartbeats 1000000
namespace Go.Ql
theorem sto_of {n:Nat} {b:Int} {o:GOp} (hb:opBad o (n:Int) b=0) (hp : ¬ (o.1=5∨o.1=6∨o.2.2.2.2.2≠[])) (hn:nrmO o=true):StO n o:=by
 unfold opBad at hb
 by_cases h1:o.1 < 1∨6 < o.1
 ·rw [if_pos h1] at hb;exact absurd hb (by decide)
 rw [if_neg h1] at hb
 by_cases h2:o.2.1 < 0∨15 < o.2.1∨(¬ (o.1=1∨o.1=4)∧o.2.1≠0)
 ·rw [if_pos h2] at hb;exact absurd hb (by decide)
 rw [if_neg h2] at hb
 by_cases h3:o.2.2.2.1 < 0∨(n:Int)≤o.2.2.2.1∨(o.1=1∧o.2.2.2.1≠0)
 ·rw [if_pos h3] at hb;exact absurd hb (by decide)
 rw [if_neg h3] at hb
 by_cases h4:o.2.2.1≠[] ∧ ¬ (o.1=2∨o.1=3∨o.1=4)
 ·rw [if_pos h4] at hb;exact absurd hb (by decide)
 rw [if_neg h4] at hb
 by_cases h5:ctlBad o.2.2.2.1 (n:Int) [] o.2.2.1≠0
 ·rw [if_pos h5] at hb;exact absurd hb h5
 have h6:=(ctlBad_zero.1 (Classical.not_not.1 h5)).1
 have hk:o.1=1∨o.1=2∨o.1=3∨o.1=4:=by omega
 refine ⟨by omega,fun c hc=>⟨⟨(h6 c hc).1,(h6 c hc).2.1⟩,(h6 c hc).2.2.1⟩,by omega,?_⟩
 unfold nrmO at hn
 rcases hk with hk | hk | hk | hk
 ·refine .inr (.inr (.inr (.inr ⟨hk,?_⟩)))
  exact Classical.byContradiction fun hne=>h4 ⟨hne,by omega⟩
 ·rw [if_pos hk] at hn
  exact .inl ⟨hk,by have:=of_decide_eq_true hn;omega⟩
 ·rw [if_neg (by omega),if_pos hk] at hn
  exact .inr (.inl ⟨hk,List.eq_nil_of_length_eq_zero (of_decide_eq_true hn)⟩)
 ·rw [if_neg (by omega),if_neg (by omega),if_pos hk] at hn
  have hk0:0≤o.2.1:=by omega
  rw [Int.tmod_eq_emod_of_nonneg hk0,Int.tmod_eq_emod_of_nonneg hk0] at hn
  simp only [Bool.or_eq_true,Bool.and_eq_true,decide_eq_true_eq] at hn
  rcases hn with ⟨a,b⟩ | ⟨a,b⟩
  ·exact .inr (.inr (.inl ⟨hk,List.eq_nil_of_length_eq_zero a,b⟩))
  ·exact .inr (.inr (.inr (.inl ⟨hk,a,b⟩)))
theorem ok1_sto {n:Nat} (hn:n≤12) {o:GOp} (h:StO n o):Ok1 o n:=by
 refine ⟨h.q,h.k.1,fun c hc=>by have:=h.ctl c hc;omega,?_,fun hm=>(h.ctl _ hm).2 rfl⟩
 have:o.2.2.1.length≤1:=by
  rcases h.form with h | h | h | h | h
  ·exact h.2
  ·rw [h.2];exact Nat.zero_le _
  ·rw [h.2.1];exact Nat.zero_le _
  ·rw [h.2.1];exact Nat.le_refl _
  ·rw [h.2];exact Nat.zero_le _
 exact Nat.lt_of_le_of_lt this (by decide)
def tf (c:Cir):Int×Int:=if (pur c).1≠0 then pur c else strange 0 c.2.2
theorem tf_zero {c:Cir} (h:(tf c).1=0) : ∃ n:Nat,c.1=n∧1≤n∧n≤12∧pur c=(0,0)∧strange 0 c.2.2=(0,0)∧tf c=(0,0)∧(∀ o∈c.2.2,StO n o)∧c.2.2.length≤4096:=by
 unfold tf at h
 by_cases hp:(pur c).1=0
 ·rw [if_neg (by simp [hp])] at h
  obtain ⟨hg,hp2,hp3⟩:=pur_zero hp
  obtain ⟨hs1,hs2⟩:=strange_zero h
  have hq:=hg.q
  refine ⟨c.1.toNat,by omega,by omega,by omega,hp2,hs2,?_,fun o ho => ?_,hg.n⟩
  ·unfold tf
   rw [if_neg (by simp [hp]),hs2]
  ·have:=hg.ops o ho
   rw [show c.1=((c.1.toNat:Nat):Int) by omega] at this
   exact sto_of this (hp3 o ho) (hs1 o ho)
 ·rw [if_pos hp] at h;exact absurd h hp
theorem runK_snoc (l:List GOp) (o:GOp) (v:KV):runK (l++[o]) v=gateK o (runK l v):=runK_app l [o] v
end Go.Ql
end

section
namespace Go.Ql
end Go.Ql
end

section
set_option linter.unusedSectionVars false
set_option linter.unusedVariables false
set_option maxHeartbeats 1000000
namespace Go.Ql
def agA (n q:Nat) (p:Pau):List GOp:=clr q n p++[opH q]
def agB (n q:Nat) (p r:Pau):List GOp:=agA n q p++agA n q (gPs (agA n q p) r)
def agC (n q:Nat) (p r:Pau):List GOp:=agB n q p r++mend (gPs (agB n q p r) p).m (opZ q)
def agOps (n q:Nat) (p r:Pau):List GOp:=agC n q p r++mend (gPs (agC n q p r) r).m (opX q)
theorem agA_own {n q:Nat} (hq:q < n) (p:Pau) : ∀ o∈agA n q p,Own n o∧QGe q o:=by
 intro o ho
 rcases List.mem_append.1 ho with ho | ho
 ·exact ⟨clr_own hq p o ho,(clr_all hq p o ho).1⟩
 ·rw [List.mem_singleton.1 ho];exact ⟨Own_H hq,(QGe_one (Nat.le_refl q)).1⟩
theorem agB_own {n q:Nat} (hq:q < n) (p r:Pau) : ∀ o∈agB n q p r,Own n o∧QGe q o:=by
 intro o ho
 rcases List.mem_append.1 ho with ho | ho
 ·exact agA_own hq p o ho
 ·exact agA_own hq _ o ho
theorem agC_own {n q:Nat} (hq:q < n) (p r:Pau) : ∀ o∈agC n q p r,Own n o∧QGe q o:=by
 intro o ho
 rcases List.mem_append.1 ho with ho | ho
 ·exact agB_own hq p r o ho
 ·exact mend_all (Q:=fun o=>Own n o∧QGe q o) ⟨Own_Z hq,(QGe_one (Nat.le_refl q)).2.2.2⟩ o ho
theorem agOps_own {n q:Nat} (hq:q < n) (p r:Pau) : ∀ o∈agOps n q p r,Own n o∧QGe q o:=by
 intro o ho
 rcases List.mem_append.1 ho with ho | ho
 ·exact agC_own hq p r o ho
 ·exact mend_all (Q:=fun o=>Own n o∧QGe q o) ⟨Own_X hq,(QGe_one (Nat.le_refl q)).2.2.1⟩ o ho
theorem agA_len (n q:Nat) (p:Pau):(agA n q p).length≤3*n+1:=by
 unfold agA
 rw [List.length_append]
 have h1:=clr_len q n p
 have h4:[opH q].length=1:=rfl
 omega
theorem agOps_len (n q:Nat) (p r:Pau):(agOps n q p r).length≤6*n+4:=by
 unfold agOps agC agB
 simp only [List.length_append]
 have h1:=agA_len n q p
 have h2:=agA_len n q (gPs (agA n q p) r)
 have h3:=mend_len (gPs (agA n q p++agA n q (gPs (agA n q p) r)) p).m (opZ q)
 have h4:=mend_len (gPs (agA n q p++agA n q (gPs (agA n q p) r)++mend (gPs (agA n q p++agA n q (gPs (agA n q p) r)) p).m (opZ q)) r).m (opX q)
 omega
theorem agA_spec {n q:Nat} {p:Pau} (hq:q < n) (far : ∀ j,n≤j→Bare p j) (low : ∀ j,j < q→Bare p j) (hz : ∃ t,q≤t∧t < n∧(p.x.testBit t=true∨p.z.testBit t=true)) :
  ∃ m,gPs (clr q n p) p=⟨2 ^ q,0,m⟩∧gPs (agA n q p) p=⟨0,2 ^ q,m⟩:=by
 obtain ⟨c1,c2,c3⟩:=clr_spec hq hz
 have c4:=fun j (hj:j < q)=>gPs_low hj (fun o ho=>(clr_all hq p o ho).1) p
 have c5:=fun j (hj:n≤j)=>gPs_high hj (fun o ho=>(clr_all hq p o ho).2) p
 have e:gPs (clr q n p) p=⟨2 ^ q,0,(gPs (clr q n p) p).m⟩:=by
  refine is_X (fun j => ?_) (fun j => ?_)
  ·by_cases h1:j < q
   ·rw [(c4 j h1).2];exact (low j h1).2
   ·by_cases h2:j < n
    ·exact c3 j (by omega) h2
    ·rw [(c5 j (by omega)).2];exact (far j (by omega)).2
  ·by_cases e:q=j
   ·rw [decide_eq_true e,← e];exact c1
   ·rw [decide_eq_false e]
    by_cases h1:j < q
    ·rw [(c4 j h1).1];exact (low j h1).1
    ·by_cases h2:j < n
     ·exact c2 j (by omega) h2
     ·rw [(c5 j (by omega)).1];exact (far j (by omega)).1
 refine ⟨_,e,?_⟩
 unfold agA
 rw [gPs_app,e,gPs_cons,gPs_nil,gP_H]
 generalize (gPs (clr q n p) p).m=m
 refine Pau.ext' (fun j => ?_) (fun j => ?_) ?_
 ·rw [gH_x]
  show (if q=j then Nat.testBit 0 j else (2 ^ q).testBit j)=Nat.testBit 0 j
  rw [two_bit,Nat.zero_testBit]
  by_cases h:q=j
  ·rw [if_pos h]
  ·rw [if_neg h,decide_eq_false h]
 ·rw [gH_z]
  show (if q=j then (2 ^ q).testBit j else Nat.testBit 0 j)=(2 ^ q).testBit j
  rw [two_bit,Nat.zero_testBit]
  by_cases h:q=j
  ·rw [if_pos h]
  ·rw [if_neg h,decide_eq_false h]
 ·show (m != ((2 ^ q).testBit q && Nat.testBit 0 q))=m
  rw [Nat.zero_testBit,Bool.and_false,Bool.bne_false]
theorem clr_fix {n q:Nat} {r:Pau} (hq:q < n) (hr:r.x.testBit q=true) (m:Bool):gPs (clr q n r) ⟨0,2 ^ q,m⟩=⟨0,2 ^ q,m⟩:=by
 have px : ∀ j,(⟨0,2 ^ q,m⟩:Pau).x.testBit j=false:=fun j=>Nat.zero_testBit j
 have pz : ∀ j,q≠j→(⟨0,2 ^ q,m⟩:Pau).z.testBit j=false:=fun j hj=>by show (2 ^ q).testBit j=false;rw [two_bit,decide_eq_false hj]
 unfold clr
 rw [gPs_app _ _ ⟨0,2 ^ q,m⟩]
 have h1:=scan_inv (st:=st1) (N:=n) (I:=fun j r p=>r.x.testBit q=true∧p=⟨0,2 ^ q,m⟩)
  (fun j r p hj hI=>by
   obtain ⟨a1,rfl⟩:=hI
   unfold st1
   split
   ·split
    ·rw [gPs_cons,gPs_nil,gPs_cons,gPs_nil,gP_S,gP_S]
     exact ⟨a1,gS_none (px j)⟩
    ·rename_i hx
     have hjq:j≠q:=fun e=>hx (e ▸ a1)
     rw [gPs_cons,gPs_nil,gPs_cons,gPs_nil,gP_H,gP_H]
     refine ⟨?_,gH_none ⟨px j,pz j (Ne.symm hjq)⟩⟩
     rw [gH_x,if_neg hjq];exact a1
   ·exact ⟨a1,rfl⟩) (n - q) q r ⟨0,2 ^ q,m⟩ (by omega) ⟨hr,rfl⟩
 obtain ⟨b1,b2⟩:=h1
 rw [b2,gPs_app _ _ ⟨0,2 ^ q,m⟩,scan2_nil b1,gPs_nil,gPs_nil]
 exact scan_inv (st:=st3 q) (N:=n) (I:=fun j r p=>q < j∧p=⟨0,2 ^ q,m⟩)
  (fun j r p hj hI=>by
   obtain ⟨a1,rfl⟩:=hI
   unfold st3
   split
   ·rw [gPs_cons _ _ ⟨0,2 ^ q,m⟩,gPs_nil,gP_C]
    exact ⟨by omega,gC_none (px q) (pz j (by omega))⟩
   ·exact ⟨by omega,rfl⟩) (n - (q+1)) (q+1) _ ⟨0,2 ^ q,m⟩ (by omega) ⟨by omega,rfl⟩ |>.2
theorem gH_Z (q:Nat) (m:Bool):gH q ⟨0,2 ^ q,m⟩=⟨2 ^ q,0,m⟩:=by
 refine Pau.ext' (fun j => ?_) (fun j => ?_) ?_
 ·rw [gH_x]
  show (if q=j then (2 ^ q).testBit j else Nat.testBit 0 j)=(2 ^ q).testBit j
  rw [two_bit,Nat.zero_testBit]
  by_cases h:q=j
  ·rw [if_pos h]
  ·rw [if_neg h,decide_eq_false h]
 ·rw [gH_z]
  show (if q=j then Nat.testBit 0 j else (2 ^ q).testBit j)=Nat.testBit 0 j
  rw [two_bit,Nat.zero_testBit]
  by_cases h:q=j
  ·rw [if_pos h]
  ·rw [if_neg h,decide_eq_false h]
 ·show (m != (Nat.testBit 0 q && (2 ^ q).testBit q))=m
  rw [Nat.zero_testBit,Bool.false_and,Bool.bne_false]
theorem ss_X (q:Nat):gS q (gS q ⟨2 ^ q,0,true⟩)=⟨2 ^ q,0,false⟩:=by
 refine Pau.ext' (fun j=>rfl) (fun j => ?_) ?_
 ·rw [gS_z,gS_z]
  show (if q=j then (if q=j then (Nat.testBit 0 j != (2 ^ q).testBit j) else Nat.testBit 0 j) != (2 ^ q).testBit j else (if q=j then (Nat.testBit 0 j != (2 ^ q).testBit j) else Nat.testBit 0 j))=Nat.testBit 0 j
  rw [Nat.zero_testBit,two_bit]
  by_cases h:q=j
  ·rw [if_pos h,if_pos h,decide_eq_true h];rfl
  ·rw [if_neg h,if_neg h]
 ·show ((true != ((2 ^ q).testBit q && Nat.testBit 0 q)) != ((2 ^ q).testBit q && (gS q ⟨2 ^ q,0,true⟩).z.testBit q))=false
  rw [gS_z,if_pos rfl]
  show ((true != ((2 ^ q).testBit q && Nat.testBit 0 q)) != ((2 ^ q).testBit q && (Nat.testBit 0 q != (2 ^ q).testBit q)))=false
  rw [Nat.zero_testBit,two_bit,decide_eq_true rfl];rfl
theorem ag_spec {n q:Nat} {p r:Pau} (hq:q < n) (fp : ∀ j,n≤j→Bare p j) (fr : ∀ j,n≤j→Bare r j) (lp : ∀ j,j < q→Bare p j) (lr : ∀ j,j < q→Bare r j) (hpr:sym n p r=true) :
  gPs (agOps n q p r) p=pX q∧gPs (agOps n q p r) r=pZ q:=by
 have hz : ∃ t,q≤t∧t < n∧(p.x.testBit t=true∨p.z.testBit t=true):=by
  apply Classical.byContradiction
  intro hne
  have hall:sym n p r=false:=by
   apply parB_false
   intro t ht
   by_cases hti:t < q
   ·rw [(lp t hti).1,(lp t hti).2];rfl
   ·have hx:p.x.testBit t=false:=Bool.eq_false_iff.2 fun h=>hne ⟨t,by omega,ht,.inl h⟩
    have hz:p.z.testBit t=false:=Bool.eq_false_iff.2 fun h=>hne ⟨t,by omega,ht,.inr h⟩
    rw [hx,hz];rfl
  rw [hall] at hpr
  cases hpr
 obtain ⟨m,e1,e2⟩:=agA_spec hq fp lp hz
 have oA:=agA_own hq p
 have r1x:(gPs (agA n q p) r).x.testBit q=true:=by
  have h:=sym_gPs (fun o ho=>(oA o ho).1.sto) p r
  rw [hpr,e2] at h
  exact (sym_Zl hq m _).symm.trans h
 have r1l : ∀ j,j < q→Bare (gPs (agA n q p) r) j:=fun j hj=>by
  obtain ⟨h1,h2⟩:=gPs_low hj (fun o ho=>(oA o ho).2) r
  exact ⟨h1.trans (lr j hj).1,h2.trans (lr j hj).2⟩
 have r1f : ∀ j,n≤j→Bare (gPs (agA n q p) r) j:=fun j hj=>by
  obtain ⟨h1,h2⟩:=gPs_high hj (fun o ho=>(oA o ho).1.sto) r
  exact ⟨h1.trans (fr j hj).1,h2.trans (fr j hj).2⟩
 obtain ⟨m',f1,f2⟩:=agA_spec hq r1f r1l ⟨q,Nat.le_refl _,hq,.inl r1x⟩
 have pB:gPs (agB n q p r) p=⟨2 ^ q,0,m⟩:=by
  unfold agB
  rw [gPs_app,e2]
  generalize gPs (agA n q p) r=r1 at r1x ⊢
  unfold agA
  rw [gPs_app,clr_fix hq r1x,gPs_cons,gPs_nil,gP_H,gH_Z]
 have rB:gPs (agB n q p r) r=⟨0,2 ^ q,m'⟩:=by
  unfold agB
  rw [gPs_app,f2]
 have pC:gPs (agC n q p r) p=pX q:=by
  unfold agC
  rw [gPs_app,pB]
  show gPs (mend m (opZ q)) ⟨2 ^ q,0,m⟩=pX q
  cases m with
  | false=>rfl
  | true=>
   show gP (opZ q) ⟨2 ^ q,0,true⟩=pX q
   rw [gP_Z,ss_X];rfl
 have rC:gPs (agC n q p r) r=⟨0,2 ^ q,m'⟩:=by
  unfold agC
  rw [gPs_app,rB,pB]
  show gPs (mend m (opZ q)) _=_
  cases m with
  | false=>rfl
  | true=>
   show gP (opZ q) ⟨0,2 ^ q,m'⟩=_
   have hn:gS q ⟨0,2 ^ q,m'⟩=⟨0,2 ^ q,m'⟩:=gS_none (Nat.zero_testBit q)
   rw [gP_Z,hn,hn]
 unfold agOps
 rw [gPs_app,gPs_app,pC,rC]
 show gPs (mend m' (opX q)) (pX q)=pX q∧gPs (mend m' (opX q)) ⟨0,2 ^ q,m'⟩=pZ q
 cases m' with
 | false=>exact ⟨rfl,rfl⟩
 | true=>
  refine ⟨?_,?_⟩
  ·show gP (opX q) (pX q)=pX q
   rw [gP_X,gX_none (Nat.zero_testBit q)]
  ·show gP (opX q) ⟨0,2 ^ q,true⟩=pZ q
   rw [gP_X]
   unfold gX pZ
   show (⟨0,2 ^ q,true != (2 ^ q).testBit q⟩:Pau)=_
   rw [two_bit,decide_eq_true rfl];rfl
def again (n:Nat):Nat→Nat→(Nat→Pau)→(Nat→Pau)→List GOp
 | _,0,_,_=>[]
 | q,k+1,f,g=>agOps n q (f q) (g q)++again n (q+1) k (fun j=>gPs (agOps n q (f q) (g q)) (f j)) (fun j=>gPs (agOps n q (f q) (g q)) (g j))
theorem again_own {n:Nat} : ∀ (k q:Nat) (f g:Nat→Pau),q+k=n → ∀ o∈again n q k f g,Own n o
 | 0,_,_,_,_,o,ho=>by cases ho
 | k+1,q,f,g,h,o,ho=>by
  rcases List.mem_append.1 ho with ho | ho
  ·exact (agOps_own (by omega) _ _ o ho).1
  ·exact again_own k (q+1) _ _ (by omega) o ho
theorem again_len {n:Nat} : ∀ (k q:Nat) (f g:Nat→Pau),(again n q k f g).length≤k*(6*n+4)
 | 0,_,_,_=>Nat.zero_le _
 | k+1,q,f,g=>by
  rw [again,List.length_append]
  have h1:=agOps_len n q (f q) (g q)
  have h2:=again_len (n:=n) k (q+1) (fun j=>gPs (agOps n q (f q) (g q)) (f j)) (fun j=>gPs (agOps n q (f q) (g q)) (g j))
  have h3:(k+1)*(6*n+4)=k*(6*n+4)+(6*n+4):=Nat.succ_mul _ _
  rw [h3]
  exact Nat.le_trans (Nat.add_le_add h1 h2) (by rw [Nat.add_comm];exact Nat.le_refl _)
theorem again_ok {n:Nat} : ∀ (k q:Nat) (f g:Nat→Pau),q+k=n→(∀ j,j < q→f j=pX j∧g j=pZ j)→(∀ j,j < n → ∀ t,n≤t→Bare (f j) t∧Bare (g j) t) →
  (∀ a b,a < n→b < n→sym n (f a) (f b)=false∧sym n (g a) (g b)=false∧sym n (f a) (g b)=decide (a=b)) →
  ∀ j,j < n→gPs (again n q k f g) (f j)=pX j∧gPs (again n q k f g) (g j)=pZ j
 | 0,q,f,g,hn,h1,_,_,j,hj=>h1 j (by omega)
 | k+1,q,f,g,hn,h1,h2,h3,j,hj=>by
  rw [again,gPs_app,gPs_app]
  have hown:=agOps_own (n:=n) (q:=q) (by omega) (f q) (g q)
  have hsto : ∀ o∈agOps n q (f q) (g q),StO n o:=fun o ho=>(hown o ho).1.sto
  have lp : ∀ t,t < q→Bare (f q) t:=fun t ht=>by
   have s1:=(h3 t q (by omega) (by omega)).1
   have s2:=(h3 q t (by omega) (by omega)).2.2
   rw [(h1 t ht).1] at s1
   rw [(h1 t ht).2,sym_comm,decide_eq_false (by omega)] at s2
   exact ⟨(sym_Zl (by omega) false (f q)).symm.trans s2,(sym_Xl (by omega) false (f q)).symm.trans s1⟩
  have lr : ∀ t,t < q→Bare (g q) t:=fun t ht=>by
   have s1:=(h3 t q (by omega) (by omega)).2.1
   have s2:=(h3 t q (by omega) (by omega)).2.2
   rw [(h1 t ht).2] at s1
   rw [(h1 t ht).1,decide_eq_false (by omega)] at s2
   exact ⟨(sym_Zl (by omega) false (g q)).symm.trans s1,(sym_Xl (by omega) false (g q)).symm.trans s2⟩
  have hs:=ag_spec (n:=n) (q:=q) (by omega) (fun t ht=>(h2 q (by omega) t ht).1) (fun t ht=>(h2 q (by omega) t ht).2) lp lr (by rw [(h3 q q (by omega) (by omega)).2.2];exact decide_eq_true rfl)
  refine again_ok k (q+1) (fun j=>gPs (agOps n q (f q) (g q)) (f j)) (fun j=>gPs (agOps n q (f q) (g q)) (g j)) (by omega) (fun t ht => ?_) (fun t ht s hs => ?_) (fun a b ha hb => ?_) j hj
  ·by_cases e:t < q
   ·have e1:gPs (agOps n q (f q) (g q)) (pX t)=pX t:=gPs_none (q:=q) (fun s hs=>pX_bare (by omega)) (fun o ho=>(hown o ho).2)
    have e2:gPs (agOps n q (f q) (g q)) (pZ t)=pZ t:=gPs_none (q:=q) (fun s hs=>pZ_bare (by omega)) (fun o ho=>(hown o ho).2)
    show gPs _ (f t)=pX t∧gPs _ (g t)=pZ t
    rw [(h1 t e).1,(h1 t e).2]
    exact ⟨e1,e2⟩
   ·have:t=q:=by omega
    subst this
    exact hs
  ·obtain ⟨b1,b2⟩:=gPs_high hs hsto (f t)
   obtain ⟨c1,c2⟩:=gPs_high hs hsto (g t)
   obtain ⟨b3,c3⟩:=h2 t ht s hs
   exact ⟨⟨b1.trans b3.1,b2.trans b3.2⟩,⟨c1.trans c3.1,c2.trans c3.2⟩⟩
  ·show sym n (gPs _ _) (gPs _ _)=false∧sym n (gPs _ _) (gPs _ _)=false∧sym n (gPs _ _) (gPs _ _)=decide (a=b)
   rw [sym_gPs hsto,sym_gPs hsto,sym_gPs hsto]
   exact h3 a b ha hb
end Go.Ql
end

section
set_option linter.unusedSectionVars false
set_option linter.unusedVariables false
set_option maxHeartbeats 1000000
namespace Go.Ql
theorem agA_walk {n:Nat} (hn:n≤12) {q i:Nat} (hq:q < n) (ps:List Pau) (hi:i < ps.length) (hl:ps.length≤100) (hs : ∀ p∈ps,Sm p) (ops:List GOp) (ho:ops.length≤80000) {β:Type}
  {k:List (Int×Int×Bool)×List GOp×Unit→Option β} {r:Option β} (hk:k ((ps.map (gPs (agA n q ps[i]))).map pe,ops++agA n q ps[i],())=r) :
  bnd (W.jc (i:Int) (q:Int) (n:Int) (ps.map pe) ops) (fun y=>bnd (W.jl ((3:Int),(0:Int),[],(q:Int),(0:Int),[]) (Prod.fst y) (Prod.fst y.2)) k)=r:=by
 have hc : ∀ o∈clr q n ps[i],StO n o:=fun o ho=>(clr_all hq ps[i] o ho).2
 have l1:=clr_len q n ps[i]
 have e1:=do_ok hn (StO_H hq) (ps.map (gPs (clr q n ps[i]))) (map_Sm hn hc hs) (by simpa using hl) (ops++clr q n ps[i]) (by simp only [List.length_append];omega)
 rw [← map_gPs_one,map_gPs_app,List.append_assoc] at e1
 exact bnd_of (clear_ok hn hq ps hi hl hs ops (by omega)) (bnd_of e1 hk)
theorem again_one {n:Nat} (hn:n≤12) {q:Nat} (hq:q < n) (ps:List Pau) (hi:2*q+1 < ps.length) (hl:ps.length≤100) (hs : ∀ p∈ps,Sm p) (ops:List GOp) (ho:ops.length≤70000) :
  W.jf.c277846 (n:Int) (q:Int) (ps.map pe) ops some=some ((ps.map (gPs (agOps n q (ps[2*q]'(by omega)) (ps[2*q+1]'hi)))).map pe,ops++agOps n q (ps[2*q]'(by omega)) (ps[2*q+1]'hi)):=by
 have hi0:2*q < ps.length:=by omega
 generalize hp:ps[2*q]'hi0=p
 generalize hr:ps[2*q+1]'hi=r
 have w1:IntKind.wrap IntKind.i64 ((2:Int)*(q:Int))=((2*q:Nat):Int):=by rw [wrap_i64 (by omega)];omega
 have w2:IntKind.wrap IntKind.i64 (((2*q:Nat):Int)+(1:Int))=((2*q+1:Nat):Int):=by rw [wrap_i64 (by omega)];omega
 unfold W.jf.c277846
 simp only [w1,w2]
 have oA:=agA_own hq p
 have sA : ∀ o∈agA n q p,StO n o:=fun o ho=>(oA o ho).1.sto
 have lA:=agA_len n q p
 refine agA_walk hn hq ps hi0 hl hs ops (by omega) ?_
 rw [hp]
 have hi1:2*q+1 < (ps.map (gPs (agA n q p))).length:=by simpa using hi
 refine agA_walk hn hq (ps.map (gPs (agA n q p))) hi1 (by simpa using hl) (map_Sm hn sA hs) (ops++agA n q p) (by simp only [List.length_append];omega) ?_
 rw [List.getElem_map,hr,map_gPs_app,List.append_assoc]
 have hB:agA n q p++agA n q (gPs (agA n q p) r)=agB n q p r:=rfl
 rw [hB]
 have sB : ∀ o∈agB n q p r,StO n o:=fun o ho=>(agB_own hq p r o ho).1.sto
 have lB:(agB n q p r).length≤6*n+2:=by
  have:=agA_len n q (gPs (agA n q p) r)
  rw [← hB,List.length_append];omega
 have hi2:2*q < (ps.map (gPs (agB n q p r))).length:=by simpa using hi0
 have eC:W.jf.c298309 (q:Int) ((ps.map (gPs (agB n q p r))).map pe) (ops++agB n q p r) some=some ((ps.map (gPs (agC n q p r))).map pe,ops++agC n q p r):=by
  unfold W.jf.c298309
  rw [w1,(pe_at hi2).1,(pe_at hi2).2,bnd_val,bnd_val,List.getElem_map,hp]
  show br (gPs (agB n q p r) p).m _ _=_
  have hO:agC n q p r=agB n q p r++mend (gPs (agB n q p r) p).m (opZ q):=rfl
  rw [hO]
  cases hm:(gPs (agB n q p r) p).m with
  | false=>rw [br_false rfl,show mend false (opZ q)=[] from rfl,List.append_nil]
  | true=>
   rw [br_true rfl,show mend true (opZ q)=[opZ q] from rfl,← map_gPs_app,← List.append_assoc]
   exact bnd_of (do_ok hn (StO_Z hq) (ps.map (gPs (agB n q p r))) (map_Sm hn sB hs) (by simpa using hl) (ops++agB n q p r) (by simp only [List.length_append];omega)) rfl
 refine bnd_of eC ?_
 have sC : ∀ o∈agC n q p r,StO n o:=fun o ho=>(agC_own hq p r o ho).1.sto
 have lC:(agC n q p r).length≤6*n+3:=by
  have:=mend_len (gPs (agB n q p r) p).m (opZ q)
  unfold agC
  rw [List.length_append];omega
 have hi3:2*q+1 < (ps.map (gPs (agC n q p r))).length:=by simpa using hi
 show bnd (inR (List.length ((ps.map (gPs (agC n q p r))).map pe)) ((2*q+1:Nat):Int)) (fun y_5=>bnd (idx ((ps.map (gPs (agC n q p r))).map pe) ((2*q+1:Nat):Int)) fun y_6=>_)=_
 rw [(pe_at hi3).1,(pe_at hi3).2,bnd_val,bnd_val,List.getElem_map,hr]
 show br (gPs (agC n q p r) r).m _ _=_
 have hO:agOps n q p r=agC n q p r++mend (gPs (agC n q p r) r).m (opX q):=rfl
 rw [hO]
 cases hm:(gPs (agC n q p r) r).m with
 | false=>rw [br_false rfl,show mend false (opX q)=[] from rfl,List.append_nil]
 | true=>
  rw [br_true rfl,show mend true (opX q)=[opX q] from rfl,← map_gPs_app,← List.append_assoc]
  exact bnd_of (do_ok hn (StO_X hq) (ps.map (gPs (agC n q p r))) (map_Sm hn sC hs) (by simpa using hl) (ops++agC n q p r) (by simp only [List.length_append];omega)) rfl
def rowsF (f g:Nat→Pau):Nat→List Pau
 | 0=>[]
 | n+1=>rowsF f g n++[f n,g n]
theorem rowsF_len (f g:Nat→Pau) : ∀ n,(rowsF f g n).length=2*n
 | 0=>rfl
 | n+1=>by rw [rowsF,List.length_append,rowsF_len f g n];rfl
theorem rowsF_at (f g:Nat→Pau) : ∀ {n q:Nat},q < n→(rowsF f g n)[2*q]? = some (f q)∧(rowsF f g n)[2*q+1]? = some (g q)
 | 0,_,h=>absurd h (Nat.not_lt_zero _)
 | n+1,q,h=>by
  rw [rowsF]
  by_cases e:q=n
  ·subst e
   rw [List.getElem?_append_right (by rw [rowsF_len];omega),List.getElem?_append_right (by rw [rowsF_len];omega),rowsF_len,Nat.sub_self,show 2*q+1 - 2*q=1 by omega]
   exact ⟨rfl,rfl⟩
  ·rw [List.getElem?_append_left (by rw [rowsF_len];omega),List.getElem?_append_left (by rw [rowsF_len];omega)]
   exact rowsF_at f g (by omega)
theorem rowsF_map (l:List GOp) (f g:Nat→Pau) : ∀ n,(rowsF f g n).map (gPs l)=rowsF (fun j=>gPs l (f j)) (fun j=>gPs l (g j)) n
 | 0=>rfl
 | n+1=>by rw [rowsF,rowsF,List.map_append,rowsF_map l f g n];rfl
theorem rowsF_all {f g:Nat→Pau} {Q:Pau→Prop} : ∀ {n:Nat},(∀ j,j < n→Q (f j)∧Q (g j)) → ∀ p∈rowsF f g n,Q p
 | 0,_,p,hp=>by cases hp
 | n+1,h,p,hp=>by
  rcases List.mem_append.1 hp with hp | hp
  ·exact rowsF_all (fun j hj=>h j (by omega)) p hp
  ·rcases List.mem_cons.1 hp with rfl | hp
   ·exact (h n (by omega)).1
   ·rw [List.mem_singleton.1 hp];exact (h n (by omega)).2
theorem again_walk {n:Nat} (hn:n≤12) : ∀ (k q:Nat) (f g:Nat→Pau) (ops:List GOp),q+k=n→(∀ j,j < n→Sm (f j)∧Sm (g j))→ops.length+100*k≤70000 →
  ∃ rows,iter (fun s:Sts↦W.jf.c100018 (n:Int) (n:Int) (Prod.fst s) (Prod.fst (Prod.snd s)) (Prod.snd (Prod.snd s)) some) ((q:Int),(rowsF f g n).map pe,ops)=some ((n:Int),rows,ops++again n q k f g)
 | 0,q,f,g,ops,hq,hs,ho=>by
  refine ⟨(rowsF f g n).map pe,iter_inr ?_⟩
  simp only [W.jf.c100018]
  have:q=n:=by omega
  subst this
  rw [br_neg (by omega),again,List.append_nil]
 | k+1,q,f,g,ops,hq,hs,ho=>by
  have hqn:q < n:=by omega
  have hlen:=rowsF_len f g n
  have hi:2*q+1 < (rowsF f g n).length:=by omega
  obtain ⟨a1,a2⟩:=rowsF_at f g hqn
  have b1:(rowsF f g n)[2*q]'(by omega)=f q:=by
   rw [List.getElem?_eq_getElem (by omega)] at a1
   exact Option.some.inj a1
  have b2:(rowsF f g n)[2*q+1]'hi=g q:=by
   rw [List.getElem?_eq_getElem hi] at a2
   exact Option.some.inj a2
  have h1:=again_one hn hqn (rowsF f g n) hi (by omega) (rowsF_all hs) ops (by omega)
  rw [b1,b2,rowsF_map] at h1
  have l1:=agOps_len n q (f q) (g q)
  have sO : ∀ o∈agOps n q (f q) (g q),StO n o:=fun o ho=>(agOps_own hqn (f q) (g q) o ho).1.sto
  obtain ⟨rows,e⟩:=again_walk hn k (q+1) (fun j=>gPs (agOps n q (f q) (g q)) (f j)) (fun j=>gPs (agOps n q (f q) (g q)) (g j)) (ops++agOps n q (f q) (g q)) (by omega)
   (fun j hj=>⟨gPs_Sm hn sO (hs j hj).1,gPs_Sm hn sO (hs j hj).2⟩) (by simp only [List.length_append];omega)
  refine ⟨rows,iter_inl ?_ (e.trans ?_)⟩
  ·simp only [W.jf.c100018]
   rw [br_pos (by omega)]
   refine bnd_of h1 ?_
   rw [wrap_i64 (by omega)]
   rfl
  ·rw [again,List.append_assoc]
end Go.Ql
end

section
set_option linter.unusedSectionVars false
set_option linter.unusedVariables false
set_option maxHeartbeats 1000000
namespace Go.Ql
theorem dig_ne {l:List UInt8} (h:Digits l) {c:UInt8} (hc:c∈l):c≠44∧c≠45∧c≠47:=by
 have:=h c hc
 refine ⟨?_,?_,?_⟩ <;> rintro rfl <;> revert this <;> decide
theorem Txt.inj {a b:Int} {l:List UInt8} (h:Txt a l) (k:Txt b l):a=b:=by
 have zero : ∀ {b:Int},b≠0→(∃ D,IsDec D (b.natAbs:Int)∧[48]=(if b < 0 then [45] else [])++D)→False:=by
  rintro b hb ⟨D,h1,h2⟩
  by_cases hn:b < 0
  ·rw [if_pos hn] at h2
   exact absurd (List.cons.inj h2).1 (by decide)
  ·rw [if_neg hn,List.nil_append] at h2
   rw [← h2] at h1
   exact h1.2.2.1 rfl
 rcases h with ⟨h1,h2⟩ | ⟨h1,D,h2,h3⟩ <;> rcases k with ⟨k1,k2⟩ | ⟨k1,E,k2,k3⟩
 ·rw [h1,k1]
 ·exact (zero k1 ⟨E,k2,h2.symm.trans k3⟩).elim
 ·exact (zero h1 ⟨D,h2,k2.symm.trans h3⟩).elim
 ·rw [h3] at k3
  have hd : ∀ {D:List UInt8} {v:Int},IsDec D v → ∀ E,D≠45::E:=by
   intro D v h E e
   have:=dig_ne h.1 (c:=45) (by rw [e];exact List.mem_cons_self ..)
   exact this.2.1 rfl
  by_cases ha:a < 0 <;> by_cases hb:b < 0
  ·rw [if_pos ha,if_pos hb] at k3
   have e:=(List.cons.inj k3).2
   have e:D=E:=e
   have h5:=h2.2.2.2
   have k5:=k2.2.2.2
   rw [e] at h5
   omega
  ·rw [if_pos ha,if_neg hb] at k3
   exact (hd k2 D k3.symm).elim
  ·rw [if_neg ha,if_pos hb] at k3
   exact (hd h2 E k3).elim
  ·rw [if_neg ha,if_neg hb] at k3
   have e:D=E:=k3
   have h5:=h2.2.2.2
   have k5:=k2.2.2.2
   rw [e] at h5
   omega
theorem itoa_one {a b:Int} (h:Go.Lib.itoa a=Go.Lib.itoa b):a=b:=(itoa_txt a).inj (h ▸ itoa_txt b)
theorem itoa_sep (a:Int) : ∀ c∈Go.Lib.itoa a,c≠44∧c≠47:=by
 intro c hc
 rcases itoa_txt a with ⟨_,h⟩ | ⟨_,D,h,e⟩
 ·rw [h] at hc
  rw [List.mem_singleton.1 hc];decide
 ·rw [e] at hc
  rcases List.mem_append.1 hc with hc | hc
  ·split at hc
   ·rw [List.mem_singleton.1 hc];decide
   ·cases hc
  ·have:=dig_ne h.1 hc
   exact ⟨this.1,this.2.2⟩
theorem part_last {s:UInt8} : ∀ {A A' B B':List UInt8},(∀ c∈B,c≠s)→(∀ c∈B',c≠s)→A++s::B=A'++s::B'→A=A'∧B=B'
 | [],[],B,B',_,_,h=>⟨rfl,(List.cons.inj h).2⟩
 | [],a::A',B,B',hB,_,h=>by
  have h:=(List.cons.inj h).2
  exact absurd rfl (hB s (by rw [h];simp))
 | a::A,[],B,B',_,hB,h=>by
  have h:=(List.cons.inj h).2
  exact absurd rfl (hB s (by rw [← h];simp))
 | a::A,a'::A',B,B',h1,h2,h=>by
  obtain ⟨e1,e2⟩:=List.cons.inj h
  obtain ⟨f1,f2⟩:=part_last h1 h2 e2
  exact ⟨by rw [e1,f1],f2⟩
theorem body_sep (v:Nat→Int) : ∀ n,∀ c∈bodyT v n,c≠47
 | 0,c,hc=>(itoa_sep _ c hc).2
 | n+1,c,hc=>by
  rw [bodyT] at hc
  rcases List.mem_append.1 hc with hc | hc
  ·exact body_sep v n c hc
  ·rcases List.mem_cons.1 hc with rfl | hc
   ·decide
   ·exact (itoa_sep _ c hc).2
theorem body_one {v w:Nat→Int} : ∀ {n m:Nat},bodyT v n=bodyT w m→n=m ∧ ∀ i,i≤n→v i=w i
 | 0,0,h=>⟨rfl,fun i hi=>by rw [Nat.le_zero.1 hi];exact itoa_one h⟩
 | 0,m+1,h=>by
  have:(44:UInt8)∈bodyT v 0:=by rw [h,bodyT];simp
  exact absurd rfl ((itoa_sep _ _ this).1)
 | n+1,0,h=>by
  have:(44:UInt8)∈bodyT w 0:=by rw [← h,bodyT];simp
  exact absurd rfl ((itoa_sep _ _ this).1)
 | n+1,m+1,h=>by
  rw [bodyT,bodyT] at h
  obtain ⟨h1,h2⟩:=part_last (fun c hc=>(itoa_sep _ c hc).1) (fun c hc=>(itoa_sep _ c hc).1) h
  obtain ⟨e,h3⟩:=body_one h1
  subst e
  refine ⟨rfl,fun i hi => ?_⟩
  by_cases hin:i=n+1
  ·subst hin;exact itoa_one h2
  ·exact h3 i (by omega)
theorem last_zero (v:Nat→Int) : ∀ (n i:Nat),lastTo v n < i→i < n→v i=0
 | 0,i,_,h=>absurd h (Nat.not_lt_zero _)
 | n+1,i,h1,h2=>by
  rw [lastTo] at h1
  by_cases hv:v n≠0
  ·rw [if_pos hv] at h1;omega
  ·rw [if_neg hv] at h1
   by_cases e:i=n
   ·subst e;exact Classical.not_not.1 hv
   ·exact last_zero v n i h1 (by omega)
theorem ntext_one {v w:Nat→Int} {e f:Nat} (h:ntext v e=ntext w f):e=f ∧ ∀ i,i < 8→v i=w i:=by
 unfold ntext at h
 have hb:e=f∧bodyT v (lastTo v 8)=bodyT w (lastTo w 8):=by
  by_cases he:e=0 <;> by_cases hf:f=0
  ·rw [if_pos he,if_pos hf,List.append_nil,List.append_nil] at h
   exact ⟨by omega,h⟩
  ·rw [if_pos he,if_neg hf,List.append_nil] at h
   have:(47:UInt8)∈bodyT v (lastTo v 8):=by rw [h];simp
   exact absurd rfl (body_sep _ _ _ this)
  ·rw [if_neg he,if_pos hf,List.append_nil] at h
   have:(47:UInt8)∈bodyT w (lastTo w 8):=by rw [← h];simp
   exact absurd rfl (body_sep _ _ _ this)
  ·rw [if_neg he,if_neg hf] at h
   obtain ⟨h1,h2⟩:=part_last (fun c hc=>(itoa_sep _ c hc).2) (fun c hc=>(itoa_sep _ c hc).2) h
   have:=itoa_one h2
   exact ⟨by omega,h1⟩
 obtain ⟨e1,e2⟩:=body_one hb.2
 refine ⟨hb.1,fun i hi => ?_⟩
 by_cases hl:i≤lastTo v 8
 ·exact e2 i hl
 ·rw [last_zero v 8 i (by omega) hi,last_zero w 8 i (by omega) hi]
theorem KTxt.inj {k k':K} {l:List UInt8} (h:KTxt k l) (g:KTxt k' l):k=k':=by
 obtain ⟨v,e,_,h2,rfl⟩:=h
 obtain ⟨w,f,_,g2,g3⟩:=g
 obtain ⟨rfl,h3⟩:=ntext_one g3
 rw [← h2,← g2]
 unfold kv
 simp only [h3 0 (by decide),h3 1 (by decide),h3 2 (by decide),h3 3 (by decide),h3 4 (by decide),h3 5 (by decide),h3 6 (by decide),h3 7 (by decide)]
end Go.Ql
end

section
set_option linter.unusedSectionVars false
set_option linter.unusedVariables false
set_option maxHeartbeats 1000000
namespace Go.Ql
theorem pw_u64 {q:Nat} (hq:q < 12):IntKind.wrap IntKind.u64 ((1:Int)*(2:Int) ^ Min.min (Int.toNat (q:Int)) (64:Nat))=((2 ^ q:Nat):Int):=by
 rw [Int.toNat_natCast,Nat.min_eq_left (by omega)]
 have hp:2 ^ q < 2 ^ 12:=Nat.pow_lt_pow_right (by decide) hq
 have h:((1:Int)*(2:Int) ^ q)=((2 ^ q:Nat):Int):=by simp
 rw [h]
 generalize 2 ^ q=y at hp
 rw [wrap_u64 (by omega)]
theorem pX_sm {q:Nat} (hq:q < 12):Sm (pX q):=⟨(pZ_fit (n:=12) hq).2,by show 0 < 4096;decide⟩
theorem pZ_sm {q:Nat} (hq:q < 12):Sm (pZ q):=⟨by show 0 < 4096;decide,(pZ_fit (n:=12) hq).2⟩
theorem rows_walk {n:Nat} (hn:n≤12):iter (fun s:Int×List (Int×Int×Bool)↦W.jf.c100007 (n:Int) (Prod.fst s) (Prod.snd s) some) ((0:Int),[])=some ((n:Int),(rowsF pX pZ n).map pe):=by
 refine iter_count n (fun k=>((k:Int),(rowsF pX pZ k).map pe)) _ (fun k hk => ?_) ?_ rfl
 ·have hlen:=rowsF_len pX pZ k
  unfold W.jf.c100007 W.jf.c9
  rw [br_pos (by simp only;omega)]
  simp only [ge0,bnd_val]
  rw [pw_u64 (by omega)]
  refine bnd_of (bnd_of (okIf_len (n:=((rowsF pX pZ k).map pe).length+2) (k:=24) (by simp only [List.length_map];omega)) rfl) ?_
  rw [wrap_i64 (by omega),rowsF,List.map_append]
  rfl
 ·unfold W.jf.c100007
  rw [br_neg (by simp)]
theorem given_walk {n:Nat} (hn:n≤12) {ops:List GOp} (hst : ∀ o∈ops,StO n o) (hl:ops.length≤4096) :
  ∃ l,iter (fun s:Sts↦W.jf.c100012 ops (ops.length:Int) (Prod.fst s) (Prod.fst (Prod.snd s)) (Prod.snd (Prod.snd s)) some) ((0:Int),(rowsF pX pZ n).map pe,[])=some (l,((rowsF pX pZ n).map (gPs ops)).map pe,ops):=by
 have hsm : ∀ p∈rowsF pX pZ n,Sm p:=rowsF_all fun j hj=>⟨pX_sm (by omega),pZ_sm (by omega)⟩
 have hlen:=rowsF_len pX pZ n
 obtain ⟨x,h1,l,rfl⟩:=iter_each (f:=fun s:Sts↦W.jf.c100012 ops (ops.length:Int) (Prod.fst s) (Prod.fst (Prod.snd s)) (Prod.snd (Prod.snd s)) some) (l:=ops)
  (fun pre r s=>s=((pre.length:Int),((rowsF pX pZ n).map (gPs pre)).map pe,pre)) (fun x => ∃ l,x=(l,((rowsF pX pZ n).map (gPs ops)).map pe,ops))
  (by
   rintro pre o r s he rfl
   have hlen2:=congrArg List.length he
   simp only [List.length_append,List.length_cons] at hlen2
   left
   refine ⟨_,?_,rfl⟩
   have hpre : ∀ a∈pre,StO n a:=fun a ha=>hst a (by rw [he];exact List.mem_append_left _ ha)
   have hd:=do_ok hn (hst o (by rw [he];simp)) ((rowsF pX pZ n).map (gPs pre)) (map_Sm hn hpre hsm) (by rw [List.length_map];omega) pre (by omega)
   rw [← map_gPs_one,map_gPs_app] at hd
   unfold W.jf.c100012
   have hidx:idx ops (pre.length:Int)=some o:=by rw [he];exact idx_mid
   rw [br_pos (by simp only;omega),hidx,bnd_val]
   refine bnd_of hd ?_
   rw [wrap_i64 (by simp only;omega),List.length_append]
   rfl)
  (by
   rintro s rfl
   refine ⟨((ops.length:Int),((rowsF pX pZ n).map (gPs ops)).map pe,ops),?_,_,rfl⟩
   unfold W.jf.c100012
   rw [br_neg (by simp)])
  (s:=((0:Int),(rowsF pX pZ n).map pe,[])) (by rw [map_gPs_nil];rfl)
 exact ⟨l,h1⟩
def againOf (n:Nat) (ops:List GOp):List GOp:=again n 0 n (fun j=>gPs ops (pX j)) (fun j=>gPs ops (pZ j))
theorem againOf_own (n:Nat) (ops:List GOp) : ∀ o∈againOf n ops,Own n o:=again_own n 0 _ _ (by omega)
theorem againOf_len (n:Nat) (ops:List GOp):(againOf n ops).length≤n*(6*n+4):=again_len n 0 _ _
theorem mul_a {m:Nat} (hm:m≤12):m*(6*m+4)≤8*m*(m+1)∧m*(6*m+4)≤912:=by
 have h2:m=0∨m=1∨m=2∨m=3∨m=4∨m=5∨m=6∨m=7∨m=8∨m=9∨m=10∨m=11∨m=12:=by omega
 rcases h2 with rfl | rfl | rfl | rfl | rfl | rfl | rfl | rfl | rfl | rfl | rfl | rfl | rfl <;> exact ⟨by omega,by omega⟩
theorem again_prog {n:Nat} (hn:1≤n∧n≤12) {b:Int} (hb:0≤b∧b≤12) {ops:List GOp} (hw:WCir ((n:Int),b,ops)) (ht:tf ((n:Int),b,ops)=(0,0)) (hst : ∀ o∈ops,StO n o) (hl:ops.length≤4096) :
  W.jf ((n:Int),b,ops)=some (((n:Int),b,invL (againOf n ops)),(0,0)):=by
 unfold W.jf
 refine bnd_of ((tpure_ok _ hw).trans (congrArg some ht)) ?_
 rw [br_false (by rfl)]
 refine bnd_of (rows_walk hn.2) ?_
 obtain ⟨l,h1⟩:=given_walk hn.2 hst hl
 refine bnd_of h1 ?_
 obtain ⟨rows,h2⟩:=again_walk hn.2 n 0 (fun j=>gPs ops (pX j)) (fun j=>gPs ops (pZ j)) [] (by omega) (fun j hj=>⟨gPs_Sm hn.2 hst (pX_sm (by omega)),gPs_Sm hn.2 hst (pZ_sm (by omega))⟩) (by simp;omega)
 rw [← rowsF_map] at h2
 refine bnd_of h2 ?_
 have hI:=inverse_own hn hb (againOf_own n ops) (by have:=againOf_len n ops;have:=(mul_a hn.2).2;omega)
 exact bnd_of (show W.jf.c29 (n:Int) b (againOf n ops) some=some ((n:Int),b,invL (againOf n ops),(0:Int),(0:Int)) from bnd_of hI rfl) rfl
theorem again_bad {c:Cir} (hc:WCir c) (h:(tf c).1≠0):W.jf c=some (nix,tf c):=by
 unfold W.jf
 refine bnd_of (tpure_ok c hc) ?_
 rw [br_true (by show ((tf c).1 != 0)=true;simp [h])]
 rfl
end Go.Ql
end

section
set_option linter.unusedSectionVars false
set_option linter.unusedVariables false
set_option maxHeartbeats 1000000
namespace Go.Ql
theorem turnZ_16 (a:K) {k:Int} (h:k % 16=0):turnZ a k=a:=by
 rw [turnZ_congr a (l:=0) (by omega),turnZ_zero]
theorem pK_back (l:List Int) (v:KV) (k:Int):pK l ((16 - k) % 16) (pK l k v)=v:=by
 rw [← pK_add]
 funext x
 unfold pK
 rw [turnZ_16 _ (by omega)]
 split <;> rfl
theorem xK_back {l:List Int} {q:Int} (hl:Nn l) (hq:0≤q) (h:q∉l) (v:KV):xK l q (xK l q v)=v:=by
 funext x
 unfold xK
 rw [ones_other hl hq h,fl_fl]
 cases onesB l x <;> rfl
theorem gate_back {n:Nat} {o:GOp} (h:StO n o) (v:KV):gateK (invO o) (gateK o v)=v:=by
 obtain ⟨k,K1,l,q,b,on⟩:=o
 obtain ⟨hq,hc,hk,hf⟩:=h
 simp only at hq hc hk hf
 have hl:Nn l:=fun c hcl=>(hc c hcl).1.1
 have hnl:q∉l:=fun hm=>(hc q hm).2 rfl
 have hk2:0≤(16 - K1) % 16:=by omega
 show gateK (k,(16 - K1) % 16,l,q,b,on) _=v
 rcases hf with ⟨rfl,h1⟩ | ⟨rfl,rfl⟩ | ⟨rfl,rfl,h2⟩ | ⟨rfl,h1,h2⟩ | ⟨rfl,rfl⟩
 ·rw [gate_x,gate_x];exact xK_back hl hq.1 hnl v
 ·rw [gate_h1,gate_h1];exact hK_hK q v
 ·rw [gate_p _ _ _ _ _ _ hk2,gate_p _ _ _ _ _ _ hk.1];exact pK_back _ v K1
 ·rw [gate_p _ _ _ _ _ _ hk2,gate_p _ _ _ _ _ _ hk.1];exact pK_back _ v K1
 ·rw [gate_phase _ _ _ _ _ hk2,gate_phase _ _ _ _ _ hk.1];exact pK_back _ v K1
theorem run_back {n:Nat} : ∀ {l:List GOp},(∀ o∈l,StO n o) → ∀ v,runK (invL l) (runK l v)=v
 | [],_,_=>rfl
 | o::l,h,v=>by
  rw [invL_cons,runK_snoc]
  show gateK (invO o) (runK (invL l) (runK l (gateK o v)))=v
  rw [run_back (fun a ha=>h a (List.mem_cons_of_mem _ ha)),gate_back (h o (List.mem_cons_self ..))]
theorem gate_lin (o:GOp) (k:Int) (v:KV):gateK o (fun y=>turnZ (v y) k)=fun y=>turnZ (gateK o v y) k:=by
 funext y
 have tk : ∀ (a:K) (m:Nat),K.turn (turnZ a k) m=turnZ (K.turn a m) k:=fun a m=>by
  unfold turnZ
  rw [K.turn_turn,K.turn_turn,Nat.add_comm]
 have tn : ∀ a:K,K.neg (turnZ a k)=turnZ (K.neg a) k:=fun a=>tk a 8
 unfold gateK
 simp only [tk,← turnZ_half,tn,← turnZ_K]
 split
 ·rfl
 ·split
  ·rfl
  ·split
   ·split <;> rfl
   ·split
    ·rfl
    ·split <;> rw [← turnZ_K]
theorem run_lin : ∀ (l:List GOp) (k:Int) (v:KV),runK l (fun y=>turnZ (v y) k)=fun y=>turnZ (runK l v y) k
 | [],_,_=>rfl
 | o::l,k,v=>by rw [runK,runK,gate_lin,run_lin l]
theorem run_fits : ∀ (l:List GOp) {v:KV} {L t:Nat},(∀ x,FitsK (v x) L t) → ∃ M s,∀ x,FitsK (runK l v x) M s
 | [],_,L,t,h=>⟨L,t,h⟩
 | o::l,v,L,t,h=>run_fits l (fun x=>gate_fits h x)
theorem sym_pXZ {n a b:Nat} (ha:a < n) (hb:b < n):sym n (pX a) (pX b)=false∧sym n (pZ a) (pZ b)=false∧sym n (pX a) (pZ b)=decide (a=b):=by
 refine ⟨?_,?_,?_⟩
 ·exact (sym_Xl ha false (pX b)).trans (Nat.zero_testBit _)
 ·exact (sym_Zl ha false (pZ b)).trans (Nat.zero_testBit _)
 ·have h:=sym_Xl ha false (pZ b)
  refine h.trans ?_
  show (2 ^ b).testBit a=_
  rw [two_bit]
  by_cases e:a=b
  ·rw [decide_eq_true e,decide_eq_true e.symm]
  ·rw [decide_eq_false e,decide_eq_false (Ne.symm e)]
theorem again_turn {n:Nat} (hn:n≤12) {ops:List GOp} (hst : ∀ o∈ops,StO n o) :
  ∃ k:Nat,k < 16 ∧ ∀ x,x < 2 ^ n→runK ops (baK x)=fun y=>turnZ (runK (invL (againOf n ops)) (baK x) y) k:=by
 have hA : ∀ o∈againOf n ops,StO n o:=fun o ho=>(againOf_own n ops o ho).sto
 have hL : ∀ o∈ops++againOf n ops,StO n o:=fun o ho=>(List.mem_append.1 ho).elim (hst o) (hA o)
 have fX : ∀ q,q < n → ∀ t,n≤t→Bare (gPs ops (pX q)) t:=fun q hq t ht=>by
  obtain ⟨a,b⟩:=gPs_high ht hst (pX q)
  have:=pX_bare (k:=q) (j:=t) (by omega)
  exact ⟨a.trans this.1,b.trans this.2⟩
 have fZ : ∀ q,q < n → ∀ t,n≤t→Bare (gPs ops (pZ q)) t:=fun q hq t ht=>by
  obtain ⟨a,b⟩:=gPs_high ht hst (pZ q)
  have:=pZ_bare (k:=q) (j:=t) (by omega)
  exact ⟨a.trans this.1,b.trans this.2⟩
 have hok:=again_ok (n:=n) n 0 (fun j=>gPs ops (pX j)) (fun j=>gPs ops (pZ j)) (by omega) (fun j hj=>absurd hj (Nat.not_lt_zero _)) (fun j hj t ht=>⟨fX j hj t ht,fZ j hj t ht⟩)
  (fun a b ha hb=>by
   show sym n (gPs _ _) (gPs _ _)=false∧sym n (gPs _ _) (gPs _ _)=false∧sym n (gPs _ _) (gPs _ _)=decide (a=b)
   rw [sym_gPs hst,sym_gPs hst,sym_gPs hst]
   exact sym_pXZ ha hb)
 have hsc:=scalar hn hL (fun q hq=>by
   have:=(hok q hq).1
   exact (gPs_app ops (againOf n ops) (pX q)).trans this)
  (fun q hq=>by
   have:=(hok q hq).2
   exact (gPs_app ops (againOf n ops) (pZ q)).trans this)
 have hlen:=scalar_len hL (hsc 0 (Nat.pow_pos (by decide)))
 obtain ⟨M,s,hf⟩:=run_fits (ops++againOf n ops) (v:=baK 0) (L:=1) (t:=0) (fun x=>by
  unfold baK
  split
  ·exact ⟨single 1,one_kv,by intro i hi;unfold single;split <;> simp⟩
  ·exact FitsK.zero _ _)
 obtain ⟨w,hw,_⟩:=hf 0
 rw [← hw] at hlen
 obtain ⟨k,hk,hroot⟩:=root_of hlen
 rw [hw] at hroot
 refine ⟨k,hk,fun x hx => ?_⟩
 have e1:runK (againOf n ops) (runK ops (baK x))=fun y=>turnZ (baK x y) (k:Int):=by
  rw [← runK_app]
  funext y
  rw [hsc x hx y,hroot]
  unfold baK
  split
  ·rw [turnZ_nat _ (by omega)];rfl
  ·rw [turnZ_nought]
 have e2:=run_back hA (runK ops (baK x))
 rw [e1,run_lin] at e2
 exact e2.symm
theorem turn_none {a:K} {d:Int} (h:turnZ a d=a) (ha:a≠K.zero):d % 16=0:=by
 have mul : ∀ m:Nat,turnZ a (m*d)=a:=by
  intro m
  induction m with
  | zero=>rw [turnZ_16 _ (by simp)]
  | succ m ih=>
   rw [show ((m+1:Nat):Int)*d=m*d+d by rw [Int.natCast_succ,Int.add_mul,Int.one_mul],← turnZ_add,ih,h]
 apply Classical.byContradiction
 intro hd
 apply ha
 have h8:turnZ a 8=a:=by
  have key : ∃ m:Nat,((m:Int)*d - 8) % 16=0:=by
   have hr:d % 16=1∨d % 16=2∨d % 16=3∨d % 16=4∨d % 16=5∨d % 16=6∨d % 16=7∨d % 16=8∨d % 16=9∨d % 16=10∨d % 16=11∨d % 16=12∨d % 16=13∨d % 16=14∨d % 16=15:=by omega
   rcases hr with h | h | h | h | h | h | h | h | h | h | h | h | h | h | h
   ·exact ⟨8,by omega⟩
   ·exact ⟨4,by omega⟩
   ·exact ⟨8,by omega⟩
   ·exact ⟨2,by omega⟩
   ·exact ⟨8,by omega⟩
   ·exact ⟨4,by omega⟩
   ·exact ⟨8,by omega⟩
   ·exact ⟨1,by omega⟩
   ·exact ⟨8,by omega⟩
   ·exact ⟨4,by omega⟩
   ·exact ⟨8,by omega⟩
   ·exact ⟨2,by omega⟩
   ·exact ⟨8,by omega⟩
   ·exact ⟨4,by omega⟩
   ·exact ⟨8,by omega⟩
  obtain ⟨m,hm⟩:=key
  rw [← turnZ_congr a hm];exact mul m
 exact neg_self h8.symm
end Go.Ql
end

section
set_option linter.unusedSectionVars false
set_option linter.unusedVariables false
set_option maxHeartbeats 1000000
namespace Go.Ql
theorem sameTexts_ok (a b:List Tx) (ha:a.length≤8796093022208):W.jw a b=some (decide (a=b)):=by
 simp only [W.jw,br_if]
 by_cases hlen:a.length=b.length
 ·rw [if_neg (by simp [hlen])]
  have h : ∃ r,iter (fun s:Int↦W.jw.c100004 a b s some) (0:Int)=some r∧((∃ u,r = .inl u∧a≠b) ∨ ∃ u,r = .inr u∧a=b):=by
   refine iter_upto a.length (fun i s=>s=(i:Int)∧a.take i=b.take i) _ ?_ ?_ ⟨rfl,rfl⟩
   ·rintro i s hi ⟨rfl,h1⟩
    have h6:W.jw.c6 a b (i:Int) some=some (decide (a[i]≠b[i]'(by omega))):=by
     simp only [W.jw.c6,idx_get hi,idx_get (show i < b.length by omega),bnd_val]
     exact some_dec (by simp)
    simp only [W.jw.c100004,br_if,h6,bnd_val]
    rw [if_pos (by simpa using hi)]
    by_cases hd:a[i]=b[i]'(by omega)
    ·rw [if_neg (by simpa using hd),wrap_i64 (by omega)]
     exact .inl ⟨_,rfl,by simp,by rw [List.take_succ_eq_append_getElem hi,List.take_succ_eq_append_getElem (by omega),h1,hd]⟩
    ·rw [if_pos (by simpa using hd)]
     exact .inr ⟨_,rfl,.inl ⟨_,rfl,fun e=>hd (by subst e;rfl)⟩⟩
   ·rintro s ⟨rfl,h1⟩
    simp only [W.jw.c100004,br_if]
    rw [if_neg (by simp)]
    rw [List.take_length,hlen,List.take_length] at h1
    exact ⟨_,rfl,.inr ⟨_,rfl,h1⟩⟩
  obtain ⟨r,hr,h⟩:=h
  rw [hr,bnd_val]
  rcases h with ⟨u,rfl,h⟩ | ⟨u,rfl,h⟩
  ·rw [sel_inl];simp [h]
  ·rw [sel_inr];simp [h]
 ·rw [if_pos (by simp;omega)]
  have:a≠b:=fun e=>hlen (by rw [e])
  simp [this]
theorem playK_pure (tape:List Int) : ∀ {l:List GOp},(∀ o∈l,o.1 < 5∧o.2.2.2.2.2=[]) → ∀ (i:Nat) (v:KV) (bits:List Int) (u:Nat),playK tape i l (v,bits,u) = .inr (runK l v,bits,u)
 | [],_,_,_,_,_=>rfl
 | o::l,h,i,v,bits,u=>by
  have ho:=h o (List.mem_cons_self ..)
  have hc:condK bits o=true:=by unfold condK;rw [ho.2];rfl
  rw [playK,if_neg (by simp [hc]),if_pos ho.1,runK]
  exact playK_pure tape (fun r hr=>h r (List.mem_cons_of_mem _ hr)) _ _ _ _
theorem play_sto {n:Nat} (hn:n≤12) {b:Int} {ops:List GOp} (hw:WCir ((n:Int),b,ops)) (hp:pur ((n:Int),b,ops)=(0,0)) (hst : ∀ o∈ops,StO n o) {x:Nat} (hx:x < 2 ^ n) :
  ∃ l r,W.jE ((n:Int),b,ops) (x:Int) []=some (l,r)∧Amps l (2 ^ n) (runK ops (baK x)) ops.length:=by
 have h1:(pur ((n:Int),b,ops)).1=0:=by rw [hp]
 obtain ⟨hg,-,h3⟩:=pur_zero h1
 have hb:=hg.b
 simp only at hb
 obtain ⟨bn,rfl⟩ : ∃ bn:Nat,b=(bn:Int):=⟨b.toNat,by omega⟩
 have hck:chk ((n:Int),(bn:Int),ops)=(0,0):=by
  refine (good_of ?_).2
  unfold pur at h1
  by_cases h:(chk ((n:Int),(bn:Int),ops)).1=0
  ·exact h
  ·rw [if_pos h] at h1;exact h1
 have hall : ∀ o∈ops,o.1 < 5∧o.2.2.2.2.2=[]:=fun o ho=>by
  have e:=h3 o ho
  simp only [not_or,Classical.not_not] at e
  refine ⟨?_,e.2.2⟩
  rcases (hst o ho).form with h | h | h | h | h
  ·rw [h.1];decide
  ·rw [h.1];decide
  ·rw [h.1];decide
  ·rw [h.1];decide
  ·rw [h.1];decide
 have hl:ops.length≤4096:=hg.n
 obtain ⟨-,h⟩:=play_walk (n:=n) (bn:=bn) (ops:=ops) (tape:=[]) (i0:=x) (by omega) (by have:=hb.2;omega) (by omega) (by decide) hx
  (fun o ho=>⟨ok1_sto hn (hst o ho),by rw [(hall o ho).2];decide,by rw [(hall o ho).2];exact (fun c hc=>nomatch hc),fun h5=>by have:=(hall o ho).1;omega⟩)
  ((rcheck_ok _ hw).trans (congrArg some hck))
 obtain ⟨l,e1,e2⟩:=h _ (playK_pure [] hall 0 (basisK x) (List.replicate bn 0) 0)
 exact ⟨l,_,e1,e2⟩
theorem same_at {n:Nat} (hn:1≤n∧n≤12) {a b:AList} {u v:KV} {s t:Nat} (ha:Amps a (2 ^ n) u s) (hb:Amps b (2 ^ n) v t) (hs:s≤8000) (ht:t≤8000) (k:Nat) :
  ∃ e:Bool,(∀ {ρ:Type} (f:Bool→Option ρ),(bnd (W.Jn a) fun y=>bnd (W.jp b ((1:Int),(k:Int),[],(0:Int),(0:Int),[])) fun y_1=>bnd (W.Jn y_1) fun y_2=>bnd (W.jw y y_2) f)=f e) ∧
   (e=true ↔ ∀ y,y < 2 ^ n→u y=turnZ (v y) k):=by
 obtain ⟨T,f1,f2,f3⟩:=texts_walk hn.2 ha (by omega)
 obtain ⟨b',g1,g2⟩:=gate_walk hb (ok1_one (q:=0) (by omega) 1 (k:Int) (by omega)) (by omega) (by omega)
 rw [gate_phase _ _ _ _ _ (by omega)] at g2
 obtain ⟨U,e1,e2,e3⟩:=texts_walk hn.2 g2 (by omega)
 have h12:2 ^ n≤4096:=p12 hn.2
 refine ⟨decide (T=U),fun f => ?_,?_⟩
 ·rw [f1,bnd_val]
  refine bnd_of g1 ?_
  rw [e1,bnd_val,sameTexts_ok T U (by omega),bnd_val]
 ·rw [decide_eq_true_iff]
  constructor
  ·rintro rfl y hy
   exact (f3 y hy).inj (e3 y hy)
  ·intro h
   refine texts_one f2 f3 e2 fun x hx => ?_
   rw [h x hx]
   exact e3 x hx
def TFits (n:Nat) (u v:KV) (k:Nat):Prop:=∀ y,y < 2 ^ n→u y=turnZ (v y) k
theorem fits_one {n:Nat} {u v:KV} {j k:Nat} (hj:j < 16) (hk:k < 16) (h1:TFits n u v j) (h2:TFits n u v k) (hv : ∃ y,y < 2 ^ n∧v y≠K.zero):j=k:=by
 obtain ⟨y,hy,hne⟩:=hv
 have e:=(h1 y hy).symm.trans (h2 y hy)
 have e2:turnZ (turnZ (v y) j) (16 - (k:Int))=turnZ (turnZ (v y) k) (16 - (k:Int)):=by rw [e]
 rw [turnZ_add,turnZ_add,turnZ_16 _ (k:=(k:Int)+(16 - (k:Int))) (by omega)] at e2
 have:=turn_none e2 hne
 omega
theorem search_ok {n:Nat} (hn:1≤n∧n≤12) {a b:AList} {u v:KV} {s t:Nat} (ha:Amps a (2 ^ n) u s) (hb:Amps b (2 ^ n) v t) (hs:s≤8000) (ht:t≤8000) {k:Nat} (hk:k < 16) (hf:TFits n u v k) (hv : ∃ y,y < 2 ^ n∧v y≠K.zero) :
  ∃ r,iter (fun s:Int×Int↦W.jd.c100023 (Prod.fst s) a b (Prod.snd s) some) ((-1:Int),(0:Int))=some ((k:Int),r):=by
 obtain ⟨x,h1,r,rfl⟩:=iter_upto (f:=fun s:Int×Int↦W.jd.c100023 (Prod.fst s) a b (Prod.snd s) some) 16
  (fun i s=>(s=((-1:Int),(i:Int))∧i≤k)∨s=((k:Int),(i:Int))) (fun x => ∃ r,x=((k:Int),r))
  (by
   rintro i s hi (⟨rfl,hik⟩ | rfl)
   ·left
    obtain ⟨e,q1,q2⟩:=same_at hn ha hb hs ht i
    have hc:W.jd.c302406 (-1:Int) a b (i:Int) some=some (if e=true then (i:Int) else -1):=by
     unfold W.jd.c302406
     rw [q1]
     cases e
     ·rw [br_false rfl];rfl
     ·rw [br_true rfl];rfl
    refine ⟨(if e=true then (i:Int) else -1,((i+1:Nat):Int)),?_,?_⟩
    ·unfold W.jd.c100023 W.jd.c23
     rw [br_pos (by simp only;omega),bnd_val,br_true (by rfl)]
     refine bnd_of hc ?_
     rw [wrap_i64 (by simp only;omega)]
     rfl
    ·cases e with
     | false=>
      left
      refine ⟨rfl,?_⟩
      by_cases e:i=k
      ·subst e;exact absurd (q2.2 hf) (by simp)
      ·omega
     | true=>
      right
      rw [fits_one hk hi hf (q2.1 rfl) hv]
      rfl
   ·right
    refine ⟨((k:Int),(i:Int)),?_,_,rfl⟩
    unfold W.jd.c100023 W.jd.c23
    rw [br_pos (by simp only;omega),bnd_val,br_neg (by simp only;omega)])
  (by
   rintro s (⟨rfl,hik⟩ | rfl)
   ·omega
   ·refine ⟨((k:Int),((16:Nat):Int)),?_,_,rfl⟩
    unfold W.jd.c100023 W.jd.c23
    rw [br_neg (by simp),bnd_val,br_false rfl])
  (s:=((-1:Int),(0:Int))) (.inl ⟨rfl,Nat.zero_le _⟩)
 exact ⟨r,h1⟩
theorem run_some {n:Nat} {l:List GOp} (h : ∀ o∈l,StO n o) : ∃ y,y < 2 ^ n∧runK l (baK 0) y≠K.zero:=by
 apply Classical.byContradiction
 intro hno
 have hz : ∀ y,y < 2 ^ n→runK l (baK 0) y=K.zero:=fun y hy=>Classical.byContradiction fun e=>hno ⟨y,hy,e⟩
 have e1:=len_run h (baK 0)
 have z : ∀ m:List Nat,suL (fun _=>K.zero) m=K.zero:=by
  intro m
  induction m with
  | nil=>rfl
  | cons a m ih=>rw [suL,ih,K.add_zero]
 have e2:lenK n (runK l (baK 0))=K.zero:=by
  unfold lenK
  rw [suL_congr (g:=fun _=>K.zero) fun y hy=>by rw [hz y (List.mem_range.1 hy),nrm_zero]]
  exact z _
 have e3:lenK n (baK 0)=K.one:=by
  unfold lenK
  rw [suL_one (Nat.two_pow_pos n) fun x hx=>by rw [baK,if_neg hx,nrm_zero],baK,if_pos rfl]
  apply K.eq_of <;> simp only [nrm,K.mul,K.conj,K.one] <;> grind
 rw [e2,e3] at e1
 exact absurd (congrArg K.c0 e1) (by decide)
theorem turn_at {n:Nat} (hn:1≤n∧n≤12) {b:Int} {ops d:List GOp} (hw:WCir ((n:Int),b,ops)) (hp:pur ((n:Int),b,ops)=(0,0)) (hst : ∀ o∈ops,StO n o) (hl:ops.length≤4096)
  (hwd:WCir ((n:Int),b,d)) (hpd:pur ((n:Int),b,d)=(0,0)) (hsd : ∀ o∈d,StO n o) (hld:d.length≤4096) {k:Nat} (hk:k < 16) {x:Nat} (hx:x < 2 ^ n) (hf:runK ops (baK x)=fun y=>turnZ (runK d (baK x) y) k) :
  W.jd.c100018 (if x=0 then -1 else (k:Int)) (x:Int) (n:Int) b ops (n:Int) b d some=some (.inl ((k:Int),((x+1:Nat):Int))):=by
 have h12:=p12 hn.2
 unfold W.jd.c100018
 rw [ge0,bnd_val,pow63 (by omega),Int.toNat_natCast,br_pos (by omega)]
 obtain ⟨l1,r1,e1,a1⟩:=play_sto hn.2 hw hp hst hx
 obtain ⟨l2,r2,e2,a2⟩:=play_sto hn.2 hwd hpd hsd hx
 refine bnd_of e1 (bnd_of e2 ?_)
 have hfit:TFits n (runK ops (baK x)) (runK d (baK x)) k:=fun y _=>by rw [hf]
 have hs : ∃ r,iter (fun s:Int×Int↦W.jd.c100023 (Prod.fst s) l1 l2 (Prod.snd s) some) ((if x=0 then (-1:Int) else (k:Int)),(0:Int))=some ((k:Int),r):=by
  by_cases h0:x=0
  ·rw [if_pos h0]
   exact search_ok hn a1 a2 (by omega) (by omega) hk hfit (by rw [h0];exact run_some hsd)
  ·rw [if_neg h0]
   refine ⟨0,iter_inr ?_⟩
   unfold W.jd.c100023 W.jd.c23
   rw [br_pos (by simp),bnd_val,br_neg (by simp only;omega)]
 obtain ⟨r,hs⟩:=hs
 refine bnd_of hs ?_
 have h27:W.jd.c27 (k:Int) l1 l2 some=some false:=by
  obtain ⟨e,q1,q2⟩:=same_at hn a1 a2 (by omega) (by omega) k
  rw [q2.2 hfit] at q1
  unfold W.jd.c27
  rw [br_neg (by omega),q1]
  rfl
 refine bnd_of h27 ?_
 rw [br_false rfl,wrap_i64 (by omega)]
 rfl
theorem again_law (c:Cir) (hc:WCir c):W.jd c=some true:=by
 have hcp:=copyCircuit_ok c hc
 have hpu:=rpure_ok c hc
 have hnf:=rfault_normal c hc.1
 have hg:W.jd.c216389 c.1 c.2.1 c.2.2 (pur c).1 (pur c).2 some=some (tf c):=by
  unfold W.jd.c216389 tf
  by_cases h:(pur c).1=0
  ·rw [br_true (by simp [h]),if_neg (by simp [h])]
   exact bnd_of hnf rfl
  ·rw [br_false (by simp [h]),if_pos h]
 have h6:W.jd.c6 c.1 c.2.1 c.2.2 c.1 c.2.1 c.2.2 (tf c).1 (tf c).2 (tf c).1 (tf c).2 some=some false:=by
  unfold W.jd.c6
  refine bnd_of begunT ?_
  rw [br_false (by rfl),br_false (by rw [eqT_pair];simp)]
  exact bnd_of (sameCircuit_ok c c hc) (by simp)
 by_cases h:(tf c).1=0
 ·obtain ⟨n,hcn,n1,n2,hpur,hstr,htf,hst,hl⟩:=tf_zero h
  obtain ⟨hgood,-,-⟩:=pur_zero (c:=c) (by rw [hpur])
  obtain ⟨c1,b,ops⟩:=c
  have hb:=hgood.b
  simp only at hcn hst hl hb
  subst hcn
  have hag:=again_prog ⟨n1,n2⟩ hb hc htf hst hl
  have hown:=invL_own (againOf_own n ops)
  have hlen:(invL (againOf n ops)).length≤8*n*(n+1)∧(invL (againOf n ops)).length≤912:=by
   have h1:=againOf_len n ops
   have h2:=mul_a n2
   rw [invL_len]
   omega
  have hturn:=again_turn n2 hst
  generalize invL (againOf n ops)=d at *
  have hwd:WCir ((n:Int),b,d):=own_w hown (by omega)
  have hpd:pur ((n:Int),b,d)=(0,0):=own_pur ⟨n1,n2⟩ hb hown (by omega)
  have hsd : ∀ o∈d,StO n o:=fun o ho=>(hown o ho).sto
  have hpu2:=(rpure_ok _ hwd).trans (congrArg some hpd)
  have hnf2:=(rfault_normal _ hwd.1).trans (congrArg some (strange_of (i:=0) (l:=d) fun o ho=>(hown o ho).nrm))
  unfold W.jd
  rw [htf] at hg h6
  refine bnd_of hcp (bnd_of hag (bnd_of hpu (bnd_of hg (bnd_of h6 ?_))))
  rw [br_false rfl,br_false (by rfl)]
  refine bnd_of hpu2 (bnd_of hnf2 ?_)
  have h12:W.jd.c12 (n:Int) b (n:Int) b d 0 0 some=some false:=by
   unfold W.jd.c12
   rw [br_false (by rfl),br_false (by rfl),br_false (by simp),br_false (by simp)]
   have e:IntKind.wrap IntKind.i64 (IntKind.wrap IntKind.i64 ((8:Int)*(n:Int))*IntKind.wrap IntKind.i64 ((n:Int)+(1:Int)))=((8*n*(n+1):Nat):Int):=by
    have w1:IntKind.wrap IntKind.i64 ((8:Int)*(n:Int))=(8:Int)*(n:Int):=wrap_i64 (by omega)
    have w2:IntKind.wrap IntKind.i64 ((n:Int)+(1:Int))=(n:Int)+1:=wrap_i64 (by omega)
    rw [w1,w2]
    have:8*n*(n+1)≤8*12*13:=Nat.mul_le_mul (by omega) (by omega)
    have e2:(8:Int)*(n:Int)*((n:Int)+1)=((8*n*(n+1):Nat):Int):=by push_cast;rfl
    rw [e2,wrap_i64 (by omega)]
   rw [e]
   exact congrArg some (decide_eq_false (by have:=hlen.1;omega))
  refine bnd_of h12 ?_
  rw [br_false rfl]
  by_cases h5:(n:Int) > 5
  ·rw [br_pos h5]
  ·rw [br_neg h5]
   obtain ⟨k,hk,hf⟩:=hturn
   have hp12:=p12 n2
   obtain ⟨r,hr,z,hz⟩:=iter_upto (f:=fun s:Int×Int↦W.jd.c100018 (Prod.fst s) (Prod.snd s) (n:Int) b ops (n:Int) b d some) (2 ^ n)
    (fun x s=>s=((if x=0 then -1 else (k:Int)),(x:Int))) (fun x => ∃ z,x = .inr z)
    (by
     rintro x s hx rfl
     left
     refine ⟨((k:Int),((x+1:Nat):Int)),?_,by simp⟩
     exact turn_at ⟨n1,n2⟩ hc hpur hst hl hwd hpd hsd (by omega) hk hx (hf x hx))
    (by
     rintro s rfl
     refine ⟨.inr ((if 2 ^ n=0 then -1 else (k:Int)),((2 ^ n:Nat):Int)),?_,_,rfl⟩
     unfold W.jd.c100018
     rw [ge0,bnd_val,pow63 (by omega),Int.toNat_natCast,br_neg (by simp only;omega)]) (s:=((-1:Int),(0:Int))) rfl
   refine bnd_of (hr.trans (congrArg some hz)) ?_
   rw [sel_inr]
 ·have hag:=again_bad hc h
  unfold W.jd
  refine bnd_of hcp (bnd_of hag (bnd_of hpu (bnd_of hg (bnd_of h6 ?_))))
  rw [br_false rfl,br_true (by simp [h])]
  exact bnd_of (sameCircuit_ok nix nix ⟨by decide,fun o ho=>by cases ho⟩) (by simp)
end Go.Ql
end

section
namespace Go.Ql
theorem again_wf : ∀ x:dens [cirTy],WfL [cirTy] x→W.jd.ce.F x=some true:=by
 intro x h
 exact again_law x (wcir_of h)
end Go.Ql
end
