/- Plain law of the chance that a code fails, of all arguments. -/
import Derived.Test.YtaoipmnlocbaoaaGreatPc
import Derived.Test.YtaoipmnlocbaoaaGreatGa
set_option linter.all false
section
set_option maxHeartbeats 1000000
namespace Go.Ql
def He (ws:List Wd) (n:Nat) (e:Wd):Bool:=
 match decF ws (ke ws e) (errs n) with
 | some d=>! sp (ws.map vec) (vec (mul d e))
 | none=>false
def stepC (ws:List Wd) (n:Nat) (cs:List Int) (e:Wd):List Int:=
 if He ws n e=true then cs.set (wgt e) (IntKind.i64.wrap (cs.getD (wgt e) 0+1)) else cs
theorem stepC_len {ws:List Wd} {n:Nat} {cs:List Int} {e:Wd}:(stepC ws n cs e).length=cs.length:=by
 unfold stepC;split<;>simp
theorem foldC_len {ws:List Wd} {n:Nat}:∀(es:List Wd) (cs:List Int),(es.foldl (stepC ws n) cs).length=cs.length
 | [],_=>rfl
 | e::es,cs=>by rw [List.foldl_cons,foldC_len es,stepC_len]
theorem dec_of {ws:List Wd} {n:Nat} {e:Wd} (he:e.length=n):∃d,decF ws (ke ws e) (errs n)=some d∧d.length=n:=by
 cases h:decF ws (ke ws e) (errs n) with
 | none=>exact absurd rfl ((decF_none (errs n) none h).2 e (by rw [←he];exact errs_all e))
 | some d=>
   obtain ⟨_,h2,_⟩:=decF_some (errs n) none d (fun _ h=>nomatch h) h
   rcases h2 with h2 | h2
   ·exact ⟨d,rfl,VA h2⟩
   ·cases h2
theorem xs_mul {d e:Wd} (h:d.length=e.length):xs (mul d e)=xs d^^^xs e:=by
 rw [xs,xl_mul,xs,xs,pack_xor _ _ (by simp [VT,h])]
theorem zs_mul {d e:Wd} (h:d.length=e.length):zs (mul d e)=zs d^^^zs e:=by
 rw [zs,zl_mul,zs,zs,pack_xor _ _ (by simp [Vh,h])]
theorem see_fails {n:Nat} {gs:List Tx} {e:Wd} {M:List (List (Int×Int))} {wt:List Int} {bs:List Pq} {cs:List Int} (hw:∀w∈wds gs,w.length=n) (he:e.length=n) (hn:n≤12) (hk:gs.length≤12)
 (hM:Tells ((wds gs).map vec) M) (hb:InvL (wds gs) n (errs n) (wt,bs)) (hc:cs.length=n+1) :
 W.jP (pl e false) (wgt e:Int) bs (gs.map pw) M cs=some (bs,gs.map pw,M,stepC (wds gs) n cs e,()):=by
 have hsh:W.jV (gs.map pw) ((pl e false).1,(pl e false).2.1,(pl e false).2.2)=some (syn (wds gs) e):=shows_ok hw he hn hk false
 have hnum:W.Jf (syn (wds gs) e)=some (pack (ke (wds gs) e):Int):=by
  rw [syn_bits];exact kNumber_ok _ (by simp [ke,wds];omega)
 obtain ⟨d,hd,hl⟩:=dec_of (ws:=wds gs) he
 have hbs:bs[pack (ke (wds gs) e)]?=some (pl d false):=by
  rcases hb.2 (ke (wds gs) e) (Hu _ _) with ⟨h,_⟩ | ⟨d',h,_,g⟩
  ·rw [hd] at h;cases h
  ·rw [hd] at h;cases h;exact g
 have hid:idx bs (pack (ke (wds gs) e):Int)=some (pl d false):=by
  obtain ⟨h1,h2⟩:=List.getElem?_eq_some_iff.1 hbs
  rw [JJ h1,h2]
 have sd:=small_of hl hn
 have se:=small_of he hn
 have hm:(mul d e).length=n:=by rw [YU (by omega),hl]
 have sm:=small_of hm hn
 obtain ⟨r,hr1,hr2⟩:=tells_rest hM (v:=vec (mul d e)) (by unfold vec;omega)
 have hwt:=Hs e
 have hwn:wgt e<cs.length:=by omega
 have hb1:W.Jc ((pl e false).1,(pl e false).2.1,(pl e false).2.2)=some [(xs e:Int),(zs e:Int)]:=rfl
 have hv:W.JV (List.set (List.set (List.replicate 2 (0:Int)) 0 (ibits BinOp.xor IntKind.u64 (xs d:Int) (xs e:Int))) 1 (ibits BinOp.xor IntKind.u64 (zs d:Int) (zs e:Int)))=some (vec (mul d e):Int):=by
  rw [ixor64 (by omega) (by omega),ixor64 (by omega) (by omega),←xs_mul (by omega),←zs_mul (by omega)]
  exact vector_ok sm.1 sm.2
 have i0:∀a b:Int,inR ([a,b]:List Int).length (0:Int)=some ():=fun _ _=>rfl
 have i1:∀a b:Int,inR ([a,b]:List Int).length (1:Int)=some ():=fun _ _=>rfl
 have j0:∀a b:Int,idx ([a,b]:List Int) (0:Int)=some a:=fun _ _=>rfl
 have j1:∀a b:Int,idx ([a,b]:List Int) (1:Int)=some b:=fun _ _=>rfl
 simp only [W.jP,W.jP.c1,W.jP.c3,hsh,ja,hnum,uP,hid,bare_of,hb1]
 simp only [show ∀a b:Int,okIf (decide (([a,b]:List Int).length=(List.replicate 2 (0:Int)).length))=some () from fun _ _=>rfl,i0,i1,j0,j1,ja,hv,hr1,br_if]
 have hleft:((r:Int) !=0)=He (wds gs) n e:=by
  unfold He
  rw [hd]
  by_cases h0:r=0
  ·rw [h0];simp [hr2.1 h0]
  ·have:sp ((wds gs).map vec) (vec (mul d e))=false:=by
    cases hs:sp ((wds gs).map vec) (vec (mul d e)) with
    | true=>exact absurd (hr2.2 hs) h0
    | false=>rfl
   simp [this];exact h0
 rw [hleft,UH hwn,JJ hwn]
 simp only [ja,stepC,JW hwn,Int.toNat_natCast]
 split<;>rfl
noncomputable def Ff (f:Nat) (q w n:Int) (bs L:List Pq) (ls:List Int) (M:List (List (Int×Int))) (cs:List Int):Option (Int×List Pq×List Pq×List Int×List (List (Int×Int))×List Int×Unit):=
 (W.je.fuel f).F (q,w,n,bs,L,ls,M,cs,())
theorem fails_rec {n:Nat} {gs:List Tx} {M:List (List (Int×Int))} {wt:List Int} {bs:List Pq} (hw:∀w∈wds gs,w.length=n) (hn:1≤n∧n≤12) (hk:gs.length≤12)
 (hM:Tells ((wds gs).map vec) M) (hb:InvL (wds gs) n (errs n) (wt,bs)) :
 ∀(k f:Nat) (p:Wd) (ls:List Int) (cs:List Int),p.length+k=n→k<f→ls.length=n+1→ls.take (p.length+1)=lett p→cs.length=n+1 →
 ∃ls',Ff f (p.length:Int) (wgt p:Int) (n:Int) bs (gs.map pw) ls M cs=some ((n:Int),bs,gs.map pw,ls',M,((errs k).map (p ++ ·)).foldl (stepC (wds gs) n) cs,())∧ls'.length=n+1∧ls'.take (p.length+1)=lett p:=by
 intro k
 induction k with
 | zero=>
   intro f p ls cs hp hf hl ht hst
   obtain ⟨f,rfl⟩:∃g,f=g+1:=⟨f-1,by omega⟩
   have hp:p.length=n:=by omega
   refine ⟨ls,?_,hl,ht⟩
   have hls:ls=lett p:=by rw [←ht,hp,←hl,List.take_length]
   show @W.je (W.je.fuel f) (p.length:Int) (wgt p:Int) (n:Int) bs (gs.map pw) ls M cs=_
   simp only [W.je,uP,br_if]
   rw [if_pos (by simp [hp]),hls,lett_text,lett_read hp hn,ja]
   rw [show W.jP ((pl p false).1,(pl p false).2.1,(pl p false).2.2) (wgt p:Int) bs (gs.map pw) M cs=_ from see_fails hw hp hn.2 hk hM hb hst]
   simp [errs,ja]
 | succ k ih=>
   intro f p ls cs hp hf hl ht hst
   obtain ⟨f,rfl⟩:∃g,f=g+1:=⟨f-1,by omega⟩
   have hp:p.length<n:=by omega
   show ∃ls',@W.je (W.je.fuel f) (p.length:Int) (wgt p:Int) (n:Int) bs (gs.map pw) ls M cs=_∧_
   simp only [W.je,uP,br_if]
   rw [if_neg (by simp;omega)]
   obtain ⟨x,h1,ls',h2,h3,h4⟩:=Ud (f:=fun s ↦ @W.je.cb_ (W.je.fuel f) _ (p.length:Int) (wgt p:Int) [(73:Int),(88:Int),(89:Int),(90:Int)] (↑(4:Nat):Int) (Prod.fst s) (Prod.fst (Prod.snd s)) (Prod.fst (Prod.snd (Prod.snd s))) (Prod.fst (Prod.snd (Prod.snd (Prod.snd s)))) (Prod.fst (Prod.snd (Prod.snd (Prod.snd (Prod.snd s))))) (Prod.fst (Prod.snd (Prod.snd (Prod.snd (Prod.snd (Prod.snd s)))))) (Prod.snd (Prod.snd (Prod.snd (Prod.snd (Prod.snd (Prod.snd s)))))) some) 4
    (fun i s=>∃ls',s=((i:Int),(n:Int),bs,gs.map pw,ls',M,((L4.take i).flatMap fun a=>(errs k).map fun e=>p++a::e).foldl (stepC (wds gs) n) cs)∧ls'.length=n+1∧ls'.take (p.length+1)=lett p)
    (fun x=>∃ls',x=((4:Int),(n:Int),bs,gs.map pw,ls',M,(L4.flatMap fun a=>(errs k).map fun e=>p++a::e).foldl (stepC (wds gs) n) cs)∧ls'.length=n+1∧ls'.take (p.length+1)=lett p)
    (by
     rintro i s hi ⟨ls',rfl,g1,g2⟩
     have hset:(ls'.set (p.length+1) (((enc (L4[i]'hi)).toNat:Nat):Int)).take ((p++[L4[i]'hi]).length+1)=lett (p++[L4[i]'hi]):=by
      rw [List.length_append,List.length_singleton,lett_take (by omega),g2,UI]
     obtain ⟨ls2,k1,k2,k3⟩:=ih f (p++[L4[i]'hi]) (ls'.set (p.length+1) (((enc (L4[i]'hi)).toNat:Nat):Int)) (((L4.take i).flatMap fun a=>(errs k).map fun e=>p++a::e).foldl (stepC (wds gs) n) cs) (by simp;omega) (by omega) (by simpa using g1) hset (by rw [foldC_len];exact hst)
     simp only [W.je.cb_,W.je.co_,br_if,letter_at hi,ja,uP]
     rw [if_pos (by simp;omega),ji (by omega),kE (by omega) (by omega),ja,show ((p.length:Int)+1)=((p.length+1:Nat):Int) by omega,JJ (by omega),ja,weigh p _ (by omega),ja,Int.toNat_natCast]
     rw [List.length_append,List.length_singleton] at k1
     refine .inl ⟨_,Vx (show @W.je.self (W.je.fuel f) (((p.length+1:Nat):Int),((wgt (p++[L4[i]'hi]):Nat):Int),(n:Int),bs,gs.map pw,ls'.set (p.length+1) (((enc (L4[i]'hi)).toNat:Nat):Int),M,((L4.take i).flatMap fun a=>(errs k).map fun e=>p++a::e).foldl (stepC (wds gs) n) cs,())=some _ from k1) rfl,ls2,?_,k2,?_⟩
     ·rw [ji (by omega),List.take_succ_eq_append_getElem (show i<L4.length from hi),List.flatMap_append,List.foldl_append]
      simp
      rfl
     ·have:=congrArg (List.take (p.length+1)) k3
      rw [List.take_take,UI,List.take_append_of_le_length (by rw [UW];omega)] at this
      rw [show min (p.length+1) ((p++[L4[i]'hi]).length+1)=p.length+1 by simp] at this
      rw [this,List.take_of_length_le (by rw [UW];omega)])
    (by
     rintro s ⟨ls',rfl,g1,g2⟩
     simp only [W.je.cb_,br_if]
     rw [if_neg (by simp)]
     exact ⟨_,rfl,ls',rfl,g1,g2⟩)
    (s:=((0:Int),(n:Int),bs,gs.map pw,ls,M,cs)) ⟨ls,rfl,hl,ht⟩
   rw [h1,h2]
   refine ⟨ls',?_,h3,h4⟩
   have he:(errs (k+1)).map (p ++ ·)=L4.flatMap fun a=>(errs k).map fun e=>p++a::e:=by
    rw [errs,List.map_flatMap]
    congr 1
    funext a
    rw [List.map_map]
    rfl
   rw [he]
   rfl
def YF (ws:List Wd) (n:Nat):List Int:=(errs n).foldl (stepC ws n) (List.replicate (n+1) 0)
theorem errsf_ok {n:Nat} {gs:List Tx} {M:List (List (Int×Int))} {wt:List Int} {bs:List Pq} (hw:∀w∈wds gs,w.length=n) (hn:1≤n∧n≤12) (hk:gs.length≤12)
 (hM:Tells ((wds gs).map vec) M) (hb:InvL (wds gs) n (errs n) (wt,bs)) :
 W.Ju (n:Int) bs (gs.map pw) M (List.replicate (n+1) 0)=some (bs,gs.map pw,M,YF (wds gs) n,()):=by
 obtain ⟨ls',h1,_,_⟩:=fails_rec hw hn hk hM hb n 16 [] ((List.replicate (n+1) (0:Int)).set 0 43) (List.replicate (n+1) 0) (by simp) (by omega) (by simp) (by simp [lett,txt,List.replicate_succ]) (by simp)
 simp only [W.Ju,uP]
 rw [ji (by omega),jB (by simp;omega),ja,show ((n:Int)+1)=((n+1:Nat):Int) by omega,Int.toNat_natCast,kE (by simp) (by simp),ja,show idx (List.replicate (n+1) (0:Int)) 0=some 0 from rfl,ja]
 refine Vx (show W.ky ((0:Int),(0:Int),(n:Int),bs,gs.map pw,(List.replicate (n+1) (0:Int)).set 0 43,M,List.replicate (n+1) 0,())=some _ from h1) ?_
 simp [YF]
theorem stepC_room {ws:List Wd} {n b:Nat} {cs:List Int} {e:Wd} (hb:b<1000000) (h:∀x∈cs,0≤x∧x≤(b:Int)):∀x∈stepC ws n cs e,0≤x∧x≤((b+1:Nat):Int):=by
 intro x hx
 unfold stepC at hx
 split at hx
 ·rcases List.mem_or_eq_of_mem_set hx with hx | rfl
  ·have:=h x hx;omega
  ·have:0≤cs.getD (wgt e) 0∧cs.getD (wgt e) 0≤(b:Int):=by
    by_cases hl:wgt e<cs.length
    ·rw [JW hl];exact h _ (List.getElem_mem hl)
    ·rw [List.getD_eq_getElem?_getD,List.getElem?_eq_none (by omega)];simp
   rw [ji (by omega)];omega
 ·have:=h x hx;omega
theorem foldC_room {ws:List Wd} {n:Nat}:∀(es:List Wd) (b:Nat) (cs:List Int),b+es.length<1000000→(∀x∈cs,0≤x∧x≤(b:Int)) → ∀x∈es.foldl (stepC ws n) cs,0≤x∧x≤((b+es.length:Nat):Int)
 | [],b,cs,_,h=>h
 | e::es,b,cs,hb,h=>by
   rw [List.length_cons] at hb
   have:=foldC_room (ws:=ws) (n:=n) es (b+1) (stepC ws n cs e) (by omega) (stepC_room (by omega) h)
   rw [List.foldl_cons,List.length_cons]
   rw [show b+(es.length+1)=b+1+es.length by omega]
   exact this
theorem counts_room {ws:List Wd} {n:Nat} (hn:n≤6):(YF ws n).length=n+1 ∧ ∀x∈YF ws n,0≤x∧x≤4096:=by
 have h4:(4:Nat)^n≤4096:=Nat.le_trans (Nat.pow_le_pow_right (by decide) hn) (by decide)
 refine ⟨by rw [YF,foldC_len];simp,fun x hx=>?_⟩
 have:=foldC_room (errs n) 0 (List.replicate (n+1) 0) (by rw [VJ];omega) (by intro y hy;rw [List.eq_of_mem_replicate hy];omega) x hx
 rw [VJ] at this
 omega
end Go.Ql
end

section
set_option maxHeartbeats 1000000
namespace Go.Ql
theorem YN (a b:Nat):tenTo (a+b)=tenTo a*tenTo b:=Nat.pow_add 10 a b
theorem VL {a b:Nat} (h:a≤b):tenTo a≤tenTo b:=Nat.pow_le_pow_right (by decide) h
theorem len_ten {B:Int} (hB:10000≤B) {x:Bool×List Int} {v:Int} (h:Rep B x v) (k:Nat) (hv:v.natAbs≤tenTo (4*k)):x.2.length≤k+1:=by
 by_cases hn:x.2=[]
 ·rw [hn];simp
 have h1:=Hr (by omega) h.dig h.last hn
 rw [h.absval (by omega)] at h1
 rcases Nat.lt_or_ge k (x.2.length-1) with hc | hc
 ·have h3:∀k:Nat,((tenTo (4*k):Nat):Int)≤B^k:=by
   intro k
   induction k with
   | zero=>simp [tenTo]
   | succ k ih=>
     rw [Int.pow_succ,show 4*(k+1)=4*k+4 by omega,YN,Int.natCast_mul]
     exact Int.mul_le_mul ih (by show (10000:Int)≤B;exact hB) (by decide) (Int.le_of_lt (pow_pos (by omega) k))
  have h4:=h3 (x.2.length-1)
  have h5:tenTo (4*(k+1))≤tenTo (4*(x.2.length-1)):=VL (by omega)
  rw [show 4*(k+1)=4*k+4 by omega,YN,show tenTo 4=10000 from rfl] at h5
  have h6:=tenTo_pos (4*k)
  generalize tenTo (4*k)=a at *
  generalize tenTo (4*(x.2.length-1))=b at *
  generalize B^(x.2.length-1)=c at *
  omega
 ·omega
def VF (x g:Fr) (A M:Int):Prop:=∃p q,FF x g p q 1601∧p*M=A*q
def Kt:Nat:=1600
theorem tight {x g:Fr} {p q:Int} {L:Nat} (h:FF x g p q L) (hp:p.natAbs≤tenTo (4*Kt)) (hq:q.natAbs≤tenTo (4*Kt)):FF x g p q 1601:=
 ⟨h.x1,h.x2,h.g1,h.g2,h.pos,len_ten (by decide) h.x1 Kt hp,len_ten (by decide) h.x2 Kt (by have:=h.pos;omega),len_ten (by decide) h.g1 Kt hp,len_ten (by decide) h.g2 Kt hq⟩
theorem low_small {u v A M:Int} (hv:v≠0) (hM:0<M) (h:u*M=A*v) :
 lowP u v*M=A*lowQ u v∧(lowP u v).natAbs≤A.natAbs∧(lowQ u v).natAbs≤M.natAbs:=by
 have h1:=low_cross u hv
 have h2:=low_gcd u hv
 have h3:=(low_facts u hv).1
 generalize lowP u v=p at *
 generalize lowQ u v=q at *
 have e:p*M=A*q:=by
  apply Int.eq_of_mul_eq_mul_right hv
  grind
 have hc:Nat.Coprime p.natAbs q.natAbs:=h2
 have en:p.natAbs*M.natAbs=A.natAbs*q.natAbs:=by rw [←Int.natAbs_mul,←Int.natAbs_mul,e]
 have dq:q.natAbs∣M.natAbs:=hc.symm.dvd_of_dvd_mul_left (by rw [en];exact Nat.dvd_mul_left _ _)
 have dp:p.natAbs∣A.natAbs:=hc.dvd_of_dvd_mul_right (by rw [←en];exact Nat.dvd_mul_right _ _)
 refine ⟨e,?_,Nat.le_of_dvd (by omega) dq⟩
 by_cases h0:A=0
 ·rw [h0,Int.zero_mul] at e
  rcases Int.mul_eq_zero.1 e with h | h
  ·rw [h];simp
  ·omega
 ·exact Nat.le_of_dvd (Int.natAbs_pos.2 h0) dp
theorem vf_mul {x g y h:Fr} {A M A' M':Int} (hx:VF x g A M) (hy:VF y h A' M') (hM:0<M*M') (b1:(A*A').natAbs≤tenTo (4*Kt)) (b2:(M*M').natAbs≤tenTo (4*Kt)) :
 ∃z k,W.whole_Frac_Mul x y=some z∧W.JY g h=some k∧VF z k (A*A') (M*M'):=by
 obtain ⟨p,q,f1,e1⟩:=hx
 obtain ⟨r,s,f2,e2⟩:=hy
 obtain ⟨z,k,h1,h2,h3⟩:=mul_ff f1 f2 (by omega)
 have hv:q*s≠0:=by have:=Int.mul_pos f1.pos f2.pos;omega
 obtain ⟨g1,g2,g3⟩:=low_small (A:=A*A') hv hM (show p*r*(M*M')=A*A'*(q*s) by
  grind)
 exact ⟨z,k,h1,h2,_,_,tight h3 (Nat.le_trans g2 b1) (Nat.le_trans g3 b2),g1⟩
theorem vf_add {x g y h:Fr} {A A' M:Int} (hx:VF x g A M) (hy:VF y h A' M) (hM:0<M) (b1:(A+A').natAbs≤tenTo (4*Kt)) (b2:M.natAbs≤tenTo (4*Kt)) :
 ∃z k,W.whole_Frac_Add x y=some z∧W.ka g h=some k∧VF z k (A+A') M:=by
 obtain ⟨p,q,f1,e1⟩:=hx
 obtain ⟨r,s,f2,e2⟩:=hy
 obtain ⟨z,k,h1,h2,h3⟩:=add_ff f1 f2 (by omega)
 have hv:q*s≠0:=by have:=Int.mul_pos f1.pos f2.pos;omega
 obtain ⟨g1,g2,g3⟩:=low_small (A:=A+A') hv hM (show (p*s+r*q)*M=(A+A')*(q*s) by
  grind)
 exact ⟨z,k,h1,h2,_,_,tight h3 (Nat.le_trans g2 b1) (Nat.le_trans g3 b2),g1⟩
theorem vf_sub {x g y h:Fr} {A A' M:Int} (hx:VF x g A M) (hy:VF y h A' M) (hM:0<M) (b1:(A-A').natAbs≤tenTo (4*Kt)) (b2:M.natAbs≤tenTo (4*Kt)) :
 ∃z k,W.whole_Frac_Sub x y=some z∧W.kh g h=some k∧VF z k (A-A') M:=by
 obtain ⟨p,q,f1,e1⟩:=hx
 obtain ⟨r,s,f2,e2⟩:=hy
 obtain ⟨z,k,h1,h2,h3⟩:=sub_ff f1 f2 (by omega)
 have hv:q*s≠0:=by have:=Int.mul_pos f1.pos f2.pos;omega
 obtain ⟨g1,g2,g3⟩:=low_small (A:=A-A') hv hM (show (p*s + -r*q)*M=(A-A')*(q*s) by
  grind)
 exact ⟨z,k,h1,h2,_,_,tight h3 (Nat.le_trans g2 b1) (Nat.le_trans g3 b2),g1⟩
theorem Hk (n:Int):lowP n 1=n∧lowQ n 1=1:=by
 have:Int.gcd n 1=1:=by simp
 unfold lowP lowQ
 rw [this];simp
theorem low_third:lowP 1 3=1∧lowQ 1 3=3:=by decide
theorem Uw {a b:Int} (ha:-100000≤a∧a≤100000) (hb:0<b∧b≤100000) (hl:lowP a b=a∧lowQ a b=b) :
 ∃u v x c d,W.whole_Of a=some u∧W.whole_Of b=some v∧W.whole_Over u v=some (x,0,0)∧W.Jt a=some c∧W.Jt b=some d∧FF x (c,d) a b 10:=by
 obtain ⟨u,u1,u2,u3⟩:=of_ok (n:=a) (by omega)
 obtain ⟨v,v1,v2,v3⟩:=of_ok (n:=b) (by omega)
 obtain ⟨c,c1,c2,c3⟩:=Ht (n:=a) (by omega)
 obtain ⟨d,d1,d2,d3⟩:=Ht (n:=b) (by omega)
 obtain ⟨z,k,z1,z2,z3⟩:=lowest_ff u2 v2 c2 d2 (L:=5) (by omega) (by omega) (by omega) (by omega) (by omega) (by omega)
 rw [hl.1,hl.2] at z3
 refine ⟨u,v,z,c,d,u1,v1,?_,c1,d1,⟨z3.x1,z3.x2,c2,d2,hb.1,by have:=z3.l1;omega,by have:=z3.l2;omega,by simp only;omega,by simp only;omega⟩⟩
 have hs:sgn b=1:=by unfold sgn;rw [if_neg (by omega),if_neg (by omega)]
 simp only [W.whole_Over,JA]
 rw [Hm v2,ja,hs,JQ (by decide),z1,ja]
theorem FF.vf {x g:Fr} {p q A M:Int} {L:Nat} (h:FF x g p q L) (hL:L≤1601) (e:p*M=A*q):VF x g A M:=
 ⟨p,q,⟨h.x1,h.x2,h.g1,h.g2,h.pos,by have:=h.l1;omega,by have:=h.l2;omega,by have:=h.l3;omega,by have:=h.l4;omega⟩,e⟩
end Go.Ql
end

section
set_option maxHeartbeats 1000000
namespace Go.Ql
def facs (P V:Int) (w:Nat):Nat→Int
 | 0=>1
 | i+1=>facs P V w i*(if i<w then P else V)
theorem facs_le {P V:Int} {w:Nat} (hP:P.natAbs≤tenTo 1001) (hV:V.natAbs≤tenTo 1001):∀i,(facs P V w i).natAbs≤tenTo (1001*i)
 | 0=>by simp [facs,tenTo]
 | i+1=>by
   rw [facs,Int.natAbs_mul,show 1001*(i+1)=1001*i+1001 by omega,YN]
   refine Nat.mul_le_mul (facs_le hP hV i) ?_
   split
   ·exact hP
   ·exact hV
theorem pow_le_ten {Q:Int} (hQ:Q.natAbs≤tenTo 1001):∀i:Nat,(Q^i).natAbs≤tenTo (1001*i)
 | 0=>by simp [tenTo]
 | i+1=>by
   rw [Int.pow_succ,Int.natAbs_mul,show 1001*(i+1)=1001*i+1001 by omega,YN]
   exact Nat.mul_le_mul (pow_le_ten hQ i) hQ
noncomputable def inC (w N:Int) (x y:Fr):Int×Bool×List Int×Bool×List Int→Option ((Int×Bool×List Int×Bool×List Int)⊕(Int×Bool×List Int×Bool×List Int)):=fun s=>
 W.jk.cI_ w N s.1 x.1.1 x.1.2 x.2.1 x.2.2 y.1.1 y.1.2 y.2.1 y.2.2 s.2.1 s.2.2.1 s.2.2.2.1 s.2.2.2.2 some
noncomputable def inR' (w N:Int) (x y:Fr):Int×Bool×List Int×Bool×List Int→Option ((Int×Bool×List Int×Bool×List Int)⊕(Int×Bool×List Int×Bool×List Int)):=fun s=>
 W.jm.cH_ w s.1 N x.1.1 x.1.2 x.2.1 x.2.2 y.1.1 y.1.2 y.2.1 y.2.2 s.2.1 s.2.2.1 s.2.2.2.1 s.2.2.2.2 some
def fl (i:Int) (x:Fr):Int×Bool×List Int×Bool×List Int:=(i,x.1.1,x.1.2,x.2.1,x.2.2)
theorem inC_fl (w N i:Int) (x y z:Fr):inC w N x y (fl i z)=W.jk.cI_ w N i x.1.1 x.1.2 x.2.1 x.2.2 y.1.1 y.1.2 y.2.1 y.2.2 z.1.1 z.1.2 z.2.1 z.2.2 some:=rfl
theorem inR_fl (w N i:Int) (x y z:Fr):inR' w N x y (fl i z)=W.jm.cH_ w i N x.1.1 x.1.2 x.2.1 x.2.2 y.1.1 y.1.2 y.2.1 y.2.2 z.1.1 z.1.2 z.2.1 z.2.2 some:=rfl
theorem inner_ok {t s y v x0 g0:Fr} {P Q V c:Int} {w N:Nat} (ht:VF t s P Q) (hy:VF y v V Q) (h0:VF x0 g0 c 1) (hc:0≤c∧c≤4096) (hN:N≤6) (hQ0:0<Q)
 (hP:P.natAbs≤tenTo 1001) (hV:V.natAbs≤tenTo 1001) (hQ:Q.natAbs≤tenTo 1001) :
 ∃x g,iter (inC (w:Int) (N:Int) t y) (fl 0 x0)=some (fl N x)∧iter (inR' (w:Int) (N:Int) s v) (fl 0 g0)=some (fl N g)∧VF x g (c*facs P V w N) (Q^N):=by
 have key:∀i:Nat,i≤N → ∃x g,VF x g (c*facs P V w i) (Q^i)∧(∀r,iter (inC (w:Int) (N:Int) t y) (fl i x)=some r→iter (inC (w:Int) (N:Int) t y) (fl 0 x0)=some r) ∧
  (∀r,iter (inR' (w:Int) (N:Int) s v) (fl i g)=some r→iter (inR' (w:Int) (N:Int) s v) (fl 0 g0)=some r):=by
  intro i
  induction i with
  | zero=>exact fun _=>⟨x0,g0,by simpa [facs] using h0,fun _ h=>h,fun _ h=>h⟩
  | succ i ih=>
    intro hi
    obtain ⟨x,g,h1,h2,h3⟩:=ih (by omega)
    have hM:0<Q^i*Q:=Int.mul_pos (pow_pos hQ0 i) hQ0
    have hb:∀A:Int,A.natAbs≤tenTo 1001→(c*facs P V w i*A).natAbs≤tenTo (4*Kt):=by
     intro A hA
     rw [Int.natAbs_mul,Int.natAbs_mul]
     refine Nat.le_trans (Nat.mul_le_mul (Nat.mul_le_mul (show c.natAbs≤tenTo 4 by show c.natAbs≤10000;omega) (facs_le hP hV i)) hA) ?_
     rw [←YN,←YN]
     exact VL (by show _≤4*1600;omega)
    have hm:(Q^i*Q).natAbs≤tenTo (4*Kt):=by
     rw [Int.natAbs_mul]
     refine Nat.le_trans (Nat.mul_le_mul (pow_le_ten hQ i) hQ) ?_
     rw [←YN]
     exact VL (by show _≤4*1600;omega)
    obtain ⟨x',g',k1,k2,k3⟩:∃z k,(if i<w then W.whole_Frac_Mul x t else W.whole_Frac_Mul x y)=some z∧(if i<w then W.JY g s else W.JY g v)=some k∧VF z k (c*facs P V w (i+1)) (Q^(i+1)):=by
     rw [facs,Int.pow_succ,←Int.mul_assoc]
     by_cases hw:i<w
     ·simp only [hw,if_true]
      exact vf_mul h1 ht hM (hb _ hP) hm
     ·simp only [hw,if_false]
      exact vf_mul h1 hy hM (hb _ hV) hm
    refine ⟨x',g',k3,fun r hr=>h2 r (YA (s':=fl ((i+1:Nat):Int) x') ?_ hr),fun r hr=>h3 r (YA (s':=fl ((i+1:Nat):Int) g') ?_ hr)⟩
    ·rw [inC_fl];simp only [W.jk.cI_,W.jk.cM_,JA]
     rw [jS (by omega)]
     by_cases hw:i<w
     ·rw [if_pos hw] at k1
      rw [jS (by omega),k1,ja,ja,ji (by omega)];rfl
     ·rw [if_neg hw] at k1
      rw [jO (by omega),k1,ja,ja,ji (by omega)];rfl
    ·rw [inR_fl];simp only [W.jm.cH_,W.jm.cL_,JA]
     rw [jS (by omega)]
     by_cases hw:i<w
     ·rw [if_pos hw] at k2
      rw [jS (by omega),k2,ja,ja,ji (by omega)];rfl
     ·rw [if_neg hw] at k2
      rw [jO (by omega),k2,ja,ja,ji (by omega)];rfl
 obtain ⟨x,g,h1,h2,h3⟩:=key N (Nat.le_refl _)
 refine ⟨x,g,h2 _ (Yq ?_),h3 _ (Yq ?_),h1⟩
 ·rw [inC_fl];simp only [W.jk.cI_]
  rw [jO (by omega)];rfl
 ·rw [inR_fl];simp only [W.jm.cH_]
  rw [jO (by omega)];rfl
def sums (P V:Int) (N:Nat) (cs:List Int):Nat→Int
 | 0=>0
 | w+1=>sums P V N cs w+cs.getD w 0*facs P V w N
theorem sums_le {P V:Int} {N:Nat} {cs:List Int} (hP:P.natAbs≤tenTo 1001) (hV:V.natAbs≤tenTo 1001) (hc:∀x∈cs,0≤x∧x≤4096):∀w,(sums P V N cs w).natAbs≤w*tenTo (4+1001*N)
 | 0=>by simp [sums]
 | w+1=>by
   rw [sums,Nat.succ_mul]
   refine Nat.le_trans (Int.natAbs_add_le _ _) (Nat.add_le_add (sums_le hP hV hc w) ?_)
   rw [Int.natAbs_mul,YN]
   refine Nat.mul_le_mul ?_ (facs_le hP hV N)
   show _≤10000
   rw [List.getD_eq_getElem?_getD]
   by_cases h:w<cs.length
   ·rw [List.getElem?_eq_getElem h]
    have:=hc _ (List.getElem_mem h)
    simp only [Option.getD_some];omega
   ·rw [List.getElem?_eq_none (by omega)];simp
noncomputable def outC (L N:Int) (cs:List Int) (x y:Fr):Int×Bool×List Int×Bool×List Int→Option ((Int×Bool×List Int×Bool×List Int)⊕(Int×Bool×List Int×Bool×List Int)):=fun s=>
 W.jk.cE_ L s.1 N x.1.1 x.1.2 x.2.1 x.2.2 y.1.1 y.1.2 y.2.1 y.2.2 s.2.1 s.2.2.1 s.2.2.2.1 s.2.2.2.2 cs some
noncomputable def outR (N:Int) (cs:List Int) (x y:Fr):Int×Bool×List Int×Bool×List Int→Option ((Int×Bool×List Int×Bool×List Int)⊕(Int×Bool×List Int×Bool×List Int)):=fun s=>
 W.jm.cs_ s.1 N x.1.1 x.1.2 x.2.1 x.2.2 y.1.1 y.1.2 y.2.1 y.2.2 s.2.1 s.2.2.1 s.2.2.2.1 s.2.2.2.2 cs some
theorem outC_fl (L N i:Int) (cs:List Int) (x y z:Fr):outC L N cs x y (fl i z)=W.jk.cE_ L i N x.1.1 x.1.2 x.2.1 x.2.2 y.1.1 y.1.2 y.2.1 y.2.2 z.1.1 z.1.2 z.2.1 z.2.2 cs some:=rfl
theorem outR_fl (N i:Int) (cs:List Int) (x y z:Fr):outR N cs x y (fl i z)=W.jm.cs_ i N x.1.1 x.1.2 x.2.1 x.2.2 y.1.1 y.1.2 y.2.1 y.2.2 z.1.1 z.1.2 z.2.1 z.2.2 cs some:=rfl
theorem outer_ok {t s y v x0 g0:Fr} {P Q V:Int} {N:Nat} {cs:List Int} (ht:VF t s P Q) (hy:VF y v V Q) (h0:VF x0 g0 0 (Q^N)) (hl:cs.length=N+1) (hc:∀x∈cs,0≤x∧x≤4096) (hN:N≤6) (hQ0:0<Q)
 (hP:P.natAbs≤tenTo 1001) (hV:V.natAbs≤tenTo 1001) (hQ:Q.natAbs≤tenTo 1001) :
 ∃x g,iter (outC (cs.length:Int) (N:Int) cs t y) (fl 0 x0)=some (fl ((N+1:Nat):Int) x)∧iter (outR (N:Int) cs s v) (fl 0 g0)=some (fl ((N+1:Nat):Int) g)∧VF x g (sums P V N cs (N+1)) (Q^N):=by
 have key:∀w:Nat,w≤N+1 → ∃x g,VF x g (sums P V N cs w) (Q^N)∧(∀r,iter (outC (cs.length:Int) (N:Int) cs t y) (fl w x)=some r→iter (outC (cs.length:Int) (N:Int) cs t y) (fl 0 x0)=some r) ∧
  (∀r,iter (outR (N:Int) cs s v) (fl w g)=some r→iter (outR (N:Int) cs s v) (fl 0 g0)=some r):=by
  intro w
  induction w with
  | zero=>exact fun _=>⟨x0,g0,h0,fun _ h=>h,fun _ h=>h⟩
  | succ w ih=>
    intro hi
    obtain ⟨x,g,h1,h2,h3⟩:=ih (by omega)
    have hwl:w<cs.length:=by omega
    have hcw:=hc _ (List.getElem_mem hwl)
    obtain ⟨a,b,o,c,d,o1,o2,o3,o4,o5,o6⟩:=Uw (a:=cs[w]) (b:=1) (by omega) (by omega) (Hk _)
    obtain ⟨tx,tg,k1,k2,k3⟩:=inner_ok (w:=w) (N:=N) ht hy (o6.vf (A:=cs[w]) (M:=1) (by omega) rfl) hcw hN hQ0 hP hV hQ
    obtain ⟨x',g',m1,m2,m3⟩:=vf_add h1 k3 (pow_pos hQ0 N) (by
     have:=sums_le (N:=N) hP hV hc (w+1)
     rw [sums,JW hwl] at this
     refine Nat.le_trans this (Nat.le_trans (Nat.mul_le_mul_right _ (show w+1≤tenTo 1 by show _≤10;omega)) ?_)
     rw [←YN]
     exact VL (by show _≤4*1600;omega)) (Nat.le_trans (pow_le_ten hQ N) (VL (by show _≤4*1600;omega)))
    refine ⟨x',g',by rw [sums,JW hwl];exact m3,fun r hr=>h2 r (YA (s':=fl ((w+1:Nat):Int) x') ?_ hr),fun r hr=>h3 r (YA (s':=fl ((w+1:Nat):Int) g') ?_ hr)⟩
    ·rw [outC_fl];simp only [W.jk.cE_,JA]
     rw [jS (by omega),UH hwl,ja,JJ hwl,ja,o1,ja,o2,ja,o3,ja]
     simp only
     refine Vx (x:=fl N tx) k1 ?_
     show bnd (W.whole_Frac_Add x tx) _=_
     rw [m1,ja,ji (by omega)];rfl
    ·rw [outR_fl];simp only [W.jm.cs_,JA]
     rw [jS (by omega),UH hwl,ja,JJ hwl,ja,o4,ja,o5,ja]
     refine Vx (x:=fl N tg) k2 ?_
     show bnd (W.ka g tg) _=_
     rw [m2,ja,ji (by omega)];rfl
 obtain ⟨x,g,h1,h2,h3⟩:=key (N+1) (Nat.le_refl _)
 refine ⟨x,g,h2 _ (Yq ?_),h3 _ (Yq ?_),h1⟩
 ·rw [outC_fl];simp only [W.jk.cE_]
  rw [jO (by omega)];rfl
 ·rw [outR_fl];simp only [W.jm.cs_]
  rw [jO (by omega)];rfl
end Go.Ql
end

section
set_option maxHeartbeats 1000000
namespace Go.Ql
theorem rcount_ok {n:Nat} {gs:List Tx} (hall:∀g∈gs,isP g n=true) (hn:1≤n∧n≤6) (hk:gs.length≤n) (G:List Tx) (hG:G=if wds gs=[] then [] else (grp n (wds gs)).map txt) :
 iter (fun s:Int×List Int↦W.jm.cd_ G ((errs n).map txt) (Prod.fst s) (n:Int) gs (Prod.snd s) some) ((0:Int),List.replicate (n+1) (0:Int))=some (((errs n).length:Int),YF (wds gs) n):=by
 have hw:=UE hall
 have hl:(wds gs).length=gs.length:=by simp [wds]
 have hcnt:(errs n).length≤4096:=by rw [VJ];exact Nat.le_trans (Nat.pow_le_pow_right (by decide) hn.2) (by decide)
 refine VD (l:=errs n) (t0:=List.replicate (n+1) (0:Int)) (fun i t=>((i:Int),t)) (stepC (wds gs) n) (fun t=>(((errs n).length:Int),t)) ?_ ?_ rfl
 ·intro pre e r t hp ht
  have he:e.length=n:=VA (n:=n) (by rw [hp];simp)
  have hpl:pre.length<(errs n).length:=by rw [hp];simp
  have hid:idx ((errs n).map txt) (pre.length:Int)=some (txt e):=by
   rw [JJ (by simpa using hpl)]
   simp [hp]
  obtain ⟨d,hd,hdl⟩:=dec_of (ws:=wds gs) he
  have hdec:W.jJ ((n:Int),gs) (syn (wds gs) e) ((errs n).map txt)=some (txt d):=by
   rw [syn_bits,rdec_ok hall ⟨hn.1,by omega⟩ hk _ (by simp [ke,hl]),hd];rfl
  have htimes:W.jh (txt d) (txt e)=some (txt (mul d e)):=by
   rw [times_ok (UN d) (UN e) (by rw [kI,kI,hdl,he]) (by rw [kI];omega),Vs,Vs]
  have hm:(mul d e).length=n:=by rw [YU (by omega),hdl]
  have hgr:W.jZ G (txt (mul d e))=some (sp ((wds gs).map vec) (vec (mul d e))):=by
   rw [hG];exact ringroup_ok hw hm (by omega) (by omega)
  have htl:t.length=n+1:=by rw [ht,foldC_len];simp
  have hwt:=Hs e
  have hwn:wgt e<t.length:=by omega
  simp only [W.jm.cd_,W.jm.cac_,W.jm.c9,br_if,List.length_map,hid,ja,rsyn_ok hall he (by omega) (by omega),hdec,htimes,hgr]
  rw [if_pos (by simp;omega),rweight_ok e (by omega)]
  simp only [ja,UH hwn,JJ hwn,Int.toNat_natCast]
  have hu:(! sp ((wds gs).map vec) (vec (mul d e)))=He (wds gs) n e:=by unfold He;rw [hd]
  rw [hu]
  unfold stepC
  rw [JW hwn]
  by_cases h:He (wds gs) n e=true
  ·rw [if_pos h,if_pos h,ja,ji (x:=(pre.length:Int)+1) (by omega)];rfl
  ·rw [if_neg h,if_neg h,ja,ji (by omega)];rfl
 ·simp only [W.jm.cd_]
  rw [jO (by simp)]
theorem FF.mono {x g:Fr} {p q:Int} {L L':Nat} (h:FF x g p q L) (hL:L≤L'):FF x g p q L':=
 ⟨h.x1,h.x2,h.g1,h.g2,h.pos,Nat.le_trans h.l1 hL,Nat.le_trans h.l2 hL,Nat.le_trans h.l3 hL,Nat.le_trans h.l4 hL⟩
theorem well_ok {x g:Fr} {p q:Int} (h:FF x g p q 1001) (hp:p.natAbs≤Kf) (hq:q.natAbs≤Kf) :
 ∃u1 u3 o th c1 c3 m mr y yr,W.whole_Of 1=some u1∧W.whole_Of 3=some u3∧W.whole_Over u1 u1=some (o,0,0)∧W.whole_Over u3 u1=some (th,0,0)∧W.Jt 1=some c1∧W.Jt 3=some c3 ∧
  W.whole_Frac_Mul th x=some m∧W.JY (c3,c1) g=some mr∧W.whole_Frac_Sub o m=some y∧W.kh (c1,c1) mr=some yr∧VF x g p q∧VF y yr (q-3*p) q ∧
  p.natAbs≤tenTo 1001∧(q-3*p).natAbs≤tenTo 1001∧q.natAbs≤tenTo 1001:=by
 have e1:tenTo 1001=10*Kf:=by
  have:∀n,tenTo (n+1)=10*tenTo n:=fun n=>by rw [YN,Nat.mul_comm];rfl
  unfold Kf;exact this 1000
 have e2:tenTo 1001≤tenTo (4*Kt):=VL (by show 1001≤4*1600;omega)
 obtain ⟨u1,u1',o,c1,d1,a1,a2,a3,a4,a5,a6⟩:=Uw (a:=1) (b:=1) (by omega) (by omega) (Hk 1)
 rw [a1] at a2;cases a2
 rw [a4] at a5;cases a5
 obtain ⟨u3,u1',th,c3,d1,b1,b2,b3,b4,b5,b6⟩:=Uw (a:=3) (b:=1) (by omega) (by omega) (Hk 3)
 rw [a1] at b2;cases b2
 rw [a4] at b5;cases b5
 have hx:VF x g p q:=h.vf (by omega) (by rfl)
 obtain ⟨m,mr,m1,m2,m3⟩:=vf_mul (b6.vf (A:=3) (M:=1) (by omega) rfl) hx (by have:=h.pos;omega) (by omega) (by omega)
 rw [Int.one_mul] at m3
 obtain ⟨y,yr,y1,y2,y3⟩:=vf_sub (a6.vf (A:=q) (M:=q) (by omega) (Int.mul_comm _ _)) m3 h.pos (by omega) (by omega)
 exact ⟨u1,u3,o,th,c1,c3,m,mr,y,yr,a1,b1,a3,b3,a4,b4,m1,m2,y1,y2,hx,y3,by omega,by omega,by omega⟩
theorem both_ok {n:Nat} {gs:List Tx} {x g y yr:Fr} {p q:Int} (hx:VF x g p q) (hy:VF y yr (q-3*p) q) (hn:n≤6) (hq:0<q)
 (b1:p.natAbs≤tenTo 1001) (b2:(q-3*p).natAbs≤tenTo 1001) (b3:q.natAbs≤tenTo 1001) :
 ∃u0 u1 o c0 c1 z k l,W.whole_Of 0=some u0∧W.whole_Of 1=some u1∧W.whole_Over u0 u1=some (o,0,0)∧W.Jt 0=some c0∧W.Jt 1=some c1∧FF o (c0,c1) 0 1 10 ∧
  iter (outC ((YF (wds gs) n).length:Int) (n:Int) (YF (wds gs) n) x y) (fl 0 o)=some (fl ((n+1:Nat):Int) z)∧iter (outR (n:Int) (YF (wds gs) n) g yr) (fl 0 (c0,c1))=some (fl ((n+1:Nat):Int) k) ∧
  W.whole_Frac_Text z=some l∧W.JO k=some l:=by
 obtain ⟨u0,u1,o,c0,c1,a1,a2,a3,a4,a5,a6⟩:=Uw (a:=0) (b:=1) (by omega) (by omega) (Hk 0)
 have hc:=counts_room (ws:=wds gs) hn
 obtain ⟨z,k,h1,h2,s,t,h3,_⟩:=outer_ok hx hy (a6.vf (A:=0) (M:=q^n) (by omega) (by rw [Int.zero_mul,Int.zero_mul])) hc.1 hc.2 hn hq b1 b2 b3
 obtain ⟨l,l1,l2,_⟩:=ftext_ff h3 (by omega)
 exact ⟨u0,u1,o,c0,c1,z,k,l,a1,a2,a3,a4,a5,a6,h1,h2,l1,l2⟩
def fltF (n:Int) (gs:List Tx) (f:Int×Int) (p q:Int):Int×Int:=
 if (chkC n gs).1≠0 then chkC n gs else if f.1≠0 then (1,0) else if p<0∨q<3*p then (29,0) else if 6<n then (21,0) else (0,0)
theorem sgn_lt {v:Int}:decide (sgn v<0)=decide (v<0):=by
 unfold sgn;rw [decide_eq_decide];split
 ·omega
 ·split<;>omega
theorem sgn_gt0 {v:Int}:decide (sgn v>0)=decide (0<v):=by
 unfold sgn;rw [decide_eq_decide];split
 ·omega
 ·split<;>omega
theorem pfails_ok (n:Int) (gs:List Tx) (text:Tx) {x g:Fr} {f:Int×Int} {p q:Int} (h1:W.whole_ParseFrac text=some (x,f)) (hF:FF x g p q 1001) (hp:p.natAbs≤Kf) (hq:q.natAbs≤Kf) :
 ((fltF n gs f p q).1≠0∧W.jk (n,gs) text=some ([],fltF n gs f p q)) ∨
 (fltF n gs f p q=(0,0) ∧ ∃l,W.jk (n,gs) text=some (l,0,0)∧(n≤4 → ∃k,W.jm (n,gs) g=some k∧W.JO k=some l)):=by
 obtain ⟨L,r1,r2⟩:=pread_ok n gs
 obtain ⟨u1,u3,o,th,c1,c3,m,mr,y,yr,w1,w2,w3,w4,w5,w6,w7,w8,w9,w10,hx,hy,b1,b2,b3⟩:=well_ok hF hp hq
 have e0:Array.toList (ByteArray.data (ByteArray.mk #[]))=([]:List UInt8):=rfl
 unfold fltF
 simp only [W.jk,W.jk.c3,r1,ja,e0,JA]
 by_cases hc:(chkC n gs).1≠0
 ·rw [if_pos hc,ko (by simpa using hc)]
  exact .inl ⟨hc,rfl⟩
 rw [if_neg hc,JQ (by simpa using hc),h1,ja]
 by_cases hf:f.1≠0
 ·rw [if_pos hf,ko (by simpa using hf)]
  exact .inl ⟨by decide,rfl⟩
 rw [if_neg hf,JQ (by simpa using hf)]
 obtain ⟨u1',u3',third,_,_,t1,t2,t3,_,_,t6⟩:=Uw (a:=1) (b:=3) (by omega) (by omega) low_third
 rw [w1] at t1;cases t1
 rw [w2] at t2;cases t2
 obtain ⟨u0,u1',nought,c0,_,n1,n2,n3,n4,_,n6⟩:=Uw (a:=0) (b:=1) (by omega) (by omega) (Hk 0)
 rw [w1] at n2;cases n2
 have hc10:W.jk.c10 x.1.1 x.1.2 x.2.1 x.2.2 third.1.1 third.1.2 third.2.1 third.2.2 nought.1.1 nought.1.2 nought.2.1 nought.2.2 some=some (decide (p<0∨q<3*p)):=by
  simp only [W.jk.c10,JA]
  rw [(cmp_ff hF (n6.mono (show 10≤1001 by omega)) (by omega)).1,ja,sgn_lt]
  by_cases hneg:p<0
  ·rw [jS (by omega),decide_eq_true (by omega)]
  ·rw [jO (by omega),(cmp_ff hF (t6.mono (show 10≤1001 by omega)) (by omega)).1,ja,sgn_gt0]
   congr 1
   rw [decide_eq_decide];omega
 simp only [w1,w2,t3,n1,n3,w3,ja,hc10]
 by_cases hr:p<0∨q<3*p
 ·rw [if_pos hr,jS hr]
  exact .inl ⟨by decide,rfl⟩
 rw [if_neg hr,jO hr]
 by_cases h6:6<n
 ·rw [if_pos h6,jS h6]
  exact .inl ⟨by decide,rfl⟩
 rw [if_neg h6,jO h6]
 refine .inr ⟨rfl,?_⟩
 have hc0:(chkC n gs).1=0:=Classical.not_not.1 hc
 obtain ⟨_,N,rfl,hN1,hN2,hk,hall,_,_⟩:=chk_zero hc0
 have hw:=UE hall
 have hL:=r2 hc0
 subst hL
 obtain ⟨wt,bs,l1,l2⟩:=least_ok hw ⟨hN1,hN2⟩ (by omega) gs
 obtain ⟨M,s1,s2⟩:=span_ok hw hN2 (by omega)
 obtain ⟨v0,v1,o',c0',c1',z,k,l,k1,k2,k3,k4,k5,k6,k7,k8,k9,k10⟩:=both_ok (gs:=gs) hx hy (n:=N) (by omega) hF.pos b1 b2 b3
 rw [n1] at k1;cases k1
 rw [w1] at k2;cases k2
 rw [n3] at k3;cases k3
 rw [n4] at k4;cases k4
 rw [w5] at k5;cases k5
 have hcl:=(counts_room (ws:=wds gs) (n:=N) (by omega)).1
 have c14:W.jk.c14 (N:Int) gs (gs.map pw) some=some (bs,M):=by
  simp only [W.jk.c14,l1,ja,s1]
 have c18:W.jk.c18 x.1.1 x.1.2 x.2.1 x.2.2 o.1.1 o.1.2 o.2.1 o.2.2 th.1.1 th.1.2 th.2.1 th.2.2 some=some (y.1.1,y.1.2,y.2.1,y.2.2):=by
  simp only [W.jk.c18,JA,w7,ja,w9]
 refine ⟨l,?_,fun h4=>⟨k,?_,k10⟩⟩
 ·rw [c14,ja,ji (by omega),jB (by simp;omega),ja,show ((N:Int)+1).toNat=N+1 by omega]
  rw [errsf_ok hw ⟨hN1,hN2⟩ (by omega) s2 l2,ja]
  simp only [w4,ja,c18]
  refine Vx (x:=fl ((N+1:Nat):Int) z) k7 ?_
  show bnd (W.whole_Frac_Text z) _=_
  rw [k9,ja]
 ·have hgl:gs.length≤8796093022208:=by omega
  have hb:W.kb gs=some ((wds gs).map txt):=by
   rw [bare_ok gs (fun g hg=>by have:=(UR (hall g hg)).1;omega) hgl,wds_txt hall]
  have c4:W.jm.c4 g.1.1 g.1.2 g.2.1 g.2.2 some=some (yr.1.1,yr.1.2,yr.2.1,yr.2.2):=by
   simp only [W.jm.c4,w5,w6,ja,JA,w8,w10]
  simp only [W.jm,hb,ja,group_ok hw (show (wds gs).length≤12 by simp [wds];omega) hN2,rerrors_ok N (by omega),n4,w5,c4]
  rw [ji (by omega),jB (by simp;omega),ja,show ((N:Int)+1).toNat=N+1 by omega]
  refine Vx (rcount_ok hall ⟨hN1,by omega⟩ hk _ rfl) ?_
  refine Vx (x:=fl ((N+1:Nat):Int) k) k8 ?_
  rfl
end Go.Ql
end

section
set_option maxHeartbeats 1000000
namespace Go.Ql
theorem fails_law (n:Int) (gs:List Tx) (text:Tx) (hg:WTxs gs) (hn:n<9223372036854775808) (ht:text.length≤140737488355328):W.jg (n,gs) text=some true:=by
 obtain ⟨x,g,f,p,q,h1,h2,hF,hp,hq⟩:=fparse_ok text (by omega)
 obtain ⟨u1,u3,third,c1,c3,t1,t2,t3,t4,t5,t6⟩:=Uw (a:=1) (b:=3) (by omega) (by omega) low_third
 have e0:Array.toList (ByteArray.data (ByteArray.mk #[]))=([]:List UInt8):=rfl
 have hsame:∀a b:Int×Int,Ty.eqT (Ty.pair (Ty.int IntKind.i64) (Ty.int IntKind.i64)) a b=decide (a=b):=eqT_pair
 have c5:W.jg.cS_ (chkC n gs).1 (chkC n gs).2 f.1 some=some (if (chkC n gs).1≠0 then chkC n gs else if f.1≠0 then (1,0) else chkC n gs):=by
  simp only [W.jg.cS_,W.jg.c5]
  by_cases hc:(chkC n gs).1=0
  ·rw [ko (by simpa using hc),ja]
   by_cases hf:f.1=0
   ·rw [JQ (by simp [hf]),if_neg (by simpa using hc),if_neg (by simpa using hf)]
   ·rw [ko (by simpa using hf),if_neg (by simpa using hc),if_pos hf]
  ·rw [JQ (by simpa using hc),ja,JQ rfl,if_pos hc]
 have c7:∀k:Int×Int,W.jg.cm_ k.1 k.2 g.1.1 g.1.2 g.2.1 g.2.2 c1.1 c1.2 c3.1 c3.2 some=some (if k.1≠0 then k else if p<0∨q<3*p then (29,0) else k):=by
  intro k
  simp only [W.jg.cm_,W.jg.c7,W.Yc,JA,zsign_ok hF.g1,(cmp_ff hF (t6.mono (show 10≤1001 by omega)) (by omega)).2,ja,sgn_lt,sgn_gt0]
  by_cases hk:k.1=0
  ·rw [ko (by simpa using hk),if_neg (by simpa using hk)]
   by_cases hneg:p<0
   ·rw [jS hneg,ja,ko rfl,if_pos (Or.inl hneg)]
   ·rw [jO hneg,ja]
    by_cases hq3:q<3*p
    ·rw [jS (by omega),if_pos (Or.inr hq3)]
    ·rw [jO (by omega),if_neg (by omega)]
  ·rw [JQ (by simpa using hk),ja,JQ rfl,if_pos hk]
 have c9:∀k:Int×Int,W.jg.cw_ n k.1 k.2 some=some (if k.1≠0 then k else if 6<n then (21,0) else k):=by
  intro k
  simp only [W.jg.cw_,W.jg.c9]
  by_cases hk:k.1=0
  ·rw [ko (by simpa using hk),ja,if_neg (by simpa using hk)]
   by_cases h6:6<n
   ·rw [jS h6,if_pos h6]
   ·rw [jO h6,if_neg h6]
  ·rw [JQ (by simpa using hk),ja,JQ rfl,if_pos hk]
 have hflt:(if (if (if (chkC n gs).1≠0 then chkC n gs else if f.1≠0 then (1,0) else chkC n gs).1≠0 then (if (chkC n gs).1≠0 then chkC n gs else if f.1≠0 then (1,0) else chkC n gs) else if p<0∨q<3*p then (29,0) else (if (chkC n gs).1≠0 then chkC n gs else if f.1≠0 then (1,0) else chkC n gs)).1≠0 then
  (if (if (chkC n gs).1≠0 then chkC n gs else if f.1≠0 then (1,0) else chkC n gs).1≠0 then (if (chkC n gs).1≠0 then chkC n gs else if f.1≠0 then (1,0) else chkC n gs) else if p<0∨q<3*p then (29,0) else (if (chkC n gs).1≠0 then chkC n gs else if f.1≠0 then (1,0) else chkC n gs)) else if 6<n then (21,0) else
  (if (if (chkC n gs).1≠0 then chkC n gs else if f.1≠0 then (1,0) else chkC n gs).1≠0 then (if (chkC n gs).1≠0 then chkC n gs else if f.1≠0 then (1,0) else chkC n gs) else if p<0∨q<3*p then (29,0) else (if (chkC n gs).1≠0 then chkC n gs else if f.1≠0 then (1,0) else chkC n gs)))=fltF n gs f p q:=by
  unfold fltF
  by_cases hc:(chkC n gs).1=0
  ·rw [(chk_zero hc).1]
   by_cases hf:f.1=0
   ·by_cases hr:p<0∨q<3*p
    ·simp [hf,hr]
    ·simp [hf,hr]
   ·simp [hf]
  ·simp [hc]
 simp only [W.jg,JA,copyCode_ok n gs hg.1,rcheck_ok n gs hg hn,h2,t4,t5,ja,e0]
 have c11:∀a b:Int×Int,W.jg.c11 a.1 a.2 b.1 b.2 some=some (decide (a≠b)):=by
  intro a b
  simp only [W.jg.c11,begun_ok,ja,Bool.not_true,JA,hsame,decide_not]
  rfl
 rcases pfails_ok n gs text h1 hF hp hq with ⟨k1,k2⟩ | ⟨k1,l,k2,k3⟩
 ·rw [k2,ja,c5,ja,c7,ja,c9,ja]
  simp only [hflt]
  rw [c11,ja,jO (by simp),ko (by simpa using k1)]
  rfl
 ·rw [k2,ja,c5,ja,c7,ja,c9,ja]
  simp only [hflt,k1]
  rw [show W.jg.c11 (0:Int) (0:Int) (0:Int) (0:Int) some=some (decide (((0:Int),(0:Int))≠((0:Int),(0:Int)))) from c11 (0,0) (0,0),ja,jO (by simp),JQ (by decide)]
  simp only [W.jg.c15]
  by_cases h4:n≤4
  ·obtain ⟨k,m1,m2⟩:=k3 h4
   rw [jO (by omega),show W.jm (n,gs) ((g.1.1,g.1.2),g.2.1,g.2.2)=some k from m1,ja,m2,ja,ja]
   simp
  ·rw [jS (by omega),ja]
end Go.Ql
end

section
namespace Go.Ql
abbrev codeTy:Ty:=.st (.pair (.int .i64) (.sl .str))
theorem str_bytes:Ty.str.bytes=16:=by decide
theorem wint {n:Int} (h:Wf (.int .i64) n):n<9223372036854775808:=by
 have h:(Lit.int .i64 n).wf=true:=h
 simp only [Lit.wf,Bool.and_eq_true,decide_eq_true_eq] at h
 have h2:n≤9223372036854775807:=h.2
 omega
theorem wtxs {c:Int×List Tx} (h:Wf codeTy c):WTxs c.2∧c.1<9223372036854775808:=by
 obtain ⟨h0,h1,_,h2⟩:=h
 rw [str_bytes] at h1
 have h1:c.2.length*16≤140737488351232:=h1
 refine ⟨⟨by omega,fun g hg=>?_⟩,wint h0⟩
 have:g.length≤140737488351232:=h2 g hg
 omega
theorem fails_wf:∀x:dens [codeTy,.str],WfL [codeTy,.str] x→W.jg.ce.F x=some true:=by
 intro x h
 have h2:x.2.length≤140737488351232:=h.2
 exact fails_law x.1.1 x.1.2 x.2 (wtxs h.1).1 (wtxs h.1).2 (by omega)
end Go.Ql
end
