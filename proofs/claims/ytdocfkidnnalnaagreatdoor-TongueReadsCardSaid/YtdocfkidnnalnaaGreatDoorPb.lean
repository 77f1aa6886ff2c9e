/- Plain laws: the reference's tokens and readers. -/
import Derived.Test.YtdocfkidnnalnaaGreatDoorPa
import Derived.Test.YtdocfkidnnalnaaGreatDoorWc
set_option linter.all false
section
set_option maxRecDepth 4000
namespace W
open Go Go.Ql
theorem rdigit_ok (c:UInt8):kU (c.toNat:Int)=some (digt c):=VU (p:=fun c=>kU (c.toNat:Int)=some (digt c)) (by decide +kernel) c
theorem rletter_ok (c:UInt8):kS (c.toNat:Int)=some (lettr c):=VU (p:=fun c=>kS (c.toNat:Int)=some (lettr c)) (by decide +kernel) c
theorem rblk_ok (c:UInt8):jt.c8 (c.toNat:Int) some=some (blk1 c):=VU (p:=fun c=>jt.c8 (c.toNat:Int) some=some (blk1 c)) (by decide +kernel) c
theorem oneOf_ok (w:Z7) (l:List Z7) (hl:l.length≤1000):kX w l=some (l.elem w):=by
 have h:∃r,iter (fun s=>kX.ca_ w l s some) (0:Int)=some r∧((l.elem w=true ∧ ∃x,r=.inl x)∨(l.elem w=false ∧ ∃x,r=.inr x)):=by
  refine Vc (J:=fun s:Int=>∃n:Nat,s=n∧n≤l.length∧l.elem w=(l.drop n).elem w) (fun s:Int=>l.length-s.toNat) ?_ ⟨0,rfl,by omega,rfl⟩
  rintro s ⟨n,rfl,hn,he⟩
  by_cases h1:n<l.length
  ·rw [List.drop_eq_getElem_cons h1,List.elem_cons] at he
   cases hb:w==l[n] with
   | true=>
     rw [hb] at he
     refine .inl ⟨.inl (n:Int),?_,.inl ⟨by rw [he],_,rfl⟩⟩
     simp only [kX.ca_,JI (show (n:Int)<(l.length:Int) by omega),Hy h1,jc,show (l[n]==w)=true from beq_iff_eq.2 (beq_iff_eq.1 hb).symm,br_tt]
   | false=>
     rw [hb] at he
     simp only at he
     refine .inr ⟨((n+1:Nat):Int),?_,⟨n+1,rfl,by omega,he⟩,by omega⟩
     simp only [kX.ca_,JI (show (n:Int)<(l.length:Int) by omega),Hy h1,jc,show (l[n]==w)=false from beq_eq_false_iff_ne.2 (fun e=>by rw [e] at hb;simp at hb),br_ff]
     rw [kG (by omega)];rfl
  ·rw [List.drop_eq_nil_of_le (by omega)] at he
   refine .inl ⟨.inr (n:Int),?_,.inr ⟨he,_,rfl⟩⟩
   simp only [kX.ca_,JZ (show ¬(n:Int)<(l.length:Int) by omega)]
 obtain ⟨r,hr,hh⟩:=h
 unfold kX
 rw [hr,jc]
 rcases hh with ⟨e,x,rfl⟩ | ⟨e,x,rfl⟩<;>rw [e]<;>rfl
def wordP (c d:UInt8):Bool:=(digt d||(lettr d && !digt c))&&(lettr c||digt c)
theorem wordP_l {c:UInt8} (h:lettr c=true):wordP c=fun d=>lettr d||digt d:=by
 funext d
 unfold wordP
 rw [lettr_ne h,h]
 cases lettr d<;>cases digt d<;>rfl
theorem wordP_d {c:UInt8} (h:lettr c=false) (h':digt c=true):wordP c=digt:=by
 funext d
 unfold wordP
 rw [h',h]
 cases lettr d<;>cases digt d<;>rfl
theorem wordP_n {c:UInt8} (h:lettr c=false) (h':digt c=false):wordP c=fun _=>false:=by
 funext d
 unfold wordP
 rw [h',h]
 cases lettr d<;>cases digt d<;>rfl
theorem takeW_none {l:Z7}:l.takeWhile (fun _=>false)=[]:=by cases l<;>rfl
def keysL:List Z7:=[[113,117,98,105,116],[98,105,116],[99,111,110,115,116],[103,97,116,101],[102,111,114],[105,110],[119,104,101,110],[105,102],[101,108,115,101],[109,101,97,115,117,114,101],[114,101,115,101,116],[119,105,116,104,105,110],[97,112,112,108,121],[105,110,118],[99,116,114,108],[112,111,119],[115,105,122,101]]
def twosL:List Z7:=[[46,46],[45,62],[94,61],[61,61],[33,61],[60,61],[62,61],[42,42]]
def onesL:List Z7:=[[123],[125],[40],[41],[91],[93],[59],[44],[64],[61],[60],[62],[43],[45],[42],[47],[37],[33],[38],[124],[94]]
theorem keysL_eq:keysL=keysT:=by decide
theorem twosL_eq:twosL=twosT:=by decide
theorem onesL_eq (c:UInt8):onesL.elem [c]=onesT.elem c:=VU (p:=fun c=>onesL.elem [c]=onesT.elem c) (by decide +kernel) c
section
variable {text:Z7} (ht:text.length≤40000)
include ht
theorem w64_2 {i:Nat} (h:i≤text.length):IntKind.i64.wrap ((i:Int)+2)=((i+2:Nat):Int):=by
 rw [kG (by omega)];omega
theorem Nz {i k:Nat} (h:i+k≤text.length):List.drop (Int.toNat (i:Int)) (List.take (Int.toNat ((i+k:Nat):Int)) text)=(text.drop i).take k:=by
 rw [Int.toNat_natCast,Int.toNat_natCast,List.drop_take];congr 1;omega
theorem word_loop {i:Nat} {c:UInt8} {r:Z7} (h:text.drop i=c::r):iter (fun s=>jt.cH_ text (c.toNat:Int) s some) (i:Int)=some (((i+((c::r).takeWhile (wordP c)).length:Nat)):Int):=by
 have key:∀(j:Nat) (d:UInt8) (q:Z7),text.drop j=d::q→jt.c14 text (c.toNat:Int) (j:Int) some=some (wordP c d):=by
  intro j d q hj
  obtain ⟨e,hl,_⟩:=YB hj
  unfold jt.c14
  simp only [JI (show (j:Int)<(text.length:Int) by omega),e,jc,rdigit_ok,rletter_ok]
  unfold wordP
  cases digt d<;>cases lettr d<;>cases lettr c<;>cases digt c<;>rfl
 have:=while_iter (text:=text) (p:=wordP c) (f:=fun s=>jt.cH_ text (c.toNat:Int) s some) (fun j d q hj hp=>by
  obtain ⟨e,hl,_⟩:=YB hj
  simp only [jt.cH_,key j d q hj,hp,jc,br_tt,w64_1 ht hl]) (fun j d q hj hp=>by
  simp only [jt.cH_,key j d q hj,hp,jc,br_ff]) (by
  simp only [jt.cH_,jt.c14,JZ (Int.lt_irrefl _),jc,br_ff]) (text.length+1) i (by have:=(YB h).2.1;omega) (by omega)
 rw [h] at this
 exact this
theorem here_ok {i:Nat} {c:UInt8} {r:Z7} (h:text.drop i=c::r) :
 ∃b,jt.cX_ text keysL twosL onesL (i:Int) (c.toNat:Int) (((i+((c::r).takeWhile (wordP c)).length:Nat)):Int) ((c::r).takeWhile (wordP c)) 4 ((c::r).takeWhile (wordP c)) (i:Int) some
  = some (((i+(Yy (c::r)).2.length:Nat):Int),b,(Yy (c::r)).1,(Yy (c::r)).2,(i:Int)):=by
 obtain ⟨_,hi,_⟩:=YB h
 have hlen:text.length=i+(c::r).length:=by
  have:=congrArg List.length h
  rw [zq] at this;omega
 have hnn:∀k:Nat,¬(((i+(k+1):Nat):Int)==(i:Int))=true:=by intro k;simp;omega
 unfold jt.cX_
 rw [Ug]
 cases hc:lettr c with
 | true=>
   rw [wordP_l hc]
   have hp:=HO (p:=fun c=>lettr c||digt c) (c:=c) (r:=r) (by simp [hc])
   generalize hw:(c::r).takeWhile (fun c=>lettr c||digt c)=w at hp ⊢
   have e18:jt.c18 text twosL (i:Int) ((i+w.length:Nat):Int) some=some false:=by
    unfold jt.c18;rw [kI (by simp;omega)]
   have e21:jt.c21 text onesL (i:Int) ((i+w.length:Nat):Int) some=some false:=by
    unfold jt.c21;rw [kI (by simp;omega)]
   have e24:jt.c24 (i:Int) (c.toNat:Int) ((i+w.length:Nat):Int) w some=some false:=by
    unfold jt.c24;rw [JI (by omega),rdigit_ok,lettr_ne hc,jc,br_ff]
   have e26:jt.c26 (i:Int) (c.toNat:Int) ((i+w.length:Nat):Int) some=some true:=by
    unfold jt.c26;rw [JI (by omega),rletter_ok,hc,jc]
   rw [e18,jc,br_ff,e21,jc,br_ff,e24,jc,br_ff,e26,jc,br_tt,oneOf_ok w keysL (by decide),jc,if_pos rfl,keysL_eq]
   cases keysT.elem w<;>exact ⟨_,rfl⟩
 | false=>
   cases hd:digt c with
   | true=>
     rw [wordP_d hc hd]
     have hp:=HO (p:=digt) (c:=c) (r:=r) hd
     generalize hw:(c::r).takeWhile digt=w at hp ⊢
     have e18:jt.c18 text twosL (i:Int) ((i+w.length:Nat):Int) some=some false:=by
      unfold jt.c18;rw [kI (by simp;omega)]
     have e21:jt.c21 text onesL (i:Int) ((i+w.length:Nat):Int) some=some false:=by
      unfold jt.c21;rw [kI (by simp;omega)]
     have e24:jt.c24 (i:Int) (c.toNat:Int) ((i+w.length:Nat):Int) w some=some (!decide (w.length>9∨(w.length>1∧c=48))):=by
      unfold jt.c24;rw [JI (by omega),rdigit_ok,hd,jc,br_tt]
      have h48:((c.toNat:Int) !=(48:Int))=!(c==48):=congrArg not (HP c 48 (by omega))
      rw [h48]
      by_cases h9:w.length>9
      ·rw [JZ (by omega)];simp [h9]
      ·rw [JI (by omega)]
       by_cases h1:w.length=1
       ·rw [Yd (by simp [h1])];simp [h1]
       ·rw [kI (by simp;omega)]
        have:w.length>1:=by omega
        simp only [h9,this,true_and,false_or]
        by_cases hc8:c=48<;>simp [hc8]
     have e26:jt.c26 (i:Int) (c.toNat:Int) ((i+w.length:Nat):Int) some=some false:=by
      unfold jt.c26;rw [JI (by omega),rletter_ok,hc,jc]
     rw [e18,jc,br_ff,e21,jc,br_ff,e24,jc]
     simp only [zf,if_false,if_true]
     by_cases hb:w.length>9∨(w.length>1∧c=48)
     ·rw [zl hb,if_pos hb,Bool.not_true,br_ff,e26,jc,br_ff]
      exact ⟨_,rfl⟩
     ·rw [zm hb,if_neg hb,Bool.not_false,br_tt]
      exact ⟨_,rfl⟩
   | false=>
     rw [wordP_n hc hd,takeW_none]
     simp only [ze,Nat.add_zero,zf,if_false]
     have e24:jt.c24 (i:Int) (c.toNat:Int) (i:Int) [] some=some false:=by
      unfold jt.c24;rw [JZ (by omega)]
     have e26:jt.c26 (i:Int) (c.toNat:Int) (i:Int) some=some false:=by
      unfold jt.c26;rw [JZ (by omega)]
     have e18:jt.c18 text twosL (i:Int) (i:Int) some=some (twosT.elem ((c::r).take 2)):=by
      unfold jt.c18
      rw [Yd (by simp),w64_1 ht hi]
      cases r with
      | nil=>
        have:twosT.elem ([c].take 2)=false:=VU (p:=fun c=>twosT.elem ([c].take 2)=false) (by decide +kernel) c
        rw [this,JZ (by simp at hlen;omega)]
      | cons d r=>
        simp only [zd] at hlen
        rw [JI (by omega),w64_2 ht (by omega),Yl (by simp;omega),jc,Nz ht (by omega),h,oneOf_ok _ _ (by decide),jc,twosL_eq]
     rw [e18,jc]
     cases h2:twosT.elem ((c::r).take 2) with
     | true=>
       have hr:2≤(c::r).length:=by
        cases r with
        | nil=>
          have:twosT.elem ([c].take 2)=false:=VU (p:=fun c=>twosT.elem ([c].take 2)=false) (by decide +kernel) c
          rw [this] at h2;cases h2
        | cons d r=>simp
       rw [br_tt,w64_2 ht (by omega),Yl (by simp;omega),jc,Nz ht (by omega),h]
       have hl2:((c::r).take 2).length=2:=by rw [List.length_take];omega
       simp only [if_true]
       exact ⟨_,by rw [hl2]⟩
     | false=>
       have e21:jt.c21 text onesL (i:Int) (i:Int) some=some (onesT.elem c):=by
        unfold jt.c21
        rw [Yd (by simp),w64_1 ht hi,Yl (by simp;omega),jc,Nz ht (by omega),h,oneOf_ok _ _ (by decide),jc]
        exact congrArg some (onesL_eq c)
       rw [br_ff,e21,jc]
       simp only [zf,if_false]
       cases h1:onesT.elem c with
       | true=>
         rw [br_tt,w64_1 ht hi,Yl (by simp;omega),jc,Nz ht (by omega),h]
         exact ⟨_,rfl⟩
       | false=>
         rw [br_ff,e24,jc,br_ff,e26,jc,br_ff]
         exact ⟨_,rfl⟩
theorem rtokens_ok:jt text=some (toksT text):=by
 have inner:∀(j:Nat) (c:UInt8) (r:Z7),text.drop j=c::r→c≠10 → ∃k,iter (fun s=>jt.ck_ text s some) (j:Int)=some k ∧ ∃n:Nat,k=n∧j<n∧n≤text.length∧n+kB false (text.drop n)=j+kB true (text.drop j):=by
  intro j c r hj hc
  refine Vc (J:=fun s:Int=>∃n:Nat,s=n∧j≤n∧n≤text.length∧n+kB true (text.drop n)=j+kB true (text.drop j)) (fun s:Int=>text.length-s.toNat) ?_ ⟨j,rfl,zu _,by have:=(YB hj).2.1;omega,rfl⟩
  rintro s ⟨n,rfl,hn,hn',he⟩
  rcases VV text n hn' with ⟨e,h⟩ | ⟨d,q,h⟩
  ·refine .inl ⟨n,?_,n,rfl,?_,hn',?_⟩
   ·simp only [jt.ck_,jt.c11,JZ (show ¬(n:Int)<(text.length:Int) by omega),jc,br_ff]
   ·have:=(YB hj).2.1;omega
   ·rw [h] at he ⊢;exact he
  ·obtain ⟨e,hl,hq⟩:=YB h
   have e5:jt.c11 text (n:Int) some=some (!(d==10)):=by
    simp only [jt.c11,JI (show (n:Int)<(text.length:Int) by omega),e,jc]
    exact congrArg some (congrArg not (HP d 10 (by omega)))
   cases hd:d==10 with
   | true=>
     refine .inl ⟨n,?_,n,rfl,?_,hn',?_⟩
     ·simp only [jt.ck_,e5,hd,jc,Bool.not_true,br_ff]
     ·refine Nat.lt_of_le_of_ne hn fun hh=>?_
      subst hh
      rw [hj] at h;injection h with h1 h2
      subst h1;exact hc (beq_iff_eq.1 hd)
     ·rw [h] at he ⊢
      rw [kB] at he
      rw [show kB false (d::q)=if blk1 d then 1+kB false q else if d==47&&q.head? == some 47 then 1+kB true q else 0 from by rw [kB]]
      have hb:blk1 d=true:=by rw [beq_iff_eq.1 hd];rfl
      rw [hd] at he
      simp only [hb,if_true,Bool.not_true] at he ⊢
      exact he
   | false=>
     refine .inr ⟨((n+1:Nat):Int),?_,⟨n+1,rfl,by omega,by omega,?_⟩,by omega⟩
     ·simp only [jt.ck_,e5,hd,jc,Bool.not_false,br_tt,w64_1 ht hl]
     ·rw [h,kB,hd,Bool.not_false] at he
      rw [hq];omega
 have hT:=toksT_ok text
 have outer:∃y,iter (fun s:Int×List Tk=>jt.cf_ text keysL twosL onesL s.1 s.2 some) ((0:Int),[])=some y∧((∃i,y=.inl (i,toksT text)) ∨ ∃i out,y=.inr (i,out)∧out++[((0:Int),[],(text.length:Int))]=toksT text):=by
  refine Vc (J:=fun s:Int×List Tk=>∃n:Nat,s.1=n∧n≤text.length∧s.2++toksF text n=toksT text) (fun s:Int×List Tk=>text.length-s.1.toNat) ?_ ⟨0,rfl,by omega,rfl⟩
  rintro ⟨i,out⟩ ⟨n,h1,hn',he⟩
  dsimp only at h1 he
  subst h1
  rcases VV text n hn' with ⟨e,h⟩ | ⟨d,q,h⟩
  ·refine .inl ⟨.inr ((n:Int),out),?_,.inr ⟨_,_,rfl,?_⟩⟩
   ·simp only [jt.cf_,JZ (show ¬(n:Int)<(text.length:Int) by omega)]
   ·rw [←he]
    congr 1
    rw [UM]
    have hb:begT text n=text.length:=by unfold begT;rw [h];exact e
    have:tokF text n=((0:Int),[],(text.length:Int)):=by unfold tokF;rw [hb,List.drop_length];rfl
    rw [this];rfl
  ·obtain ⟨e,hl,hq⟩:=YB h
   have e4:jt.c10 text (n:Int) (d.toNat:Int) some=some (d==47&&q.head? == some 47):=by
    simp only [jt.c10]
    rw [show ((d.toNat:Int)==(47:Int))=(d==47) from HP d 47 (by omega)]
    cases hd:d==47 with
    | false=>rfl
    | true=>
      rw [br_tt,w64_1 ht hl]
      rcases VV text (n+1) (by omega) with ⟨e',h'⟩ | ⟨d',q',h'⟩
      ·rw [JZ (by omega)]
       rw [hq] at h';rw [h'];rfl
      ·obtain ⟨e'',hl',_⟩:=YB h'
       rw [JI (by omega),e'',jc]
       rw [hq] at h';rw [h']
       exact congrArg some ((HP d' 47 (by omega)).trans (by cases hh:d'==47<;>simp_all))
   have hbl:kB false (d::q)=if blk1 d then 1+kB false q else if d==47&&q.head? == some 47 then 1+kB true q else 0:=by rw [kB]
   cases hb:blk1 d with
   | true=>
     refine .inr ⟨(((n+1:Nat):Int),out),?_,⟨n+1,rfl,by omega,?_⟩,by simp only [Int.toNat_natCast];omega⟩
     ·simp only [jt.cf_,JI (show (n:Int)<(text.length:Int) by omega),e,jc,rblk_ok,hb,br_tt,w64_1 ht hl]
     ·dsimp only
      rw [←he];congr 1
      refine toksF_skip ?_
      unfold begT
      rw [hq,h,hbl,hb];simp only [if_true];omega
   | false=>
     cases hr:(d==47&&q.head? == some 47) with
     | true=>
       have hd:d=47:=by
        have:=(z7 _ _▸hr:_∧_).1
        exact beq_iff_eq.1 this
       obtain ⟨k,hk,m,rfl,hm,hm',hme⟩:=inner n d q h (by rw [hd];decide)
       refine .inr ⟨((m:Int),out),?_,⟨m,rfl,hm',?_⟩,by simp only [Int.toNat_natCast];omega⟩
       ·simp only [jt.cf_,JI (show (n:Int)<(text.length:Int) by omega),e,jc,rblk_ok,hb,br_ff,e4,hr,br_tt,hk]
       ·dsimp only
        rw [←he];congr 1
        refine toksF_skip ?_
        unfold begT
        rw [hme,h,hbl,hb,hr]
        rw [kB,hd]
        simp
     | false=>
       have hbeg:begT text n=n:=by unfold begT;rw [h,hbl,hb,hr];simp
       obtain ⟨b,e6⟩:=here_ok ht h
       have hlw:=Nj (p:=wordP d) (d::q)
       have hlen:text.length=n+(d::q).length:=by
        have:=congrArg List.length h
        rw [zq] at this;omega
       have htok:tokF text n=((Yy (d::q)).1,(Yy (d::q)).2,(n:Int)):=by unfold tokF;rw [hbeg,h]
       have hend:endF text n=n+(Yy (d::q)).2.length:=by unfold endF;rw [hbeg,h]
       have hout:out.length≤40001:=by
        have:=congrArg List.length he
        rw [z8] at this
        have:=hT.2;omega
       have hcut:List.drop (Int.toNat (n:Int)) (List.take (Int.toNat ((n+((d::q).takeWhile (wordP d)).length:Nat):Int)) text)=(d::q).takeWhile (wordP d):=by
        rw [Nz ht (by omega),h]
        exact (List.prefix_iff_eq_take.1 (List.takeWhile_prefix _)).symm
       have step:jt.cf_ text keysL twosL onesL (n:Int) out some=br ((Yy (d::q)).1==(4:Int)) (some (.inr (.inl ((n:Int),out++[tokF text n])))) (some (.inl (((n+(Yy (d::q)).2.length:Nat):Int),out++[tokF text n]))):=by
        simp only [jt.cf_,JI (show (n:Int)<(text.length:Int) by omega),e,jc,rblk_ok,hb,br_ff,e4,hr,word_loop ht h,hcut]
        rw [Yl (by simp;omega),jc,e6,jc,okIf_len ⟨by omega,by omega⟩,jc,htok]
       rw [UM] at he
       by_cases h4:(Yy (d::q)).1=4
       ·rw [Yd (by simpa using h4)] at step
        refine .inl ⟨.inl ((n:Int),out++[tokF text n]),step,.inl ⟨(n:Int),?_⟩⟩
        rw [if_pos (.inr (by rw [htok];exact h4))] at he
        rw [he]
       ·rw [kI (by simpa using h4)] at step
        have h0:(Yy (d::q)).1≠0:=fun h0=>by cases (tokenL_end (r:=d::q)).1 h0
        refine .inr ⟨(((n+(Yy (d::q)).2.length:Nat):Int),out++[tokF text n]),step,⟨n+(Yy (d::q)).2.length,rfl,?_,?_⟩,?_⟩
        ·have:=endF_le hn' (by rw [htok];exact h0) (by rw [htok];exact h4);omega
        ·dsimp only
         rw [if_neg (by rw [htok];simp only;omega),hend] at he
         rw [zn];exact he
        ·have:=tokenL_len h0 h4
         simp only [Int.toNat_natCast];omega
 obtain ⟨y,hy,hh⟩:=outer
 unfold jt
 refine Jk hy ?_
 rcases hh with ⟨i,rfl⟩ | ⟨i,out,rfl,ho⟩
 ·rfl
 ·have hout:out.length≤40001:=by
   have:=congrArg List.length ho
   rw [z8] at this
   have:=hT.2;omega
  rw [Yg]
  refine (Jk (okIf_len (n:=out.length+1) ⟨by omega,by omega⟩) ?_)
  exact congrArg some ho
end
end W
end

section
section
namespace Go.Ql
structure Rep (B:Int) (x:Bool×List Int) (v:Int):Prop where
 dig:Dig B x.2
 last:x.2≠[]→x.2.getD (x.2.length-1) 0≠0
 neg:x.1=true→x.2≠[]
 val:v=if x.1 then-val B x.2 else val B x.2
theorem VO (B:Int) {l:List Int} {n:Nat} (h:l.length≤n):val B (l.take n)=val B l:=by rw [List.take_of_length_le h]
theorem HE {B:Int} (neg:Bool) (mag:List Int) (h:Dig B mag) (hl:mag.length<1000000000000) :
 ∃r,W.km neg mag=some r∧Rep B r (if neg then-val B mag else val B mag)∧r.2.length≤mag.length:=by
 obtain ⟨n,h1,k,rfl,hk,hv,hz⟩:=Vc (f:=fun s↦W.km.ca_ mag s Option.some)
  (J:=fun n:Int=>∃k:Nat,n=k∧k≤mag.length∧val B (mag.take k)=val B mag)
  (Q:=fun n:Int=>∃k:Nat,n=k∧k≤mag.length∧val B (mag.take k)=val B mag∧(k≠0→mag.getD (k-1) 0≠0))
  Int.toNat (fun s ⟨k,hs,hk,hv⟩=>by
   subst hs
   simp only [W.km.ca_,W.km.c2]
   by_cases h0:k=0
   ·subst h0
    exact Or.inl ⟨_,by simp [br_ff,jc],0,rfl,hk,hv,fun h=>absurd rfl h⟩
   ·have hw:IntKind.i64.wrap ((k:Int)-1)=((k-1:Nat):Int):=by rw [kG (by omega)];omega
    have e1:=UV (xs:=mag) (k-1) hw (by omega)
    rw [e1,hw]
    simp only [jc,zl (by omega:(k:Int)>0),br_tt]
    by_cases hz:mag.getD (k-1) 0=0
    ·refine Or.inr ⟨_,by rw [hz];rfl,⟨k-1,rfl,by omega,?_⟩,by omega⟩
     have:=YJ B (k-1) mag
     rw [hz,show k-1+1=k by omega,Int.mul_zero] at this
     omega
    ·exact Or.inl ⟨_,by rw [beq_false_of_ne hz];rfl,k,rfl,hk,hv,fun _=>hz⟩)
  (s:=(mag.length:Int)) ⟨mag.length,rfl,zu _,VO B (zu _)⟩
 unfold W.km
 rw [h1]
 simp only [jc]
 by_cases h0:k=0
 ·subst h0
  refine ⟨(false,[]),by simp [br_tt],⟨Dig.nil,by simp,by simp,?_⟩,by simp⟩
  simp only [List.take_zero,val] at hv
  rw [←hv];simp [val]
 ·refine ⟨(neg,mag.take k),?_,⟨h.take k,fun _=>?_,fun _ e=>?_,?_⟩,by simp only [List.length_take];omega⟩
  ·have:((k:Int)==0)=false:=beq_false_of_ne (by omega)
   simp only [this,br_ff]
   rw [Yl (by simp;omega)]
   rfl
  ·have hlen:(mag.take k).length=k:=by rw [List.length_take];omega
   have:=hz h0
   rw [hlen]
   simp only [List.getD,List.getElem?_take] at this ⊢
   rw [if_pos (by omega)]
   exact this
  ·have:(mag.take k).length=0:=congrArg List.length e
   rw [List.length_take] at this
   omega
  ·simp only [hv]
end Go.Ql
end
section
namespace Go.Ql
theorem tdiv_pos {x d:Int} (h:0≤x):Int.tdiv x d=x / d:=Int.tdiv_eq_ediv_of_nonneg h
theorem tmod_pos {x d:Int} (h:0≤x):Int.tmod x d=x % d:=Int.tmod_eq_emod_of_nonneg h
theorem Ha {l:List Int} {i:Nat} (h:l.length≤i):l.getD i 0=0:=by rw [List.getD,List.getElem?_eq_none h];rfl
theorem dadd_ok (a b:List Int) (ha:Dig 10000 a) (hb:Dig 10000 b) (la:a.length<1000000000) (lb:b.length<1000000000) :
 ∃t,W.JU a b=some t∧Dig 10000 t∧t.length≤a.length+b.length+1∧val 10000 t=val 10000 a+val 10000 b:=by
 obtain ⟨⟨c,i,t⟩,h1,hd,hl,hv⟩:=Vc
  (f:=fun s:Int×Int×List Int↦W.JU.ce_ a b (Prod.fst s) (Prod.fst (Prod.snd s)) (Prod.snd (Prod.snd s)) Option.some)
  (J:=fun s=>(0≤s.1∧s.1≤1)∧s.2.1=s.2.2.length∧Dig 10000 s.2.2∧s.2.2.length≤max a.length b.length+1∧(s.2.2.length=max a.length b.length+1→s.1=0)∧val 10000 s.2.2+s.1*10000^s.2.2.length=val 10000 (a.take s.2.2.length)+val 10000 (b.take s.2.2.length))
  (Q:=fun s=>Dig 10000 s.2.2∧s.2.2.length≤a.length+b.length+1∧val 10000 s.2.2=val 10000 a+val 10000 b)
  (fun s=>2*(max a.length b.length+1-s.2.2.length)+s.1.toNat) (fun ⟨c,i',t⟩ ⟨hc,hi,hd,hl,hl0,hv⟩=>by
   simp only at hc hi hd hl hl0 hv ⊢
   subst hi
   simp only [W.JU.ce_]
   have e4:W.JU.c4 a b c (t.length:Int) Option.some=some (decide (t.length<a.length∨t.length<b.length∨0<c)):=by
    unfold W.JU.c4
    by_cases h1:t.length<a.length
    ·rw [JI (by omega)];simp [h1]
    ·rw [JZ (by omega)]
     by_cases h2:t.length<b.length
     ·rw [JI (by omega)];simp [h2]
     ·rw [JZ (by omega)];simp [h1,h2]
   rw [e4,jc]
   have dx:=ha.getD (by decide) t.length
   have dy:=hb.getD (by decide) t.length
   have e5:W.JU.cj_ a c (t.length:Int) Option.some=some (c+a.getD t.length 0):=by
    unfold W.JU.cj_
    by_cases h1:t.length<a.length
    ·rw [JI (by omega),UV t.length rfl h1,jc,kG (by omega)]
    ·rw [JZ (by omega),Ha (by omega)];simp
   have e6:W.JU.cp_ b (c+a.getD t.length 0) (t.length:Int) Option.some=some (c+a.getD t.length 0+b.getD t.length 0):=by
    unfold W.JU.cp_
    by_cases h1:t.length<b.length
    ·rw [JI (by omega),UV t.length rfl h1,jc,kG (by omega)]
    ·rw [JZ (by omega),Ha (l:=b) (by omega)];simp
   by_cases h0:t.length<a.length∨t.length<b.length∨0<c
   ·rw [JI h0]
    refine Or.inr ⟨(_,_,_),by rw [e5,jc,e6,jc,Yl (by simp;omega),jc,tmod_pos (by omega),tdiv_pos (by omega),kG (by omega)],⟨?_,?_,?_,?_,?_,?_⟩,?_⟩
    ·simp only;omega
    ·simp only [z8,zz];rw [kG (by omega)];omega
    ·exact hd.append (Dig.cons (by omega) Dig.nil)
    ·simp only [z8,zz];omega
    ·simp only [z8,zz]
     intro h2
     have h3:a.getD t.length 0=0:=Ha (by omega)
     have h4:b.getD t.length 0=0:=Ha (by omega)
     rw [h3,h4];omega
    ·have v1:=YJ 10000 t.length a
     have v2:=YJ 10000 t.length b
     have v3:=val_snoc 10000 t ((c+a.getD t.length 0+b.getD t.length 0) % 10000)
     have v5:c+a.getD t.length 0+b.getD t.length 0=(c+a.getD t.length 0+b.getD t.length 0) % 10000+10000*((c+a.getD t.length 0+b.getD t.length 0) / 10000):=(Int.emod_add_mul_ediv _ _).symm
     simp only [z8,zz,Int.pow_succ]
     rw [v1,v2,v3]
     generalize (10000:Int)^t.length=P at *
     generalize (c+a.getD t.length 0+b.getD t.length 0) % 10000=r at *
     generalize (c+a.getD t.length 0+b.getD t.length 0) / 10000=q at *
     generalize a.getD t.length 0=x at *
     generalize b.getD t.length 0=y at *
     grind
    ·simp only [z8,zz]
     by_cases h2:t.length<max a.length b.length
     ·omega
     ·have h3:a.getD t.length 0=0:=Ha (by omega)
      have h4:b.getD t.length 0=0:=Ha (by omega)
      rw [h3,h4];omega
   ·rw [JZ h0]
    refine Or.inl ⟨(_,_,_),rfl,hd,by simp only;omega,?_⟩
    have hc0:c=0:=by omega
    subst hc0
    rw [VO _ (by omega),VO _ (by omega)] at hv
    simp only
    omega)
  (s:=((0:Int),(0:Int),[])) ⟨by simp,rfl,Dig.nil,by simp,by simp,by simp [val]⟩
 unfold W.JU
 rw [h1]
 exact ⟨t,rfl,hd,hl,hv⟩
theorem dsub_ok (a b:List Int) (ha:Dig 10000 a) (hb:Dig 10000 b) (la:a.length<1000000000) (lb:b.length≤a.length) (hab:val 10000 b≤val 10000 a) :
 ∃t,W.kr a b=some t∧Dig 10000 t∧t.length=a.length∧val 10000 t=val 10000 a-val 10000 b:=by
 obtain ⟨⟨c,i,t⟩,h1,hc,hd,hl,hv⟩:=Vc
  (f:=fun s:Int×Int×List Int↦W.kr.ce_ a b (Prod.fst s) (Prod.fst (Prod.snd s)) (Prod.snd (Prod.snd s)) Option.some)
  (J:=fun s=>(0≤s.1∧s.1≤1)∧s.2.1=s.2.2.length∧Dig 10000 s.2.2∧s.2.2.length≤a.length∧val 10000 s.2.2=val 10000 (a.take s.2.2.length)-val 10000 (b.take s.2.2.length)+s.1*10000^s.2.2.length)
  (Q:=fun s=>(0≤s.1∧s.1≤1)∧Dig 10000 s.2.2∧s.2.2.length=a.length∧val 10000 s.2.2=val 10000 a-val 10000 b+s.1*10000^a.length)
  (fun s=>a.length-s.2.2.length) (fun ⟨c,i',t⟩ ⟨hc,hi,hd,hl,hv⟩=>by
   simp only at hc hi hd hl hv ⊢
   subst hi
   simp only [W.kr.ce_]
   have dx:=ha.getD (by decide) t.length
   have dy:=hb.getD (by decide) t.length
   by_cases h0:t.length<a.length
   ·have e5:W.kr.cv_ b (t.length:Int) (a.getD t.length 0-c) Option.some=some (a.getD t.length 0-c-b.getD t.length 0):=by
     unfold W.kr.cv_
     by_cases h1:t.length<b.length
     ·rw [JI (by omega),UV t.length rfl h1,jc,kG (by omega)]
     ·rw [JZ (by omega),Ha (l:=b) (by omega)];simp
    have e6:W.kr.cN_ 0 (a.getD t.length 0-c-b.getD t.length 0) Option.some=some (-((a.getD t.length 0-c-b.getD t.length 0) / 10000),(a.getD t.length 0-c-b.getD t.length 0) % 10000):=by
     unfold W.kr.cN_
     by_cases h1:a.getD t.length 0-c-b.getD t.length 0<0
     ·rw [JI h1,kG (by omega)]
      congr 1
      ext<;>simp only<;>omega
     ·rw [JZ h1]
      congr 1
      ext<;>simp only<;>omega
    rw [JI (by omega)]
    refine Or.inr ⟨(_,_,_),by rw [UV t.length rfl h0,jc,kG (x:=a.getD t.length 0-c) (by omega),e5,jc,e6,jc,Yl (by simp;omega),jc],⟨?_,?_,?_,?_,?_⟩,?_⟩
    ·simp only;omega
    ·simp only [z8,zz];rw [kG (by omega)];omega
    ·exact hd.append (Dig.cons (by simp only;omega) Dig.nil)
    ·simp only [z8,zz];omega
    ·have v1:=YJ 10000 t.length a
     have v2:=YJ 10000 t.length b
     have v3:=val_snoc 10000 t ((a.getD t.length 0-c-b.getD t.length 0) % 10000)
     have v5:a.getD t.length 0-c-b.getD t.length 0=(a.getD t.length 0-c-b.getD t.length 0) % 10000+10000*((a.getD t.length 0-c-b.getD t.length 0) / 10000):=(Int.emod_add_mul_ediv _ _).symm
     simp only [z8,zz,Int.pow_succ]
     rw [v1,v2,v3]
     generalize (10000:Int)^t.length=P at *
     generalize (a.getD t.length 0-c-b.getD t.length 0) % 10000=r at *
     generalize (a.getD t.length 0-c-b.getD t.length 0) / 10000=q at *
     generalize a.getD t.length 0=x at *
     generalize b.getD t.length 0=y at *
     grind
    ·simp only [z8,zz];omega
   ·rw [JZ (by omega)]
    have hl':t.length=a.length:=by omega
    rw [hl',VO _ (zu _),VO _ lb] at hv
    exact Or.inl ⟨(_,_,_),rfl,hc,hd,hl',hv⟩)
  (s:=((0:Int),(0:Int),[])) ⟨by simp,rfl,Dig.nil,by simp,by simp [val]⟩
 unfold W.kr
 rw [h1]
 simp only at hc hd hl hv
 have h2:=val_lt (by decide) hd
 rw [hl] at h2
 have hc0:c=0:=by
  rcases (by omega:c=0∨c=1) with h | h
  ·exact h
  ·subst h;omega
 subst hc0
 exact ⟨t,rfl,hd,hl,by omega⟩
end Go.Ql
end
section
namespace Go.Ql
def Trim (l:List Int):Prop:=l≠[]→l.getD (l.length-1) 0≠0
theorem val_ge {B:Int} (hB:1<B) {l:List Int} (h:Dig B l) (ht:Trim l) (hn:l≠[]):B^(l.length-1)≤val B l:=by
 have h0:l.length≠0:=fun e=>hn (zi e)
 have h1:=YJ B (l.length-1) l
 rw [show l.length-1+1=l.length by omega,List.take_length] at h1
 have h2:=h.getD (by omega) (l.length-1)
 have h3:=ht hn
 have h4:=Ub (by omega) (h.take (l.length-1))
 have h5:B^(l.length-1)*1≤B^(l.length-1)*l.getD (l.length-1) 0:=Int.mul_le_mul_of_nonneg_left (by omega) (Int.le_of_lt (Int.pow_pos (by omega)))
 omega
theorem ND {B:Int} (hB:1<B) {m n:Nat} (h:m≤n):B^m≤B^n:=by
 induction n with
 | zero=>rw [show m=0 by omega];exact Int.le_refl _
 | succ n ih=>
   by_cases e:m=n+1
   ·rw [e];exact Int.le_refl _
   ·have h1:=ih (by omega)
    have h2:0<B^n:=Int.pow_pos (by omega)
    rw [Int.pow_succ]
    have h3:B^n*1≤B^n*B:=Int.mul_le_mul_of_nonneg_left (by omega) (by omega)
    omega
theorem val_lt_of_len {B:Int} (hB:1<B) {a b:List Int} (ha:Dig B a) (hb:Dig B b) (tb:Trim b) (h:a.length<b.length):val B a<val B b:=by
 have h1:=val_lt (by omega) ha
 have h2:=val_ge hB hb tb (by intro e;rw [e] at h;simp at h)
 have h3:=ND hB (show a.length≤b.length-1 by omega)
 omega
theorem len_le {B:Int} (hB:1<B) {a b:List Int} (ha:Dig B a) (hb:Dig B b) (tb:Trim b) (h:val B b≤val B a):b.length≤a.length:=by
 by_cases h1:b.length≤a.length
 ·exact h1
 ·have:=val_lt_of_len hB ha hb tb (by omega);omega
theorem top_lt {B:Int} (hB:1<B) {a b:List Int} (ha:Dig B a) (hb:Dig B b) (k:Nat) (h:a.getD k 0<b.getD k 0):val B (a.take (k+1))<val B (b.take (k+1)):=by
 have h1:=YJ B k a
 have h2:=YJ B k b
 have h3:=val_lt (by omega) (ha.take k)
 have h4:=Ub (by omega) (hb.take k)
 have h5:=ND hB (show (a.take k).length≤k by rw [List.length_take];omega)
 have h6:B^k*(a.getD k 0+1)≤B^k*b.getD k 0:=Int.mul_le_mul_of_nonneg_left (by omega) (Int.le_of_lt (Int.pow_pos (by omega)))
 rw [Int.mul_add] at h6
 omega
def Ordered (x y c:Int):Prop:=(c=-1∧x<y)∨(c=0∧x=y)∨(c=1∧y<x)
theorem dcmp_ok (a b:List Int) (ha:Dig 10000 a) (hb:Dig 10000 b) (ta:Trim a) (tb:Trim b) (la:a.length<1000000000) (lb:b.length<1000000000) :
 ∃c,W.kA a b=some c∧Ordered (val 10000 a) (val 10000 b) c:=by
 unfold W.kA
 by_cases h1:a.length<b.length
 ·rw [Yd (bne_iff_ne.2 (by omega)),JI (by omega)]
  exact ⟨_,rfl,Or.inl ⟨rfl,val_lt_of_len (by decide) ha hb tb h1⟩⟩
 by_cases h2:b.length<a.length
 ·rw [Yd (bne_iff_ne.2 (by omega)),JZ (by omega)]
  exact ⟨_,rfl,Or.inr (Or.inr ⟨rfl,val_lt_of_len (by decide) hb ha ta h2⟩)⟩
 have hl:a.length=b.length:=by omega
 obtain ⟨r,h3,h4⟩:=Vc (f:=fun s:Int↦W.kA.cf_ a b s Option.some)
  (J:=fun i=>∃k:Nat,i=(k:Int)-1∧k≤a.length∧val 10000 a-val 10000 b=val 10000 (a.take k)-val 10000 (b.take k))
  (Q:=fun r=>Ordered (val 10000 a) (val 10000 b) (match r with | .inl u=>u.1 | .inr _=>0))
  (fun i=>(i+1).toNat) (fun i ⟨k,hi,hk,hv⟩=>by
   subst hi
   simp only [W.kA.cf_]
   by_cases h0:k=0
   ·subst h0
    rw [JZ (by omega)]
    refine Or.inl ⟨_,rfl,Or.inr (Or.inl ⟨rfl,?_⟩)⟩
    simp [val] at hv
    omega
   ·rw [JI (by omega)]
    have hk1:k-1+1=k:=by omega
    have e8:W.kA.c8 a b ((k:Int)-1) Option.some=some (decide (a.getD (k-1) 0<b.getD (k-1) 0)):=by
     unfold W.kA.c8
     rw [UV (k-1) (by omega) (by omega),jc,UV (k-1) (by omega) (by omega),jc]
    have e10:W.kA.c10 a b ((k:Int)-1) Option.some=some (decide (b.getD (k-1) 0<a.getD (k-1) 0)):=by
     unfold W.kA.c10
     rw [UV (k-1) (by omega) (by omega),jc,UV (k-1) (by omega) (by omega),jc]
    rw [e8,jc]
    by_cases h5:a.getD (k-1) 0<b.getD (k-1) 0
    ·have h6:=top_lt (by decide) ha hb (k-1) h5
     rw [hk1] at h6
     rw [JI h5]
     exact Or.inl ⟨_,rfl,Or.inl ⟨rfl,by omega⟩⟩
    ·rw [JZ h5,e10,jc]
     by_cases h7:b.getD (k-1) 0<a.getD (k-1) 0
     ·have h6:=top_lt (by decide) hb ha (k-1) h7
      rw [hk1] at h6
      rw [JI h7]
      exact Or.inl ⟨_,rfl,Or.inr (Or.inr ⟨rfl,by omega⟩)⟩
     ·rw [JZ h7,kG (by omega)]
      refine Or.inr ⟨(k:Int)-1-1,rfl,⟨k-1,by omega,by omega,?_⟩,by omega⟩
      have v1:=YJ 10000 (k-1) a
      have v2:=YJ 10000 (k-1) b
      have v3:a.getD (k-1) 0=b.getD (k-1) 0:=by omega
      rw [hk1] at v1 v2
      rw [v3] at v1
      omega)
  (s:=(a.length:Int)-1) ⟨a.length,rfl,zu _,by rw [VO _ (zu _),VO _ (by omega)]⟩
 rw [kI (by simp [hl]),kG (by omega),h3,jc]
 refine ⟨_,?_,h4⟩
 cases r<;>rfl
end Go.Ql
end
section
namespace Go.Ql
theorem zadd_ok {a b:Bool×List Int} {u v:Int} (ha:Rep 10000 a u) (hb:Rep 10000 b v) (la:a.2.length<100000000) (lb:b.2.length<100000000) :
 ∃r,W.kQ a b=some r∧Rep 10000 r (u+v)∧r.2.length≤a.2.length+b.2.length+1:=by
 obtain ⟨a0,a1⟩:=a
 obtain ⟨b0,b1⟩:=b
 simp only at la lb
 have va:=ha.val
 have vb:=hb.val
 simp only at va vb
 unfold W.kQ
 by_cases za:a1=[]
 ·subst za
  refine ⟨(b0,b1),rfl,?_,by simp only;omega⟩
  have:u=0:=by rw [va];simp [val]
  rw [this,Int.zero_add]
  exact hb
 have za':a1.length≠0:=fun e=>za (zi e)
 rw [kI (beq_false_of_ne (by show ((a1.length:Nat):Int)≠0;omega))]
 by_cases zb:b1=[]
 ·subst zb
  refine ⟨(a0,a1),rfl,?_,by simp only;omega⟩
  have:v=0:=by rw [vb];simp [val]
  rw [this,Int.add_zero]
  exact ha
 have zb':b1.length≠0:=fun e=>zb (zi e)
 rw [kI (beq_false_of_ne (by show ((b1.length:Nat):Int)≠0;omega))]
 by_cases h0:a0=b0
 ·subst h0
  obtain ⟨t,h1,h2,h3,h4⟩:=dadd_ok a1 b1 ha.dig hb.dig (by omega) (by omega)
  obtain ⟨r,h5,h6,h7⟩:=HE a0 t h2 (by omega)
  refine ⟨r,?_,?_,by show r.2.length≤a1.length+b1.length+1;omega⟩
  ·rw [Yd (beq_self_eq_true a0)]
   unfold W.kQ.c6
   rw [h1,jc,h5];rfl
  ·have:u+v=if a0=true then -val 10000 t else val 10000 t:=by rw [va,vb,h4];split<;>omega
   rw [this];exact h6
 ·have hb0:b0=!a0:=by cases a0<;>cases b0<;>simp_all
  rw [kI (beq_false_of_ne h0)]
  obtain ⟨c,h1,h2⟩:=dcmp_ok a1 b1 ha.dig hb.dig ha.last hb.last (by omega) (by omega)
  rw [h1,jc]
  by_cases hc:c≥0
  ·have hle:val 10000 b1≤val 10000 a1:=by rcases h2 with h | h | h<;>omega
   obtain ⟨t,h3,h4,h5,h6⟩:=dsub_ok a1 b1 ha.dig hb.dig (by omega) (len_le (by decide) ha.dig hb.dig hb.last hle) hle
   obtain ⟨r,h7,h8,h9⟩:=HE a0 t h4 (by omega)
   refine ⟨r,?_,?_,by show r.2.length≤a1.length+b1.length+1;omega⟩
   ·rw [JI hc]
    unfold W.kQ.c8
    rw [h3,jc,h7];rfl
   ·have:u+v=if a0=true then -val 10000 t else val 10000 t:=by rw [va,vb,h6,hb0];cases a0<;>simp<;>omega
    rw [this];exact h8
  ·have hle:val 10000 a1≤val 10000 b1:=by rcases h2 with h | h | h<;>omega
   obtain ⟨t,h3,h4,h5,h6⟩:=dsub_ok b1 a1 hb.dig ha.dig (by omega) (len_le (by decide) hb.dig ha.dig ha.last hle) hle
   obtain ⟨r,h7,h8,h9⟩:=HE b0 t h4 (by omega)
   refine ⟨r,?_,?_,by show r.2.length≤a1.length+b1.length+1;omega⟩
   ·rw [JZ hc]
    unfold W.kQ.c9
    rw [h3,jc,h7];rfl
   ·have:u+v=if b0=true then -val 10000 t else val 10000 t:=by rw [va,vb,h6,hb0];cases a0<;>simp<;>omega
    rw [this];exact h8
theorem zneg_ok {a:Bool×List Int} {u:Int} (ha:Rep 10000 a u) (la:a.2.length<100000000) :
 ∃r,W.UC a=some r∧Rep 10000 r (-u)∧r.2.length≤a.2.length:=by
 obtain ⟨r,h1,h2,h3⟩:=HE (!a.1) a.2 ha.dig (by omega)
 refine ⟨r,by unfold W.UC;rw [h1];rfl,?_,h3⟩
 have:-u=if (!a.1)=true then -val 10000 a.2 else val 10000 a.2:=by rw [ha.val];cases a.1<;>simp
 rw [this];exact h2
theorem zsub_ok {a b:Bool×List Int} {u v:Int} (ha:Rep 10000 a u) (hb:Rep 10000 b v) (la:a.2.length<100000000) (lb:b.2.length<100000000) :
 ∃r,W.YV a b=some r∧Rep 10000 r (u-v)∧r.2.length≤a.2.length+b.2.length+1:=by
 obtain ⟨n,h1,h2,h3⟩:=zneg_ok hb lb
 obtain ⟨r,h4,h5,h6⟩:=zadd_ok ha h2 la (by omega)
 refine ⟨r,?_,by rw [Int.sub_eq_add_neg];exact h5,by omega⟩
 unfold W.YV W.YV.c1
 rw [show ((b.1,b.2):Bool×List Int)=b from rfl,h1,jc,show ((a.1,a.2):Bool×List Int)=a from rfl,h4];rfl
def sgn (v:Int):Int:=if v<0 then -1 else if v=0 then 0 else 1
theorem Rep.pos {B:Int} (hB:1<B) {x:Bool×List Int} {v:Int} (h:Rep B x v) (hn:x.2≠[]):0<Ql.val B x.2:=by
 have h1:=val_ge hB h.dig h.last hn
 have h2:0<B^(x.2.length-1):=Int.pow_pos (by omega)
 omega
theorem Rep.sgn {B:Int} (hB:1<B) {x:Bool×List Int} {v:Int} (h:Rep B x v) :
 sgn v=if x.2.length=0 then 0 else if x.1 then -1 else 1:=by
 by_cases hn:x.2=[]
 ·have h1:=h.val
  rw [hn] at h1 ⊢
  have:v=0:=by rw [h1];simp [Ql.val]
  simp [this,Ql.sgn]
 ·have h1:=h.pos hB hn
  have h2:x.2.length≠0:=fun e=>hn (zi e)
  have h3:=h.val
  rw [if_neg h2]
  unfold Ql.sgn
  cases hx:x.1<;>simp only [hx,zf,if_false,if_true] at h3 ⊢ <;> split<;>(try split)<;>omega
theorem zsign_ok {a:Bool×List Int} {u:Int} (ha:Rep 10000 a u):W.Uh a=some (sgn u):=by
 rw [ha.sgn (by decide)]
 unfold W.Uh
 by_cases h:a.2.length=0
 ·rw [Yd (beq_iff_eq.2 (by omega)),if_pos h]
 ·rw [kI (beq_false_of_ne (by omega)),if_neg h];cases a.1<;>rfl
theorem zcmp_ok {a b:Bool×List Int} {u v:Int} (ha:Rep 10000 a u) (hb:Rep 10000 b v) (la:a.2.length<100000000) (lb:b.2.length<100000000) :
 W.Uw a b=some (sgn (u-v)):=by
 obtain ⟨r,h1,h2,h3⟩:=zsub_ok ha hb la lb
 unfold W.Uw
 rw [show ((b.1,b.2):Bool×List Int)=b from rfl,show ((a.1,a.2):Bool×List Int)=a from rfl,h1,jc,zsign_ok h2];rfl
end Go.Ql
end
section
namespace Go.Ql
def Nq (c:UInt8):Bool:=decide (48≤c.toNat)&&decide (c.toNat≤57)
theorem idx_text (text:Z7) (k:Nat) (h:k<text.length):idx text (k:Int)=some text[k]:=by
 unfold idx;simp [h]
end Go.Ql
end
section
namespace Go.Ql
def dg (c:UInt8):Int:=(c.toNat:Int)-48
def dec (l:Z7):Int:=l.foldl (fun n c=>n*10+dg c) 0
theorem dec_from (n:Int) (l:Z7):l.foldl (fun n c=>n*10+dg c) n=n*10^l.length+dec l:=by
 induction l generalizing n with
 | nil=>simp [dec]
 | cons c l ih=>
   have h1:=ih (n*10+dg c)
   have h2:=ih (0*10+dg c)
   simp only [dec,List.foldl_cons,zd,Int.pow_succ] at h1 h2 ⊢
   rw [h1,h2]
   grind
theorem dec_append (l m:Z7):dec (l++m)=dec l*10^m.length+dec m:=by
 unfold dec
 rw [List.foldl_append,dec_from];rfl
theorem dec_snoc (l:Z7) (c:UInt8):dec (l++[c])=dec l*10+dg c:=by
 rw [dec_append];simp [dec]
def HT (l:Z7):Prop:=∀c∈l,Nq c=true
theorem dg_of {c:UInt8} (h:Nq c=true):0≤dg c∧dg c≤9:=by
 simp only [Nq,z7,zk] at h
 unfold dg;omega
theorem dec_bound:∀{l:Z7},HT l→0≤dec l∧dec l<10^l.length
 | [],_=>by simp [dec]
 | c::l,h=>by
   have h1:=dec_bound (l:=l) (fun x hx=>h x (zw _ hx))
   have h2:=dg_of (h c (List.mem_cons_self ..))
   have h3:=dec_append [c] l
   have h4:dec [c]=dg c:=by simp [dec]
   rw [List.singleton_append,h4] at h3
   have h5:0<(10:Int)^l.length:=Int.pow_pos (by decide)
   have h6:dg c*10^l.length≤9*10^l.length:=Int.mul_le_mul_of_nonneg_right h2.2 (by omega)
   have h7:0≤dg c*10^l.length:=Int.mul_nonneg h2.1 (by omega)
   simp only [zd,Int.pow_succ]
   omega
theorem take_snoc {α:Type} {l:List α} {k:Nat} (h:k<l.length):l.take (k+1)=l.take k++[l[k]]:=by
 rw [List.take_add_one,Z4 h];rfl
end Go.Ql
end
section
namespace Go.Ql
theorem dec_cons (c:UInt8) (l:Z7):dec (c::l)=dg c*10^l.length+dec l:=by
 have h3:=dec_append [c] l
 have h4:dec [c]=dg c:=by simp [dec]
 rw [List.singleton_append,h4] at h3
 exact h3
end Go.Ql
end
section
namespace Go.Ql
theorem val_drop (B:Int):∀(i:Nat) (l:List Int),i<l.length→val B (l.drop i)=l.getD i 0+B*val B (l.drop (i+1))
 | _,[],h=>by simp at h
 | 0,d::l,_=>by simp [val]
 | i+1,d::l,h=>by
   have:=val_drop B i l (by simpa using h)
   simpa using this
def bytes (l:List Int):Z7:=l.map fun n↦UInt8.ofNat (Int.toNat n)
theorem byte_dg {d:Int} (h:0≤d∧d≤9):Nq (UInt8.ofNat (Int.toNat (48+d)))=true∧dg (UInt8.ofNat (Int.toNat (48+d)))=d:=by
 have h1:(UInt8.ofNat (Int.toNat (48+d))).toNat=Int.toNat (48+d):=by
  rw [UInt8.toNat_ofNat'];omega
 unfold Nq dg
 rw [h1]
 constructor
 ·simp;omega
 ·omega
def IsDec (l:Z7) (v:Int):Prop:=HT l∧l≠[]∧l.head? ≠ some 48∧dec l=v
def four (d:Int):List Int:=[48+d / 1000,48+d / 100 % 10,48+d / 10 % 10,48+d % 10]
theorem four_digits {d:Int} (h:0≤d∧d<10000):HT (bytes (four d))∧dec (bytes (four d))=d:=by
 have a:=byte_dg (d:=d / 1000) (by omega)
 have b:=byte_dg (d:=d / 100 % 10) (by omega)
 have c:=byte_dg (d:=d / 10 % 10) (by omega)
 have e:=byte_dg (d:=d % 10) (by omega)
 constructor
 ·intro x hx
  simp only [bytes,four,List.map_cons,List.map_nil,Z2,List.not_mem_nil,or_false] at hx
  rcases hx with rfl | rfl | rfl | rfl
  ·exact a.1
  ·exact b.1
  ·exact c.1
  ·exact e.1
 ·simp only [bytes,four,List.map_cons,List.map_nil,dec,List.foldl_cons,List.foldl_nil,a.2,b.2,c.2,e.2]
  omega
end Go.Ql
end
section
namespace Go.Ql
theorem bytes_len (l:List Int):(bytes l).length=l.length:=by simp [bytes]
theorem dec_skip:∀(k:Nat) (l:Z7),(∀j (h:j<l.length),j<k→l[j]=48)→dec (l.drop k)=dec l
 | 0,_,_=>rfl
 | k+1,[],_=>by simp
 | k+1,c::l,h=>by
   have h0:c=48:=h 0 (by simp) (by omega)
   rw [List.drop_succ_cons,dec_skip k l (fun j hj hk=>h (j+1) (by simpa using hj) (by omega)),dec_cons,h0]
   simp [dg]
theorem getD_byte (F:List Int) (j:Nat) (h:j<(bytes F).length):(bytes F)[j]=UInt8.ofNat (F.getD j 0).toNat:=by
 have h':j<F.length:=by rwa [bytes_len] at h
 simp [bytes,List.getD,h']
theorem IsDec.first {d:Int} (hd:0≤d∧d<10000) (h0:d≠0) {k:Nat} (hk:k≤3) (hz:∀j,j<k→(four d).getD j 0=48) (hn:k<3→(four d).getD k 0≠48):IsDec ((bytes (four d)).drop k) d:=by
 have hf:=four_digits hd
 have hl:(bytes (four d)).length=4:=by rw [bytes_len];rfl
 have hdec:dec ((bytes (four d)).drop k)=d:=by
  rw [dec_skip k _ (fun j hj hjk=>by rw [getD_byte,hz j hjk];rfl),hf.2]
 have hne:(bytes (four d)).drop k≠[]:=by
  intro e
  have:=congrArg List.length e
  rw [zq,hl] at this
  simp at this;omega
 refine ⟨fun c hc=>hf.1 c (List.mem_of_mem_drop hc),hne,fun e=>?_,hdec⟩
 by_cases h3:k<3
 ·rw [List.head?_drop,Z4 (by omega),getD_byte] at e
  have h5:=Option.some.inj e
  have hg:48≤(four d).getD k 0∧(four d).getD k 0≤57:=by
   rcases (by omega:k=0∨k=1∨k=2) with rfl | rfl | rfl<;>simp [four]<;>omega
  apply hn h3
  have h6:=congrArg UInt8.toNat h5
  rw [UInt8.toNat_ofNat'] at h6
  have h7:(48:UInt8).toNat=48:=rfl
  rw [h7] at h6
  omega
 ·have:∃c,(bytes (four d)).drop k=[c]:=by
   have hx:((bytes (four d)).drop k).length=1:=by rw [zq,hl];omega
   exact List.length_eq_one_iff.1 hx
  obtain ⟨c,hc⟩:=this
  rw [hc] at e hdec
  simp at e
  rw [e] at hdec
  apply h0
  rw [←hdec];rfl
end Go.Ql
end
section
namespace Go.Ql
theorem u64_mod {x:Int}:IntKind.u64.wrap x=x % 18446744073709551616:=by
 simp [IntKind.wrap,IntKind.signed,IntKind.bits]
theorem pair_eta {α β:Type} (p:α×β):(p.1,p.2)=p:=rfl
end Go.Ql
end
section
namespace Go.Ql
theorem Rep.nil {B:Int}:Rep B (false,[]) 0:=⟨Dig.nil,by simp,by simp,by simp [Ql.val]⟩
theorem Rep.absval {B:Int} (hB:0≤B) {x:Bool×List Int} {v:Int} (h:Rep B x v):Ql.val B x.2=(v.natAbs:Int):=by
 have h1:=Ub hB h.dig
 have h2:=h.val
 cases h0:x.1<;>simp only [h0,zf,if_false,if_true] at h2<;>omega
theorem Rep.eq_of {B:Int} {x:Bool×List Int} {u v:Int} (h:Rep B x u) (e:u=v):Rep B x v:=e▸h
end Go.Ql
end
section
namespace Go.Ql
theorem zof_ok {n:Int} (h:-9223372036854775808≤n∧n≤9223372036854775807) :
 ∃r,W.Yw n=some r∧Rep 10000 r n∧r.2.length≤5:=by
 unfold W.Yw
 have e:W.Yw.cb_ n (IntKind.u64.wrap n) Option.some=some (n.natAbs:Int):=by
  unfold W.Yw.cb_
  by_cases h0:n<0
  ·rw [JI h0,u64_mod,u64_mod];congr 1;omega
  ·rw [JZ h0,u64_mod];congr 1;omega
 rw [e,jc]
 have hB:(0:Int)<10000:=by decide
 obtain ⟨⟨u,d⟩,l1,l2,l3,l4⟩:=Vc
  (f:=fun s:Int×List Int↦W.Yw.cc_ (Prod.fst s) (Prod.snd s) Option.some)
  (J:=fun s=>0≤s.1∧s.1<10000^(5-s.2.length)∧s.2.length≤5∧Dig 10000 s.2∧val 10000 s.2+10000^s.2.length*s.1=(n.natAbs:Int))
  (Q:=fun s=>s.2.length≤5∧Dig 10000 s.2∧val 10000 s.2=(n.natAbs:Int))
  (fun s=>s.1.toNat) (fun ⟨u,d⟩ ⟨h1,h2,h3,h4,h5⟩=>by
   simp only at h1 h2 h3 h4 h5 ⊢
   unfold W.Yw.cc_
   by_cases h0:u>0
   ·have hl:d.length≠5:=fun e=>by rw [e] at h2;simp at h2;omega
    rw [JI h0,tmod_pos h1,tdiv_pos h1,kG (by omega),wrap_u64 (by
     have:(10000:Int)^(5-d.length)≤10000^5:=ND (by decide) (by omega)
     rw [show (10000:Int)^5=100000000000000000000 from rfl] at this
     have h7:u≤(n.natAbs:Int):=by
      have:1*u≤10000^d.length*u:=Int.mul_le_mul_of_nonneg_right (by have:=pow_pos hB d.length;omega) h1
      have:=Ub (B:=10000) (by decide) h4
      omega
     omega),Yl (by simp;omega),jc]
    refine Or.inr ⟨(_,_),rfl,⟨by simp only;omega,?_,by simp;omega,h4.append (Dig.cons (by omega) Dig.nil),?_⟩,by simp only;omega⟩
    ·simp only [z8,zd,ze]
     have e5:5-d.length=(5-(d.length+(0+1)))+1:=by omega
     rw [e5,Int.pow_succ] at h2
     omega
    ·simp only [z8,zd,ze]
     rw [val_snoc,Int.pow_succ,←h5]
     have:u=10000*(u / 10000)+u % 10000:=by omega
     generalize u / 10000=q at *
     generalize u % 10000=r at *
     subst this
     grind
   ·rw [JZ h0]
    have:u=0:=by omega
    subst this
    exact Or.inl ⟨(_,_),rfl,h3,h4,by simpa using h5⟩)
  (s:=((n.natAbs:Int),[])) ⟨by simp,by simp only [ze];rw [show (10000:Int)^(5-0)=100000000000000000000 from rfl];omega,by simp,Dig.nil,by simp [val]⟩
 simp only at l2 l3 l4
 obtain ⟨r,r1,r2,r3⟩:=HE (B:=10000) (decide (n<0)) d l3 (by omega)
 rw [l1,jc,r1]
 refine ⟨r,rfl,r2.eq_of ?_,by omega⟩
 rw [l4]
 by_cases h0:n<0
 ·rw [if_pos (zl h0)];omega
 ·rw [if_neg (by simpa using h0)];omega
end Go.Ql
end
section
namespace Go.Ql
def small (v:Int):Int×Bool:=if -9223372036854775808≤v∧v≤9223372036854775807 then (v,true) else (0,false)
theorem val_drop_le {B:Int} (hB:1≤B) {l:List Int} (h:Dig B l) (i:Nat):val B (l.drop i)≤val B l:=by
 induction i with
 | zero=>simp
 | succ i ih=>
   by_cases hi:i<l.length
   ·have h1:=val_drop B i l hi
    have h2:=h.getD (by omega) i
    have h3:=Ub (B:=B) (by omega) (h.drop (i+1))
    have h4:1*val B (l.drop (i+1))≤B*val B (l.drop (i+1)):=Int.mul_le_mul_of_nonneg_right hB h3
    omega
   ·rw [List.drop_eq_nil_of_le (by omega)]
    exact Ub (by omega) h
theorem sgn_lt {v:Int}:sgn v<0↔v<0:=by unfold sgn;split<;>(try split)<;>omega
theorem sgn_gt {v:Int}:sgn v>0↔v>0:=by unfold sgn;split<;>(try split)<;>omega
theorem zsmall_ok {a:Bool×List Int} {v:Int} (ha:Rep 10000 a v) (la:a.2.length<1000000):W.JS a=some (small v):=by
 unfold W.JS
 obtain ⟨o,o1,o2,o3⟩:=zof_ok (n:=-9223372036854775808) (by decide)
 obtain ⟨p,p1,p2,p3⟩:=zof_ok (n:=9223372036854775807) (by decide)
 have c1:W.JS.c1 a.1 a.2 some=some (decide (v < -9223372036854775808)||decide (v>9223372036854775807)):=by
  unfold W.JS.c1
  simp only [pair_eta]
  rw [o1,jc,zcmp_ok ha o2 (by omega) (by omega),jc,p1,jc,zcmp_ok ha p2 (by omega) (by omega),jc]
  by_cases h:v < -9223372036854775808
  ·rw [JI (sgn_lt.2 (by omega)),zl h];rfl
  ·rw [JZ (fun e=>by have:=sgn_lt.1 e;omega),zm h,Bool.false_or]
   congr 1
   rw [decide_eq_decide,sgn_gt]
   omega
 rw [c1,jc]
 unfold small
 by_cases h:-9223372036854775808≤v∧v≤9223372036854775807
 ·rw [kI (by simp;omega),if_pos h,kG (by omega)]
  have h6:=ha.absval (by decide)
  obtain ⟨⟨n,i⟩,l1,l2⟩:=Vc
   (f:=fun s:Int×Int↦W.JS.cc_ (Prod.fst s) (Prod.snd s) a.2 some)
   (J:=fun s=>∃k:Nat,k≤a.2.length∧s.2=(k:Int)-1∧s.1=- val 10000 (a.2.drop k))
   (Q:=fun s=>s.1=- val 10000 a.2)
   (fun s=>(s.2+1).toNat) (fun ⟨n,i⟩ ⟨k,h1,h2,h3⟩=>by
    simp only at h2 h3 ⊢
    subst h2;subst h3
    unfold W.JS.cc_
    by_cases h0:k=0
    ·subst h0
     rw [JZ (by omega)]
     exact Or.inl ⟨_,rfl,by simp⟩
    ·have hk:=val_drop 10000 (k-1) a.2 (by omega)
     rw [show k-1+1=k by omega] at hk
     have hle:=val_drop_le (B:=10000) (by decide) ha.dig (k-1)
     have hnn:=Ub (B:=10000) (by decide) (ha.dig.drop k)
     have hdg:=ha.dig.getD (by decide) (k-1)
     rw [JI (by omega),UV (k-1) (by omega) (by omega),jc,kG (x:=-val 10000 (a.2.drop k)*10000) (by omega),kG (by omega),kG (by omega)]
     exact Or.inr ⟨_,rfl,⟨k-1,by omega,by simp only;omega,by simp only;omega⟩,by simp only;omega⟩)
   (s:=((0:Int),(a.2.length:Int)-1)) ⟨a.2.length,zu _,rfl,by simp [val]⟩
  simp only at l2
  rw [l1,jc,l2]
  have h9:=ha.val
  have c2:W.JS.cp_ (-val 10000 a.2) a.1 some=some v:=by
   unfold W.JS.cp_
   cases hs:a.1 with
   | false=>
     rw [hs] at h9
     simp only [zf,if_false] at h9
     rw [Bool.not_false,br_tt,kG (by omega)]
     congr 1;omega
   | true=>
     rw [hs] at h9
     simp only [if_true] at h9
     rw [Bool.not_true,br_ff,h9]
  simp only
  rw [c2,jc]
 ·rw [Yd (by simp;omega),if_neg h]
end Go.Ql
end
section
set_option maxRecDepth 100000
set_option maxHeartbeats 2000000
namespace Go.Ql
theorem four_big (text:Z7) (h:HT text) (i:Nat) (hi:i≤text.length) (hL:text.length≤2000000) :
 ∃r:Int×Int,Go.Ql.iter (fun s:Int×Int↦W.Jt.cQ_ text (i:Int) (Prod.fst s) (Prod.snd s) Option.some) ((0:Int),(i:Int)-4)=some r∧r.1=dec ((text.take i).drop (i-4)):=
 Vc
  (f:=fun s:Int×Int↦W.Jt.cQ_ text (i:Int) (Prod.fst s) (Prod.snd s) Option.some)
  (J:=fun s=>(i:Int)-4≤s.2∧s.2≤i∧s.1=dec ((text.take s.2.toNat).drop (i-4)))
  (Q:=fun r=>r.1=dec ((text.take i).drop (i-4)))
  (fun s=>((i:Int)-s.2).toNat) (fun ⟨n,j⟩ ⟨h1,h2,h3⟩=>by
   simp only at h1 h2 h3 ⊢
   simp only [W.Jt.cQ_]
   by_cases h0:j<i
   ·have hw:IntKind.i64.wrap (j+1)=j+1:=kG (by omega)
    by_cases h4:0≤j
    ·obtain ⟨k,rfl⟩:∃k:Nat,j=k:=⟨j.toNat,by omega⟩
     rw [Int.toNat_natCast] at h3
     have hk:k<text.length:=by omega
     have hd:=dg_of (h _ (List.getElem_mem hk))
     have hb:=dec_bound (l:=(text.take k).drop (i-4)) (fun c hc=>h c (List.mem_of_mem_take (List.mem_of_mem_drop hc)))
     have h8:(10:Int)^((text.take k).drop (i-4)).length≤10^4:=ND (by decide) (by rw [zq,List.length_take];omega)
     have h9:(10:Int)^4=10000:=by decide
     rw [←h3] at hb
     unfold dg at hd
     have e:W.Jt.cq_ text n (k:Int) Option.some=some (n*10+((text[k].toNat:Int)-48)):=by
      unfold W.Jt.cq_
      rw [JI (by omega),idx_text _ k hk,jc,show IntKind.u8.wrap ((text[k].toNat:Int)-48)=(text[k].toNat:Int)-48 from IntWalk.u8_in _ (by omega),kG (x:=(text[k].toNat:Int)-48) (by omega),kG (x:=n*10) (by omega),kG (by omega)]
     refine Or.inr ⟨(_,_),by rw [JI h0,e,jc,hw],⟨by simp only;omega,by simp only;omega,?_⟩,by simp only;omega⟩
     simp only
     rw [show ((k:Int)+1).toNat=k+1 by omega,take_snoc hk,List.drop_append_of_le_length (by rw [List.length_take];omega),dec_snoc,h3];rfl
    ·have e:W.Jt.cq_ text n j Option.some=some n:=by
      unfold W.Jt.cq_
      rw [JZ (by omega)]
     refine Or.inr ⟨(_,_),by rw [JI h0,e,jc,hw],⟨by simp only;omega,by simp only;omega,?_⟩,by simp only;omega⟩
     simp only
     rw [h3,show j.toNat=0 by omega,show (j+1).toNat=0 by omega]
   ·refine Or.inl ⟨(_,_),by rw [JZ h0],?_⟩
    simp only
    rw [h3,show j.toNat=i by omega])
  (s:=((0:Int),(i:Int)-4)) ⟨by simp,by simp only;omega,by
   simp only
   rw [show ((i:Int)-4).toNat=i-4 by omega,List.drop_of_length_le (by rw [List.length_take];omega)];rfl⟩
theorem zdigits_big (text:Z7) (h:HT text) (hL:text.length≤2000000) :
 ∃r:Int×List Int,Go.Ql.iter (fun s:Int×List Int↦W.Jt.cf_ text (Prod.fst s) (Prod.snd s) Option.some) ((text.length:Int),[])=some r∧Dig 10000 r.2∧r.2.length≤text.length∧val 10000 r.2=dec text:=
 Vc
  (f:=fun s:Int×List Int↦W.Jt.cf_ text (Prod.fst s) (Prod.snd s) Option.some)
  (J:=fun s=>s.1=(text.length:Int)-4*s.2.length ∧ -4<s.1∧Dig 10000 s.2∧s.2.length≤text.length∧dec text=dec (text.take s.1.toNat)*10000^s.2.length+val 10000 s.2)
  (Q:=fun r=>Dig 10000 r.2∧r.2.length≤text.length∧val 10000 r.2=dec text)
  (fun s=>s.1.toNat) (fun ⟨i',d⟩ ⟨h1,h2,h3,h4,h5⟩=>by
   simp only at h1 h2 h3 h4 h5 ⊢
   simp only [W.Jt.cf_]
   by_cases h0:i'>0
   ·obtain ⟨i,rfl⟩:∃k:Nat,i'=k:=⟨i'.toNat,by omega⟩
    rw [Int.toNat_natCast] at h5
    have hi:i≤text.length:=by omega
    obtain ⟨⟨n,j⟩,h6,h7⟩:=four_big text h i hi (by omega)
    simp only at h7
    have hdg:HT ((text.take i).drop (i-4)):=fun c hc=>h c (List.mem_of_mem_take (List.mem_of_mem_drop hc))
    have hb:=dec_bound hdg
    have h8:(10:Int)^((text.take i).drop (i-4)).length≤10^4:=ND (by decide) (by rw [zq,List.length_take];omega)
    have h9:(10:Int)^4=10000:=by decide
    rw [←h7] at hb
    have hdec:dec (text.take i)=dec (text.take (i-4))*10000+n:=by
     have e1:text.take i=(text.take i).take (i-4)++(text.take i).drop (i-4):=(List.take_append_drop _ _).symm
     rw [e1,dec_append,←h7,List.take_take,Nat.min_eq_left (by omega)]
     by_cases h10:4≤i
     ·rw [show ((text.take i).drop (i-4)).length=4 by rw [zq,List.length_take];omega];rfl
     ·rw [show i-4=0 by omega];simp [dec]
    rw [JI h0,kG (x:=(i:Int)-4) (by omega),h6,jc]
    refine Or.inr ⟨(_,_),by rw [Yl (by simp;omega),jc],⟨by simp;omega,by simp only;omega,h3.append (Dig.cons (by simp only;omega) Dig.nil),by simp;omega,?_⟩,by simp only;omega⟩
    simp only [z8,zz,Int.pow_succ]
    rw [val_snoc,show ((i:Int)-4).toNat=i-4 by omega,h5,hdec]
    generalize (10000:Int)^d.length=P at *
    grind
   ·refine Or.inl ⟨(_,_),by rw [JZ h0],h3,h4,?_⟩
    rw [show i'.toNat=0 by omega,show dec (text.take 0)=0 from rfl] at h5
    simp only
    omega)
  (s:=((text.length:Int),[])) ⟨by simp,by simp only;omega,Dig.nil,by simp,by simp [val]⟩
end Go.Ql
end
end

section
set_option maxRecDepth 4000
namespace W
open Go Go.Ql
abbrev RS:=List Tk×Int×Int×Unit
inductive Sg where
 | good (ts:List Tk) | bad (e:Int)
def Lf {α:Type} (f:List Tk→Rd α):Sg→Rd α
 | .good ts=>f ts
 | .bad e=>.err e
def RSt (all:List Tk):Sg→RS→Prop
 | .good ts,q=>q.1=all∧q.2.2.1=-1 ∧ ∃j:Nat,q.2.1=j∧j<all.length∧all.drop j=ts
 | .bad e,q=>q.1=all∧q.2.2.1=e∧0≤e ∧ ∃j:Nat,q.2.1=j∧j<all.length
def RunE {α ρ:Type} (all:List Tk) (I:α→RS→ρ) (r:Option ρ):Rd α→Prop
 | .ok a us=>∃q,r=some (I a q)∧RSt all (.good us) q
 | .err e=>∃a q,r=some (I a q)∧RSt all (.bad e) q
 | .out=>True
abbrev RunF {α:Type} (all:List Tk) (r:Option (α×RS)) (s:Rd α):Prop:=RunE all Prod.mk r s
section
variable {all:List Tk}
theorem RunE.bind {α β ρ τ:Type} {I:α→RS→ρ} {J:β→RS→τ} {r:Option ρ} {s:Rd α} {g:α→List Tk→Rd β} {k:ρ→Option τ} (h:RunE all I r s)
 (hk:∀a σ q,RSt all σ q→(∀us,σ=.good us→s=.ok a us)→RunE all J (k (I a q)) (Lf (g a) σ)):RunE all J (bnd r k) (s.bind g):=by
 cases s with
 | ok a us=>
   obtain ⟨q,rfl,hq⟩:=h
   exact hk a (.good us) q hq (fun us' e=>by injection e with e;rw [e])
 | err e=>
   obtain ⟨a,q,rfl,hq⟩:=h
   exact hk a (.bad e) q hq (fun us' e=>by cases e)
 | out=>trivial
theorem RunE.ok {α ρ:Type} {I:α→RS→ρ} {a:α} {σ:Sg} {q:RS} (h:RSt all σ q):RunE all I (some (I a q)) (Lf (fun ts=>.ok a ts) σ):=by
 cases σ with
 | good ts=>exact ⟨q,rfl,h⟩
 | bad e=>exact ⟨a,q,rfl,h⟩
theorem JL {α β:Type} {s:List Tk→Rd α} {g:α→List Tk→Rd β} {σ:Sg}:Lf (fun ts=>(s ts).bind g) σ=(Lf s σ).bind g:=by cases σ<;>rfl
def seesS (w:Z7):Sg→Bool
 | .good ts=>seesT w ts
 | .bad _=>false
theorem Lf_if {α:Type} {w:Z7} {A B:List Tk→Rd α} {σ:Sg}:Lf (fun ts=>if seesT w ts=true then A ts else B ts) σ=if seesS w σ=true then Lf A σ else Lf B σ:=by
 cases σ with
 | good ts=>rfl
 | bad e=>simp [seesS,Lf]
theorem YM {w:Z7} {σ:Sg} (h:seesS w σ=true):∃ts,σ=.good ts∧seesT w ts=true:=by
 cases σ with
 | good ts=>exact ⟨ts,rfl,h⟩
 | bad e=>cases h
theorem Lf_tail {α:Type} {A:List Tk→Rd α} {ts:List Tk}:Lf (fun ts=>A ts.tail) (.good ts)=Lf A (.good ts.tail):=rfl
theorem Lf_eta {α:Type} {A:List Tk→Rd α} {σ:Sg}:Lf (fun ts=>A ts) σ=Lf A σ:=rfl
theorem tks_at {ts:List Tk} (h:TksOk ts) (j:Nat) (hj:j<ts.length):TkOk ts[j]∧(j+1<ts.length→ts[j].1≠0∧ts[j].1≠4)∧(j+1=ts.length→ts[j].1=0∨ts[j].1=4):=by
 induction ts generalizing j with
 | nil=>simp at hj
 | cons t l ih=>
   cases l with
   | nil=>
     have:j=0:=by simp at hj;omega
     subst this
     exact ⟨h.1,(fun h=>by simp at h),fun _=>h.2⟩
   | cons u l=>
     cases j with
     | zero=>exact ⟨h.1,fun _=>⟨h.2.1,h.2.2.1⟩,fun h=>by simp at h⟩
     | succ j=>
       have:=ih h.2.2.2 j (by simpa using hj)
       exact ⟨this.1,fun h=>this.2.1 (by simpa using h),fun h=>this.2.2 (by simpa using h)⟩
variable (hall:TksOk all) (hlen:all.length≤40001)
theorem RSt.idx {σ:Sg} {q:RS} (h:RSt all σ q):q.1=all ∧ ∃j:Nat,q.2.1=j∧j<all.length:=by
 cases σ with
 | good ts=>obtain ⟨h1,h2,j,h3,h4,h5⟩:=h;exact ⟨h1,j,h3,h4⟩
 | bad e=>obtain ⟨h1,h2,h3,j,h4,h5⟩:=h;exact ⟨h1,j,h4,h5⟩
include hall
theorem Vs {σ:Sg} {q:RS} (h:RSt all σ q):∃t,Jo q.1 q.2.1 q.2.2.1=some (t,q)∧TkOk t ∧ ∀ts,σ=.good ts→t=hdT ts:=by
 obtain ⟨h1,j,h2,h3⟩:=h.idx
 refine ⟨all[j],?_,(tks_at hall j h3).1,fun ts e=>?_⟩
 ·unfold Jo Jo.c1
  rw [h1,h2,Hy h3]
  exact congrArg some (Prod.ext rfl (by show (all,(j:Int),q.2.2.1,())=q;rw [←h1,←h2]))
 ·subst e
  obtain ⟨_,_,j',h4,h5,h6⟩:=h
  have:j'=j:=by rw [h2] at h4;omega
  subst this
  rw [←h6,List.drop_eq_getElem_cons h5]
  rfl
theorem is_ok {σ:Sg} {q:RS} (h:RSt all σ q) (w:Z7):Jn w q.1 q.2.1 q.2.2.1=some (seesS w σ,q):=by
 obtain ⟨t,e,_,ht⟩:=Vs hall h
 have:Jn.c1 w q.1 q.2.1 q.2.2.1 some=some (seesS w σ,q.1,q.2.1,q.2.2.1):=by
  unfold Jn.c1
  cases σ with
  | good ts=>
    rw [JI (by rw [h.2.1];decide),e,jc]
    have ht:=ht ts rfl
    subst ht
    rw [show seesS w (.good ts)=(decide ((hdT ts).1=2)&&(hdT ts).2.1==w) from rfl]
    by_cases h2:(hdT ts).1=2
    ·rw [Yd (by simpa using h2),e,jc,zl h2,Bool.true_and]
    ·rw [kI (by simpa using h2),zm h2,Bool.false_and]
  | bad e'=>rw [JZ (by rw [h.2.1];have:=h.2.2.1;omega)];rfl
 unfold Jn
 rw [this,jc]
include hlen
theorem Hb {σ:Sg} {q:RS} (h:RSt all σ q):∃t q',jY q.1 q.2.1 q.2.2.1=some (t,q')∧TkOk t ∧
 (match σ with | .good ts=>t=hdT ts∧((hdT ts).1≠0→(hdT ts).1≠4→RSt all (.good ts.tail) q') | .bad e=>q'=q):=by
 obtain ⟨t,e,hk,ht⟩:=Vs hall h
 obtain ⟨h1,j,h2,h3⟩:=h.idx
 unfold jY
 rw [e,jc]
 unfold jY.cb_ jY.c2
 dsimp only
 rw [h1,h2,kG (by omega)]
 cases σ with
 | good ts=>
   have ht:=ht ts rfl
   subst ht
   by_cases hj:j+1<all.length
   ·rw [JI (by omega),jc,Yd (by rw [h.2.1];rfl),kG (by omega),jc]
    refine ⟨hdT ts,_,rfl,hk,rfl,fun _ _=>⟨rfl,h.2.1,j+1,by simp,hj,?_⟩⟩
    obtain ⟨_,_,j',h4,h5,h6⟩:=h
    have:j'=j:=by rw [h2] at h4;omega
    subst this
    rw [←h6,List.tail_drop]
   ·rw [JZ (by omega),jc,br_ff,jc]
    refine ⟨hdT ts,_,rfl,hk,rfl,fun g0 g4=>?_⟩
    obtain ⟨_,_,j',h4,h5,h6⟩:=h
    have:j'=j:=by rw [h2] at h4;omega
    subst this
    have hl:=(tks_at hall j' h5).2.2 (by omega)
    have hd:hdT ts=all[j']:=by rw [←h6,List.drop_eq_getElem_cons h5];rfl
    rw [hd] at g0 g4
    omega
 | bad e'=>
   have hf:decide (q.2.2.1<0)=false:=zm (by rw [h.2.1];have:=h.2.2.1;omega)
   refine ⟨t,q,?_,hk,rfl⟩
   have:br (decide ((j:Int)<(all.length:Int)-1)) (some (decide (q.2.2.1<0))) (some false)=some false:=by rw [hf];cases decide ((j:Int)<(all.length:Int)-1)<;>rfl
   rw [this,jc,br_ff,jc,←h1,←h2]
theorem Yh {ts:List Tk} {q:RS} (h:RSt all (.good ts) q) (h0:(hdT ts).1≠0) (h4:(hdT ts).1≠4):∃q',jY q.1 q.2.1 q.2.2.1=some (hdT ts,q')∧RSt all (.good ts.tail) q':=by
 obtain ⟨t,q',e,_,ht,h'⟩:=Hb hall hlen h
 subst ht
 exact ⟨q',e,h' h0 h4⟩
theorem fail_ok {σ:Sg} {q:RS} (h:RSt all σ q):∃q',Yx q.1 q.2.1 q.2.2.1=some q'∧RSt all (match σ with | .good ts=>.bad (hdT ts).2.2 | .bad e=>.bad e) q':=by
 obtain ⟨t,e,hk,ht⟩:=Vs hall h
 unfold Yx
 cases σ with
 | good ts=>
   rw [JI (by rw [h.2.1];decide),e,jc]
   have ht:=ht ts rfl
   subst ht
   obtain ⟨h1,j,h2,h3⟩:=h.idx
   exact ⟨_,rfl,h1,rfl,hk.2.2.1,j,h2,h3⟩
 | bad e'=>
   rw [JZ (by rw [h.2.1];have:=h.2.2.1;omega)]
   exact ⟨q,rfl,h⟩
theorem Uy {σ:Sg} {q:RS} (h:RSt all σ q):RunF all (JE q.1 q.2.1 q.2.2.1) (Lf wordT σ):=by
 obtain ⟨t,e,hk,ht⟩:=Vs hall h
 unfold JE
 rw [e,jc]
 unfold JE.cb_
 dsimp only
 by_cases h1:t.1=1
 ·rw [kI (by simpa using h1),jc]
  dsimp only
  cases σ with
  | good ts=>
    have ht:=ht ts rfl
    subst ht
    obtain ⟨q',e',h'⟩:=Yh hall hlen h (by omega) (by omega)
    rw [e',jc]
    rw [show Lf wordT (.good ts)=.ok (hdT ts) ts.tail from if_pos h1]
    exact ⟨q',rfl,h'⟩
  | bad e1=>
    obtain ⟨t',q',e',_,h'⟩:=Hb hall hlen h
    dsimp only at h'
    subst h'
    rw [e',jc]
    exact ⟨t',q',rfl,h⟩
 ·rw [Yd (by simpa using h1)]
  obtain ⟨q1,e1,h'⟩:=fail_ok hall hlen h
  rw [e1,jc,jc]
  cases σ with
  | good ts=>
    have ht:=ht ts rfl
    subst ht
    obtain ⟨t',q',e',_,h2⟩:=Hb hall hlen h'
    dsimp only at h2
    subst h2
    dsimp only
    rw [e',jc]
    simp only [Lf,wordT,h1,if_false]
    exact ⟨t',q',rfl,h'⟩
  | bad e2=>
    obtain ⟨t',q',e',_,h2⟩:=Hb hall hlen h'
    dsimp only at h2
    subst h2
    dsimp only
    rw [e',jc]
    exact ⟨t',q',rfl,h'⟩
theorem kV {σ:Sg} {q:RS} (h:RSt all σ q) (w:Z7):RunF all (Jq w q.1 q.2.1 q.2.2.1) (Lf (wantT w) σ):=by
 obtain ⟨t,e,hk,ht⟩:=Vs hall h
 unfold Jq
 rw [e,jc,is_ok hall h w,jc]
 dsimp only
 cases hs:seesS w σ with
 | true=>
   obtain ⟨ts,rfl,hs'⟩:=YM hs
   have hso:=JX hs'
   obtain ⟨q',e',h'⟩:=Yh hall hlen h (by omega) (by omega)
   rw [Bool.not_true,br_ff,e',jc]
   simp only [Lf,wantT,hs',if_true]
   exact ⟨q',rfl,h'⟩
 | false=>
   obtain ⟨q1,e1,h'⟩:=fail_ok hall hlen h
   rw [Bool.not_false,br_tt,e1,jc]
   cases σ with
   | good ts=>
     have ht:=ht ts rfl
     subst ht
     simp only [Lf,wantT,show seesT w ts=false from hs,zf,if_false]
     exact ⟨_,q1,rfl,h'⟩
   | bad e2=>exact ⟨_,q1,rfl,h'⟩
omit hall hlen
theorem binding_ok (w:Z7):ke w=some (rankT w):=by
 have e2:ke.c3 w some=some (w==[43]||w==[45]):=by simp only [ke.c3,br_or]
 have e3:ke.c5 w some=some (w==[42]||(w==[47]||w==[37])):=by simp only [ke.c5,br_or]
 have b1 : bs "==" = [61,61] := by decide
 have b2 : bs "!=" = [33,61] := by decide
 have b3 : bs "<" = [60] := by decide
 have b4 : bs "<=" = [60,61] := by decide
 have b5 : bs ">" = [62] := by decide
 have b6 : bs ">=" = [62,61] := by decide
 have b7 : bs "+" = [43] := by decide
 have b8 : bs "-" = [45] := by decide
 have b9 : bs "*" = [42] := by decide
 have b10 : bs "/" = [47] := by decide
 have b11 : bs "%" = [37] := by decide
 have b12 : bs "**" = [42,42] := by decide
 unfold ke rankT
 rw [oneOf_ok _ _ (by simp),jc,b1,b2,b3,b4,b5,b6,b7,b8,b9,b10,b11,b12]
 simp only [e2,e3,jc,br_if,elem_c,elem_n,Bool.or_false,Bool.or_eq_true,beq_iff_eq]
 split
 ·rfl
 ·split
  ·rfl
  ·split
   ·rfl
   ·split<;>rfl
theorem rnum_ok {l:Z7} (h2:l.length≤9) (h3:∀c∈l,digt c=true) (hb:numT' l<1000000000) (hb0:0≤numT' l):∃z,Jt l=some z∧JS z=some (numT' l,true):=by
 have hd:HT l:=fun c hc=>h3 c hc
 obtain ⟨w,t1,t2,t3,t4⟩:=zdigits_big l hd (by omega)
 obtain ⟨z,u1,u2,u3⟩:=HE false w.2 t2 (by omega)
 refine ⟨z,?_,?_⟩
 ·unfold W.Jt
  have e1:W.Jt.c1 l Option.some=some false:=by
   unfold W.Jt.c1
   cases l with
   | nil=>rfl
   | cons c r=>
     rw [JI (by simp only [zd];omega)]
     have hc:=h3 c (by simp)
     have hc2:48≤c.toNat:=by unfold digt at hc;simp at hc;exact hc.1
     show some ((c.toNat:Int)==45)=some false
     rw [show ((c.toNat:Int)==45)=false from by simp;omega]
  have e2:W.Jt.cb_ l false Option.some=some l:=by unfold W.Jt.cb_;rw [br_ff]
  rw [e1,jc,e2,jc,t1,jc,u1]
  rfl
 ·rw [t4] at u2
  have hr:Rep 10000 z (dec l):=by simpa using u2
  rw [zsmall_ok hr (by omega)]
  have hdl:dec l=numT' l:=rfl
  unfold small
  rw [hdl,if_pos (by omega)]
end
end W
end

section
set_option maxRecDepth 4000
namespace W
open Go Go.Ql
abbrev CR:=Int×Int×Z7×Int×List Nd×List Tk×Int×Int
def crOf (a:Nd) (q:RS):CR:=(a.head.1,a.head.2.1,a.head.2.2.1,a.head.2.2.2,a.kids,q.1,q.2.1,q.2.2.1)
theorem mk_ok (k t:Int) (s:Z7) (n:Int) (l:List Nd):kM k t s n l=some (ndN k t s n l):=rfl
def Hyp (all:List Tk) (F:RS→Option (Nd×RS)) (s:List Tk→Rd Nd):Prop:=∀σ q,RSt all σ q→RunF all (F q) (Lf s σ)
def HypG (all:List Tk) (F:RS→Option (Nd×RS)) (s:List Tk→Rd Nd):Prop:=∀ts q,RSt all (.good ts) q→RunF all (F q) (s ts)
theorem Hyp.good {all:List Tk} {F:RS→Option (Nd×RS)} {s:List Tk→Rd Nd} (h:Hyp all F s):HypG all F s:=fun ts q hq=>h (.good ts) q hq
theorem Hyp.zero {all:List Tk} {F:RS→Option (Nd×RS)} {s:List Tk→Rd Nd} (hs:∀ts,s ts=.out) (hb:∀e q,RSt all (.bad e) q→RunF all (F q) (.err e)):Hyp all F s:=fun σ q hq=>by
 cases σ with
 | good ts=>show RunF all _ (s ts);rw [hs];trivial
 | bad e=>exact hb e q hq
section
variable {all:List Tk} (hall:TksOk all) (hlen:all.length≤40001)
include hall hlen
theorem paren_ok {n m:Nat} (hE:HypG all (fun q=>(ku.fuel m).F_R_rp_expr_b (1,q)) (xpT n 1)) {σ:Sg} {q:RS} (h:RSt all σ q) :
 RunE all crOf (bnd (Jq [40] q.1 q.2.1 q.2.2.1) fun y_12=>
  bnd (@jE.cu_ (ku.fuel m) _ 0 0 [] 0 [] y_12.2.1 y_12.2.2.1 y_12.2.2.2.1 some) fun y_13=>
  bnd (Jq [41] y_13.2.2.2.2.2.1 y_13.2.2.2.2.2.2.1 y_13.2.2.2.2.2.2.2) fun y_14=>
  some (y_13.1,y_13.2.1,y_13.2.2.1,y_13.2.2.2.1,y_13.2.2.2.2.1,y_14.2.1,y_14.2.2.1,y_14.2.2.2.1))
  (Lf (fun ts=>(wantT [40] ts).bind fun _ us=>(xpT n 1 us).bind fun a us=>(wantT [41] us).bind fun _ us=>.ok a us) σ):=by
 rw [JL]
 refine RunE.bind (kV hall hlen h [40]) (fun t σ q h _=>?_)
 rw [JL]
 refine RunE.bind (I:=crOf) ?_ (fun a σ q h _=>?_)
 ·unfold jE.cu_
  cases σ with
  | good ts=>
    rw [JI (by show q.2.2.1<0;rw [h.2.1];decide)]
    have hr:=hE ts q h
    show RunE all crOf _ (xpT n 1 ts)
    revert hr
    cases xpT n 1 ts with
    | ok a us=>rintro ⟨q',e,h'⟩;exact ⟨q',Jk e rfl,h'⟩
    | err c=>rintro ⟨a,q',e,h'⟩;exact ⟨a,q',Jk e rfl,h'⟩
    | out=>exact id
  | bad e=>
    rw [JZ (by show ¬q.2.2.1<0;rw [h.2.1];have:=h.2.2.1;omega)]
    exact ⟨.mk (0,0,[],0) [],q,rfl,h⟩
 ·rw [JL]
  refine RunE.bind (kV hall hlen h [41]) (fun t σ q h _=>?_)
  exact RunE.ok (I:=crOf) h
theorem ratom_ok {n m:Nat} (hE:HypG all (fun q=>(ku.fuel m).F_R_rp_expr_b (1,q)) (xpT n 1)) {σ:Sg} {q:RS} (h:RSt all σ q) {t:Tk} (hk:TkOk t) (ht:∀ts,σ=.good ts→t=hdT ts) :
 RunE all crOf (@jE.cT_ (ku.fuel m) _ t.1 t.2.1 t.2.2 0 0 [] 0 [] q.1 q.2.1 q.2.2.1 some) (Lf (atT (n+1)) σ):=by
 unfold jE.cT_
 simp only [JF]
 by_cases h3:t.1=3
 ·rw [Yd (by simpa using h3)]
  obtain ⟨d1,d2,d3⟩:=hk.2.2.2 h3
  obtain ⟨_,n0,n1⟩:=atoi_tok d1 d2 d3
  obtain ⟨z,z1,z2⟩:=rnum_ok d2 d3 n1 n0
  cases σ with
  | good ts=>
    have ht:=ht ts rfl
    subst ht
    obtain ⟨q',e,h'⟩:=Yh hall hlen h (by omega) (by omega)
    rw [e,jc,z1,jc,z2,jc]
    show RunE all crOf _ (atT (n+1) ts)
    rw [atT,if_pos h3]
    exact ⟨q',rfl,h'⟩
  | bad e'=>
    obtain ⟨t',q',e,_,h'⟩:=Hb hall hlen h
    dsimp only at h'
    subst h'
    rw [e,jc,z1,jc,z2,jc]
    exact ⟨_,q',rfl,h⟩
 ·rw [kI (by simpa using h3)]
  by_cases h1:t.1=1
  ·rw [Yd (by simpa using h1)]
   cases σ with
   | good ts=>
     have ht:=ht ts rfl
     subst ht
     obtain ⟨q',e,h'⟩:=Yh hall hlen h (by omega) (by omega)
     rw [e,jc]
     show RunE all crOf _ (atT (n+1) ts)
     rw [atT,if_neg h3,if_pos h1]
     exact ⟨q',rfl,h'⟩
   | bad e'=>
     obtain ⟨t',q',e,_,h'⟩:=Hb hall hlen h
     dsimp only at h'
     subst h'
     rw [e,jc]
     exact ⟨ndN 21 t.2.2 t.2.1 0 [],q',rfl,h⟩
  ·rw [kI (by simpa using h1),is_ok hall h,jc]
   dsimp only
   have hs:Lf (atT (n+1)) σ=if seesS [115,105,122,101] σ=true then Lf (fun ts=>(wantT [40] ts.tail).bind fun _ us=>(wordT us).bind fun w us=>(wantT [41] us).bind fun _ us=>.ok (ndN 22 t.2.2 w.2.1 0 []) us) σ
    else Lf (fun ts=>(wantT [40] ts).bind fun _ us=>(xpT n 1 us).bind fun a us=>(wantT [41] us).bind fun _ us=>.ok a us) σ:=by
    cases σ with
    | good ts=>
      have ht:=ht ts rfl
      subst ht
      show atT (n+1) ts=_
      rw [atT,if_neg h3,if_neg h1]
      simp only [bsE]
      rfl
    | bad e=>simp [Lf,seesS]
   rw [hs]
   cases hs1:seesS [115,105,122,101] σ with
   | true=>
     obtain ⟨ts,rfl,hs2⟩:=YM hs1
     have hso:=JX hs2
     obtain ⟨q',e,h'⟩:=Yh hall hlen h (by omega) (by omega)
     rw [br_tt,e,jc,if_pos rfl,Lf_tail (A:=fun ts=>(wantT [40] ts).bind fun _ us=>(wordT us).bind fun w us=>(wantT [41] us).bind fun _ us=>.ok (ndN 22 t.2.2 w.2.1 0 []) us),JL]
     refine RunE.bind (kV hall hlen h' [40]) (fun x σ q h _=>?_)
     rw [JL]
     refine RunE.bind (Uy hall hlen h) (fun w σ q h _=>?_)
     rw [JL]
     refine RunE.bind (kV hall hlen h [41]) (fun x σ q h _=>?_)
     exact RunE.ok (I:=crOf) (a:=ndN 22 t.2.2 w.2.1 0 []) h
   | false=>
     rw [br_ff,if_neg (by simp)]
     exact paren_ok hall hlen hE h
theorem rsigned_step {n m:Nat} (hE:HypG all (fun q=>(ku.fuel m).F_R_rp_expr_b (1,q)) (xpT (n-1) 1)) (hS:HypG all (ku.fuel m).F_R_rp_signed_b (siT n)) :
 Hyp all (ku.fuel (m+1)).F_R_rp_signed_b (siT (n+1)):=by
 intro σ q h
 show RunF all (@jE (ku.fuel m) q.1 q.2.1 q.2.2.1) _
 obtain ⟨t,e,hk,ht⟩:=Vs hall h
 unfold jE
 rw [e,jc]
 dsimp only
 rw [is_ok hall h,jc]
 dsimp only
 have hs:Lf (siT (n+1)) σ=if seesS [45] σ=true then Lf (fun ts=>(siT n ts.tail).bind fun a us=>.ok (ndK 23 t.2.2 [a]) us) σ
  else Lf (fun ts=>(atT n ts).bind fun a us=>if seesT [42,42] us=true then (siT n us.tail).bind fun b vs=>.ok (binT (hdT us) a b) vs else .ok a us) σ:=by
  cases σ with
  | good ts=>
    have ht:=ht ts rfl
    subst ht
    show siT (n+1) ts=_
    rw [siT]
    simp only [bsE]
    rfl
  | bad e=>simp [Lf,seesS]
 rw [hs]
 cases hs1:seesS [45] σ with
 | true=>
   obtain ⟨ts,rfl,hs2⟩:=YM hs1
   have hso:=JX hs2
   obtain ⟨q',e,h'⟩:=Yh hall hlen h (by omega) (by omega)
   rw [br_tt,e,jc,if_pos rfl]
   simp only [jE.c4,Yr]
   refine RunE.bind (hS ts.tail q' h') (fun a σ q h _=>?_)
   simp only [mk_ok,jc,Jm]
   exact RunE.ok (I:=Prod.mk) h
 | false=>
   rw [br_ff,if_neg (by simp),JL]
   refine RunE.bind (I:=crOf) ?_ (fun a σ q h _=>?_)
   ·cases n with
    | zero=>
      cases σ with
      | good ts=>trivial
      | bad e'=>
        have:=ratom_ok hall hlen hE h hk ht
        exact this
    | succ n=>exact ratom_ok hall hlen hE h hk ht
   ·simp only [crOf,Jm,jE.cZ_,JF,is_ok hall h,jc]
    rw [Lf_if]
    cases hs2:seesS [42,42] σ with
    | true=>
      obtain ⟨ts,rfl,hs3⟩:=YM hs2
      have hso:=JX hs3
      obtain ⟨q',e,h'⟩:=Yh hall hlen h (by omega) (by omega)
      simp only [br_tt,e,jc,if_true,jE.c25,Yr]
      refine RunE.bind (hS ts.tail q' h') (fun b σ q h _=>?_)
      simp only [mk_ok,jc,Jm]
      exact RunE.ok (I:=Prod.mk) h
    | false=>
      simp only [br_ff,jc,zf,if_false,Jm]
      exact RunE.ok (I:=Prod.mk) h
theorem c4_ok {σ:Sg} {q:RS} (h:RSt all σ q) (lvl:Int):jP.c4 lvl q.1 q.2.1 q.2.2.1 some =
 some ((match σ with | .good ts=>decide ((hdT ts).1=2∧rankT (hdT ts).2.1=lvl) | .bad _=>false),q.1,q.2.1,q.2.2.1):=by
 obtain ⟨t,e,hk,ht⟩:=Vs hall h
 unfold jP.c4
 cases σ with
 | good ts=>
   have ht:=ht ts rfl
   subst ht
   rw [JI (by rw [h.2.1];decide),e,jc]
   by_cases h2:(hdT ts).1=2
   ·rw [Yd (by simpa using h2),e,jc,binding_ok,jc]
    simp only [h2,true_and]
    rw [show (rankT (hdT ts).2.1==lvl)=decide (rankT (hdT ts).2.1=lvl) from by rw [Bool.eq_iff_iff];simp]
   ·rw [kI (by simpa using h2)]
    simp [h2]
 | bad e'=>rw [JZ (by rw [h.2.1];have:=h.2.2.1;omega)]
omit hall hlen in
theorem rchain_bad {f:CR→Option (CR⊕CR)} {a:Nd} {e:Int} {q:RS} (h:RSt all (.bad e) q) (hf:f (crOf a q)=some (.inr (crOf a q))):RunE all crOf (iter f (crOf a q)) (.err e):=⟨a,q,JV hf,h⟩
omit hall hlen in
theorem taT_L {k lvl:Nat} {a:Nd} {ts:List Tk}:taT (k+1) lvl a ts=if (hdT ts).1=2∧rankT (hdT ts).2.1=(lvl:Int) then (xpT k (lvl+1) ts.tail).bind fun b us=>if lvl=1 then .ok (binT (hdT ts) a b) us else taT k lvl (binT (hdT ts) a b) us else .ok a ts:=by rw [taT]
theorem rchain {n m lvl:Nat} (hl:1≤lvl∧lvl≤3) (hP:∀k,k≤n→HypG all (fun q=>(ku.fuel m).F_R_rp_expr_b ((lvl:Int)+1,q)) (xpT k (lvl+1))) :
 ∀k,k≤n+1 → ∀(a:Nd) σ q,RSt all σ q→RunE all crOf (iter (fun s:CR=>@jP.ce_ (ku.fuel m) _ (lvl:Int) s.1 s.2.1 s.2.2.1 s.2.2.2.1 s.2.2.2.2.1 s.2.2.2.2.2.1 s.2.2.2.2.2.2.1 s.2.2.2.2.2.2.2 some) (crOf a q)) (Lf (taT k lvl a) σ):=by
 have hbad:∀(a:Nd) e q,RSt all (.bad e) q→RunE all crOf (iter (fun s:CR=>@jP.ce_ (ku.fuel m) _ (lvl:Int) s.1 s.2.1 s.2.2.1 s.2.2.2.1 s.2.2.2.2.1 s.2.2.2.2.2.1 s.2.2.2.2.2.2.1 s.2.2.2.2.2.2.2 some) (crOf a q)) (.err e):=by
  intro a e q h
  refine rchain_bad h ?_
  show @jP.ce_ (ku.fuel m) _ (lvl:Int) a.head.1 a.head.2.1 a.head.2.2.1 a.head.2.2.2 a.kids q.1 q.2.1 q.2.2.1 some=_
  unfold jP.ce_
  rw [c4_ok hall hlen h,jc]
  rfl
 intro k
 induction k with
 | zero=>
   intro hk a σ q h
   cases σ with
   | good ts=>trivial
   | bad e=>exact hbad a e q h
 | succ k ih=>
   intro hk a σ q h
   cases σ with
   | bad e=>exact hbad a e q h
   | good ts=>
     show RunE all crOf _ (taT (k+1) lvl a ts)
     rw [taT_L]
     have hc:=c4_ok hall hlen h (lvl:Int)
     dsimp only at hc
     by_cases hs:(hdT ts).1=2∧rankT (hdT ts).2.1=(lvl:Int)
     ·rw [if_pos hs]
      obtain ⟨q',e,h'⟩:=Yh hall hlen h (by omega) (by omega)
      have hb:=hP k (by omega) ts.tail q' h'
      have hw:IntKind.i64.wrap ((lvl:Int)+1)=(lvl:Int)+1:=kG (by omega)
      have e6:∀(b:Nd) q2,(ku.fuel m).F_R_rp_expr_b ((lvl:Int)+1,q')=some (b,q2) →
       @jP.ce_ (ku.fuel m) _ (lvl:Int) a.head.1 a.head.2.1 a.head.2.2.1 a.head.2.2.2 a.kids q.1 q.2.1 q.2.2.1 some =
        br ((lvl:Int)==1) (some (.inr (crOf (binT (hdT ts) a b) q2))) (some (.inl (crOf (binT (hdT ts) a b) q2))):=by
       intro b q2 hb
       have e6:@jP.c6 (ku.fuel m) _ (lvl:Int) a.head.1 a.head.2.1 a.head.2.2.1 a.head.2.2.2 a.kids (hdT ts).2.1 (hdT ts).2.2 q'.1 q'.2.1 q'.2.2.1 some=some (crOf (binT (hdT ts) a b) q2):=by
        unfold jP.c6
        rw [hw]
        refine Jk hb ?_
        simp only [mk_ok,jc,Jm]
        rfl
       unfold jP.ce_
       rw [hc,jc]
       simp only [hs,and_self,decide_true,br_tt,e,jc,e6]
      cases hx:xpT k (lvl+1) ts.tail with
      | out=>trivial
      | ok b us=>
        rw [hx] at hb
        obtain ⟨q2,eq,hq⟩:=hb
        have e7:=e6 b q2 eq
        simp only [Rd.bind]
        by_cases h1:lvl=1
        ·rw [Yd (by simp [h1])] at e7
         rw [if_pos h1]
         exact ⟨q2,JV e7,hq⟩
        ·rw [kI (by simp;omega)] at e7
         rw [if_neg h1]
         have:=ih (by omega) (binT (hdT ts) a b) (.good us) q2 hq
         revert this
         show RunE all crOf _ (taT k lvl (binT (hdT ts) a b) us)→_
         cases taT k lvl (binT (hdT ts) a b) us with
         | ok c vs=>rintro ⟨p3,e3,h3⟩;exact ⟨p3,JQ e7 e3,h3⟩
         | err c=>rintro ⟨a3,p3,e3,h3⟩;exact ⟨a3,p3,JQ e7 e3,h3⟩
         | out=>exact id
      | err c=>
        rw [hx] at hb
        obtain ⟨b,q2,eq,hq⟩:=hb
        have e7:=e6 b q2 eq
        simp only [Rd.bind]
        by_cases h1:lvl=1
        ·rw [Yd (by simp [h1])] at e7
         exact ⟨_,q2,JV e7,hq⟩
        ·rw [kI (by simp;omega)] at e7
         obtain ⟨a3,q3,e3,h3⟩:=ih (by omega) (binT (hdT ts) a b) (.bad c) q2 hq
         exact ⟨a3,q3,JQ e7 e3,h3⟩
     ·rw [if_neg hs]
      refine ⟨q,JV ?_,h⟩
      show @jP.ce_ (ku.fuel m) _ (lvl:Int) a.head.1 a.head.2.1 a.head.2.2.1 a.head.2.2.2 a.kids q.1 q.2.1 q.2.2.1 some=_
      unfold jP.ce_
      rw [hc,jc]
      simp only [hs,decide_false,br_ff]
      rfl
omit hall hlen in
theorem xpT_L {k lvl:Nat} {ts:List Tk} (hl:lvl≠4):xpT (k+1) lvl ts=(xpT k (lvl+1) ts).bind fun a us=>taT k lvl a us:=by rw [xpT,if_neg hl]
theorem rexpr_step {n m lvl:Nat} (hl:1≤lvl∧lvl≤3) (hH:Hyp all (fun q=>(ku.fuel m).F_R_rp_expr_b ((lvl:Int)+1,q)) (xpT n (lvl+1)))
 (hP:∀k,k≤n→HypG all (fun q=>(ku.fuel m).F_R_rp_expr_b ((lvl:Int)+1,q)) (xpT k (lvl+1))) :
 Hyp all (fun q=>(ku.fuel (m+1)).F_R_rp_expr_b ((lvl:Int),q)) (xpT (n+1) lvl):=by
 intro σ q h
 show RunF all (@jP (ku.fuel m) (lvl:Int) q.1 q.2.1 q.2.2.1) _
 have hs:Lf (xpT (n+1) lvl) σ=Lf (fun ts=>(xpT n (lvl+1) ts).bind fun a us=>taT n lvl a us) σ:=by
  cases σ with
  | good ts=>exact xpT_L (by omega)
  | bad e=>rfl
 unfold jP
 rw [hs,kI (by simp;omega),JL,kG (by omega)]
 refine RunE.bind (hH σ q h) (fun a σ q h _=>?_)
 have hc:=rchain hall hlen hl hP n (by omega) a σ q h
 rw [Lf_eta]
 revert hc
 cases Lf (taT n lvl a) σ with
 | ok b us=>rintro ⟨q2,e,hq⟩;refine ⟨q2,Jk e ?_,hq⟩;simp only [crOf,Jm]
 | err c=>rintro ⟨b,q2,e,hq⟩;refine ⟨b,q2,Jk e ?_,hq⟩;simp only [crOf,Jm]
 | out=>exact id
theorem rexpr4_step {n m:Nat} (hS:Hyp all (ku.fuel m).F_R_rp_signed_b (siT n)):Hyp all (fun q=>(ku.fuel (m+1)).F_R_rp_expr_b (4,q)) (xpT (n+1) 4):=by
 intro σ q h
 show RunF all (@jP (ku.fuel m) 4 q.1 q.2.1 q.2.2.1) _
 have hs:Lf (xpT (n+1) 4) σ=Lf (siT n) σ:=by
  cases σ with
  | good ts=>exact xpT_4
  | bad e=>rfl
 unfold jP
 rw [hs,Yd (by rfl)]
 have:=hS σ q h
 revert this
 cases Lf (siT n) σ with
 | ok b us=>rintro ⟨q2,e,hq⟩;refine ⟨q2,Jk e ?_,hq⟩;simp only [Jm]
 | err c=>rintro ⟨b,q2,e,hq⟩;refine ⟨b,q2,Jk e ?_,hq⟩;simp only [Jm]
 | out=>exact id
theorem num_bad {m:Nat} (hm:5≤m):(∀e q,RSt all (.bad e) q→RunF all ((ku.fuel m).F_R_rp_signed_b q) (.err e)) ∧
 ∀lvl:Nat,1≤lvl→lvl≤4 → ∀e q,RSt all (.bad e) q→RunF all ((ku.fuel m).F_R_rp_expr_b ((lvl:Int),q)) (.err e):=by
 have hS:∀m,Hyp all (ku.fuel (m+1)).F_R_rp_signed_b (siT 1):=fun m=>rsigned_step hall hlen (n:=0) (fun ts q h=>trivial) (fun ts q h=>trivial)
 have hS0:∀m,Hyp all (ku.fuel (m+1)).F_R_rp_signed_b (siT 0):=fun m=>Hyp.zero (fun _=>rfl) fun e q h=>hS m (.bad e) q h
 have h4:∀m,Hyp all (fun q=>(ku.fuel (m+2)).F_R_rp_expr_b (4,q)) (xpT 1 4):=fun m=>rexpr4_step hall hlen (hS0 m)
 have h40:∀m,Hyp all (fun q=>(ku.fuel (m+2)).F_R_rp_expr_b (((3:Nat):Int)+1,q)) (xpT 0 4):=fun m=>Hyp.zero (fun _=>rfl) fun e q h=>h4 m (.bad e) q h
 have h3:∀m,Hyp all (fun q=>(ku.fuel (m+3)).F_R_rp_expr_b (((3:Nat):Int),q)) (xpT 1 3):=fun m=>rexpr_step hall hlen (by omega) (h40 m) (fun k hk ts q h=>by
  obtain rfl:k=0:=by omega
  trivial)
 have h30:∀m,Hyp all (fun q=>(ku.fuel (m+3)).F_R_rp_expr_b (((2:Nat):Int)+1,q)) (xpT 0 3):=fun m=>Hyp.zero (fun _=>rfl) fun e q h=>h3 m (.bad e) q h
 have h2:∀m,Hyp all (fun q=>(ku.fuel (m+4)).F_R_rp_expr_b (((2:Nat):Int),q)) (xpT 1 2):=fun m=>rexpr_step hall hlen (by omega) (h30 m) (fun k hk ts q h=>by
  obtain rfl:k=0:=by omega
  trivial)
 have h20:∀m,Hyp all (fun q=>(ku.fuel (m+4)).F_R_rp_expr_b (((1:Nat):Int)+1,q)) (xpT 0 2):=fun m=>Hyp.zero (fun _=>rfl) fun e q h=>h2 m (.bad e) q h
 have h1:∀m,Hyp all (fun q=>(ku.fuel (m+5)).F_R_rp_expr_b (((1:Nat):Int),q)) (xpT 1 1):=fun m=>rexpr_step hall hlen (by omega) (h20 m) (fun k hk ts q h=>by
  obtain rfl:k=0:=by omega
  trivial)
 obtain ⟨m,rfl⟩:∃k,m=k+5:=⟨m-5,by omega⟩
 refine ⟨fun e q h=>hS (m+4) (.bad e) q h,fun lvl g1 g4 e q h=>?_⟩
 have:lvl=1∨lvl=2∨lvl=3∨lvl=4:=by omega
 rcases this with rfl | rfl | rfl | rfl
 ·exact h1 m (.bad e) q h
 ·exact h2 (m+1) (.bad e) q h
 ·exact h3 (m+2) (.bad e) q h
 ·exact h4 (m+3) (.bad e) q h
theorem rnum_all:∀n m,n+5≤m→(∀lvl:Nat,1≤lvl→lvl≤4→Hyp all (fun q=>(ku.fuel m).F_R_rp_expr_b ((lvl:Int),q)) (xpT n lvl))∧Hyp all (ku.fuel m).F_R_rp_signed_b (siT n):=by
 intro n
 induction n using Nat.strongRecOn with
 | _ n ih=>
   intro m hm
   cases n with
   | zero=>exact ⟨fun lvl h1 h4=>Hyp.zero (fun _=>rfl) ((num_bad hall hlen (by omega)).2 lvl h1 h4),Hyp.zero (fun _=>rfl) (num_bad hall hlen (by omega)).1⟩
   | succ n=>
     obtain ⟨m,rfl⟩:∃m',m=m'+1:=⟨m-1,by omega⟩
     have hk:∀k,k≤n→_:=fun k hk=>ih k (by omega) m (by omega)
     refine ⟨fun lvl h1 h4=>?_,rsigned_step hall hlen ((hk (n-1) (by omega)).1 1 (by omega) (by omega)).good (hk n (zu _)).2.good⟩
     by_cases h:lvl=4
     ·subst h;exact rexpr4_step hall hlen (hk n (zu _)).2
     ·exact rexpr_step hall hlen (by omega) ((hk n (zu _)).1 (lvl+1) (by omega) (by omega)) fun k hk'=>((hk k hk').1 (lvl+1) (by omega) (by omega)).good
theorem Uf {n:Nat} (hn:n≤900000) {σ:Sg} {q:RS} (h:RSt all σ q):RunF all (kZ (1,q)) (Lf (xpT n 1) σ):=(rnum_all hall hlen n 1000000 (by omega)).1 1 (by omega) (by omega) σ q h
end
end W
end

section
set_option maxRecDepth 4000
namespace W
open Go Go.Ql
def qOf {α:Type} (a:α) (q:RS):α×List Tk×Int×Int:=(a,q.1,q.2.1,q.2.2.1)
section
variable {all:List Tk} (hall:TksOk all) (hlen:all.length≤40001)
include hall hlen
theorem rrest_ok {n:Nat} (hn:n≤900000) (w:Tk) {σ:Sg} {q:RS} (h:RSt all σ q):RunF all (kC w q.1 q.2.1 q.2.2.1) (Lf (rfT n w) σ):=by
 have hs:Lf (rfT n w) σ=if seesS [91] σ=true then Lf (fun ts=>(xpT n 1 ts.tail).bind fun a us=>if seesT [46,46] us=true then (xpT n 1 us.tail).bind fun b us=>(wantT [93] us).bind fun _ us=>.ok (ndN 19 w.2.2 w.2.1 2 [a,b]) us
  else (wantT [93] us).bind fun _ us=>.ok (ndN 19 w.2.2 w.2.1 1 [a]) us) σ else Lf (fun ts=>.ok (ndN 19 w.2.2 w.2.1 0 []) ts) σ:=by
  cases σ with
  | good ts=>show rfT n w ts=_;unfold rfT;simp only [bsE];rfl
  | bad e=>simp [Lf,seesS]
 unfold kC
 rw [hs,is_ok hall h,jc]
 dsimp only
 cases hs1:seesS [91] σ with
 | true=>
   obtain ⟨ts,rfl,hs2⟩:=YM hs1
   have hso:=JX hs2
   obtain ⟨q',e,h'⟩:=Yh hall hlen h (by omega) (by omega)
   rw [Bool.not_true,br_ff,e,jc,if_pos rfl]
   show RunF all _ ((xpT n 1 ts.tail).bind _)
   refine RunE.bind (Uf hall hlen hn h') (fun a σ q h _=>?_)
   rw [Lf_if]
   simp only [kC.cM_,JF,is_ok hall h,jc]
   cases hs3:seesS [46,46] σ with
   | true=>
     obtain ⟨us,rfl,hs4⟩:=YM hs3
     have hso:=JX hs4
     obtain ⟨q',e,h'⟩:=Yh hall hlen h (by omega) (by omega)
     simp only [br_tt,e,jc,if_true,Yr]
     refine RunE.bind (Uf hall hlen hn h') (fun b σ q h _=>?_)
     rw [ok64L (l:=[a]) (by simp)]
     simp only [jc]
     rw [JL]
     refine RunE.bind (kV hall hlen h [93]) (fun x σ q h _=>?_)
     simp only [mk_ok,jc,Jm]
     exact RunE.ok (I:=Prod.mk) h
   | false=>
     simp only [br_ff,jc,zf,if_false]
     rw [JL]
     refine RunE.bind (kV hall hlen h [93]) (fun x σ q h _=>?_)
     simp only [mk_ok,jc,Jm]
     exact RunE.ok (I:=Prod.mk) h
 | false=>
   rw [Bool.not_false,br_tt,if_neg (by simp)]
   simp only [mk_ok,jc,Jm]
   exact RunE.ok (I:=Prod.mk) h
omit hall hlen in
theorem rpass (r:Option (Nd×RS)) (s:Rd Nd) (hr:RunF all r s):RunF all (bnd r fun y=>some (Rose.mk (y.1.head.1,y.1.head.2.1,y.1.head.2.2.1,y.1.head.2.2.2) y.1.kids,y.2)) s:=by
 cases s with
 | ok a us=>obtain ⟨p,rfl,hp⟩:=hr;exact ⟨p,by simp only [jc,Jm],hp⟩
 | err e=>obtain ⟨a,p,rfl,hp⟩:=hr;exact ⟨a,p,by simp only [jc,Jm],hp⟩
 | out=>trivial
theorem HC {n:Nat} (hn:n≤900000) {σ:Sg} {q:RS} (h:RSt all σ q):RunF all (Yk q.1 q.2.1 q.2.2.1) (Lf (reT n) σ):=by
 have hs:Lf (reT n) σ=Lf (fun ts=>(wordT ts).bind fun w us=>rfT n w us) σ:=by cases σ<;>rfl
 unfold Yk
 rw [hs,JL]
 refine RunE.bind (Uy hall hlen h) (fun w σ q h _=>?_)
 exact rpass _ _ (rrest_ok hall hlen hn w h)
def pT (wires:Bool):List Tk→Rd Nd:=if wires then p2T else p1T
theorem pT_lq (wires:Bool) (ts:List Tk):Lq (pT wires ts) ts.length:=by
 cases wires with
 | false=>exact p1_lq
 | true=>exact p2_lq
theorem rparam_one {wires:Bool} {σ:Sg} {q:RS} (h:RSt all σ q) :
 RunE all (fun (a:Nd) (q:RS)=>(a,q)) (bnd (JE q.1 q.2.1 q.2.2.1) fun y=>bnd (Jg.cJ_ wires 0 y.2.1 y.2.2.1 y.2.2.2.1 some) fun y_1=>bnd (kM 6 y.1.2.2 y.1.2.1 y_1.1 []) fun y_2=>some (y_2,y_1.2.2.1,y_1.2.2.2.1,y_1.2.2.2.2,())) (Lf (pT wires) σ):=by
 cases wires with
 | false=>
   have hs:Lf (pT false) σ=Lf (fun ts=>(wordT ts).bind fun v us=>.ok (ndN 6 v.2.2 v.2.1 0 []) us) σ:=by cases σ<;>rfl
   rw [hs,JL]
   refine RunE.bind (Uy hall hlen h) (fun w σ q h _=>?_)
   simp only [Jg.cJ_,Jg.c5,br_ff,jc,mk_ok]
   exact RunE.ok (I:=fun (a:Nd) (q:RS)=>(a,q)) h
 | true=>
   have hs:Lf (pT true) σ=Lf (fun ts=>(wordT ts).bind fun v us=>if seesT [91] us=true then (wantT [93] us.tail).bind fun _ us=>.ok (ndN 6 v.2.2 v.2.1 1 []) us else .ok (ndN 6 v.2.2 v.2.1 0 []) us) σ:=by
    cases σ with
    | good ts=>show p2T ts=_;unfold p2T;simp only [bsE];rfl
    | bad e=>rfl
   rw [hs,JL]
   refine RunE.bind (Uy hall hlen h) (fun w σ q h _=>?_)
   rw [Lf_if]
   simp only [Jg.cJ_,Jg.c5,br_tt,JF,is_ok hall h,jc]
   cases hs3:seesS [91] σ with
   | true=>
     obtain ⟨us,rfl,hs4⟩:=YM hs3
     have hso:=JX hs4
     obtain ⟨q',e,h'⟩:=Yh hall hlen h (by omega) (by omega)
     simp only [br_tt,e,jc,if_true,Yr]
     show RunE all _ _ ((wantT [93] us.tail).bind _)
     refine RunE.bind (kV hall hlen h' [93]) (fun x σ q h _=>?_)
     simp only [mk_ok,jc]
     exact RunE.ok (I:=fun (a:Nd) (q:RS)=>(a,q)) h
   | false=>
     simp only [br_ff,jc,zf,if_false,mk_ok]
     exact RunE.ok (I:=fun (a:Nd) (q:RS)=>(a,q)) h
abbrev QR:=List Nd×List Tk×Int×Int
def LenOk:Sg→List Nd→Prop
 | .good ts,l=>l.length+ts.length≤100000
 | .bad _,_=>True
theorem rparams_key {wires:Bool} (k:Nat) (hk:∀(l:List Nd) ts q,RSt all (.good ts) q→l.length+ts.length≤100000 →
 RunE all qOf (iter (fun s:QR=>Jg.ca_ wires s.1 s.2.1 s.2.2.1 s.2.2.2 some) (qOf l q)) (match k with | 0=>.out | k+1=>((pT wires ts).bind fun a us=>liT (pT wires) k (l++[a]) us)))
 (l:List Nd) (σ:Sg) (q:RS) (h:RSt all σ q) (hl:LenOk σ l) :
 RunE all qOf (iter (fun s:QR=>Jg.ca_ wires s.1 s.2.1 s.2.2.1 s.2.2.2 some) (qOf l q)) (Lf (fun ts=>(pT wires ts).bind fun a us=>liT (pT wires) k (l++[a]) us) σ):=by
 cases σ with
 | bad e=>
   refine ⟨l,q,JV ?_,h⟩
   show Jg.ca_ wires l q.1 q.2.1 q.2.2.1 some=_
   unfold Jg.ca_
   rw [JZ (by rw [h.2.1];have:=h.2.2.1;omega)]
   rfl
 | good ts=>
   have hl:l.length+ts.length≤100000:=hl
   have hts:1≤ts.length:=by
    obtain ⟨_,_,j,_,h5,h6⟩:=h
    rw [←h6,zq];omega
   have ho:=rparam_one hall hlen (wires:=wires) h
   have hlq:=pT_lq hall hlen wires ts
   have body:∀a q1,(bnd (JE q.1 q.2.1 q.2.2.1) fun y=>bnd (Jg.cJ_ wires 0 y.2.1 y.2.2.1 y.2.2.2.1 some) fun y_1=>bnd (kM 6 y.1.2.2 y.1.2.1 y_1.1 []) fun y_2=>some (y_2,y_1.2.2.1,y_1.2.2.2.1,y_1.2.2.2.2,()))=some (a,q1) →
    Jg.ca_ wires l q.1 q.2.1 q.2.2.1 some=bnd (Jn [44] q1.1 q1.2.1 q1.2.2.1) fun y_4=>br (!y_4.1) (some (.inr (l++[a],y_4.2.1,y_4.2.2.1,y_4.2.2.2.1))) (bnd (jY y_4.2.1 y_4.2.2.1 y_4.2.2.2.1) fun y_5=>some (.inl (l++[a],y_5.2.1,y_5.2.2.1,y_5.2.2.2.1))):=by
    intro a q1 e
    unfold Jg.ca_
    rw [JI (by rw [h.2.1];decide)]
    revert e
    cases JE q.1 q.2.1 q.2.2.1 with
    | none=>intro e;cases e
    | some y=>
      simp only [jc]
      cases Jg.cJ_ wires 0 y.2.1 y.2.2.1 y.2.2.2.1 some with
      | none=>intro e;cases e
      | some y1=>
        simp only [jc,mk_ok]
        intro e
        injection e with e
        obtain ⟨rfl,rfl⟩:=Prod.mk.inj e
        rw [ok64L (l:=l) (by omega),jc]
   show RunE all qOf _ ((pT wires ts).bind fun a us=>liT (pT wires) k (l++[a]) us)
   revert ho hlq
   show RunE all _ _ (pT wires ts)→_
   cases pT wires ts with
   | out=>intro _ _;trivial
   | err c=>
     rintro ⟨a,q1,e,h1⟩ _
     have eb:=body a q1 e
     rw [is_ok hall h1,jc] at eb
     refine ⟨l++[a],q1,JV (eb.trans ?_),h1⟩
     rfl
   | ok a us=>
     rintro ⟨q1,e,h1⟩ hus
     have hus:us.length<ts.length:=hus
     have eb:=body a q1 e
     rw [is_ok hall h1,jc] at eb
     dsimp only at eb
     simp only [Rd.bind]
     cases k with
     | zero=>trivial
     | succ k=>
       rw [liT_eq]
       cases hs:seesT [44] us with
       | true=>
         have hso:=JX hs
         have htl:=jT hs
         obtain ⟨q2,e2,h2⟩:=Yh hall hlen h1 (by omega) (by omega)
         rw [show seesS [44] (.good us)=true from hs,Bool.not_true,br_ff,e2,jc] at eb
         have:=hk (l++[a]) us.tail q2 h2 (by simp only [z8,zz];omega)
         dsimp only at this
         rw [if_pos rfl]
         revert this
         cases ((pT wires us.tail).bind fun a_1 us=>liT (pT wires) k (l++[a]++[a_1]) us) with
         | ok c vs=>rintro ⟨p3,e3,h3⟩;exact ⟨p3,JQ eb e3,h3⟩
         | err c=>rintro ⟨b3,p3,e3,h3⟩;exact ⟨b3,p3,JQ eb e3,h3⟩
         | out=>exact id
       | false=>
         rw [show seesS [44] (.good us)=false from hs,Bool.not_false,br_tt] at eb
         rw [if_neg (by simp)]
         exact ⟨q1,JV eb,h1⟩
theorem rparams_loop {wires:Bool}:∀k (l:List Nd) σ q,RSt all σ q→LenOk σ l →
 RunE all qOf (iter (fun s:QR=>Jg.ca_ wires s.1 s.2.1 s.2.2.1 s.2.2.2 some) (qOf l q)) (Lf (fun ts=>(pT wires ts).bind fun a us=>liT (pT wires) k (l++[a]) us) σ):=by
 intro k
 induction k with
 | zero=>exact fun l σ q h hl=>rparams_key hall hlen 0 (fun _ _ _ _ _=>trivial) l σ q h hl
 | succ k ih=>exact fun l σ q h hl=>rparams_key hall hlen (k+1) (fun l ts q h hl=>ih l (.good ts) q h hl) l σ q h hl
theorem rparams_ok {wires:Bool} {k:Nat} {σ:Sg} {q:RS} (h:RSt all σ q):RunF all (Jg wires q.1 q.2.1 q.2.2.1) (Lf (lsT (pT wires) k) σ):=by
 have hs:Lf (lsT (pT wires) k) σ=Lf (fun ts=>(pT wires ts).bind fun a us=>liT (pT wires) k ([]++[a]) us) σ:=by cases σ<;>rfl
 have hc:=rparams_loop hall hlen (wires:=wires) k [] σ q h (by
  cases σ with
  | good ts=>
    obtain ⟨_,_,j,_,h5,h6⟩:=h
    show [].length+ts.length≤100000
    rw [←h6,zq,ze];omega
  | bad e=>trivial)
 unfold Jg
 rw [hs]
 revert hc
 cases Lf (fun ts=>(pT wires ts).bind fun a us=>liT (pT wires) k ([]++[a]) us) σ with
 | ok b us=>rintro ⟨q2,e,hq⟩;exact ⟨q2,Jk e rfl,hq⟩
 | err c=>rintro ⟨b,q2,e,hq⟩;exact ⟨b,q2,Jk e rfl,hq⟩
 | out=>exact id
end
end W
end

section
set_option maxRecDepth 4000
namespace W
open Go Go.Ql
abbrev TR:=Int×Z7×Int×CR
def trOf (t:Tk) (a:Nd) (q:RS):TR:=(t.1,t.2.1,t.2.2,crOf a q)
def RunTr (all:List Tk) (r:Option TR):Rd Nd→Prop
 | .ok a us=>∃t q,r=some (trOf t a q)∧RSt all (.good us) q
 | .err e=>∃t a q,r=some (trOf t a q)∧RSt all (.bad e) q
 | .out=>True
abbrev wordsR:List Z7:=[[],[124],[94],[38]]
abbrev kindsR:List Int:=[0,29,30,28]
def wordR (lvl:Nat):Z7:=wordsR.getD lvl []
def kindR (lvl:Nat):Int:=kindsR.getD lvl 0
theorem tbT_L {k lvl:Nat} (hl:1≤lvl∧lvl≤3) {a:Nd} {ts:List Tk}:tbT (k+1) lvl a ts=if seesT (wordR lvl) ts then (trT k (lvl+1) ts.tail).bind fun b us=>tbT k lvl (ndK (kindR lvl) (hdT ts).2.2 [a,b]) us else .ok a ts:=by
 have:lvl=1∨lvl=2∨lvl=3:=by omega
 rcases this with rfl | rfl | rfl
 ·exact tbT_1
 ·exact tbT_2
 ·exact tbT_3
theorem trT_L {n lvl:Nat} (hl:lvl≠4) {ts:List Tk}:trT (n+1) lvl ts=(trT n (lvl+1) ts).bind fun a us=>tbT n lvl a us:=by rw [trT,if_neg hl]
theorem wordR_at {lvl:Nat} (hl:1≤lvl∧lvl≤3):idx wordsR (lvl:Int)=some (wordR lvl):=by
 have:lvl=1∨lvl=2∨lvl=3:=by omega
 rcases this with rfl | rfl | rfl<;>rfl
theorem kindR_at {lvl:Nat} (hl:1≤lvl∧lvl≤3):idx kindsR (lvl:Int)=some (kindR lvl):=by
 have:lvl=1∨lvl=2∨lvl=3:=by omega
 rcases this with rfl | rfl | rfl<;>rfl
section
variable {all:List Tk} (hall:TksOk all) (hlen:all.length≤40001)
include hall hlen
theorem tchain {n m lvl:Nat} (hl:1≤lvl∧lvl≤3) (hP:∀k,k≤n→HypG all (fun q=>(jp.fuel m).F ((lvl:Int)+1,q)) (trT k (lvl+1))) :
 ∀k,k≤n+1 → ∀(t:Tk) (a:Nd) σ q,RSt all σ q→RunTr all (iter (fun s:TR=>@jp.cf_ (jp.fuel m) _ (lvl:Int) wordsR kindsR s.1 s.2.1 s.2.2.1 s.2.2.2.1 s.2.2.2.2.1 s.2.2.2.2.2.1 s.2.2.2.2.2.2.1 s.2.2.2.2.2.2.2.1 s.2.2.2.2.2.2.2.2.1 s.2.2.2.2.2.2.2.2.2.1 s.2.2.2.2.2.2.2.2.2.2 some) (trOf t a q)) (Lf (tbT k lvl a) σ):=by
 have stop:∀(t:Tk) (a:Nd) σ q,RSt all σ q→seesS (wordR lvl) σ=false→iter (fun s:TR=>@jp.cf_ (jp.fuel m) _ (lvl:Int) wordsR kindsR s.1 s.2.1 s.2.2.1 s.2.2.2.1 s.2.2.2.2.1 s.2.2.2.2.2.1 s.2.2.2.2.2.2.1 s.2.2.2.2.2.2.2.1 s.2.2.2.2.2.2.2.2.1 s.2.2.2.2.2.2.2.2.2.1 s.2.2.2.2.2.2.2.2.2.2 some) (trOf t a q)=some (trOf t a q):=by
  intro t a σ q h hs
  refine JV ?_
  show @jp.cf_ (jp.fuel m) _ (lvl:Int) wordsR kindsR t.1 t.2.1 t.2.2 a.head.1 a.head.2.1 a.head.2.2.1 a.head.2.2.2 a.kids q.1 q.2.1 q.2.2.1 some=_
  unfold jp.cf_
  rw [wordR_at hl,jc,is_ok hall h,jc,hs]
  rfl
 intro k
 induction k with
 | zero=>
   intro hk t a σ q h
   cases σ with
   | good ts=>trivial
   | bad e=>exact ⟨t,a,q,stop t a _ q h rfl,h⟩
 | succ k ih=>
   intro hk t a σ q h
   cases σ with
   | bad e=>exact ⟨t,a,q,stop t a _ q h rfl,h⟩
   | good ts=>
     show RunTr all _ (tbT (k+1) lvl a ts)
     rw [tbT_L hl]
     cases hs:seesT (wordR lvl) ts with
     | true=>
       have hso:=JX hs
       obtain ⟨q',e,h'⟩:=Yh hall hlen h (by omega) (by omega)
       have hb:=hP k (by omega) ts.tail q' h'
       have hw:IntKind.i64.wrap ((lvl:Int)+1)=(lvl:Int)+1:=kG (by omega)
       have e7:∀(b:Nd) q2,(jp.fuel m).F ((lvl:Int)+1,q')=some (b,q2) →
        @jp.cf_ (jp.fuel m) _ (lvl:Int) wordsR kindsR t.1 t.2.1 t.2.2 a.head.1 a.head.2.1 a.head.2.2.1 a.head.2.2.2 a.kids q.1 q.2.1 q.2.2.1 some=some (.inl (trOf (hdT ts) (ndK (kindR lvl) (hdT ts).2.2 [a,b]) q2)):=by
        intro b q2 hb
        have e8:@jp.c8 (jp.fuel m) _ (lvl:Int) kindsR (hdT ts).2.2 a.head.1 a.head.2.1 a.head.2.2.1 a.head.2.2.2 a.kids q'.1 q'.2.1 q'.2.2.1 some=some (crOf (ndK (kindR lvl) (hdT ts).2.2 [a,b]) q2):=by
         unfold jp.c8
         rw [kindR_at hl,jc,hw]
         refine Jk hb ?_
         simp only [mk_ok,jc,Jm]
         rfl
        unfold jp.cf_
        rw [wordR_at hl,jc,is_ok hall h,jc,show seesS (wordR lvl) (.good ts)=true from hs]
        dsimp only
        rw [br_tt,e,jc]
        dsimp only
        rw [e8,jc]
        rfl
       rw [if_pos rfl]
       cases hx:trT k (lvl+1) ts.tail with
       | out=>trivial
       | ok b us=>
         rw [hx] at hb
         obtain ⟨q2,eq,hq⟩:=hb
         have:=ih (by omega) (hdT ts) (ndK (kindR lvl) (hdT ts).2.2 [a,b]) (.good us) q2 hq
         simp only [Rd.bind]
         revert this
         show RunTr all _ (tbT k lvl _ us)→_
         cases tbT k lvl (ndK (kindR lvl) (hdT ts).2.2 [a,b]) us with
         | ok c vs=>rintro ⟨t3,p3,e3,h3⟩;exact ⟨t3,p3,JQ (e7 b q2 eq) e3,h3⟩
         | err c=>rintro ⟨t3,a3,p3,e3,h3⟩;exact ⟨t3,a3,p3,JQ (e7 b q2 eq) e3,h3⟩
         | out=>exact id
       | err c=>
         rw [hx] at hb
         obtain ⟨b,q2,eq,hq⟩:=hb
         obtain ⟨t3,a3,q3,e3,h3⟩:=ih (by omega) (hdT ts) (ndK (kindR lvl) (hdT ts).2.2 [a,b]) (.bad c) q2 hq
         exact ⟨t3,a3,q3,JQ (e7 b q2 eq) e3,h3⟩
     | false=>
       rw [if_neg (by simp)]
       exact ⟨t,q,stop t a _ q h hs,h⟩
theorem rtruth_step {n m lvl:Nat} (hl:1≤lvl∧lvl≤3) (hH:Hyp all (fun q=>(jp.fuel m).F ((lvl:Int)+1,q)) (trT n (lvl+1)))
 (hP:∀k,k≤n→HypG all (fun q=>(jp.fuel m).F ((lvl:Int)+1,q)) (trT k (lvl+1))) :
 Hyp all (fun q=>(jp.fuel (m+1)).F ((lvl:Int),q)) (trT (n+1) lvl):=by
 intro σ q h
 show RunF all (@jp (jp.fuel m) (lvl:Int) q.1 q.2.1 q.2.2.1) _
 have hs:Lf (trT (n+1) lvl) σ=Lf (fun ts=>(trT n (lvl+1) ts).bind fun a us=>tbT n lvl a us) σ:=by
  cases σ with
  | good ts=>exact trT_L (by omega)
  | bad e=>rfl
 obtain ⟨t,e,hk,ht⟩:=Vs hall h
 unfold jp
 rw [hs,e,jc,JI (show (lvl:Int)<4 by omega),JL,kG (by omega)]
 refine RunE.bind (hH σ q h) (fun a σ q h _=>?_)
 have hc:=tchain hall hlen hl hP n (by omega) t a σ q h
 rw [Lf_eta]
 revert hc
 cases Lf (tbT n lvl a) σ with
 | ok b us=>rintro ⟨t2,q2,e,hq⟩;refine ⟨q2,Jk e ?_,hq⟩;simp only [trOf,crOf,Jm]
 | err c=>rintro ⟨t2,b,q2,e,hq⟩;refine ⟨b,q2,Jk e ?_,hq⟩;simp only [trOf,crOf,Jm]
 | out=>exact id
theorem rtruth4_step {n m:Nat} (hn:n≤900000) (h1:HypG all (fun q=>(jp.fuel m).F (1,q)) (trT (n-1) 1)) (h4:HypG all (fun q=>(jp.fuel m).F (4,q)) (noT (n-1))) :
 Hyp all (fun q=>(jp.fuel (m+1)).F (4,q)) (noT n):=by
 intro σ q h
 show RunF all (@jp (jp.fuel m) 4 q.1 q.2.1 q.2.2.1) _
 obtain ⟨t,e,hk,ht⟩:=Vs hall h
 unfold jp
 rw [e,jc,JZ (show ¬(4:Int)<4 by omega)]
 dsimp only
 have hz:∀ts,σ=.good ts→n=0→RunF all (bnd (Jn [33] q.1 q.2.1 q.2.2.1) fun y_3=>none) (noT n ts):=fun ts _ h0=>by subst h0;trivial
 have hs:(∃ts,σ=.good ts∧n=0)∨Lf (noT n) σ=if seesS [33] σ=true then Lf (fun ts=>(noT (n-1) ts.tail).bind fun a us=>.ok (ndK 27 t.2.2 [a]) us) σ
  else if seesS [40] σ=true then Lf (fun ts=>(trT (n-1) 1 ts.tail).bind fun a us=>(wantT [41] us).bind fun _ us=>.ok a us) σ
  else if t.1=3∧(t.2.1=[48]∨t.2.1=[49]) then Lf (fun ts=>.ok (ndN 26 t.2.2 [] (if t.2.1=[48] then 0 else 1) []) ts.tail) σ else Lf (reT (n-1)) σ:=by
  cases σ with
  | good ts=>
    cases n with
    | zero=>exact .inl ⟨ts,rfl,rfl⟩
    | succ n=>
      have ht:=ht ts rfl
      subst ht
      refine .inr ?_
      show noT (n+1) ts=_
      rw [noT]
      simp only [bsE, show bs "!" = [33] from by decide, show bs "0" = [48] from by decide, show bs "1" = [49] from by decide]
      rfl
  | bad e=>refine .inr ?_;simp [Lf,seesS]
 rcases hs with ⟨ts,rfl,rfl⟩ | hs
 ·trivial
 rw [hs,is_ok hall h,jc]
 dsimp only
 cases hs1:seesS [33] σ with
 | true=>
   obtain ⟨ts,rfl,hs2⟩:=YM hs1
   have hso:=JX hs2
   obtain ⟨q',e,h'⟩:=Yh hall hlen h (by omega) (by omega)
   rw [br_tt,e,jc,if_pos rfl]
   simp only [jp.c12,Yr]
   refine RunE.bind (h4 ts.tail q' h') (fun a σ q h _=>?_)
   simp only [mk_ok,jc,Jm]
   exact RunE.ok (I:=Prod.mk) h
 | false=>
   rw [br_ff,if_neg (by simp),is_ok hall h,jc]
   dsimp only
   cases hs2:seesS [40] σ with
   | true=>
     obtain ⟨ts,rfl,hs3⟩:=YM hs2
     have hso:=JX hs3
     obtain ⟨q',e,h'⟩:=Yh hall hlen h (by omega) (by omega)
     rw [br_tt,e,jc,if_pos rfl]
     refine RunE.bind (h1 ts.tail q' h') (fun a σ q h _=>?_)
     rw [JL]
     refine RunE.bind (kV hall hlen h [41]) (fun x σ q h _=>?_)
     simp only [Jm]
     exact RunE.ok (I:=Prod.mk) h
   | false=>
     rw [br_ff,if_neg (by simp)]
     have e18:jp.c18 t.1 t.2.1 some=some (decide (t.1=3∧(t.2.1=[48]∨t.2.1=[49]))):=by
      unfold jp.c18
      by_cases h3:t.1=3
      ·rw [Yd (by simpa using h3)]
       by_cases h0:t.2.1=[48]
       ·rw [Yd (by rw [h0];rfl)];simp [h3,h0]
       ·rw [kI (by simpa using h0)]
        simp only [h3,h0,true_and,false_or]
        exact congrArg some (by rw [Bool.eq_iff_iff];simp)
      ·rw [kI (by simpa using h3)];simp [h3]
     rw [e18,jc]
     by_cases hc:t.1=3∧(t.2.1=[48]∨t.2.1=[49])
     ·rw [zl hc,br_tt,if_pos hc]
      have e20:jp.c20 t.2.1 t.2.2 some=some (26,t.2.2,[],(if t.2.1=[48] then 0 else 1),[]):=by
       unfold jp.c20
       rcases hc.2 with h0 | h0<;>(rw [h0];rfl)
      cases σ with
      | good ts=>
        have ht:=ht ts rfl
        subst ht
        obtain ⟨q',e,h'⟩:=Yh hall hlen h (by omega) (by omega)
        rw [e,jc,e20,jc]
        exact ⟨q',rfl,h'⟩
      | bad e'=>
        obtain ⟨t',q',e,_,h'⟩:=Hb hall hlen h
        dsimp only at h'
        subst h'
        rw [e,jc,e20,jc]
        exact ⟨_,q',rfl,h⟩
     ·rw [zm hc,br_ff,if_neg hc]
      exact rpass _ _ (HC hall hlen (by omega) h)
theorem rtr4 {n m:Nat} (h:Hyp all (fun q=>(jp.fuel m).F (4,q)) (noT n)):Hyp all (fun q=>(jp.fuel m).F (4,q)) (trT (n+1) 4):=by
 intro σ q hq
 have:=h σ q hq
 cases σ with
 | good ts=>show RunF all _ (trT (n+1) 4 ts);rw [trT_4];exact this
 | bad e=>exact this
theorem truth_bad {m:Nat} (hm:4≤m):∀lvl:Nat,1≤lvl→lvl≤4 → ∀e q,RSt all (.bad e) q→RunF all ((jp.fuel m).F ((lvl:Int),q)) (.err e):=by
 have h4:∀m,Hyp all (fun q=>(jp.fuel (m+1)).F (4,q)) (noT 0):=fun m=>rtruth4_step hall hlen (by omega) (fun ts q h=>trivial) (fun ts q h=>trivial)
 have h40:∀m,Hyp all (fun q=>(jp.fuel (m+1)).F (((3:Nat):Int)+1,q)) (trT 0 4):=fun m=>Hyp.zero (fun _=>rfl) fun e q h=>h4 m (.bad e) q h
 have h3:∀m,Hyp all (fun q=>(jp.fuel (m+2)).F (((3:Nat):Int),q)) (trT 1 3):=fun m=>rtruth_step hall hlen (by omega) (h40 m) (fun k hk ts q h=>by
  obtain rfl:k=0:=by omega
  trivial)
 have h30:∀m,Hyp all (fun q=>(jp.fuel (m+2)).F (((2:Nat):Int)+1,q)) (trT 0 3):=fun m=>Hyp.zero (fun _=>rfl) fun e q h=>h3 m (.bad e) q h
 have h2:∀m,Hyp all (fun q=>(jp.fuel (m+3)).F (((2:Nat):Int),q)) (trT 1 2):=fun m=>rtruth_step hall hlen (by omega) (h30 m) (fun k hk ts q h=>by
  obtain rfl:k=0:=by omega
  trivial)
 have h20:∀m,Hyp all (fun q=>(jp.fuel (m+3)).F (((1:Nat):Int)+1,q)) (trT 0 2):=fun m=>Hyp.zero (fun _=>rfl) fun e q h=>h2 m (.bad e) q h
 have h1:∀m,Hyp all (fun q=>(jp.fuel (m+4)).F (((1:Nat):Int),q)) (trT 1 1):=fun m=>rtruth_step hall hlen (by omega) (h20 m) (fun k hk ts q h=>by
  obtain rfl:k=0:=by omega
  trivial)
 obtain ⟨m,rfl⟩:∃k,m=k+4:=⟨m-4,by omega⟩
 intro lvl g1 g4 e q h
 have:lvl=1∨lvl=2∨lvl=3∨lvl=4:=by omega
 rcases this with rfl | rfl | rfl | rfl
 ·exact h1 m (.bad e) q h
 ·exact h2 (m+1) (.bad e) q h
 ·exact h3 (m+2) (.bad e) q h
 ·exact h4 (m+3) (.bad e) q h
theorem rtruth_all:∀n m,n≤900000→n+4≤m→(∀lvl:Nat,1≤lvl→lvl≤4→Hyp all (fun q=>(jp.fuel m).F ((lvl:Int),q)) (trT n lvl))∧Hyp all (fun q=>(jp.fuel m).F (4,q)) (noT n):=by
 intro n
 induction n using Nat.strongRecOn with
 | _ n ih=>
   intro m hn hm
   cases n with
   | zero=>
     refine ⟨fun lvl h1 h4=>Hyp.zero (fun _=>rfl) (truth_bad hall hlen (by omega) lvl h1 h4),?_⟩
     exact Hyp.zero (fun _=>rfl) (truth_bad hall hlen (by omega) 4 (by omega) (by omega))
   | succ n=>
     obtain ⟨m,rfl⟩:∃m',m=m'+1:=⟨m-1,by omega⟩
     have hk:∀k,k≤n→_:=fun k hk=>ih k (by omega) m (by omega) (by omega)
     have hno:=rtruth4_step hall hlen (n:=n+1) (by omega) ((hk n (zu _)).1 1 (by omega) (by omega)).good (hk n (zu _)).2.good
     refine ⟨fun lvl h1 h4=>?_,hno⟩
     by_cases h:lvl=4
     ·subst h
      refine rtr4 hall hlen ?_
      exact (ih n (by omega) (m+1) (by omega) (by omega)).2
     ·exact rtruth_step hall hlen (by omega) ((hk n (zu _)).1 (lvl+1) (by omega) (by omega)) fun k hk'=>((hk k hk').1 (lvl+1) (by omega) (by omega)).good
theorem rtruth_ok {n:Nat} (hn:n≤900000) {σ:Sg} {q:RS} (h:RSt all σ q):RunF all (VT (1,q)) (Lf (trT n 1) σ):=(rtruth_all hall hlen n 1000000 (by omega) (by omega)).1 1 (by omega) (by omega) σ q h
end
end W
end

section
set_option maxRecDepth 4000
namespace W
open Go Go.Ql
section
variable {all:List Tk} (hall:TksOk all) (hlen:all.length≤40001)
include hall hlen
omit hall hlen in
theorem good_len {ts:List Tk} {q:RS} (h:RSt all (.good ts) q):1≤ts.length∧ts.length≤all.length:=by
 obtain ⟨_,_,j,_,h5,h6⟩:=h
 rw [←h6,zq];omega
theorem rlist_loop {one:List Tk→Rd Nd} {f:QR→Option (QR⊕QR)} (hq:∀ts,Lq (one ts) ts.length)
 (h1:∀l ts q,RSt all (.good ts) q→l.length≤100000→seesT [44] ts=true→RunE all (fun (a:Nd) q=>(Sum.inl (qOf (l++[a]) q):QR⊕QR)) (f (qOf l q)) (one ts.tail))
 (h2:∀l σ q,RSt all σ q→seesS [44] σ=false→f (qOf l q)=some (.inr (qOf l q))) :
 ∀k l σ q,RSt all σ q→LenOk σ l→RunE all qOf (iter f (qOf l q)) (Lf (liT one k l) σ)
 | 0,l,σ,q,h,hl=>by
   cases σ with
   | good ts=>trivial
   | bad e=>exact ⟨l,q,JV (h2 l _ q h rfl),h⟩
 | k+1,l,σ,q,h,hl=>by
   cases σ with
   | bad e=>exact ⟨l,q,JV (h2 l _ q h rfl),h⟩
   | good ts=>
     have hl':l.length+ts.length≤100000:=hl
     show RunE all qOf _ (liT one (k+1) l ts)
     rw [liT_eq]
     cases hs:seesT [44] ts with
     | true=>
       have htl:=jT hs
       have hlq:=hq ts.tail
       have ho:=h1 l ts q h (by omega) hs
       rw [if_pos rfl]
       cases hx:one ts.tail with
       | out=>trivial
       | ok a us=>
         rw [hx] at ho hlq
         obtain ⟨q2,e2,hq2⟩:=ho
         have hus:us.length<ts.tail.length:=hlq
         have:=rlist_loop hq h1 h2 k (l++[a]) (.good us) q2 hq2 (show (l++[a]).length+us.length≤100000 by simp only [z8,zz];omega)
         simp only [Rd.bind]
         revert this
         show RunE all _ _ (liT one k (l++[a]) us)→_
         cases liT one k (l++[a]) us with
         | ok c vs=>rintro ⟨p3,e3,h3⟩;exact ⟨p3,JQ e2 e3,h3⟩
         | err c=>rintro ⟨b3,p3,e3,h3⟩;exact ⟨b3,p3,JQ e2 e3,h3⟩
         | out=>exact id
       | err c=>
         rw [hx] at ho
         obtain ⟨a,q2,e2,hq2⟩:=ho
         exact ⟨l++[a],q2,JQ e2 (JV (h2 (l++[a]) _ q2 hq2 rfl)),hq2⟩
     | false=>
       rw [if_neg (by simp)]
       exact ⟨q,JV (h2 l _ q h hs),h⟩
theorem rargs_ok {n k:Nat} (hn:n≤900000) {σ:Sg} {q:RS} (h:RSt all σ q) :
 RunE all qOf (Jd.cR_ [] q.1 q.2.1 q.2.2.1 some) (Lf (fun ts=>if seesT [40] ts=true then (lsT (xpT n 1) k ts.tail).bind fun l us=>(wantT [41] us).bind fun _ us=>.ok l us else .ok [] ts) σ):=by
 rw [Lf_if]
 unfold Jd.cR_
 simp only [JF,is_ok hall h,jc]
 cases hs:seesS [40] σ with
 | true=>
   obtain ⟨ts,rfl,hs2⟩:=YM hs
   have hso:=JX hs2
   obtain ⟨q',e,h'⟩:=Yh hall hlen h (by omega) (by omega)
   simp only [br_tt,e,jc,if_true]
   show RunE all qOf _ (((xpT n 1 ts.tail).bind fun a us=>liT (xpT n 1) k [a] us).bind _)
   rw [Ul]
   refine RunE.bind (Uf hall hlen hn h') (fun a σ q h hu=>?_)
   rw [show okIf (decide ((List.length ([]:List (Rose (Int×(Int×(Z7×Int)))))+(1:Nat))*(64:Nat)≤(140737488355328:Nat))&&decide (List.length ([]:List (Rose (Int×(Int×(Z7×Int)))))+(1:Nat)≤(140737488355328:Nat)))=some () from ok64 (by simp),jc,JL]
   refine RunE.bind (I:=qOf) (rlist_loop hall hlen (f:=fun s:QR=>Jd.cc_ s.1 s.2.1 s.2.2.1 s.2.2.2 some) (fun _=>ex_lq) (fun l ts q h hl hs=>?_) (fun l σ q h hs=>?_) k [a] σ q h ?_) (fun l σ q h _=>?_)
   ·have hso:=JX hs
    obtain ⟨q',e,h'⟩:=Yh hall hlen h (by omega) (by omega)
    show RunE all _ (Jd.cc_ l q.1 q.2.1 q.2.2.1 some) _
    unfold Jd.cc_
    simp only [JF,is_ok hall h,jc,show seesS [44] (.good ts)=true from hs,br_tt,e]
    have hr:=Uf hall hlen hn h'
    revert hr
    show RunF all _ (xpT n 1 ts.tail)→_
    cases xpT n 1 ts.tail with
    | ok b us=>rintro ⟨q2,e2,hq2⟩;exact ⟨q2,Jk e2 (Jk (ok64L (l:=l) (by omega)) rfl),hq2⟩
    | err c=>rintro ⟨b,q2,e2,hq2⟩;exact ⟨b,q2,Jk e2 (Jk (ok64L (l:=l) (by omega)) rfl),hq2⟩
    | out=>exact id
   ·show Jd.cc_ l q.1 q.2.1 q.2.2.1 some=_
    unfold Jd.cc_
    simp only [JF,is_ok hall h,jc,hs,br_ff]
    rfl
   ·cases σ with
    | good us=>have:=good_len h;show [a].length+us.length≤100000;simp only [zz];omega
    | bad e=>trivial
   ·rw [JL]
    refine RunE.bind (kV hall hlen h [41]) (fun x σ q h _=>?_)
    exact RunE.ok (I:=qOf) h
 | false=>
   simp only [br_ff,zf,if_false]
   exact RunE.ok (I:=qOf) h
theorem rrefs_ok {n k:Nat} (hn:n≤900000) {σ:Sg} {q:RS} (h:RSt all σ q) :
 RunE all qOf (Jd.cU_ [] q.1 q.2.1 q.2.2.1 some) (Lf (fun ts=>if (hdT ts).1=1 then lsT (reT n) k ts else .ok [] ts) σ):=by
 unfold Jd.cU_
 have e9:Jd.c9 q.1 q.2.1 q.2.2.1 some=some ((match σ with | .good ts=>decide ((hdT ts).1=1) | .bad _=>false),q.1,q.2.1,q.2.2.1):=by
  obtain ⟨t,e,hk,ht⟩:=Vs hall h
  unfold Jd.c9
  cases σ with
  | good ts=>
    have ht:=ht ts rfl
    subst ht
    rw [JI (by rw [h.2.1];decide),e,jc]
    rw [show (((hdT ts,q).1.1)==(1:Int))=decide ((hdT ts).1=1) from by rw [Bool.eq_iff_iff];simp]
  | bad e'=>rw [JZ (by rw [h.2.1];have:=h.2.2.1;omega)]
 rw [e9,jc]
 cases σ with
 | bad e=>exact ⟨[],q,rfl,h⟩
 | good ts=>
   dsimp only
   show RunE all qOf _ (if (hdT ts).1=1 then lsT (reT n) k ts else .ok [] ts)
   by_cases h1:(hdT ts).1=1
   ·rw [zl h1,br_tt,if_pos h1]
    show RunE all qOf _ ((reT n ts).bind fun a us=>liT (reT n) k [a] us)
    refine RunE.bind (HC hall hlen hn h) (fun a σ q h hu=>?_)
    rw [show okIf (decide ((List.length ([]:List (Rose (Int×(Int×(Z7×Int)))))+(1:Nat))*(64:Nat)≤(140737488355328:Nat))&&decide (List.length ([]:List (Rose (Int×(Int×(Z7×Int)))))+(1:Nat)≤(140737488355328:Nat)))=some () from ok64 (by simp),jc]
    have hc:=rlist_loop hall hlen (f:=fun s:QR=>Jd.ck_ s.1 s.2.1 s.2.2.1 s.2.2.2 some) (one:=reT n) (fun _=>re_lq) (fun l ts q h hl hs=>by
     have hso:=JX hs
     obtain ⟨q',e,h'⟩:=Yh hall hlen h (by omega) (by omega)
     show RunE all _ (Jd.ck_ l q.1 q.2.1 q.2.2.1 some) _
     unfold Jd.ck_
     simp only [JF,is_ok hall h,jc,show seesS [44] (.good ts)=true from hs,br_tt,e]
     have hr:=HC hall hlen hn h'
     revert hr
     show RunF all _ (reT n ts.tail)→_
     cases reT n ts.tail with
     | ok b us=>rintro ⟨q2,e2,hq2⟩;exact ⟨q2,Jk e2 (Jk (ok64L (l:=l) (by omega)) rfl),hq2⟩
     | err c=>rintro ⟨b,q2,e2,hq2⟩;exact ⟨b,q2,Jk e2 (Jk (ok64L (l:=l) (by omega)) rfl),hq2⟩
     | out=>exact id) (fun l σ q h hs=>by
     show Jd.ck_ l q.1 q.2.1 q.2.2.1 some=_
     unfold Jd.ck_
     simp only [JF,is_ok hall h,jc,hs,br_ff]
     rfl) k [a] σ q h (by
     cases σ with
     | good us=>have:=good_len h;show [a].length+us.length≤100000;simp only [zz];omega
     | bad e=>trivial)
    rw [Lf_eta]
    revert hc
    cases Lf (liT (reT n) k [a]) σ with
    | ok b us=>rintro ⟨q2,e,hq⟩;exact ⟨q2,Jk e rfl,hq⟩
    | err c=>rintro ⟨b,q2,e,hq⟩;exact ⟨b,q2,Jk e rfl,hq⟩
    | out=>exact id
   ·rw [zm h1,br_ff,if_neg h1]
    exact ⟨q,rfl,h⟩
theorem rapply_ok {n:Nat} (hn:n≤900000) (at_:Int) (w:Tk) (mods:List Nd) {σ:Sg} {q:RS} (h:RSt all σ q) :
 RunF all (Jd at_ w.2.1 mods q.1 q.2.1 q.2.2.1) (Lf (apT n at_ mods w) σ):=by
 have hs:Lf (apT n at_ mods w) σ=Lf (fun ts=>(if seesT [40] ts=true then (lsT (xpT n 1) n ts.tail).bind fun l us=>(wantT [41] us).bind fun _ us=>.ok l us else .ok [] ts).bind fun args us=>
  (if (hdT us).1=1 then lsT (reT n) n us else .ok [] us).bind fun refs us=>(wantT [59] us).bind fun _ us=>.ok (ndN 8 at_ w.2.1 0 [gr mods,gr args,gr refs]) us) σ:=by
  cases σ with
  | good ts=>show apT n at_ mods w ts=_;unfold apT;simp only [bsE];rfl
  | bad e=>rfl
 unfold Jd
 rw [hs,JL]
 refine RunE.bind (rargs_ok hall hlen hn h) (fun args σ q h _=>?_)
 rw [JL]
 refine RunE.bind (rrefs_ok hall hlen hn h) (fun refs σ q h _=>?_)
 rw [JL]
 refine RunE.bind (kV hall hlen h [59]) (fun x σ q h _=>?_)
 simp only [mk_ok,jc,Jm]
 exact RunE.ok (I:=Prod.mk) h
theorem rmods_loop {n:Nat} (hn:n≤900000):∀k l σ q,k≤n→RSt all σ q→LenOk σ l →
 RunE all qOf (iter (fun s:QR=>je.cw_ s.1 s.2.1 s.2.2.1 s.2.2.2 some) (qOf l q)) (Lf (moT k l) σ):=by
 have e42:∀σ q,RSt all σ q→je.c42 q.1 q.2.1 q.2.2.1 some=some (seesS [105,110,118] σ||(seesS [99,116,114,108] σ||seesS [112,111,119] σ),q.1,q.2.1,q.2.2.1):=by
  intro σ q h
  unfold je.c42
  simp only [JF,is_ok hall h,jc]
  cases seesS [105,110,118] σ
  ·cases seesS [99,116,114,108] σ<;>simp [br_tt,br_ff]
  ·simp [br_tt]
 have stop:∀l σ q,RSt all σ q→(seesS [105,110,118] σ||(seesS [99,116,114,108] σ||seesS [112,111,119] σ))=false→iter (fun s:QR=>je.cw_ s.1 s.2.1 s.2.2.1 s.2.2.2 some) (qOf l q)=some (qOf l q):=by
  intro l σ q h hs
  refine JV ?_
  show je.cw_ l q.1 q.2.1 q.2.2.1 some=_
  unfold je.cw_
  rw [e42 σ q h,jc,hs]
  rfl
 intro k
 induction k with
 | zero=>
   intro l σ q hk h hl
   cases σ with
   | good ts=>trivial
   | bad e=>exact ⟨l,q,stop l _ q h rfl,h⟩
 | succ k ih=>
   intro l σ q hk h hl
   cases σ with
   | bad e=>exact ⟨l,q,stop l _ q h rfl,h⟩
   | good ts=>
     have hl':l.length+ts.length≤100000:=hl
     show RunE all qOf _ (moT (k+1) l ts)
     rw [Ns]
     have go:∀(s:Rd (List Nd)),(∀l' us,s=.ok l' us→l'.length+us.length≤100000)→(RunE all (fun (l':List Nd) q=>(Sum.inl (qOf l' q):QR⊕QR)) (je.cw_ l q.1 q.2.1 q.2.2.1 some) s)→RunE all qOf (iter (fun s:QR=>je.cw_ s.1 s.2.1 s.2.2.1 s.2.2.2 some) (qOf l q)) (s.bind fun l us=>moT k l us):=by
      intro s hs hr
      cases s with
      | ok l' us=>
        obtain ⟨q2,e2,h2⟩:=hr
        have:=ih l' (.good us) q2 (by omega) h2 (hs l' us rfl)
        simp only [Rd.bind]
        revert this
        show RunE all _ _ (moT k l' us)→_
        cases moT k l' us with
        | ok c vs=>rintro ⟨p3,e3,h3⟩;exact ⟨p3,JQ e2 e3,h3⟩
        | err c=>rintro ⟨b3,p3,e3,h3⟩;exact ⟨b3,p3,JQ e2 e3,h3⟩
        | out=>exact id
      | err c=>
        obtain ⟨l',q2,e2,h2⟩:=hr
        exact ⟨l',q2,JQ e2 (stop l' _ q2 h2 rfl),h2⟩
      | out=>trivial
     have lenOk:∀(x:Nd) (s:Rd Tk),Lq s ts.length → ∀l' us,(s.bind fun _ us=>.ok (l++[x]) us)=.ok l' us→l'.length+us.length≤100000:=by
      intro x s hq l' us e
      cases s with
      | ok t vs=>injection e with e1 e2;rw [←e1,←e2];have:vs.length<ts.length:=hq;simp only [z8,zz];omega
      | err c=>cases e
      | out=>cases e
     have hc:=e42 (.good ts) q h
     cases h1:seesT [105,110,118] ts with
     | true=>
       have hso:=JX h1
       have htl:=jT h1
       obtain ⟨q',e,h'⟩:=Yh hall hlen h (by omega) (by omega)
       rw [if_pos rfl]
       refine go _ (lenOk _ _ (want_lq.mono (by omega))) ?_
       unfold je.cw_ je.cz_
       rw [hc,jc]
       dsimp only
       rw [show (seesS [105,110,118] (.good ts))=true from h1,Bool.true_or,br_tt,e,jc]
       dsimp only
       rw [Yd (by rw [Uo h1];rfl),mk_ok,jc,ok64L (l:=l) (by omega),jc,jc]
       refine RunE.bind (s:=wantT [64] ts.tail) (kV hall hlen h' [64]) (fun x σ q h _=>?_)
       exact RunE.ok (I:=fun (l':List Nd) q=>(Sum.inl (qOf l' q):QR⊕QR)) (a:=l++[ndK 9 (hdT ts).2.2 []]) h
     | false=>
       rw [if_neg (by simp)]
       cases h2:seesT [99,116,114,108] ts with
       | true=>
         have hso:=JX h2
         have htl:=jT h2
         obtain ⟨q',e,h'⟩:=Yh hall hlen h (by omega) (by omega)
         rw [if_pos rfl]
         refine go _ (lenOk _ _ (want_lq.mono (by omega))) ?_
         unfold je.cw_ je.cz_
         rw [hc,jc]
         dsimp only
         rw [show (seesS [99,116,114,108] (.good ts))=true from h2,Bool.true_or,Bool.or_true,br_tt,e,jc]
         dsimp only
         rw [kI (by rw [Uo h2];rfl),Yd (by rw [Uo h2];rfl),mk_ok,jc,ok64L (l:=l) (by omega),jc,jc]
         refine RunE.bind (s:=wantT [64] ts.tail) (kV hall hlen h' [64]) (fun x σ q h _=>?_)
         exact RunE.ok (I:=fun (l':List Nd) q=>(Sum.inl (qOf l' q):QR⊕QR)) (a:=l++[ndK 10 (hdT ts).2.2 []]) h
       | false=>
         rw [if_neg (by simp)]
         cases h3:seesT [112,111,119] ts with
         | true=>
           have hso:=JX h3
           have htl:=jT h3
           obtain ⟨q',e,h'⟩:=Yh hall hlen h (by omega) (by omega)
           rw [if_pos rfl]
           refine go _ ?_ ?_
           ·have hq:=Lq.bind (M:=ts.length) (want_lq (w:=[40]) (ts:=ts.tail)) (f:=fun _ us=>(xpT k 1 us).bind fun e us=>(wantT [41] us).bind fun _ us=>(wantT [64] us).bind fun _ us=>.ok (l++[ndK 11 (hdT ts).2.2 [e]]) us) (fun _ us h=>ex_lq.bind fun e vs hv=>want_lq.bind fun _ xs hx=>want_lq.bind fun _ ys hy=>by show _<_;omega)
            intro l' us e'
            rw [e'] at hq
            have hus:us.length<ts.length:=hq
            have hll:l'.length=l.length+1:=by
             revert e'
             cases wantT [40] ts.tail with
             | ok a vs=>
               simp only [Rd.bind]
               cases xpT k 1 vs with
               | ok b xs=>
                 simp only [Rd.bind]
                 cases wantT [41] xs with
                 | ok c ys=>
                   simp only [Rd.bind]
                   cases wantT [64] ys with
                   | ok d zs=>intro hs;injection hs with hs1 hs2;rw [←hs1];simp
                   | err c=>intro hs;cases hs
                   | out=>intro hs;cases hs
                 | err c=>intro hs;cases hs
                 | out=>intro hs;cases hs
               | err c=>intro hs;cases hs
               | out=>intro hs;cases hs
             | err c=>intro hs;cases hs
             | out=>intro hs;cases hs
            omega
           ·unfold je.cw_ je.cz_
            rw [hc,jc]
            dsimp only
            rw [show (seesS [112,111,119] (.good ts))=true from h3,Bool.or_true,Bool.or_true,br_tt,e,jc]
            dsimp only
            rw [kI (by rw [Uo h3];rfl),kI (by rw [Uo h3];rfl)]
            simp only [Yr]
            refine RunE.bind (s:=wantT [40] ts.tail) (kV hall hlen h' [40]) (fun x σ q h _=>?_)
            rw [JL]
            refine RunE.bind (Uf hall hlen (by omega) h) (fun a σ q h _=>?_)
            rw [JL]
            refine RunE.bind (kV hall hlen h [41]) (fun x σ q h _=>?_)
            simp only [mk_ok,jc,Jm]
            rw [ok64L (l:=l) (by omega),jc,JL]
            refine RunE.bind (kV hall hlen h [64]) (fun x σ q h _=>?_)
            exact RunE.ok (I:=fun (l':List Nd) q=>(Sum.inl (qOf l' q):QR⊕QR)) (a:=l++[ndK 11 (hdT ts).2.2 [a]]) h
         | false=>
           rw [if_neg (by simp)]
           exact ⟨q,stop l _ q h (by
            show (seesT [105,110,118] ts||(seesT [99,116,114,108] ts||seesT [112,111,119] ts))=false
            rw [h1,h2,h3];rfl),h⟩
end
end W
end

section
set_option maxRecDepth 4000
namespace W
open Go Go.Ql
def sq0:Nat→List Nd→List Tk→Rd (List Nd)
 | 0,_,_=>.out
 | n+1,l,ts=>if seesT [125] ts then .ok l ts else (stT n ts).bind fun a us=>sq0 n (l++[a]) us
theorem sq0_eq:∀(n:Nat) (l:List Nd) (ts:List Tk),((sq0 n l ts).bind fun l us=>(wantT [125] us).bind fun _ us=>.ok l us)=sqT n l ts
 | 0,_,_=>rfl
 | n+1,l,ts=>by
   rw [sq0,sqT]
   cases hs:seesT [125] ts with
   | true=>
     rw [if_pos rfl,if_pos rfl]
     show (wantT [125] ts).bind _=_
     unfold wantT
     rw [if_pos hs]
     rfl
   | false=>
     rw [if_neg (by simp),if_neg (by simp),Ul]
     congr 1
     funext a us
     exact sq0_eq n (l++[a]) us
section
variable {all:List Tk} (hall:TksOk all) (hlen:all.length≤40001)
include hall hlen
theorem rblock_loop {n m:Nat} (hS:∀k,k≤n→HypG all (Yc.fuel m).F_R_rp_statement_b (stT k)) :
 ∀k l σ q,k≤n+1→RSt all σ q→LenOk σ l→RunE all qOf (iter (fun s:QR=>@jS.cd_ (Yc.fuel m) _ s.1 s.2.1 s.2.2.1 s.2.2.2 some) (qOf l q)) (Lf (sq0 k l) σ):=by
 have stop:∀l σ q,RSt all σ q→(∀ts,σ=.good ts→seesT [125] ts=true)→iter (fun s:QR=>@jS.cd_ (Yc.fuel m) _ s.1 s.2.1 s.2.2.1 s.2.2.2 some) (qOf l q)=some (qOf l q):=by
  intro l σ q h hs
  refine JV ?_
  show @jS.cd_ (Yc.fuel m) _ l q.1 q.2.1 q.2.2.1 some=_
  unfold jS.cd_ jS.c3
  cases σ with
  | good ts=>
    rw [JI (by rw [h.2.1];decide)]
    simp only [JF,is_ok hall h,jc,show seesS [125] (.good ts)=true from hs ts rfl,Bool.not_true,br_ff]
    rfl
  | bad e=>rw [JZ (by rw [h.2.1];have:=h.2.2.1;omega)];rfl
 intro k
 induction k with
 | zero=>
   intro l σ q hk h hl
   cases σ with
   | good ts=>trivial
   | bad e=>exact ⟨l,q,stop l _ q h (fun ts e=>by cases e),h⟩
 | succ k ih=>
   intro l σ q hk h hl
   cases σ with
   | bad e=>exact ⟨l,q,stop l _ q h (fun ts e=>by cases e),h⟩
   | good ts=>
     have hl':l.length+ts.length≤100000:=hl
     show RunE all qOf _ (sq0 (k+1) l ts)
     rw [sq0]
     cases hs:seesT [125] ts with
     | true=>
       rw [if_pos rfl]
       exact ⟨q,stop l _ q h (fun ts' e=>by injection e with e;rw [←e];exact hs),h⟩
     | false=>
       rw [if_neg (by simp)]
       have hb:=hS k (by omega) ts q h
       have hlq:=st_lq (n:=k) (ts:=ts)
       have e7:∀a q2,(Yc.fuel m).F_R_rp_statement_b q=some (a,q2) → @jS.cd_ (Yc.fuel m) _ l q.1 q.2.1 q.2.2.1 some=some (.inl (qOf (l++[a]) q2)):=by
        intro a q2 e
        unfold jS.cd_ jS.c3
        rw [JI (by rw [h.2.1];decide)]
        simp only [JF,is_ok hall h,jc,show seesS [125] (.good ts)=false from hs,Bool.not_false,br_tt]
        exact Jk e (Jk (ok64L (l:=l) (by omega)) rfl)
       cases hx:stT k ts with
       | out=>trivial
       | ok a us=>
         rw [hx] at hb hlq
         have hus:us.length<ts.length:=hlq
         obtain ⟨q2,e2,h2⟩:=hb
         have:=ih (l++[a]) (.good us) q2 (by omega) h2 (show (l++[a]).length+us.length≤100000 by simp only [z8,zz];omega)
         simp only [Rd.bind]
         revert this
         show RunE all _ _ (sq0 k (l++[a]) us)→_
         cases sq0 k (l++[a]) us with
         | ok c vs=>rintro ⟨p3,e3,h3⟩;exact ⟨p3,JQ (e7 a q2 e2) e3,h3⟩
         | err c=>rintro ⟨b3,p3,e3,h3⟩;exact ⟨b3,p3,JQ (e7 a q2 e2) e3,h3⟩
         | out=>exact id
       | err c=>
         rw [hx] at hb
         obtain ⟨a,q2,e2,h2⟩:=hb
         exact ⟨l++[a],q2,JQ (e7 a q2 e2) (stop _ _ q2 h2 (fun ts e=>by cases e)),h2⟩
theorem rblock_step {n m:Nat} (hS:∀k,k≤n→HypG all (Yc.fuel m).F_R_rp_statement_b (stT k)):Hyp all (Yc.fuel (m+1)).F_R_rp_block_b (blT (n+1)):=by
 intro σ q h
 show RunF all (@jS (Yc.fuel m) q.1 q.2.1 q.2.2.1) _
 have hs:Lf (blT (n+1)) σ=Lf (fun ts=>(wantT [123] ts).bind fun t us=>(sq0 n [] us).bind fun l us=>(wantT [125] us).bind fun _ us=>.ok (ndK 7 t.2.2 l) us) σ:=by
  cases σ with
  | good ts=>
    show blT (n+1) ts=(wantT [123] ts).bind fun t us=>(sq0 n [] us).bind fun l us=>(wantT [125] us).bind fun _ us=>.ok (ndK 7 t.2.2 l) us
    rw [blT]
    congr 1
    funext t us
    rw [←sq0_eq,Ul]
    congr 1
    funext l vs
    rw [Ul]
    rfl
  | bad e=>rfl
 unfold jS
 rw [hs,JL]
 refine RunE.bind (kV hall hlen h [123]) (fun t σ q h _=>?_)
 rw [JL]
 refine RunE.bind (I:=qOf) (rblock_loop hall hlen hS n [] σ q (by omega) h ?_) (fun l σ q h _=>?_)
 ·cases σ with
  | good us=>have:=good_len h;show [].length+us.length≤100000;simp only [ze];omega
  | bad e=>trivial
 ·rw [JL]
  refine RunE.bind (kV hall hlen h [125]) (fun x σ q h _=>?_)
  simp only [mk_ok,jc,Jm]
  exact RunE.ok (I:=Prod.mk) h
theorem Lf_if2 {α:Type} {w v:Z7} {A B:List Tk→Rd α} {σ:Sg}:Lf (fun ts=>if (seesT w ts||seesT v ts)=true then A ts else B ts) σ=if (seesS w σ||seesS v σ)=true then Lf A σ else Lf B σ:=by
 cases σ with
 | good ts=>rfl
 | bad e=>simp [seesS,Lf]
theorem c54_ok {mods:List Nd} {σ:Sg} {q:RS} (h:RSt all σ q):je.c54 mods q.1 q.2.1 q.2.2.1 some=some (decide (mods.length=0)&&(seesS [91] σ||seesS [94,61] σ),q.1,q.2.1,q.2.2.1):=by
 unfold je.c54
 by_cases hm:mods.length=0
 ·rw [Yd (by simp [hm]),zl hm,Bool.true_and]
  simp only [JF,is_ok hall h,jc]
  cases seesS [91] σ<;>simp [br_tt,br_ff]
 ·rw [kI (by simp;intro e;rw [e] at hm;exact hm rfl),zm hm,Bool.false_and]
omit hall hlen in
theorem mo_grow:∀(n:Nat) (l:List Nd) (ts:List Tk) (l':List Nd) (us:List Tk),moT n l ts=.ok l' us→l.length≤l'.length
 | 0,_,_,_,_,h=>by cases h
 | n+1,l,ts,l',us,h=>by
   rw [Ns] at h
   have key:∀(s:Rd (List Nd)),(∀l2 vs,s=.ok l2 vs→l.length≤l2.length)→(s.bind fun l us=>moT n l us)=.ok l' us→l.length≤l'.length:=by
    intro s hs he
    cases s with
    | ok l2 vs=>exact Nat.le_trans (hs l2 vs rfl) (mo_grow n l2 vs l' us he)
    | err c=>cases he
    | out=>cases he
   have k1:∀(x:Nd) (s:Rd Tk) l2 vs,(s.bind fun _ us=>.ok (l++[x]) us)=.ok l2 vs→l.length≤l2.length:=by
    intro x s l2 vs he
    cases s with
    | ok t ws=>injection he with e1 e2;rw [←e1];simp
    | err c=>cases he
    | out=>cases he
   split at h
   ·exact key _ (k1 _ _) h
   ·split at h
    ·exact key _ (k1 _ _) h
    ·split at h
     ·refine key _ (fun l2 vs he=>?_) h
      revert he
      cases wantT [40] ts.tail with
      | ok a vs=>
        simp only [Rd.bind]
        cases xpT n 1 vs with
        | ok b xs=>
          simp only [Rd.bind]
          cases wantT [41] xs with
          | ok c ys=>exact k1 _ (wantT [64] ys) l2 _
          | err c=>intro hs;cases hs
          | out=>intro hs;cases hs
        | err c=>intro hs;cases hs
        | out=>intro hs;cases hs
      | err c=>intro hs;cases hs
      | out=>intro hs;cases hs
     ·injection h with e1 e2;rw [e1];exact zu _
omit hall hlen in
theorem mo_some {n:Nat} {ts:List Tk} {l':List Nd} {us:List Tk} (hs:(seesT [105,110,118] ts||seesT [99,116,114,108] ts||seesT [112,111,119] ts)=true) (h:moT n [] ts=.ok l' us):l'.length≠0:=by
 cases n with
 | zero=>cases h
 | succ n=>
   rw [Ns] at h
   have key:∀(s:Rd (List Nd)),(∀l2 vs,s=.ok l2 vs→1≤l2.length)→(s.bind fun l us=>moT n l us)=.ok l' us→l'.length≠0:=by
    intro s hs he
    cases s with
    | ok l2 vs=>have:=hs l2 vs rfl;have:=mo_grow n l2 vs l' us he;omega
    | err c=>cases he
    | out=>cases he
   have k1:∀(x:Nd) (s:Rd Tk) l2 vs,(s.bind fun _ us=>.ok ([]++[x]) us)=.ok l2 vs→1≤l2.length:=by
    intro x s l2 vs he
    cases s with
    | ok t ws=>injection he with e1 e2;rw [←e1];simp
    | err c=>cases he
    | out=>cases he
   split at h
   ·exact key _ (k1 _ _) h
   ·split at h
    ·exact key _ (k1 _ _) h
    ·split at h
     ·refine key _ (fun l2 vs he=>?_) h
      revert he
      cases wantT [40] ts.tail with
      | ok a vs=>
        simp only [Rd.bind]
        cases xpT n 1 vs with
        | ok b xs=>
          simp only [Rd.bind]
          cases wantT [41] xs with
          | ok c ys=>exact k1 _ (wantT [64] ys) l2 _
          | err c=>intro hs;cases hs
          | out=>intro hs;cases hs
        | err c=>intro hs;cases hs
        | out=>intro hs;cases hs
      | err c=>intro hs;cases hs
      | out=>intro hs;cases hs
     ·rename_i g1 g2 g3
      rw [show seesT [105,110,118] ts=false by simpa using g1,show seesT [99,116,114,108] ts=false by simpa using g2,show seesT [112,111,119] ts=false by simpa using g3] at hs
      cases hs
theorem rstm_step {n m:Nat} (hn:n≤900000) (hB:Hyp all (Yc.fuel m).F_R_rp_block_b (blT n)):Hyp all (Yc.fuel (m+1)).F_R_rp_statement_b (stT (n+1)):=by
 intro σ q h
 show RunF all (@je (Yc.fuel m) q.1 q.2.1 q.2.2.1) _
 obtain ⟨t,e,hk,ht⟩:=Vs hall h
 have hs:Lf (stT (n+1)) σ =
  if seesS [102,111,114] σ=true then Lf (fun ts=>(wordT ts.tail).bind fun w us=>(wantT [105,110] us).bind fun _ us=>(xpT n 1 us).bind fun lo us=>(wantT [46,46] us).bind fun _ us=>(xpT n 1 us).bind fun hi us=>(blT n us).bind fun b us=>.ok (ndN 12 t.2.2 w.2.1 0 [lo,hi,b]) us) σ
  else if seesS [119,104,101,110] σ=true then Lf (fun ts=>(xpT n 1 ts.tail).bind fun e us=>(blT n us).bind fun b us=>.ok (ndK 13 t.2.2 [e,b]) us) σ
  else if seesS [105,102] σ=true then Lf (fun ts=>(reT n (if seesT [33] ts.tail then ts.tail.tail else ts.tail)).bind fun r us=>(blT n us).bind fun b us=>if seesT [101,108,115,101] us=true then (blT n us.tail).bind fun c us=>.ok (ndN 14 t.2.2 [] (if seesT [33] ts.tail then 1 else 0) [r,b,c]) us
   else .ok (ndN 14 t.2.2 [] (if seesT [33] ts.tail then 1 else 0) [r,b]) us) σ
  else if seesS [109,101,97,115,117,114,101] σ=true then Lf (fun ts=>(reT n ts.tail).bind fun q us=>(wantT [45,62] us).bind fun _ us=>(reT n us).bind fun b us=>(wantT [59] us).bind fun _ us=>.ok (ndK 15 t.2.2 [q,b]) us) σ
  else if seesS [114,101,115,101,116] σ=true then Lf (fun ts=>(reT n ts.tail).bind fun q us=>(wantT [59] us).bind fun _ us=>.ok (ndK 16 t.2.2 [q]) us) σ
  else if seesS [119,105,116,104,105,110] σ=true then Lf (fun ts=>(blT n ts.tail).bind fun a us=>(wantT [97,112,112,108,121] us).bind fun _ us=>(blT n us).bind fun b us=>.ok (ndK 17 t.2.2 [a,b]) us) σ
  else if (seesS [105,110,118] σ||seesS [99,116,114,108] σ||seesS [112,111,119] σ)=true then Lf (fun ts=>(moT n [] ts).bind fun mods us=>(wordT us).bind fun w us=>apT n t.2.2 mods w us) σ
  else Lf (fun ts=>(wordT ts).bind fun w us=>if (seesT [91] us||seesT [94,61] us)=true then (rfT n w us).bind fun r us=>(wantT [94,61] us).bind fun _ us=>(trT n 1 us).bind fun e us=>(wantT [59] us).bind fun _ us=>.ok (ndK 18 t.2.2 [r,e]) us
   else apT n t.2.2 [] w us) σ:=by
  cases σ with
  | good ts=>
    have ht:=ht ts rfl
    subst ht
    show stT (n+1) ts=_
    rw [stT]
    simp only [bsE,bsF,bsG]
    rfl
  | bad e=>simp [Lf,seesS]
 unfold je
 rw [hs,e,jc]
 simp only [JF,is_ok hall h,jc]
 clear hs
 cases h1:seesS [102,111,114] σ with
 | true=>
   obtain ⟨ts,rfl,hs2⟩:=YM h1
   have hso:=JX hs2
   obtain ⟨q',e,h'⟩:=Yh hall hlen h (by omega) (by omega)
   simp only [br_tt,e,jc,if_true]
   refine RunE.bind (s:=wordT ts.tail) (Uy hall hlen h') (fun w σ q h _=>?_)
   rw [JL]
   refine RunE.bind (kV hall hlen h [105,110]) (fun x σ q h _=>?_)
   rw [JL]
   refine RunE.bind (Uf hall hlen hn h) (fun lo σ q h _=>?_)
   rw [JL]
   refine RunE.bind (kV hall hlen h [46,46]) (fun x σ q h _=>?_)
   rw [JL]
   refine RunE.bind (Uf hall hlen hn h) (fun hi σ q h _=>?_)
   simp only [je.c9,Yr]
   rw [JL]
   refine RunE.bind (hB σ q h) (fun b σ q h _=>?_)
   simp only [mk_ok,jc,Jm]
   exact RunE.ok (I:=Prod.mk) h
 | false=>
 simp only [br_ff,zf,if_false]
 cases h2:seesS [119,104,101,110] σ with
 | true=>
   obtain ⟨ts,rfl,hs2⟩:=YM h2
   have hso:=JX hs2
   obtain ⟨q',e,h'⟩:=Yh hall hlen h (by omega) (by omega)
   simp only [br_tt,e,jc,if_true]
   refine RunE.bind (s:=xpT n 1 ts.tail) (Uf hall hlen hn h') (fun a σ q h _=>?_)
   simp only [je.c13,Yr]
   rw [JL]
   refine RunE.bind (hB σ q h) (fun b σ q h _=>?_)
   simp only [mk_ok,jc,Jm]
   exact RunE.ok (I:=Prod.mk) h
 | false=>
 simp only [br_ff,zf,if_false]
 cases h3:seesS [105,102] σ with
 | true=>
   obtain ⟨ts,rfl,hs2⟩:=YM h3
   have hso:=JX hs2
   obtain ⟨q',e,h'⟩:=Yh hall hlen h (by omega) (by omega)
   simp only [br_tt,e,jc,if_true]
   have e1:∃q2,je.cD_ 0 q'.1 q'.2.1 q'.2.2.1 some=some (if seesT [33] ts.tail then 1 else 0,q2.1,q2.2.1,q2.2.2.1)∧RSt all (.good (if seesT [33] ts.tail then ts.tail.tail else ts.tail)) q2:=by
    unfold je.cD_
    simp only [JF,is_ok hall h',jc]
    cases hs3:seesT [33] ts.tail with
    | true=>
      have hso:=JX hs3
      obtain ⟨q2,e2,h2⟩:=Yh hall hlen h' (by omega) (by omega)
      exact ⟨q2,by simp only [show seesS [33] (.good ts.tail)=true from hs3,br_tt,e2,jc];rfl,h2⟩
    | false=>exact ⟨q',by simp only [show seesS [33] (.good ts.tail)=false from hs3,br_ff];rfl,h'⟩
   obtain ⟨q2,e2,h2⟩:=e1
   rw [e2,jc]
   refine RunE.bind (s:=reT n _) (HC hall hlen hn h2) (fun r σ q h _=>?_)
   rw [JL]
   refine RunE.bind (hB σ q h) (fun b σ q h _=>?_)
   rw [show okIf (decide (((1:Nat)+(1:Nat))*(64:Nat)≤(140737488355328:Nat))&&decide ((1:Nat)+(1:Nat)≤(140737488355328:Nat)))=some () from by decide,jc,Lf_if]
   simp only [je.cP_,JF,is_ok hall h,jc]
   cases hs3:seesS [101,108,115,101] σ with
   | true=>
     obtain ⟨us,rfl,hs4⟩:=YM hs3
     have hso:=JX hs4
     obtain ⟨q',e,h'⟩:=Yh hall hlen h (by omega) (by omega)
     simp only [br_tt,e,jc,if_true,Yr]
     refine RunE.bind (s:=blT n us.tail) (hB (.good us.tail) q' h') (fun c σ q h _=>?_)
     rw [ok64L (l:=[r]++[b]) (by simp)]
     simp only [mk_ok,jc,Jm]
     exact RunE.ok (I:=Prod.mk) h
   | false=>
     simp only [br_ff,zf,if_false,jc,mk_ok,Jm]
     exact RunE.ok (I:=Prod.mk) h
 | false=>
 simp only [br_ff,zf,if_false]
 have e26:je.c26 q.1 q.2.1 q.2.2.1 some=some (seesS [109,101,97,115,117,114,101] σ||seesS [114,101,115,101,116] σ,q.1,q.2.1,q.2.2.1):=by
  unfold je.c26
  simp only [JF,is_ok hall h,jc]
  cases seesS [109,101,97,115,117,114,101] σ<;>simp [br_tt,br_ff]
 rw [e26,jc]
 dsimp only
 cases h4:seesS [109,101,97,115,117,114,101] σ with
 | true=>
   obtain ⟨ts,rfl,hs2⟩:=YM h4
   have hso:=JX hs2
   obtain ⟨q',e,h'⟩:=Yh hall hlen h (by omega) (by omega)
   have ht:=ht ts rfl
   have hw:t.2.1=[109,101,97,115,117,114,101]:=by rw [ht];exact Uo hs2
   simp only [Bool.true_or,br_tt,e,jc,if_true]
   refine RunE.bind (s:=reT n ts.tail) (HC hall hlen hn h') (fun a σ q h _=>?_)
   simp only [je.cL_,JF,hw,beq_self_eq_true,br_tt,Yr]
   rw [JL]
   refine RunE.bind (kV hall hlen h [45,62]) (fun x σ q h _=>?_)
   rw [JL]
   refine RunE.bind (HC hall hlen hn h) (fun b σ q h _=>?_)
   rw [ok64L (l:=[a]) (by simp),jc,jc,JL]
   refine RunE.bind (kV hall hlen h [59]) (fun x σ q h _=>?_)
   simp only [mk_ok,jc,Jm]
   exact RunE.ok (I:=Prod.mk) h
 | false=>
 simp only [Bool.false_or,zf,if_false]
 cases h5:seesS [114,101,115,101,116] σ with
 | true=>
   obtain ⟨ts,rfl,hs2⟩:=YM h5
   have hso:=JX hs2
   obtain ⟨q',e,h'⟩:=Yh hall hlen h (by omega) (by omega)
   have ht:=ht ts rfl
   have hw:(t.2.1==[109,101,97,115,117,114,101])=false:=by rw [ht,Uo hs2];rfl
   simp only [br_tt,e,jc,if_true]
   refine RunE.bind (s:=reT n ts.tail) (HC hall hlen hn h') (fun a σ q h _=>?_)
   simp only [je.cL_,JF,hw,br_ff,jc]
   rw [JL]
   refine RunE.bind (kV hall hlen h [59]) (fun x σ q h _=>?_)
   simp only [mk_ok,jc,Jm]
   exact RunE.ok (I:=Prod.mk) h
 | false=>
 simp only [br_ff,zf,if_false,is_ok hall h,jc]
 cases h6:seesS [119,105,116,104,105,110] σ with
 | true=>
   obtain ⟨ts,rfl,hs2⟩:=YM h6
   have hso:=JX hs2
   obtain ⟨q',e,h'⟩:=Yh hall hlen h (by omega) (by omega)
   simp only [br_tt,e,jc,if_true]
   refine RunE.bind (s:=blT n ts.tail) (hB (.good ts.tail) q' h') (fun a σ q h _=>?_)
   rw [JL]
   refine RunE.bind (kV hall hlen h [97,112,112,108,121]) (fun x σ q h _=>?_)
   simp only [je.c40,Yr]
   rw [JL]
   refine RunE.bind (hB σ q h) (fun b σ q h _=>?_)
   simp only [mk_ok,jc,Jm]
   exact RunE.ok (I:=Prod.mk) h
 | false=>
 simp only [br_ff,zf,if_false]
 have hLen:LenOk σ []:=by
  cases σ with
  | good us=>have:=good_len h;show [].length+us.length≤100000;simp only [ze];omega
  | bad e=>trivial
 cases h7:(seesS [105,110,118] σ||seesS [99,116,114,108] σ||seesS [112,111,119] σ) with
 | true=>
   obtain ⟨ts,rfl⟩:∃ts,σ=.good ts:=by
    cases σ with
    | good ts=>exact ⟨ts,rfl⟩
    | bad e=>cases h7
   simp only [if_true]
   rw [JL]
   refine RunE.bind (I:=qOf) (rmods_loop hall hlen hn n [] (.good ts) q (zu _) h hLen) (fun mods σ' q h hu=>?_)
   rw [JL]
   refine RunE.bind (Uy hall hlen h) (fun w τ q h hv=>?_)
   have hno:(decide (mods.length=0)&&(seesS [91] τ||seesS [94,61] τ))=false:=by
    cases τ with
    | bad e=>simp [seesS]
    | good vs=>
      have hv:=hv vs rfl
      cases σ' with
      | bad e=>cases hv
      | good us=>rw [zm (mo_some h7 (hu us rfl)),Bool.false_and]
   show RunF all (bnd (je.c54 mods q.1 q.2.1 q.2.2.1 some) _) _
   rw [c54_ok hall hlen h,hno,jc,Lf_eta]
   exact rpass _ _ (rapply_ok hall hlen hn t.2.2 w mods h)
 | false=>
   simp only [zf,if_false]
   have hsp:∀(g:List Tk→Rd Nd),Lf g σ=Lf (fun ts=>(moT 1 [] ts).bind fun _ us=>g us) σ:=by
    intro g
    cases σ with
    | good ts=>
      have h7':(seesT [105,110,118] ts||seesT [99,116,114,108] ts||seesT [112,111,119] ts)=false:=h7
      simp only [Bool.or_eq_false_iff] at h7'
      show g ts=(moT 1 [] ts).bind fun _ us=>g us
      rw [Ns,h7'.1.1,h7'.1.2,h7'.2]
      rfl
    | bad e=>rfl
   rw [hsp,JL]
   refine RunE.bind (I:=qOf) (rmods_loop hall hlen (n:=1) (by omega) 1 [] σ q (zu _) h hLen) (fun mods σ' q' h' hu=>?_)
   have hmods:∀us,σ'=.good us→mods=[]:=by
    intro us e
    have hu:=hu us e
    cases σ with
    | good ts=>
      have h7':(seesT [105,110,118] ts||seesT [99,116,114,108] ts||seesT [112,111,119] ts)=false:=h7
      simp only [Bool.or_eq_false_iff] at h7'
      have hu:moT 1 [] ts=.ok mods us:=hu
      rw [Ns,h7'.1.1,h7'.1.2,h7'.2] at hu
      injection hu with e1 e2
      exact e1.symm
    | bad e=>cases hu
   rw [JL]
   refine RunE.bind (Uy hall hlen h') (fun w τ q h hv=>?_)
   show RunF all (bnd (je.c54 mods q.1 q.2.1 q.2.2.1 some) _) _
   rw [c54_ok hall hlen h,jc,Lf_if2 hall hlen]
   cases τ with
   | bad e=>
     rw [show (decide (mods.length=0)&&(seesS [91] (.bad e)||seesS [94,61] (.bad e)))=false from by simp [seesS],br_ff]
     exact rpass _ (.err e) (rapply_ok hall hlen hn t.2.2 w mods h)
   | good vs=>
     have hv:=hv vs rfl
     cases σ' with
     | bad e=>cases hv
     | good us=>
       obtain rfl:=hmods us rfl
       rw [show decide (([]:List Nd).length=0)=true from rfl,Bool.true_and]
       cases h8:(seesS [91] (.good vs)||seesS [94,61] (.good vs)) with
       | true=>
         rw [br_tt,if_pos rfl]
         show RunF all _ ((rfT n w vs).bind _)
         refine RunE.bind (rrest_ok hall hlen hn w h) (fun r σ q h _=>?_)
         rw [JL]
         refine RunE.bind (kV hall hlen h [94,61]) (fun x σ q h _=>?_)
         rw [JL]
         refine RunE.bind (rtruth_ok hall hlen hn h) (fun a σ q h _=>?_)
         rw [JL]
         refine RunE.bind (kV hall hlen h [59]) (fun x σ q h _=>?_)
         simp only [mk_ok,jc,Jm]
         exact RunE.ok (I:=Prod.mk) h
       | false=>
         rw [br_ff,if_neg (by simp)]
         exact rpass _ _ (rapply_ok hall hlen hn t.2.2 w [] h)
theorem stm_bad {m:Nat} (hm:2≤m):(∀e q,RSt all (.bad e) q→RunF all ((Yc.fuel m).F_R_rp_block_b q) (.err e))∧(∀e q,RSt all (.bad e) q→RunF all ((Yc.fuel m).F_R_rp_statement_b q) (.err e)):=by
 have hB:∀m,Hyp all (Yc.fuel (m+1)).F_R_rp_block_b (blT 1):=fun m=>rblock_step hall hlen (fun k hk ts q h=>by
  obtain rfl:k=0:=by omega
  trivial)
 have hB0:∀m,Hyp all (Yc.fuel (m+1)).F_R_rp_block_b (blT 0):=fun m=>Hyp.zero (fun _=>rfl) fun e q h=>hB m (.bad e) q h
 have hS:∀m,Hyp all (Yc.fuel (m+2)).F_R_rp_statement_b (stT 1):=fun m=>rstm_step hall hlen (by omega) (hB0 m)
 obtain ⟨m,rfl⟩:∃k,m=k+2:=⟨m-2,by omega⟩
 exact ⟨fun e q h=>hB (m+1) (.bad e) q h,fun e q h=>hS m (.bad e) q h⟩
theorem rstm_all:∀n m,n≤900000→n+2≤m→Hyp all (Yc.fuel m).F_R_rp_block_b (blT n)∧Hyp all (Yc.fuel m).F_R_rp_statement_b (stT n):=by
 intro n
 induction n using Nat.strongRecOn with
 | _ n ih=>
   intro m hn hm
   cases n with
   | zero=>exact ⟨Hyp.zero (fun _=>rfl) (stm_bad hall hlen (by omega)).1,Hyp.zero (fun _=>rfl) (stm_bad hall hlen (by omega)).2⟩
   | succ n=>
     obtain ⟨m,rfl⟩:∃m',m=m'+1:=⟨m-1,by omega⟩
     exact ⟨rblock_step hall hlen (fun k hk=>(ih k (by omega) m (by omega) (by omega)).2.good),rstm_step hall hlen (by omega) (ih n (by omega) m (by omega) (by omega)).1⟩
theorem rblock_ok {n:Nat} (hn:n≤900000) {σ:Sg} {q:RS} (h:RSt all σ q):RunF all (VS q) (Lf (blT n) σ):=(rstm_all hall hlen n 1000000 (by omega) (by omega)).1 σ q h
theorem rstatement_ok {n:Nat} (hn:n≤900000) {σ:Sg} {q:RS} (h:RSt all σ q):RunF all (YZ q) (Lf (stT n) σ):=(rstm_all hall hlen n 1000000 (by omega) (by omega)).2 σ q h
end
end W
end

section
set_option maxRecDepth 4000
namespace W
open Go Go.Ql
section
variable {all:List Tk} (hall:TksOk all) (hlen:all.length≤40001)
include hall hlen
theorem rgate_ok {n:Nat} (hn:n≤900000) (t:Tk) {σ:Sg} {q:RS} (h:RSt all σ q):RunF all (JW t.2.2 q.1 q.2.1 q.2.2.1) (Lf (gaT n t) σ):=by
 have hs:Lf (gaT n t) σ=Lf (fun ts=>(wordT ts).bind fun w us=>(if seesT [40] us=true then (lsT p1T n us.tail).bind fun l us=>(wantT [41] us).bind fun _ us=>.ok l us else .ok [] us).bind fun ints us=>
  (lsT p2T n us).bind fun wires us=>(blT n us).bind fun b us=>.ok (ndN 5 t.2.2 w.2.1 0 [gr ints,gr wires,b]) us) σ:=by
  cases σ with
  | good ts=>show gaT n t ts=_;unfold gaT;simp only [bsE];rfl
  | bad e=>rfl
 unfold JW
 rw [hs,JL]
 refine RunE.bind (Uy hall hlen h) (fun w σ q h _=>?_)
 rw [JL]
 refine RunE.bind (I:=qOf) ?_ (fun ints σ q h _=>?_)
 ·unfold JW.cI_
  rw [Lf_if]
  simp only [JF,is_ok hall h,jc]
  cases hs:seesS [40] σ with
  | true=>
    obtain ⟨ts,rfl,hs2⟩:=YM hs
    have hso:=JX hs2
    obtain ⟨q',e,h'⟩:=Yh hall hlen h (by omega) (by omega)
    simp only [br_tt,e,jc,if_true]
    refine RunE.bind (s:=lsT p1T n ts.tail) (rparams_ok hall hlen (wires:=false) (k:=n) h') (fun l σ q h _=>?_)
    rw [JL]
    refine RunE.bind (kV hall hlen h [41]) (fun x σ q h _=>?_)
    exact RunE.ok (I:=qOf) h
  | false=>
    simp only [br_ff,zf,if_false]
    exact RunE.ok (I:=qOf) h
 ·rw [JL]
  refine RunE.bind (rparams_ok hall hlen (wires:=true) (k:=n) h) (fun wires σ q h _=>?_)
  rw [JL]
  refine RunE.bind (rblock_ok hall hlen hn h) (fun b σ q h _=>?_)
  simp only [JW.c9,mk_ok,jc,Jm]
  exact RunE.ok (I:=Prod.mk) h
theorem ritem_ok {n:Nat} (hn:n≤900000) {σ:Sg} {q:RS} (h:RSt all σ q):RunF all (JP q.1 q.2.1 q.2.2.1) (Lf (itT n) σ):=by
 obtain ⟨t,e,hk,ht⟩:=Vs hall h
 have hs:Lf (itT n) σ =
  if (seesS [113,117,98,105,116] σ||seesS [98,105,116] σ)=true then Lf (fun ts=>(wordT ts.tail).bind fun w us=>(wantT [91] us).bind fun _ us=>(xpT n 1 us).bind fun e us=>(wantT [93] us).bind fun _ us=>(wantT [59] us).bind fun _ us=>.ok (ndN (if seesS [98,105,116] σ then 3 else 2) t.2.2 w.2.1 0 [e]) us) σ
  else if seesS [99,111,110,115,116] σ=true then Lf (fun ts=>(wordT ts.tail).bind fun w us=>(wantT [61] us).bind fun _ us=>(xpT n 1 us).bind fun e us=>(wantT [59] us).bind fun _ us=>.ok (ndN 4 t.2.2 w.2.1 0 [e]) us) σ
  else if seesS [103,97,116,101] σ=true then Lf (fun ts=>gaT n t ts.tail) σ else Lf (stT n) σ:=by
  cases σ with
  | good ts=>
    have ht:=ht ts rfl
    subst ht
    show itT n ts=_
    unfold itT
    simp only [bsE,bsF,bsG,bsH]
    rfl
  | bad e=>simp [Lf,seesS]
 unfold JP
 rw [hs,e,jc]
 have e2:JP.c2 q.1 q.2.1 q.2.2.1 some=some (seesS [113,117,98,105,116] σ||seesS [98,105,116] σ,q.1,q.2.1,q.2.2.1):=by
  unfold JP.c2
  simp only [JF,is_ok hall h,jc]
  cases seesS [113,117,98,105,116] σ<;>simp [br_tt,br_ff]
 rw [e2,jc]
 dsimp only
 clear hs
 cases h1:(seesS [113,117,98,105,116] σ||seesS [98,105,116] σ) with
 | true=>
   obtain ⟨ts,rfl⟩:∃ts,σ=.good ts:=by
    cases σ with
    | good ts=>exact ⟨ts,rfl⟩
    | bad e=>cases h1
   have hso:(hdT ts).1=2:=by
    rcases (Bool.or_eq_true _ _▸h1:_∨_) with h | h<;>exact JX h
   obtain ⟨q',e',h'⟩:=Yh hall hlen h (by omega) (by omega)
   have e3:JP.co_ 2 q.1 q.2.1 q.2.2.1 some=some (if seesS [98,105,116] (.good ts) then 3 else 2,q.1,q.2.1,q.2.2.1):=by
    unfold JP.co_
    simp only [JF,is_ok hall h,jc]
    cases seesS [98,105,116] (.good ts)<;>rfl
   rw [br_tt,e3,jc]
   simp only [e',jc,if_true]
   refine RunE.bind (s:=wordT ts.tail) (Uy hall hlen h') (fun w σ q h _=>?_)
   rw [JL]
   refine RunE.bind (kV hall hlen h [91]) (fun x σ q h _=>?_)
   rw [JL]
   refine RunE.bind (Uf hall hlen hn h) (fun a σ q h _=>?_)
   rw [JL]
   refine RunE.bind (kV hall hlen h [93]) (fun x σ q h _=>?_)
   rw [JL]
   refine RunE.bind (kV hall hlen h [59]) (fun x σ q h _=>?_)
   simp only [mk_ok,jc,Jm]
   exact RunE.ok (I:=Prod.mk) h
 | false=>
 simp only [br_ff,zf,if_false,JF,is_ok hall h,jc]
 cases h2:seesS [99,111,110,115,116] σ with
 | true=>
   obtain ⟨ts,rfl,hs2⟩:=YM h2
   have hso:=JX hs2
   obtain ⟨q',e,h'⟩:=Yh hall hlen h (by omega) (by omega)
   simp only [br_tt,e,jc,if_true]
   refine RunE.bind (s:=wordT ts.tail) (Uy hall hlen h') (fun w σ q h _=>?_)
   rw [JL]
   refine RunE.bind (kV hall hlen h [61]) (fun x σ q h _=>?_)
   rw [JL]
   refine RunE.bind (Uf hall hlen hn h) (fun a σ q h _=>?_)
   rw [JL]
   refine RunE.bind (kV hall hlen h [59]) (fun x σ q h _=>?_)
   simp only [mk_ok,jc,Jm]
   exact RunE.ok (I:=Prod.mk) h
 | false=>
 simp only [br_ff,zf,if_false,is_ok hall h,jc]
 cases h3:seesS [103,97,116,101] σ with
 | true=>
   obtain ⟨ts,rfl,hs2⟩:=YM h3
   have hso:=JX hs2
   obtain ⟨q',e,h'⟩:=Yh hall hlen h (by omega) (by omega)
   simp only [br_tt,e,jc,if_true]
   exact rpass _ _ (rgate_ok hall hlen hn t h')
 | false=>
   simp only [br_ff,zf,if_false]
   exact rpass _ _ (rstatement_ok hall hlen hn h)
theorem rtext_loop {n:Nat} (hn:n≤900000):∀k l σ q,RSt all σ q→LenOk σ l →
 RunE all qOf (iter (fun s:QR=>JH.cc_ s.1 s.2.1 s.2.2.1 s.2.2.2 some) (qOf l q)) (Lf (prT n k l) σ):=by
 have stop:∀l σ q,RSt all σ q→(∀ts,σ=.good ts→(hdT ts).1=0)→iter (fun s:QR=>JH.cc_ s.1 s.2.1 s.2.2.1 s.2.2.2 some) (qOf l q)=some (qOf l q):=by
  intro l σ q h hs
  refine JV ?_
  show JH.cc_ l q.1 q.2.1 q.2.2.1 some=_
  unfold JH.cc_ JH.c5
  obtain ⟨t,e,hk,ht⟩:=Vs hall h
  cases σ with
  | good ts=>
    rw [JI (by rw [h.2.1];decide),e,jc]
    have ht:=ht ts rfl
    subst ht
    rw [show (((hdT ts,q).1.1) !=(0:Int))=false from by simp [hs ts rfl],jc]
    rfl
  | bad e=>rw [JZ (by rw [h.2.1];have:=h.2.2.1;omega)];rfl
 intro k
 induction k with
 | zero=>
   intro l σ q h hl
   cases σ with
   | good ts=>trivial
   | bad e=>exact ⟨l,q,stop l _ q h (fun ts e=>by cases e),h⟩
 | succ k ih=>
   intro l σ q h hl
   cases σ with
   | bad e=>exact ⟨l,q,stop l _ q h (fun ts e=>by cases e),h⟩
   | good ts=>
     have hl':l.length+ts.length≤100000:=hl
     show RunE all qOf _ (prT n (k+1) l ts)
     rw [prT]
     by_cases h0:(hdT ts).1=0
     ·rw [if_pos h0]
      exact ⟨q,stop l _ q h (fun ts' e=>by injection e with e;rw [←e];exact h0),h⟩
     ·rw [if_neg h0]
      have hb:=ritem_ok hall hlen hn h
      have hlq:=it_lq (n:=n) (ts:=ts)
      obtain ⟨t,e,hk,ht⟩:=Vs hall h
      have ht:=ht ts rfl
      subst ht
      have e7:∀a q2,JP q.1 q.2.1 q.2.2.1=some (a,q2)→JH.cc_ l q.1 q.2.1 q.2.2.1 some=some (.inl (qOf (l++[a]) q2)):=by
       intro a q2 e'
       unfold JH.cc_ JH.c5
       rw [JI (by rw [h.2.1];decide),e,jc]
       rw [show (((hdT ts,q).1.1) !=(0:Int))=true from by simp [h0],jc]
       dsimp only
       rw [br_tt,e',jc,ok64L (l:=l) (by omega)]
       rfl
      revert hb hlq
      show RunF all _ (itT n ts)→_
      cases itT n ts with
      | out=>intro _ _;trivial
      | ok a us=>
        rintro ⟨q2,e2,h2⟩ hus
        have hus:us.length<ts.length:=hus
        have:=ih (l++[a]) (.good us) q2 h2 (show (l++[a]).length+us.length≤100000 by simp only [z8,zz];omega)
        simp only [Rd.bind]
        revert this
        show RunE all _ _ (prT n k (l++[a]) us)→_
        cases prT n k (l++[a]) us with
        | ok c vs=>rintro ⟨p3,e3,h3⟩;exact ⟨p3,JQ (e7 a q2 e2) e3,h3⟩
        | err c=>rintro ⟨b3,p3,e3,h3⟩;exact ⟨b3,p3,JQ (e7 a q2 e2) e3,h3⟩
        | out=>exact id
      | err c=>
        rintro ⟨a,q2,e2,h2⟩ _
        exact ⟨l++[a],q2,JQ (e7 a q2 e2) (stop _ _ q2 h2 (fun ts e=>by cases e)),h2⟩
end
end W
end
