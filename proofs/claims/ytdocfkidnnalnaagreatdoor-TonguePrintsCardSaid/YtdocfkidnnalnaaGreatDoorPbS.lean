/- Plain laws: the reference's tokens and readers. -/
import Derived.Test.YtdocfkidnnalnaaGreatDoorPaS
import Derived.Test.YtdocfkidnnalnaaGreatDoorWcS
set_option linter.all false
section
set_option maxRecDepth 4000
namespace W
open Go Go.Ql
theorem oY (c:UInt8):YM (c.toNat:Int)=some (Yn c):=HY (p:=fun c=>YM (c.toNat:Int)=some (Yn c)) (by decide +kernel) c
theorem m9 (c:UInt8):YH (c.toNat:Int)=some (YY c):=HY (p:=fun c=>YH (c.toNat:Int)=some (YY c)) (by decide +kernel) c
theorem uQ (c:UInt8):jx.c8 (c.toNat:Int) some=some (fR c):=HY (p:=fun c=>jx.c8 (c.toNat:Int) some=some (fR c)) (by decide +kernel) c
theorem mW (w:Za) (l:List Za) (hl:l.length≤1000):YU w l=some (l.elem w):=by
 have h:∃r,iter (fun s=>YU.ca_ w l s some) (0:Int)=some r∧((l.elem w=true ∧ ∃x,r=.inl x)∨(l.elem w=false ∧ ∃x,r=.inr x)):=by
  refine Uk (J:=fun s:Int=>∃n:Nat,s=n∧n≤l.length∧l.elem w=(l.drop n).elem w) (fun s:Int=>l.length-s.toNat) ?_ ⟨0,rfl,by omega,rfl⟩
  rintro s ⟨n,rfl,hn,he⟩
  by_cases h1:n<l.length
  ·rw [List.drop_eq_getElem_cons h1,List.elem_cons] at he
   cases hb:w==l[n] with
   | true=>
     rw [hb] at he
     refine .inl ⟨.inl (n:Int),?_,.inl ⟨by rw [he],_,rfl⟩⟩
     simp only [YU.ca_,JB (show (n:Int)<(l.length:Int) by omega),HD h1,je,show (l[n]==w)=true from beq_iff_eq.2 (beq_iff_eq.1 hb).symm,JD]
   | false=>
     rw [hb] at he
     simp only at he
     refine .inr ⟨((n+1:Nat):Int),?_,⟨n+1,rfl,by omega,he⟩,by omega⟩
     simp only [YU.ca_,JB (show (n:Int)<(l.length:Int) by omega),HD h1,je,show (l[n]==w)=false from beq_eq_false_iff_ne.2 (fun e=>by rw [e] at hb;simp at hb),JA]
     rw [JS (by omega)];rfl
  ·rw [List.drop_eq_nil_of_le (by omega)] at he
   refine .inl ⟨.inr (n:Int),?_,.inr ⟨he,_,rfl⟩⟩
   simp only [YU.ca_,JV (show ¬(n:Int)<(l.length:Int) by omega)]
 obtain ⟨r,hr,hh⟩:=h
 unfold YU
 rw [hr,je]
 rcases hh with ⟨e,x,rfl⟩ | ⟨e,x,rfl⟩<;>rw [e]<;>rfl
def Nx (c d:UInt8):Bool:=(Yn d||(YY d && !Yn c))&&(YY c||Yn c)
theorem P1 {c:UInt8} (h:YY c=true):Nx c=fun d=>YY d||Yn d:=by
 funext d
 unfold Nx
 rw [yZ h,h]
 cases YY d<;>cases Yn d<;>rfl
theorem P0 {c:UInt8} (h:YY c=false) (h':Yn c=true):Nx c=Yn:=by
 funext d
 unfold Nx
 rw [h',h]
 cases YY d<;>cases Yn d<;>rfl
theorem P2 {c:UInt8} (h:YY c=false) (h':Yn c=false):Nx c=fun _=>false:=by
 funext d
 unfold Nx
 rw [h',h]
 cases YY d<;>cases Yn d<;>rfl
theorem D2 {l:Za}:l.takeWhile (fun _=>false)=[]:=by cases l<;>rfl
def sZ:List Za:=[[113,117,98,105,116],[98,105,116],[99,111,110,115,116],[103,97,116,101],[102,111,114],[105,110],[119,104,101,110],[105,102],[101,108,115,101],[109,101,97,115,117,114,101],[114,101,115,101,116],[119,105,116,104,105,110],[97,112,112,108,121],[105,110,118],[99,116,114,108],[112,111,119],[115,105,122,101]]
def nK:List Za:=[[46,46],[45,62],[94,61],[61,61],[33,61],[60,61],[62,61],[42,42]]
def onesL:List Za:=[[123],[125],[40],[41],[91],[93],[59],[44],[64],[61],[60],[62],[43],[45],[42],[47],[37],[33],[38],[124],[94]]
theorem KO:sZ=keysT:=by decide
theorem L9:nK=twosT:=by decide
theorem K1 (c:UInt8):onesL.elem [c]=onesT.elem c:=HY (p:=fun c=>onesL.elem [c]=onesT.elem c) (by decide +kernel) c
section
variable {text:Za} (ht:text.length≤40000)
include ht
theorem OD {i:Nat} (h:i≤text.length):IntKind.i64.wrap ((i:Int)+2)=((i+2:Nat):Int):=by
 rw [JS (by omega)];omega
theorem n9 {i k:Nat} (h:i+k≤text.length):List.drop (Int.toNat (i:Int)) (List.take (Int.toNat ((i+k:Nat):Int)) text)=(text.drop i).take k:=by
 rw [Int.toNat_natCast,Int.toNat_natCast,List.drop_take];congr 1;omega
theorem IB {i:Nat} {c:UInt8} {r:Za} (h:text.drop i=c::r):iter (fun s=>jx.cl_ text (c.toNat:Int) s some) (i:Int)=some (((i+((c::r).takeWhile (Nx c)).length:Nat)):Int):=by
 have key:∀(j:Nat) (d:UInt8) (q:Za),text.drop j=d::q→jx.c14 text (c.toNat:Int) (j:Int) some=some (Nx c d):=by
  intro j d q hj
  obtain ⟨e,hl,_⟩:=VK hj
  unfold jx.c14
  simp only [JB (show (j:Int)<(text.length:Int) by omega),e,je,oY,m9]
  unfold Nx
  cases Yn d<;>cases YY d<;>cases YY c<;>cases Yn c<;>rfl
 have:=gN (text:=text) (p:=Nx c) (f:=fun s=>jx.cl_ text (c.toNat:Int) s some) (fun j d q hj hp=>by
  obtain ⟨e,hl,_⟩:=VK hj
  simp only [jx.cl_,key j d q hj,hp,je,JD,bY ht hl]) (fun j d q hj hp=>by
  simp only [jx.cl_,key j d q hj,hp,je,JA]) (by
  simp only [jx.cl_,jx.c14,JV (Int.lt_irrefl _),je,JA]) (text.length+1) i (by have:=(VK h).2.1;omega) (by omega)
 rw [h] at this
 exact this
theorem O5 {i:Nat} {c:UInt8} {r:Za} (h:text.drop i=c::r) :
 ∃b,jx.cac_ text sZ nK onesL (i:Int) (c.toNat:Int) (((i+((c::r).takeWhile (Nx c)).length:Nat)):Int) ((c::r).takeWhile (Nx c)) 4 ((c::r).takeWhile (Nx c)) (i:Int) some
  = some (((i+(VH (c::r)).2.length:Nat):Int),b,(VH (c::r)).1,(VH (c::r)).2,(i:Int)):=by
 obtain ⟨_,hi,_⟩:=VK h
 have hlen:text.length=i+(c::r).length:=by
  have:=congrArg List.length h
  rw [zu] at this;omega
 have hnn:∀k:Nat,¬(((i+(k+1):Nat):Int)==(i:Int))=true:=by intro k;simp;omega
 unfold jx.cac_
 rw [Ns]
 cases hc:YY c with
 | true=>
   rw [P1 hc]
   have hp:=fP (p:=fun c=>YY c||Yn c) (c:=c) (r:=r) (by simp [hc])
   generalize hw:(c::r).takeWhile (fun c=>YY c||Yn c)=w at hp ⊢
   have e18:jx.c18 text nK (i:Int) ((i+w.length:Nat):Int) some=some false:=by
    unfold jx.c18;rw [Ys (by simp;omega)]
   have e21:jx.c21 text onesL (i:Int) ((i+w.length:Nat):Int) some=some false:=by
    unfold jx.c21;rw [Ys (by simp;omega)]
   have e24:jx.c24 (i:Int) (c.toNat:Int) ((i+w.length:Nat):Int) w some=some false:=by
    unfold jx.c24;rw [JB (by omega),oY,yZ hc,je,JA]
   have e26:jx.c26 (i:Int) (c.toNat:Int) ((i+w.length:Nat):Int) some=some true:=by
    unfold jx.c26;rw [JB (by omega),m9,hc,je]
   rw [e18,je,JA,e21,je,JA,e24,je,JA,e26,je,JD,mW w sZ (by decide),je,if_pos rfl,KO]
   cases keysT.elem w<;>exact ⟨_,rfl⟩
 | false=>
   cases hd:Yn c with
   | true=>
     rw [P0 hc hd]
     have hp:=fP (p:=Yn) (c:=c) (r:=r) hd
     generalize hw:(c::r).takeWhile Yn=w at hp ⊢
     have e18:jx.c18 text nK (i:Int) ((i+w.length:Nat):Int) some=some false:=by
      unfold jx.c18;rw [Ys (by simp;omega)]
     have e21:jx.c21 text onesL (i:Int) ((i+w.length:Nat):Int) some=some false:=by
      unfold jx.c21;rw [Ys (by simp;omega)]
     have e24:jx.c24 (i:Int) (c.toNat:Int) ((i+w.length:Nat):Int) w some=some (!decide (w.length>9∨(w.length>1∧c=48))):=by
      unfold jx.c24;rw [JB (by omega),oY,hd,je,JD]
      have h48:((c.toNat:Int) !=(48:Int))=!(c==48):=congrArg not (fQ c 48 (by omega))
      rw [h48]
      by_cases h9:w.length>9
      ·rw [JV (by omega)];simp [h9]
      ·rw [JB (by omega)]
       by_cases h1:w.length=1
       ·rw [YV (by simp [h1])];simp [h1]
       ·rw [Ys (by simp;omega)]
        have:w.length>1:=by omega
        simp only [h9,this,true_and,false_or]
        by_cases hc8:c=48<;>simp [hc8]
     have e26:jx.c26 (i:Int) (c.toNat:Int) ((i+w.length:Nat):Int) some=some false:=by
      unfold jx.c26;rw [JB (by omega),m9,hc,je]
     rw [e18,je,JA,e21,je,JA,e24,je]
     simp only [zi,if_false,if_true]
     by_cases hb:w.length>9∨(w.length>1∧c=48)
     ·rw [zo hb,if_pos hb,Bool.not_true,JA,e26,je,JA]
      exact ⟨_,rfl⟩
     ·rw [zp hb,if_neg hb,Bool.not_false,JD]
      exact ⟨_,rfl⟩
   | false=>
     rw [P2 hc hd,D2]
     simp only [zh,Nat.add_zero,zi,if_false]
     have e24:jx.c24 (i:Int) (c.toNat:Int) (i:Int) [] some=some false:=by
      unfold jx.c24;rw [JV (by omega)]
     have e26:jx.c26 (i:Int) (c.toNat:Int) (i:Int) some=some false:=by
      unfold jx.c26;rw [JV (by omega)]
     have e18:jx.c18 text nK (i:Int) (i:Int) some=some (twosT.elem ((c::r).take 2)):=by
      unfold jx.c18
      rw [YV (by simp),bY ht hi]
      cases r with
      | nil=>
        have:twosT.elem ([c].take 2)=false:=HY (p:=fun c=>twosT.elem ([c].take 2)=false) (by decide +kernel) c
        rw [this,JV (by simp at hlen;omega)]
      | cons d r=>
        simp only [zg] at hlen
        rw [JB (by omega),OD ht (by omega),jY (by simp;omega),je,n9 ht (by omega),h,mW _ _ (by decide),je,L9]
     rw [e18,je]
     cases h2:twosT.elem ((c::r).take 2) with
     | true=>
       have hr:2≤(c::r).length:=by
        cases r with
        | nil=>
          have:twosT.elem ([c].take 2)=false:=HY (p:=fun c=>twosT.elem ([c].take 2)=false) (by decide +kernel) c
          rw [this] at h2;cases h2
        | cons d r=>simp
       rw [JD,OD ht (by omega),jY (by simp;omega),je,n9 ht (by omega),h]
       have hl2:((c::r).take 2).length=2:=by rw [List.length_take];omega
       simp only [if_true]
       exact ⟨_,by rw [hl2]⟩
     | false=>
       have e21:jx.c21 text onesL (i:Int) (i:Int) some=some (onesT.elem c):=by
        unfold jx.c21
        rw [YV (by simp),bY ht hi,jY (by simp;omega),je,n9 ht (by omega),h,mW _ _ (by decide),je]
        exact congrArg some (K1 c)
       rw [JA,e21,je]
       simp only [zi,if_false]
       cases h1:onesT.elem c with
       | true=>
         rw [JD,bY ht hi,jY (by simp;omega),je,n9 ht (by omega),h]
         exact ⟨_,rfl⟩
       | false=>
         rw [JA,e24,je,JA,e26,je,JA]
         exact ⟨_,rfl⟩
theorem DU:jx text=some (UC text):=by
 have inner:∀(j:Nat) (c:UInt8) (r:Za),text.drop j=c::r→c≠10 → ∃k,iter (fun s=>jx.ci_ text s some) (j:Int)=some k ∧ ∃n:Nat,k=n∧j<n∧n≤text.length∧n+Yq false (text.drop n)=j+Yq true (text.drop j):=by
  intro j c r hj hc
  refine Uk (J:=fun s:Int=>∃n:Nat,s=n∧j≤n∧n≤text.length∧n+Yq true (text.drop n)=j+Yq true (text.drop j)) (fun s:Int=>text.length-s.toNat) ?_ ⟨j,rfl,zx _,by have:=(VK hj).2.1;omega,rfl⟩
  rintro s ⟨n,rfl,hn,hn',he⟩
  rcases Na text n hn' with ⟨e,h⟩ | ⟨d,q,h⟩
  ·refine .inl ⟨n,?_,n,rfl,?_,hn',?_⟩
   ·simp only [jx.ci_,jx.c11,JV (show ¬(n:Int)<(text.length:Int) by omega),je,JA]
   ·have:=(VK hj).2.1;omega
   ·rw [h] at he ⊢;exact he
  ·obtain ⟨e,hl,hq⟩:=VK h
   have e5:jx.c11 text (n:Int) some=some (!(d==10)):=by
    simp only [jx.c11,JB (show (n:Int)<(text.length:Int) by omega),e,je]
    exact congrArg some (congrArg not (fQ d 10 (by omega)))
   cases hd:d==10 with
   | true=>
     refine .inl ⟨n,?_,n,rfl,?_,hn',?_⟩
     ·simp only [jx.ci_,e5,hd,je,Bool.not_true,JA]
     ·refine Nat.lt_of_le_of_ne hn fun hh=>?_
      subst hh
      rw [hj] at h;injection h with h1 h2
      subst h1;exact hc (beq_iff_eq.1 hd)
     ·rw [h] at he ⊢
      rw [Yq] at he
      rw [show Yq false (d::q)=if fR d then 1+Yq false q else if d==47&&q.head? == some 47 then 1+Yq true q else 0 from by rw [Yq]]
      have hb:fR d=true:=by rw [beq_iff_eq.1 hd];rfl
      rw [hd] at he
      simp only [hb,if_true,Bool.not_true] at he ⊢
      exact he
   | false=>
     refine .inr ⟨((n+1:Nat):Int),?_,⟨n+1,rfl,by omega,by omega,?_⟩,by omega⟩
     ·simp only [jx.ci_,e5,hd,je,Bool.not_false,JD,bY ht hl]
     ·rw [h,Yq,hd,Bool.not_false] at he
      rw [hq];omega
 have hT:=nJ text
 have outer:∃y,iter (fun s:Int×List Tk=>jx.cf_ text sZ nK onesL s.1 s.2 some) ((0:Int),[])=some y∧((∃i,y=.inl (i,UC text)) ∨ ∃i out,y=.inr (i,out)∧out++[((0:Int),[],(text.length:Int))]=UC text):=by
  refine Uk (J:=fun s:Int×List Tk=>∃n:Nat,s.1=n∧n≤text.length∧s.2++Nk text n=UC text) (fun s:Int×List Tk=>text.length-s.1.toNat) ?_ ⟨0,rfl,by omega,rfl⟩
  rintro ⟨i,out⟩ ⟨n,h1,hn',he⟩
  dsimp only at h1 he
  subst h1
  rcases Na text n hn' with ⟨e,h⟩ | ⟨d,q,h⟩
  ·refine .inl ⟨.inr ((n:Int),out),?_,.inr ⟨_,_,rfl,?_⟩⟩
   ·simp only [jx.cf_,JV (show ¬(n:Int)<(text.length:Int) by omega)]
   ·rw [←he]
    congr 1
    rw [bP]
    have hb:UJ text n=text.length:=by unfold UJ;rw [h];exact e
    have:UK text n=((0:Int),[],(text.length:Int)):=by unfold UK;rw [hb,List.drop_length];rfl
    rw [this];rfl
  ·obtain ⟨e,hl,hq⟩:=VK h
   have e4:jx.c10 text (n:Int) (d.toNat:Int) some=some (d==47&&q.head? == some 47):=by
    simp only [jx.c10]
    rw [show ((d.toNat:Int)==(47:Int))=(d==47) from fQ d 47 (by omega)]
    cases hd:d==47 with
    | false=>rfl
    | true=>
      rw [JD,bY ht hl]
      rcases Na text (n+1) (by omega) with ⟨e',h'⟩ | ⟨d',q',h'⟩
      ·rw [JV (by omega)]
       rw [hq] at h';rw [h'];rfl
      ·obtain ⟨e'',hl',_⟩:=VK h'
       rw [JB (by omega),e'',je]
       rw [hq] at h';rw [h']
       exact congrArg some ((fQ d' 47 (by omega)).trans (by cases hh:d'==47<;>simp_all))
   have hbl:Yq false (d::q)=if fR d then 1+Yq false q else if d==47&&q.head? == some 47 then 1+Yq true q else 0:=by rw [Yq]
   cases hb:fR d with
   | true=>
     refine .inr ⟨(((n+1:Nat):Int),out),?_,⟨n+1,rfl,by omega,?_⟩,by simp only [Int.toNat_natCast];omega⟩
     ·simp only [jx.cf_,JB (show (n:Int)<(text.length:Int) by omega),e,je,uQ,hb,JD,bY ht hl]
     ·dsimp only
      rw [←he];congr 1
      refine tQ ?_
      unfold UJ
      rw [hq,h,hbl,hb];simp only [if_true];omega
   | false=>
     cases hr:(d==47&&q.head? == some 47) with
     | true=>
       have hd:d=47:=by
        have:=(ze _ _▸hr:_∧_).1
        exact beq_iff_eq.1 this
       obtain ⟨k,hk,m,rfl,hm,hm',hme⟩:=inner n d q h (by rw [hd];decide)
       refine .inr ⟨((m:Int),out),?_,⟨m,rfl,hm',?_⟩,by simp only [Int.toNat_natCast];omega⟩
       ·simp only [jx.cf_,JB (show (n:Int)<(text.length:Int) by omega),e,je,uQ,hb,JA,e4,hr,JD,hk]
       ·dsimp only
        rw [←he];congr 1
        refine tQ ?_
        unfold UJ
        rw [hme,h,hbl,hb,hr]
        rw [Yq,hd]
        simp
     | false=>
       have hbeg:UJ text n=n:=by unfold UJ;rw [h,hbl,hb,hr];simp
       obtain ⟨b,e6⟩:=O5 ht h
       have hlw:=iG (p:=Nx d) (d::q)
       have hlen:text.length=n+(d::q).length:=by
        have:=congrArg List.length h
        rw [zu] at this;omega
       have htok:UK text n=((VH (d::q)).1,(VH (d::q)).2,(n:Int)):=by unfold UK;rw [hbeg,h]
       have hend:cT text n=n+(VH (d::q)).2.length:=by unfold cT;rw [hbeg,h]
       have hout:out.length≤40001:=by
        have:=congrArg List.length he
        rw [zf] at this
        have:=hT.2;omega
       have hcut:List.drop (Int.toNat (n:Int)) (List.take (Int.toNat ((n+((d::q).takeWhile (Nx d)).length:Nat):Int)) text)=(d::q).takeWhile (Nx d):=by
        rw [n9 ht (by omega),h]
        exact (List.prefix_iff_eq_take.1 (List.takeWhile_prefix _)).symm
       have step:jx.cf_ text sZ nK onesL (n:Int) out some=br ((VH (d::q)).1==(4:Int)) (some (.inr (.inl ((n:Int),out++[UK text n])))) (some (.inl (((n+(VH (d::q)).2.length:Nat):Int),out++[UK text n]))):=by
        simp only [jx.cf_,JB (show (n:Int)<(text.length:Int) by omega),e,je,uQ,hb,JA,e4,hr,IB ht h,hcut]
        rw [jY (by simp;omega),je,e6,je,mU ⟨by omega,by omega⟩,je,htok]
       rw [bP] at he
       by_cases h4:(VH (d::q)).1=4
       ·rw [YV (by simpa using h4)] at step
        refine .inl ⟨.inl ((n:Int),out++[UK text n]),step,.inl ⟨(n:Int),?_⟩⟩
        rw [if_pos (.inr (by rw [htok];exact h4))] at he
        rw [he]
       ·rw [Ys (by simpa using h4)] at step
        have h0:(VH (d::q)).1≠0:=fun h0=>by cases (ED (r:=d::q)).1 h0
        refine .inr ⟨(((n+(VH (d::q)).2.length:Nat):Int),out++[UK text n]),step,⟨n+(VH (d::q)).2.length,rfl,?_,?_⟩,?_⟩
        ·have:=pM hn' (by rw [htok];exact h0) (by rw [htok];exact h4);omega
        ·dsimp only
         rw [if_neg (by rw [htok];simp only;omega),hend] at he
         rw [zq];exact he
        ·have:=gL h0 h4
         simp only [Int.toNat_natCast];omega
 obtain ⟨y,hy,hh⟩:=outer
 unfold jx
 refine jf hy ?_
 rcases hh with ⟨i,rfl⟩ | ⟨i,out,rfl,ho⟩
 ·rfl
 ·have hout:out.length≤40001:=by
   have:=congrArg List.length ho
   rw [zf] at this
   have:=hT.2;omega
  rw [Vg]
  refine (jf (mU (n:=out.length+1) ⟨by omega,by omega⟩) ?_)
  exact congrArg some ho
end
end W
end

section
section
namespace Go.Ql
structure Rep (B:Int) (x:Bool×List Int) (v:Int):Prop where
 dig:Dig B x.2
 last:x.2≠[]→x.2.getD (x.2.length-1) 0≠0
 neg:x.1=true→x.2≠[]
 val:v=if x.1 then-val B x.2 else val B x.2
def HN (B:Int) {l:List Int} {n:Nat} (h:l.length≤n):val B (l.take n)=val B l:=by rw [List.take_of_length_le h]
def eR {B:Int} (neg:Bool) (mag:List Int) (h:Dig B mag) (hl:mag.length<1000000000000) :
 ∃r,W.Ya neg mag=some r∧Rep B r (if neg then-val B mag else val B mag)∧r.2.length≤mag.length:=by
 obtain ⟨n,h1,k,rfl,hk,hv,hz⟩:=Uk (f:=fun s↦W.Ya.ca_ mag s Option.some)
  (J:=fun n:Int=>∃k:Nat,n=k∧k≤mag.length∧val B (mag.take k)=val B mag)
  (Q:=fun n:Int=>∃k:Nat,n=k∧k≤mag.length∧val B (mag.take k)=val B mag∧(k≠0→mag.getD (k-1) 0≠0))
  Int.toNat (fun s ⟨k,hs,hk,hv⟩=>by
   subst hs
   simp only [W.Ya.ca_,W.Ya.c2]
   by_cases h0:k=0
   ·subst h0
    exact Or.inl ⟨_,by simp [JA,je],0,rfl,hk,hv,fun h=>absurd rfl h⟩
   ·have hw:IntKind.i64.wrap ((k:Int)-1)=((k-1:Nat):Int):=by rw [JS (by omega)];omega
    have e1:=aK (xs:=mag) (k-1) hw (by omega)
    rw [e1,hw]
    simp only [je,zo (by omega:(k:Int)>0),JD]
    by_cases hz:mag.getD (k-1) 0=0
    ·refine Or.inr ⟨_,by rw [hz];rfl,⟨k-1,rfl,by omega,?_⟩,by omega⟩
     have:=VY B (k-1) mag
     rw [hz,show k-1+1=k by omega,Int.mul_zero] at this
     omega
    ·exact Or.inl ⟨_,by rw [beq_false_of_ne hz];rfl,k,rfl,hk,hv,fun _=>hz⟩)
  (s:=(mag.length:Int)) ⟨mag.length,rfl,zx _,HN B (zx _)⟩
 unfold W.Ya
 rw [h1]
 simp only [je]
 by_cases h0:k=0
 ·subst h0
  refine ⟨(false,[]),by simp [JD],⟨Dig.nil,by simp,by simp,?_⟩,by simp⟩
  simp only [List.take_zero,val] at hv
  rw [←hv];simp [val]
 ·refine ⟨(neg,mag.take k),?_,⟨h.take k,fun _=>?_,fun _ e=>?_,?_⟩,by simp only [List.length_take];omega⟩
  ·have:((k:Int)==0)=false:=beq_false_of_ne (by omega)
   simp only [this,JA]
   rw [jY (by simp;omega)]
   rfl
  ·have hlen:(mag.take k).length=k:=by rw [List.length_take];omega
   have:=hz h0
   rw [hlen]
   simp only [List.getD,List.getElem?_take] at this ⊢
   rw [if_pos (by omega)]
   exact this
  ·have:(mag.take k).length=0:=congrArg List.length e
   rw [List.length_take] at this
   omega
  ·simp only [hv]
end Go.Ql
end
section
namespace Go.Ql
def iH {x d:Int} (h:0≤x):Int.tdiv x d=x / d:=Int.tdiv_eq_ediv_of_nonneg h
def iJ {x d:Int} (h:0≤x):Int.tmod x d=x % d:=Int.tmod_eq_emod_of_nonneg h
def cV {l:List Int} {i:Nat} (h:l.length≤i):l.getD i 0=0:=by rw [List.getD,List.getElem?_eq_none h];rfl
def ON (a b:List Int) (ha:Dig 10000 a) (hb:Dig 10000 b) (la:a.length<1000000000) (lb:b.length<1000000000) :
 ∃t,W.kI a b=some t∧Dig 10000 t∧t.length≤a.length+b.length+1∧val 10000 t=val 10000 a+val 10000 b:=by
 obtain ⟨⟨c,i,t⟩,h1,hd,hl,hv⟩:=Uk
  (f:=fun s:Int×Int×List Int↦W.kI.ce_ a b (Prod.fst s) (Prod.fst (Prod.snd s)) (Prod.snd (Prod.snd s)) Option.some)
  (J:=fun s=>(0≤s.1∧s.1≤1)∧s.2.1=s.2.2.length∧Dig 10000 s.2.2∧s.2.2.length≤max a.length b.length+1∧(s.2.2.length=max a.length b.length+1→s.1=0)∧val 10000 s.2.2+s.1*10000^s.2.2.length=val 10000 (a.take s.2.2.length)+val 10000 (b.take s.2.2.length))
  (Q:=fun s=>Dig 10000 s.2.2∧s.2.2.length≤a.length+b.length+1∧val 10000 s.2.2=val 10000 a+val 10000 b)
  (fun s=>2*(max a.length b.length+1-s.2.2.length)+s.1.toNat) (fun ⟨c,i',t⟩ ⟨hc,hi,hd,hl,hl0,hv⟩=>by
   simp only at hc hi hd hl hl0 hv ⊢
   subst hi
   simp only [W.kI.ce_]
   have e4:W.kI.c4 a b c (t.length:Int) Option.some=some (decide (t.length<a.length∨t.length<b.length∨0<c)):=by
    unfold W.kI.c4
    by_cases h1:t.length<a.length
    ·rw [JB (by omega)];simp [h1]
    ·rw [JV (by omega)]
     by_cases h2:t.length<b.length
     ·rw [JB (by omega)];simp [h2]
     ·rw [JV (by omega)];simp [h1,h2]
   rw [e4,je]
   have dx:=ha.getD (by decide) t.length
   have dy:=hb.getD (by decide) t.length
   have e5:W.kI.co_ a c (t.length:Int) Option.some=some (c+a.getD t.length 0):=by
    unfold W.kI.co_
    by_cases h1:t.length<a.length
    ·rw [JB (by omega),aK t.length rfl h1,je,JS (by omega)]
    ·rw [JV (by omega),cV (by omega)];simp
   have e6:W.kI.cu_ b (c+a.getD t.length 0) (t.length:Int) Option.some=some (c+a.getD t.length 0+b.getD t.length 0):=by
    unfold W.kI.cu_
    by_cases h1:t.length<b.length
    ·rw [JB (by omega),aK t.length rfl h1,je,JS (by omega)]
    ·rw [JV (by omega),cV (l:=b) (by omega)];simp
   by_cases h0:t.length<a.length∨t.length<b.length∨0<c
   ·rw [JB h0]
    refine Or.inr ⟨(_,_,_),by rw [e5,je,e6,je,jY (by simp;omega),je,iJ (by omega),iH (by omega),JS (by omega)],⟨?_,?_,?_,?_,?_,?_⟩,?_⟩
    ·simp only;omega
    ·simp only [zf,Z4];rw [JS (by omega)];omega
    ·exact hd.append (Dig.cons (by omega) Dig.nil)
    ·simp only [zf,Z4];omega
    ·simp only [zf,Z4]
     intro h2
     have h3:a.getD t.length 0=0:=cV (by omega)
     have h4:b.getD t.length 0=0:=cV (by omega)
     rw [h3,h4];omega
    ·have v1:=VY 10000 t.length a
     have v2:=VY 10000 t.length b
     have v3:=nN 10000 t ((c+a.getD t.length 0+b.getD t.length 0) % 10000)
     have v5:c+a.getD t.length 0+b.getD t.length 0=(c+a.getD t.length 0+b.getD t.length 0) % 10000+10000*((c+a.getD t.length 0+b.getD t.length 0) / 10000):=(Int.emod_add_mul_ediv _ _).symm
     simp only [zf,Z4,Int.pow_succ]
     rw [v1,v2,v3]
     generalize (10000:Int)^t.length=P at *
     generalize (c+a.getD t.length 0+b.getD t.length 0) % 10000=r at *
     generalize (c+a.getD t.length 0+b.getD t.length 0) / 10000=q at *
     generalize a.getD t.length 0=x at *
     generalize b.getD t.length 0=y at *
     grind
    ·simp only [zf,Z4]
     by_cases h2:t.length<max a.length b.length
     ·omega
     ·have h3:a.getD t.length 0=0:=cV (by omega)
      have h4:b.getD t.length 0=0:=cV (by omega)
      rw [h3,h4];omega
   ·rw [JV h0]
    refine Or.inl ⟨(_,_,_),rfl,hd,by simp only;omega,?_⟩
    have hc0:c=0:=by omega
    subst hc0
    rw [HN _ (by omega),HN _ (by omega)] at hv
    simp only
    omega)
  (s:=((0:Int),(0:Int),[])) ⟨by simp,rfl,Dig.nil,by simp,by simp,by simp [val]⟩
 unfold W.kI
 rw [h1]
 exact ⟨t,rfl,hd,hl,hv⟩
def BA (a b:List Int) (ha:Dig 10000 a) (hb:Dig 10000 b) (la:a.length<1000000000) (lb:b.length≤a.length) (hab:val 10000 b≤val 10000 a) :
 ∃t,W.Yj a b=some t∧Dig 10000 t∧t.length=a.length∧val 10000 t=val 10000 a-val 10000 b:=by
 obtain ⟨⟨c,i,t⟩,h1,hc,hd,hl,hv⟩:=Uk
  (f:=fun s:Int×Int×List Int↦W.Yj.ce_ a b (Prod.fst s) (Prod.fst (Prod.snd s)) (Prod.snd (Prod.snd s)) Option.some)
  (J:=fun s=>(0≤s.1∧s.1≤1)∧s.2.1=s.2.2.length∧Dig 10000 s.2.2∧s.2.2.length≤a.length∧val 10000 s.2.2=val 10000 (a.take s.2.2.length)-val 10000 (b.take s.2.2.length)+s.1*10000^s.2.2.length)
  (Q:=fun s=>(0≤s.1∧s.1≤1)∧Dig 10000 s.2.2∧s.2.2.length=a.length∧val 10000 s.2.2=val 10000 a-val 10000 b+s.1*10000^a.length)
  (fun s=>a.length-s.2.2.length) (fun ⟨c,i',t⟩ ⟨hc,hi,hd,hl,hv⟩=>by
   simp only at hc hi hd hl hv ⊢
   subst hi
   simp only [W.Yj.ce_]
   have dx:=ha.getD (by decide) t.length
   have dy:=hb.getD (by decide) t.length
   by_cases h0:t.length<a.length
   ·have e5:W.Yj.cA_ b (t.length:Int) (a.getD t.length 0-c) Option.some=some (a.getD t.length 0-c-b.getD t.length 0):=by
     unfold W.Yj.cA_
     by_cases h1:t.length<b.length
     ·rw [JB (by omega),aK t.length rfl h1,je,JS (by omega)]
     ·rw [JV (by omega),cV (l:=b) (by omega)];simp
    have e6:W.Yj.cS_ 0 (a.getD t.length 0-c-b.getD t.length 0) Option.some=some (-((a.getD t.length 0-c-b.getD t.length 0) / 10000),(a.getD t.length 0-c-b.getD t.length 0) % 10000):=by
     unfold W.Yj.cS_
     by_cases h1:a.getD t.length 0-c-b.getD t.length 0<0
     ·rw [JB h1,JS (by omega)]
      congr 1
      ext<;>simp only<;>omega
     ·rw [JV h1]
      congr 1
      ext<;>simp only<;>omega
    rw [JB (by omega)]
    refine Or.inr ⟨(_,_,_),by rw [aK t.length rfl h0,je,JS (x:=a.getD t.length 0-c) (by omega),e5,je,e6,je,jY (by simp;omega),je],⟨?_,?_,?_,?_,?_⟩,?_⟩
    ·simp only;omega
    ·simp only [zf,Z4];rw [JS (by omega)];omega
    ·exact hd.append (Dig.cons (by simp only;omega) Dig.nil)
    ·simp only [zf,Z4];omega
    ·have v1:=VY 10000 t.length a
     have v2:=VY 10000 t.length b
     have v3:=nN 10000 t ((a.getD t.length 0-c-b.getD t.length 0) % 10000)
     have v5:a.getD t.length 0-c-b.getD t.length 0=(a.getD t.length 0-c-b.getD t.length 0) % 10000+10000*((a.getD t.length 0-c-b.getD t.length 0) / 10000):=(Int.emod_add_mul_ediv _ _).symm
     simp only [zf,Z4,Int.pow_succ]
     rw [v1,v2,v3]
     generalize (10000:Int)^t.length=P at *
     generalize (a.getD t.length 0-c-b.getD t.length 0) % 10000=r at *
     generalize (a.getD t.length 0-c-b.getD t.length 0) / 10000=q at *
     generalize a.getD t.length 0=x at *
     generalize b.getD t.length 0=y at *
     grind
    ·simp only [zf,Z4];omega
   ·rw [JV (by omega)]
    have hl':t.length=a.length:=by omega
    rw [hl',HN _ (zx _),HN _ lb] at hv
    exact Or.inl ⟨(_,_,_),rfl,hc,hd,hl',hv⟩)
  (s:=((0:Int),(0:Int),[])) ⟨by simp,rfl,Dig.nil,by simp,by simp [val]⟩
 unfold W.Yj
 rw [h1]
 simp only at hc hd hl hv
 have h2:=tT (by decide) hd
 rw [hl] at h2
 have hc0:c=0:=by
  rcases (by omega:c=0∨c=1) with h | h
  ·exact h
  ·subst h;omega
 subst hc0
 exact ⟨t,rfl,hd,hl,by omega⟩
end Go.Ql
end
section
namespace Go.Ql
def tX (l:List Int):Prop:=l≠[]→l.getD (l.length-1) 0≠0
def IA {B:Int} (hB:1<B) {l:List Int} (h:Dig B l) (ht:tX l) (hn:l≠[]):B^(l.length-1)≤val B l:=by
 have h0:l.length≠0:=fun e=>hn (zl e)
 have h1:=VY B (l.length-1) l
 rw [show l.length-1+1=l.length by omega,List.take_length] at h1
 have h2:=h.getD (by omega) (l.length-1)
 have h3:=ht hn
 have h4:=Nl (by omega) (h.take (l.length-1))
 have h5:B^(l.length-1)*1≤B^(l.length-1)*l.getD (l.length-1) 0:=Int.mul_le_mul_of_nonneg_left (by omega) (Int.le_of_lt (Int.pow_pos (by omega)))
 omega
def hO {B:Int} (hB:1<B) {m n:Nat} (h:m≤n):B^m≤B^n:=by
 induction n with
 | zero=>rw [show m=0 by omega];exact Int.le_refl _
 | succ n ih=>
   by_cases e:m=n+1
   ·rw [e];exact Int.le_refl _
   ·have h1:=ih (by omega)
    have h2:0<B^n:=Int.pow_pos (by omega)
    rw [Int.pow_succ]
    have h3:B^n*1≤B^n*B:=Int.mul_le_mul_of_nonneg_left (by omega) (by omega)
    omega
def fY {B:Int} (hB:1<B) {a b:List Int} (ha:Dig B a) (hb:Dig B b) (tb:tX b) (h:a.length<b.length):val B a<val B b:=by
 have h1:=tT (by omega) ha
 have h2:=IA hB hb tb (by intro e;rw [e] at h;simp at h)
 have h3:=hO hB (show a.length≤b.length-1 by omega)
 omega
def F5 {B:Int} (hB:1<B) {a b:List Int} (ha:Dig B a) (hb:Dig B b) (tb:tX b) (h:val B b≤val B a):b.length≤a.length:=by
 by_cases h1:b.length≤a.length
 ·exact h1
 ·have:=fY hB ha hb tb (by omega);omega
def G9 {B:Int} (hB:1<B) {a b:List Int} (ha:Dig B a) (hb:Dig B b) (k:Nat) (h:a.getD k 0<b.getD k 0):val B (a.take (k+1))<val B (b.take (k+1)):=by
 have h1:=VY B k a
 have h2:=VY B k b
 have h3:=tT (by omega) (ha.take k)
 have h4:=Nl (by omega) (hb.take k)
 have h5:=hO hB (show (a.take k).length≤k by rw [List.length_take];omega)
 have h6:B^k*(a.getD k 0+1)≤B^k*b.getD k 0:=Int.mul_le_mul_of_nonneg_left (by omega) (Int.le_of_lt (Int.pow_pos (by omega)))
 rw [Int.mul_add] at h6
 omega
def A5 (x y c:Int):Prop:=(c=-1∧x<y)∨(c=0∧x=y)∨(c=1∧y<x)
def OO (a b:List Int) (ha:Dig 10000 a) (hb:Dig 10000 b) (ta:tX a) (tb:tX b) (la:a.length<1000000000) (lb:b.length<1000000000) :
 ∃c,W.Yp a b=some c∧A5 (val 10000 a) (val 10000 b) c:=by
 unfold W.Yp
 by_cases h1:a.length<b.length
 ·rw [YV (bne_iff_ne.2 (by omega)),JB (by omega)]
  exact ⟨_,rfl,Or.inl ⟨rfl,fY (by decide) ha hb tb h1⟩⟩
 by_cases h2:b.length<a.length
 ·rw [YV (bne_iff_ne.2 (by omega)),JV (by omega)]
  exact ⟨_,rfl,Or.inr (Or.inr ⟨rfl,fY (by decide) hb ha ta h2⟩)⟩
 have hl:a.length=b.length:=by omega
 obtain ⟨r,h3,h4⟩:=Uk (f:=fun s:Int↦W.Yp.cf_ a b s Option.some)
  (J:=fun i=>∃k:Nat,i=(k:Int)-1∧k≤a.length∧val 10000 a-val 10000 b=val 10000 (a.take k)-val 10000 (b.take k))
  (Q:=fun r=>A5 (val 10000 a) (val 10000 b) (match r with | .inl u=>u.1 | .inr _=>0))
  (fun i=>(i+1).toNat) (fun i ⟨k,hi,hk,hv⟩=>by
   subst hi
   simp only [W.Yp.cf_]
   by_cases h0:k=0
   ·subst h0
    rw [JV (by omega)]
    refine Or.inl ⟨_,rfl,Or.inr (Or.inl ⟨rfl,?_⟩)⟩
    simp [val] at hv
    omega
   ·rw [JB (by omega)]
    have hk1:k-1+1=k:=by omega
    have e8:W.Yp.c8 a b ((k:Int)-1) Option.some=some (decide (a.getD (k-1) 0<b.getD (k-1) 0)):=by
     unfold W.Yp.c8
     rw [aK (k-1) (by omega) (by omega),je,aK (k-1) (by omega) (by omega),je]
    have e10:W.Yp.c10 a b ((k:Int)-1) Option.some=some (decide (b.getD (k-1) 0<a.getD (k-1) 0)):=by
     unfold W.Yp.c10
     rw [aK (k-1) (by omega) (by omega),je,aK (k-1) (by omega) (by omega),je]
    rw [e8,je]
    by_cases h5:a.getD (k-1) 0<b.getD (k-1) 0
    ·have h6:=G9 (by decide) ha hb (k-1) h5
     rw [hk1] at h6
     rw [JB h5]
     exact Or.inl ⟨_,rfl,Or.inl ⟨rfl,by omega⟩⟩
    ·rw [JV h5,e10,je]
     by_cases h7:b.getD (k-1) 0<a.getD (k-1) 0
     ·have h6:=G9 (by decide) hb ha (k-1) h7
      rw [hk1] at h6
      rw [JB h7]
      exact Or.inl ⟨_,rfl,Or.inr (Or.inr ⟨rfl,by omega⟩)⟩
     ·rw [JV h7,JS (by omega)]
      refine Or.inr ⟨(k:Int)-1-1,rfl,⟨k-1,by omega,by omega,?_⟩,by omega⟩
      have v1:=VY 10000 (k-1) a
      have v2:=VY 10000 (k-1) b
      have v3:a.getD (k-1) 0=b.getD (k-1) 0:=by omega
      rw [hk1] at v1 v2
      rw [v3] at v1
      omega)
  (s:=(a.length:Int)-1) ⟨a.length,rfl,zx _,by rw [HN _ (zx _),HN _ (by omega)]⟩
 rw [Ys (by simp [hl]),JS (by omega),h3,je]
 refine ⟨_,?_,h4⟩
 cases r<;>rfl
end Go.Ql
end
section
namespace Go.Ql
def P3 {a b:Bool×List Int} {u v:Int} (ha:Rep 10000 a u) (hb:Rep 10000 b v) (la:a.2.length<100000000) (lb:b.2.length<100000000) :
 ∃r,W.YG a b=some r∧Rep 10000 r (u+v)∧r.2.length≤a.2.length+b.2.length+1:=by
 obtain ⟨a0,a1⟩:=a
 obtain ⟨b0,b1⟩:=b
 simp only at la lb
 have va:=ha.val
 have vb:=hb.val
 simp only at va vb
 unfold W.YG
 by_cases za:a1=[]
 ·subst za
  refine ⟨(b0,b1),rfl,?_,by simp only;omega⟩
  have:u=0:=by rw [va];simp [val]
  rw [this,Int.zero_add]
  exact hb
 have za':a1.length≠0:=fun e=>za (zl e)
 rw [Ys (beq_false_of_ne (by show ((a1.length:Nat):Int)≠0;omega))]
 by_cases zb:b1=[]
 ·subst zb
  refine ⟨(a0,a1),rfl,?_,by simp only;omega⟩
  have:v=0:=by rw [vb];simp [val]
  rw [this,Int.add_zero]
  exact ha
 have zb':b1.length≠0:=fun e=>zb (zl e)
 rw [Ys (beq_false_of_ne (by show ((b1.length:Nat):Int)≠0;omega))]
 by_cases h0:a0=b0
 ·subst h0
  obtain ⟨t,h1,h2,h3,h4⟩:=ON a1 b1 ha.dig hb.dig (by omega) (by omega)
  obtain ⟨r,h5,h6,h7⟩:=eR a0 t h2 (by omega)
  refine ⟨r,?_,?_,by show r.2.length≤a1.length+b1.length+1;omega⟩
  ·rw [YV (beq_self_eq_true a0)]
   unfold W.YG.c6
   rw [h1,je,h5];rfl
  ·have:u+v=if a0=true then -val 10000 t else val 10000 t:=by rw [va,vb,h4];split<;>omega
   rw [this];exact h6
 ·have hb0:b0=!a0:=by cases a0<;>cases b0<;>simp_all
  rw [Ys (beq_false_of_ne h0)]
  obtain ⟨c,h1,h2⟩:=OO a1 b1 ha.dig hb.dig ha.last hb.last (by omega) (by omega)
  rw [h1,je]
  by_cases hc:c≥0
  ·have hle:val 10000 b1≤val 10000 a1:=by rcases h2 with h | h | h<;>omega
   obtain ⟨t,h3,h4,h5,h6⟩:=BA a1 b1 ha.dig hb.dig (by omega) (F5 (by decide) ha.dig hb.dig hb.last hle) hle
   obtain ⟨r,h7,h8,h9⟩:=eR a0 t h4 (by omega)
   refine ⟨r,?_,?_,by show r.2.length≤a1.length+b1.length+1;omega⟩
   ·rw [JB hc]
    unfold W.YG.c8
    rw [h3,je,h7];rfl
   ·have:u+v=if a0=true then -val 10000 t else val 10000 t:=by rw [va,vb,h6,hb0];cases a0<;>simp<;>omega
    rw [this];exact h8
  ·have hle:val 10000 a1≤val 10000 b1:=by rcases h2 with h | h | h<;>omega
   obtain ⟨t,h3,h4,h5,h6⟩:=BA b1 a1 hb.dig ha.dig (by omega) (F5 (by decide) hb.dig ha.dig ha.last hle) hle
   obtain ⟨r,h7,h8,h9⟩:=eR b0 t h4 (by omega)
   refine ⟨r,?_,?_,by show r.2.length≤a1.length+b1.length+1;omega⟩
   ·rw [JV hc]
    unfold W.YG.c9
    rw [h3,je,h7];rfl
   ·have:u+v=if b0=true then -val 10000 t else val 10000 t:=by rw [va,vb,h6,hb0];cases a0<;>simp<;>omega
    rw [this];exact h8
def P4 {a:Bool×List Int} {u:Int} (ha:Rep 10000 a u) (la:a.2.length<100000000) :
 ∃r,W.bB a=some r∧Rep 10000 r (-u)∧r.2.length≤a.2.length:=by
 obtain ⟨r,h1,h2,h3⟩:=eR (!a.1) a.2 ha.dig (by omega)
 refine ⟨r,by unfold W.bB;rw [h1];rfl,?_,h3⟩
 have:-u=if (!a.1)=true then -val 10000 a.2 else val 10000 a.2:=by rw [ha.val];cases a.1<;>simp
 rw [this];exact h2
def P5 {a b:Bool×List Int} {u v:Int} (ha:Rep 10000 a u) (hb:Rep 10000 b v) (la:a.2.length<100000000) (lb:b.2.length<100000000) :
 ∃r,W.Uy a b=some r∧Rep 10000 r (u-v)∧r.2.length≤a.2.length+b.2.length+1:=by
 obtain ⟨n,h1,h2,h3⟩:=P4 hb lb
 obtain ⟨r,h4,h5,h6⟩:=P3 ha h2 la (by omega)
 refine ⟨r,?_,by rw [Int.sub_eq_add_neg];exact h5,by omega⟩
 unfold W.Uy W.Uy.c1
 rw [show ((b.1,b.2):Bool×List Int)=b from rfl,h1,je,show ((a.1,a.2):Bool×List Int)=a from rfl,h4];rfl
def sgn (v:Int):Int:=if v<0 then -1 else if v=0 then 0 else 1
def Rep.pos {B:Int} (hB:1<B) {x:Bool×List Int} {v:Int} (h:Rep B x v) (hn:x.2≠[]):0<Ql.val B x.2:=by
 have h1:=IA hB h.dig h.last hn
 have h2:0<B^(x.2.length-1):=Int.pow_pos (by omega)
 omega
def Rep.sgn {B:Int} (hB:1<B) {x:Bool×List Int} {v:Int} (h:Rep B x v) :
 sgn v=if x.2.length=0 then 0 else if x.1 then -1 else 1:=by
 by_cases hn:x.2=[]
 ·have h1:=h.val
  rw [hn] at h1 ⊢
  have:v=0:=by rw [h1];simp [Ql.val]
  simp [this,Ql.sgn]
 ·have h1:=h.pos hB hn
  have h2:x.2.length≠0:=fun e=>hn (zl e)
  have h3:=h.val
  rw [if_neg h2]
  unfold Ql.sgn
  cases hx:x.1<;>simp only [hx,zi,if_false,if_true] at h3 ⊢ <;> split<;>(try split)<;>omega
def MI {a:Bool×List Int} {u:Int} (ha:Rep 10000 a u):W.Ny a=some (sgn u):=by
 rw [ha.sgn (by decide)]
 unfold W.Ny
 by_cases h:a.2.length=0
 ·rw [YV (beq_iff_eq.2 (by omega)),if_pos h]
 ·rw [Ys (beq_false_of_ne (by omega)),if_neg h];cases a.1<;>rfl
def B4 {a b:Bool×List Int} {u v:Int} (ha:Rep 10000 a u) (hb:Rep 10000 b v) (la:a.2.length<100000000) (lb:b.2.length<100000000) :
 W.aH a b=some (sgn (u-v)):=by
 obtain ⟨r,h1,h2,h3⟩:=P5 ha hb la lb
 unfold W.aH
 rw [show ((b.1,b.2):Bool×List Int)=b from rfl,show ((a.1,a.2):Bool×List Int)=a from rfl,h1,je,MI h2];rfl
end Go.Ql
end
section
namespace Go.Ql
def lZ (c:UInt8):Bool:=decide (48≤c.toNat)&&decide (c.toNat≤57)
def KJ (text:Za) (k:Nat) (h:k<text.length):idx text (k:Int)=some text[k]:=by
 unfold idx;simp [h]
end Go.Ql
end
section
namespace Go.Ql
def dg (c:UInt8):Int:=(c.toNat:Int)-48
def dec (l:Za):Int:=l.foldl (fun n c=>n*10+dg c) 0
def I1 (n:Int) (l:Za):l.foldl (fun n c=>n*10+dg c) n=n*10^l.length+dec l:=by
 induction l generalizing n with
 | nil=>simp [dec]
 | cons c l ih=>
   have h1:=ih (n*10+dg c)
   have h2:=ih (0*10+dg c)
   simp only [dec,List.foldl_cons,zg,Int.pow_succ] at h1 h2 ⊢
   rw [h1,h2]
   grind
def dH (l m:Za):dec (l++m)=dec l*10^m.length+dec m:=by
 unfold dec
 rw [List.foldl_append,I1];rfl
def x7 (l:Za) (c:UInt8):dec (l++[c])=dec l*10+dg c:=by
 rw [dH];simp [dec]
def Hj (l:Za):Prop:=∀c∈l,lZ c=true
def CO {c:UInt8} (h:lZ c=true):0≤dg c∧dg c≤9:=by
 simp only [lZ,ze,zn] at h
 unfold dg;omega
def NN:∀{l:Za},Hj l→0≤dec l∧dec l<10^l.length
 | [],_=>by simp [dec]
 | c::l,h=>by
   have h1:=NN (l:=l) (fun x hx=>h x (zz _ hx))
   have h2:=CO (h c (List.mem_cons_self ..))
   have h3:=dH [c] l
   have h4:dec [c]=dg c:=by simp [dec]
   rw [List.singleton_append,h4] at h3
   have h5:0<(10:Int)^l.length:=Int.pow_pos (by decide)
   have h6:dg c*10^l.length≤9*10^l.length:=Int.mul_le_mul_of_nonneg_right h2.2 (by omega)
   have h7:0≤dg c*10^l.length:=Int.mul_nonneg h2.1 (by omega)
   simp only [zg,Int.pow_succ]
   omega
def G4 {α:Type} {l:List α} {k:Nat} (h:k<l.length):l.take (k+1)=l.take k++[l[k]]:=by
 rw [List.take_add_one,Z7 h];rfl
end Go.Ql
end
section
namespace Go.Ql
def E8 {c d:UInt8} (h:dg c=dg d):c=d:=by
 apply UInt8.toNat_inj.1
 unfold dg at h;omega
def mH (c:UInt8) (l:Za):dec (c::l)=dg c*10^l.length+dec l:=by
 have h3:=dH [c] l
 have h4:dec [c]=dg c:=by simp [dec]
 rw [List.singleton_append,h4] at h3
 exact h3
def A9:∀{l m:Za},Hj l→Hj m→l.length=m.length→dec l=dec m→l=m
 | [],[],_,_,_,_=>rfl
 | c::l,d::m,hl,hm,e,h=>by
   have hl':Hj l:=fun x hx=>hl x (zz _ hx)
   have hm':Hj m:=fun x hx=>hm x (zz _ hx)
   have e':l.length=m.length:=by simpa using e
   have b1:=NN hl'
   have b2:=NN hm'
   rw [mH,mH,e'] at h
   rw [e'] at b1
   have hP:(0:Int)<10^m.length:=Int.pow_pos (by decide)
   have hc:dg c=dg d:=by
    rcases Int.lt_trichotomy (dg c) (dg d) with h1 | h1 | h1
    ·have:=Int.mul_le_mul_of_nonneg_right (show dg c+1≤dg d by omega) (Int.le_of_lt hP)
     rw [Int.add_mul] at this;omega
    ·exact h1
    ·have:=Int.mul_le_mul_of_nonneg_right (show dg d+1≤dg c by omega) (Int.le_of_lt hP)
     rw [Int.add_mul] at this;omega
   rw [hc] at h
   rw [E8 hc,A9 hl' hm' e' (by omega)]
 | [],_::_,_,_,e,_=>by simp at e
 | _::_,[],_,_,e,_=>by simp at e
def x5 {l:Za} (h:Hj l) (hn:l≠[]) (h0:l.head? ≠ some 48):10^(l.length-1)≤dec l:=by
 cases l with
 | nil=>exact absurd rfl hn
 | cons c l=>
   have hl':Hj l:=fun x hx=>h x (zz _ hx)
   have b1:=NN hl'
   have hd:=CO (h c (List.mem_cons_self ..))
   have h1:dg c≠0:=fun e=>h0 (by
    have:dg c=dg 48:=by rw [e];rfl
    rw [E8 this];rfl)
   rw [mH]
   have hP:(0:Int)<10^l.length:=Int.pow_pos (by decide)
   have:=Int.mul_le_mul_of_nonneg_right (show 1≤dg c by omega) (Int.le_of_lt hP)
   simp only [zg,Nat.add_sub_cancel]
   omega
def OQ {l m:Za} (hl:Hj l) (hm:Hj m) (nl:l≠[]) (nm:m≠[]) (l0:l.head? ≠ some 48) (m0:m.head? ≠ some 48) (h:dec l=dec m):l=m:=by
 have ll:l.length≠0:=fun e=>nl (zl e)
 have lm:m.length≠0:=fun e=>nm (zl e)
 have g1:=x5 hl nl l0
 have g2:=x5 hm nm m0
 have b1:=(NN hl).2
 have b2:=(NN hm).2
 refine A9 hl hm ?_ h
 rcases Nat.lt_trichotomy l.length m.length with e | e | e
 ·have:=hO (B:=10) (by decide) (show l.length≤m.length-1 by omega);omega
 ·exact e
 ·have:=hO (B:=10) (by decide) (show m.length≤l.length-1 by omega);omega
end Go.Ql
end
section
namespace Go.Ql
def nM (B:Int):∀(i:Nat) (l:List Int),i<l.length→val B (l.drop i)=l.getD i 0+B*val B (l.drop (i+1))
 | _,[],h=>by simp at h
 | 0,d::l,_=>by simp [val]
 | i+1,d::l,h=>by
   have:=nM B i l (by simpa using h)
   simpa using this
def bytes (l:List Int):Za:=l.map fun n↦UInt8.ofNat (Int.toNat n)
def gO {d:Int} (h:0≤d∧d≤9):lZ (UInt8.ofNat (Int.toNat (48+d)))=true∧dg (UInt8.ofNat (Int.toNat (48+d)))=d:=by
 have h1:(UInt8.ofNat (Int.toNat (48+d))).toNat=Int.toNat (48+d):=by
  rw [UInt8.toNat_ofNat'];omega
 unfold lZ dg
 rw [h1]
 constructor
 ·simp;omega
 ·omega
def IsDec (l:Za) (v:Int):Prop:=Hj l∧l≠[]∧l.head? ≠ some 48∧dec l=v
def UZ (d:Int):List Int:=[48+d / 1000,48+d / 100 % 10,48+d / 10 % 10,48+d % 10]
def qU {d:Int} (h:0≤d∧d<10000):Hj (bytes (UZ d))∧dec (bytes (UZ d))=d:=by
 have a:=gO (d:=d / 1000) (by omega)
 have b:=gO (d:=d / 100 % 10) (by omega)
 have c:=gO (d:=d / 10 % 10) (by omega)
 have e:=gO (d:=d % 10) (by omega)
 constructor
 ·intro x hx
  simp only [bytes,UZ,List.map_cons,List.map_nil,Z5,List.not_mem_nil,or_false] at hx
  rcases hx with rfl | rfl | rfl | rfl
  ·exact a.1
  ·exact b.1
  ·exact c.1
  ·exact e.1
 ·simp only [bytes,UZ,List.map_cons,List.map_nil,dec,List.foldl_cons,List.foldl_nil,a.2,b.2,c.2,e.2]
  omega
end Go.Ql
end
section
namespace Go.Ql
def CD (l:List Int) (k:Nat):bytes (l.drop k)=(bytes l).drop k:=by simp [bytes]
def iO (l:List Int):(bytes l).length=l.length:=by simp [bytes]
def x6:∀(k:Nat) (l:Za),(∀j (h:j<l.length),j<k→l[j]=48)→dec (l.drop k)=dec l
 | 0,_,_=>rfl
 | k+1,[],_=>by simp
 | k+1,c::l,h=>by
   have h0:c=48:=h 0 (by simp) (by omega)
   rw [List.drop_succ_cons,x6 k l (fun j hj hk=>h (j+1) (by simpa using hj) (by omega)),mH,h0]
   simp [dg]
def IsDec.snoc {l:Za} {v d:Int} (h:IsDec l v) (hd:0≤d∧d<10000):IsDec (l++bytes (UZ d)) (d+10000*v):=by
 obtain ⟨h1,h2,h3,h4⟩:=h
 have hf:=qU hd
 refine ⟨fun c hc=>?_,by simp [h2],?_,?_⟩
 ·rcases List.mem_append.1 hc with hc | hc
  ·exact h1 c hc
  ·exact hf.1 c hc
 ·cases l with
  | nil=>exact absurd rfl h2
  | cons c l=>exact h3
 ·rw [dH,hf.2,h4,iO]
  show v*10^4+d=_
  omega
def vP (F:List Int) (j:Nat) (h:j<(bytes F).length):(bytes F)[j]=UInt8.ofNat (F.getD j 0).toNat:=by
 have h':j<F.length:=by rwa [iO] at h
 simp [bytes,List.getD,h']
def IsDec.first {d:Int} (hd:0≤d∧d<10000) (h0:d≠0) {k:Nat} (hk:k≤3) (hz:∀j,j<k→(UZ d).getD j 0=48) (hn:k<3→(UZ d).getD k 0≠48):IsDec ((bytes (UZ d)).drop k) d:=by
 have hf:=qU hd
 have hl:(bytes (UZ d)).length=4:=by rw [iO];rfl
 have hdec:dec ((bytes (UZ d)).drop k)=d:=by
  rw [x6 k _ (fun j hj hjk=>by rw [vP,hz j hjk];rfl),hf.2]
 have hne:(bytes (UZ d)).drop k≠[]:=by
  intro e
  have:=congrArg List.length e
  rw [zu,hl] at this
  simp at this;omega
 refine ⟨fun c hc=>hf.1 c (List.mem_of_mem_drop hc),hne,fun e=>?_,hdec⟩
 by_cases h3:k<3
 ·rw [List.head?_drop,Z7 (by omega),vP] at e
  have h5:=Option.some.inj e
  have hg:48≤(UZ d).getD k 0∧(UZ d).getD k 0≤57:=by
   rcases (by omega:k=0∨k=1∨k=2) with rfl | rfl | rfl<;>simp [UZ]<;>omega
  apply hn h3
  have h6:=congrArg UInt8.toNat h5
  rw [UInt8.toNat_ofNat'] at h6
  have h7:(48:UInt8).toNat=48:=rfl
  rw [h7] at h6
  omega
 ·have:∃c,(bytes (UZ d)).drop k=[c]:=by
   have hx:((bytes (UZ d)).drop k).length=1:=by rw [zu,hl];omega
   exact List.length_eq_one_iff.1 hx
  obtain ⟨c,hc⟩:=this
  rw [hc] at e hdec
  simp at e
  rw [e] at hdec
  apply h0
  rw [←hdec];rfl
def Txt (v:Int) (l:Za):Prop:=(v=0∧l=[48])∨(v≠0 ∧ ∃D,IsDec D (v.natAbs:Int)∧l=(if v<0 then [45] else [])++D)
def Txt.one {v:Int} {l m:Za} (h:Txt v l) (k:Txt v m):l=m:=by
 rcases h with ⟨h1,h2⟩ | ⟨h1,D,h2,h3⟩<;>rcases k with ⟨k1,k2⟩ | ⟨k1,E,k2,k3⟩
 ·rw [h2,k2]
 ·exact absurd h1 k1
 ·exact absurd k1 h1
 ·rw [h3,k3,OQ h2.1 k2.1 h2.2.1 k2.2.1 h2.2.2.1 k2.2.2.1 (h2.2.2.2.trans k2.2.2.2.symm)]
end Go.Ql
end
section
namespace Go.Ql
def u6 {x:Int}:IntKind.u64.wrap x=x % 18446744073709551616:=by
 simp [IntKind.wrap,IntKind.signed,IntKind.bits]
def K2 {α β:Type} (p:α×β):(p.1,p.2)=p:=rfl
end Go.Ql
end
section
namespace Go.Ql
def Rep.nil {B:Int}:Rep B (false,[]) 0:=⟨Dig.nil,by simp,by simp,by simp [Ql.val]⟩
def Rep.absval {B:Int} (hB:0≤B) {x:Bool×List Int} {v:Int} (h:Rep B x v):Ql.val B x.2=(v.natAbs:Int):=by
 have h1:=Nl hB h.dig
 have h2:=h.val
 cases h0:x.1<;>simp only [h0,zi,if_false,if_true] at h2<;>omega
def Rep.eq_of {B:Int} {x:Bool×List Int} {u v:Int} (h:Rep B x u) (e:u=v):Rep B x v:=e▸h
end Go.Ql
end
section
namespace Go.Ql
def AL {n:Int} (h:-9223372036854775808≤n∧n≤9223372036854775807) :
 ∃r,W.Vr n=some r∧Rep 10000 r n∧r.2.length≤5:=by
 unfold W.Vr
 have e:W.Vr.cc_ n (IntKind.u64.wrap n) Option.some=some (n.natAbs:Int):=by
  unfold W.Vr.cc_
  by_cases h0:n<0
  ·rw [JB h0,u6,u6];congr 1;omega
  ·rw [JV h0,u6];congr 1;omega
 rw [e,je]
 have hB:(0:Int)<10000:=by decide
 obtain ⟨⟨u,d⟩,l1,l2,l3,l4⟩:=Uk
  (f:=fun s:Int×List Int↦W.Vr.cd_ (Prod.fst s) (Prod.snd s) Option.some)
  (J:=fun s=>0≤s.1∧s.1<10000^(5-s.2.length)∧s.2.length≤5∧Dig 10000 s.2∧val 10000 s.2+10000^s.2.length*s.1=(n.natAbs:Int))
  (Q:=fun s=>s.2.length≤5∧Dig 10000 s.2∧val 10000 s.2=(n.natAbs:Int))
  (fun s=>s.1.toNat) (fun ⟨u,d⟩ ⟨h1,h2,h3,h4,h5⟩=>by
   simp only at h1 h2 h3 h4 h5 ⊢
   unfold W.Vr.cd_
   by_cases h0:u>0
   ·have hl:d.length≠5:=fun e=>by rw [e] at h2;simp at h2;omega
    rw [JB h0,iJ h1,iH h1,JS (by omega),MD (by
     have:(10000:Int)^(5-d.length)≤10000^5:=hO (by decide) (by omega)
     rw [show (10000:Int)^5=100000000000000000000 from rfl] at this
     have h7:u≤(n.natAbs:Int):=by
      have:1*u≤10000^d.length*u:=Int.mul_le_mul_of_nonneg_right (by have:=pow_pos hB d.length;omega) h1
      have:=Nl (B:=10000) (by decide) h4
      omega
     omega),jY (by simp;omega),je]
    refine Or.inr ⟨(_,_),rfl,⟨by simp only;omega,?_,by simp;omega,h4.append (Dig.cons (by omega) Dig.nil),?_⟩,by simp only;omega⟩
    ·simp only [zf,zg,zh]
     have e5:5-d.length=(5-(d.length+(0+1)))+1:=by omega
     rw [e5,Int.pow_succ] at h2
     omega
    ·simp only [zf,zg,zh]
     rw [nN,Int.pow_succ,←h5]
     have:u=10000*(u / 10000)+u % 10000:=by omega
     generalize u / 10000=q at *
     generalize u % 10000=r at *
     subst this
     grind
   ·rw [JV h0]
    have:u=0:=by omega
    subst this
    exact Or.inl ⟨(_,_),rfl,h3,h4,by simpa using h5⟩)
  (s:=((n.natAbs:Int),[])) ⟨by simp,by simp only [zh];rw [show (10000:Int)^(5-0)=100000000000000000000 from rfl];omega,by simp,Dig.nil,by simp [val]⟩
 simp only at l2 l3 l4
 obtain ⟨r,r1,r2,r3⟩:=eR (B:=10000) (decide (n<0)) d l3 (by omega)
 rw [l1,je,r1]
 refine ⟨r,rfl,r2.eq_of ?_,by omega⟩
 rw [l4]
 by_cases h0:n<0
 ·rw [if_pos (zo h0)];omega
 ·rw [if_neg (by simpa using h0)];omega
end Go.Ql
end
section
namespace Go.Ql
def DZ (v:Int):Int×Bool:=if -9223372036854775808≤v∧v≤9223372036854775807 then (v,true) else (0,false)
def A2 {B:Int} (hB:1≤B) {l:List Int} (h:Dig B l) (i:Nat):val B (l.drop i)≤val B l:=by
 induction i with
 | zero=>simp
 | succ i ih=>
   by_cases hi:i<l.length
   ·have h1:=nM B i l hi
    have h2:=h.getD (by omega) i
    have h3:=Nl (B:=B) (by omega) (h.drop (i+1))
    have h4:1*val B (l.drop (i+1))≤B*val B (l.drop (i+1)):=Int.mul_le_mul_of_nonneg_right hB h3
    omega
   ·rw [List.drop_eq_nil_of_le (by omega)]
    exact Nl (by omega) h
def GX {v:Int}:sgn v<0↔v<0:=by unfold sgn;split<;>(try split)<;>omega
def Q3 {v:Int}:sgn v>0↔v>0:=by unfold sgn;split<;>(try split)<;>omega
def ID {a:Bool×List Int} {v:Int} (ha:Rep 10000 a v) (la:a.2.length<1000000):W.kC a=some (DZ v):=by
 unfold W.kC
 obtain ⟨o,o1,o2,o3⟩:=AL (n:=-9223372036854775808) (by decide)
 obtain ⟨p,p1,p2,p3⟩:=AL (n:=9223372036854775807) (by decide)
 have c1:W.kC.c1 a.1 a.2 some=some (decide (v < -9223372036854775808)||decide (v>9223372036854775807)):=by
  unfold W.kC.c1
  simp only [K2]
  rw [o1,je,B4 ha o2 (by omega) (by omega),je,p1,je,B4 ha p2 (by omega) (by omega),je]
  by_cases h:v < -9223372036854775808
  ·rw [JB (GX.2 (by omega)),zo h];rfl
  ·rw [JV (fun e=>by have:=GX.1 e;omega),zp h,Bool.false_or]
   congr 1
   rw [decide_eq_decide,Q3]
   omega
 rw [c1,je]
 unfold DZ
 by_cases h:-9223372036854775808≤v∧v≤9223372036854775807
 ·rw [Ys (by simp;omega),if_pos h,JS (by omega)]
  have h6:=ha.absval (by decide)
  obtain ⟨⟨n,i⟩,l1,l2⟩:=Uk
   (f:=fun s:Int×Int↦W.kC.cd_ (Prod.fst s) (Prod.snd s) a.2 some)
   (J:=fun s=>∃k:Nat,k≤a.2.length∧s.2=(k:Int)-1∧s.1=- val 10000 (a.2.drop k))
   (Q:=fun s=>s.1=- val 10000 a.2)
   (fun s=>(s.2+1).toNat) (fun ⟨n,i⟩ ⟨k,h1,h2,h3⟩=>by
    simp only at h2 h3 ⊢
    subst h2;subst h3
    unfold W.kC.cd_
    by_cases h0:k=0
    ·subst h0
     rw [JV (by omega)]
     exact Or.inl ⟨_,rfl,by simp⟩
    ·have hk:=nM 10000 (k-1) a.2 (by omega)
     rw [show k-1+1=k by omega] at hk
     have hle:=A2 (B:=10000) (by decide) ha.dig (k-1)
     have hnn:=Nl (B:=10000) (by decide) (ha.dig.drop k)
     have hdg:=ha.dig.getD (by decide) (k-1)
     rw [JB (by omega),aK (k-1) (by omega) (by omega),je,JS (x:=-val 10000 (a.2.drop k)*10000) (by omega),JS (by omega),JS (by omega)]
     exact Or.inr ⟨_,rfl,⟨k-1,by omega,by simp only;omega,by simp only;omega⟩,by simp only;omega⟩)
   (s:=((0:Int),(a.2.length:Int)-1)) ⟨a.2.length,zx _,rfl,by simp [val]⟩
  simp only at l2
  rw [l1,je,l2]
  have h9:=ha.val
  have c2:W.kC.cu_ (-val 10000 a.2) a.1 some=some v:=by
   unfold W.kC.cu_
   cases hs:a.1 with
   | false=>
     rw [hs] at h9
     simp only [zi,if_false] at h9
     rw [Bool.not_false,JD,JS (by omega)]
     congr 1;omega
   | true=>
     rw [hs] at h9
     simp only [if_true] at h9
     rw [Bool.not_true,JA,h9]
  simp only
  rw [c2,je]
 ·rw [YV (by simp;omega),if_neg h]
end Go.Ql
end
section
set_option maxRecDepth 100000
set_option maxHeartbeats 2000000
namespace Go.Ql
def KH (text:Za) (h:Hj text) (i:Nat) (hi:i≤text.length) (hL:text.length≤2000000) :
 ∃r:Int×Int,Go.Ql.iter (fun s:Int×Int↦W.JU.cW_ text (i:Int) (Prod.fst s) (Prod.snd s) Option.some) ((0:Int),(i:Int)-4)=some r∧r.1=dec ((text.take i).drop (i-4)):=
 Uk
  (f:=fun s:Int×Int↦W.JU.cW_ text (i:Int) (Prod.fst s) (Prod.snd s) Option.some)
  (J:=fun s=>(i:Int)-4≤s.2∧s.2≤i∧s.1=dec ((text.take s.2.toNat).drop (i-4)))
  (Q:=fun r=>r.1=dec ((text.take i).drop (i-4)))
  (fun s=>((i:Int)-s.2).toNat) (fun ⟨n,j⟩ ⟨h1,h2,h3⟩=>by
   simp only at h1 h2 h3 ⊢
   simp only [W.JU.cW_]
   by_cases h0:j<i
   ·have hw:IntKind.i64.wrap (j+1)=j+1:=JS (by omega)
    by_cases h4:0≤j
    ·obtain ⟨k,rfl⟩:∃k:Nat,j=k:=⟨j.toNat,by omega⟩
     rw [Int.toNat_natCast] at h3
     have hk:k<text.length:=by omega
     have hd:=CO (h _ (List.getElem_mem hk))
     have hb:=NN (l:=(text.take k).drop (i-4)) (fun c hc=>h c (List.mem_of_mem_take (List.mem_of_mem_drop hc)))
     have h8:(10:Int)^((text.take k).drop (i-4)).length≤10^4:=hO (by decide) (by rw [zu,List.length_take];omega)
     have h9:(10:Int)^4=10000:=by decide
     rw [←h3] at hb
     unfold dg at hd
     have e:W.JU.cv_ text n (k:Int) Option.some=some (n*10+((text[k].toNat:Int)-48)):=by
      unfold W.JU.cv_
      rw [JB (by omega),KJ _ k hk,je,show IntKind.u8.wrap ((text[k].toNat:Int)-48)=(text[k].toNat:Int)-48 from IntWalk.u8_in _ (by omega),JS (x:=(text[k].toNat:Int)-48) (by omega),JS (x:=n*10) (by omega),JS (by omega)]
     refine Or.inr ⟨(_,_),by rw [JB h0,e,je,hw],⟨by simp only;omega,by simp only;omega,?_⟩,by simp only;omega⟩
     simp only
     rw [show ((k:Int)+1).toNat=k+1 by omega,G4 hk,List.drop_append_of_le_length (by rw [List.length_take];omega),x7,h3];rfl
    ·have e:W.JU.cv_ text n j Option.some=some n:=by
      unfold W.JU.cv_
      rw [JV (by omega)]
     refine Or.inr ⟨(_,_),by rw [JB h0,e,je,hw],⟨by simp only;omega,by simp only;omega,?_⟩,by simp only;omega⟩
     simp only
     rw [h3,show j.toNat=0 by omega,show (j+1).toNat=0 by omega]
   ·refine Or.inl ⟨(_,_),by rw [JV h0],?_⟩
    simp only
    rw [h3,show j.toNat=i by omega])
  (s:=((0:Int),(i:Int)-4)) ⟨by simp,by simp only;omega,by
   simp only
   rw [show ((i:Int)-4).toNat=i-4 by omega,List.drop_of_length_le (by rw [List.length_take];omega)];rfl⟩
def A4 (text:Za) (h:Hj text) (hL:text.length≤2000000) :
 ∃r:Int×List Int,Go.Ql.iter (fun s:Int×List Int↦W.JU.cf_ text (Prod.fst s) (Prod.snd s) Option.some) ((text.length:Int),[])=some r∧Dig 10000 r.2∧r.2.length≤text.length∧val 10000 r.2=dec text:=
 Uk
  (f:=fun s:Int×List Int↦W.JU.cf_ text (Prod.fst s) (Prod.snd s) Option.some)
  (J:=fun s=>s.1=(text.length:Int)-4*s.2.length ∧ -4<s.1∧Dig 10000 s.2∧s.2.length≤text.length∧dec text=dec (text.take s.1.toNat)*10000^s.2.length+val 10000 s.2)
  (Q:=fun r=>Dig 10000 r.2∧r.2.length≤text.length∧val 10000 r.2=dec text)
  (fun s=>s.1.toNat) (fun ⟨i',d⟩ ⟨h1,h2,h3,h4,h5⟩=>by
   simp only at h1 h2 h3 h4 h5 ⊢
   simp only [W.JU.cf_]
   by_cases h0:i'>0
   ·obtain ⟨i,rfl⟩:∃k:Nat,i'=k:=⟨i'.toNat,by omega⟩
    rw [Int.toNat_natCast] at h5
    have hi:i≤text.length:=by omega
    obtain ⟨⟨n,j⟩,h6,h7⟩:=KH text h i hi (by omega)
    simp only at h7
    have hdg:Hj ((text.take i).drop (i-4)):=fun c hc=>h c (List.mem_of_mem_take (List.mem_of_mem_drop hc))
    have hb:=NN hdg
    have h8:(10:Int)^((text.take i).drop (i-4)).length≤10^4:=hO (by decide) (by rw [zu,List.length_take];omega)
    have h9:(10:Int)^4=10000:=by decide
    rw [←h7] at hb
    have hdec:dec (text.take i)=dec (text.take (i-4))*10000+n:=by
     have e1:text.take i=(text.take i).take (i-4)++(text.take i).drop (i-4):=(List.take_append_drop _ _).symm
     rw [e1,dH,←h7,List.take_take,Nat.min_eq_left (by omega)]
     by_cases h10:4≤i
     ·rw [show ((text.take i).drop (i-4)).length=4 by rw [zu,List.length_take];omega];rfl
     ·rw [show i-4=0 by omega];simp [dec]
    rw [JB h0,JS (x:=(i:Int)-4) (by omega),h6,je]
    refine Or.inr ⟨(_,_),by rw [jY (by simp;omega),je],⟨by simp;omega,by simp only;omega,h3.append (Dig.cons (by simp only;omega) Dig.nil),by simp;omega,?_⟩,by simp only;omega⟩
    simp only [zf,Z4,Int.pow_succ]
    rw [nN,show ((i:Int)-4).toNat=i-4 by omega,h5,hdec]
    generalize (10000:Int)^d.length=P at *
    grind
   ·refine Or.inl ⟨(_,_),by rw [JV h0],h3,h4,?_⟩
    rw [show i'.toNat=0 by omega,show dec (text.take 0)=0 from rfl] at h5
    simp only
    omega)
  (s:=((text.length:Int),[])) ⟨by simp,by simp only;omega,Dig.nil,by simp,by simp [val]⟩
end Go.Ql
end
end

section
set_option maxRecDepth 4000
namespace W
open Go Go.Ql
abbrev RS:=List Tk×Int×Int×Unit
inductive Sg where
 | good (ts:List Tk) | bad (e:Int)
def Lf {α:Type} (f:List Tk→Rd α):Sg→Rd α
 | .good ts=>f ts
 | .bad e=>.err e
def RSt (all:List Tk):Sg→RS→Prop
 | .good ts,q=>q.1=all∧q.2.2.1=-1 ∧ ∃j:Nat,q.2.1=j∧j<all.length∧all.drop j=ts
 | .bad e,q=>q.1=all∧q.2.2.1=e∧0≤e ∧ ∃j:Nat,q.2.1=j∧j<all.length
def RunE {α ρ:Type} (all:List Tk) (I:α→RS→ρ) (r:Option ρ):Rd α→Prop
 | .ok a us=>∃q,r=some (I a q)∧RSt all (.good us) q
 | .err e=>∃a q,r=some (I a q)∧RSt all (.bad e) q
 | .out=>True
abbrev VV {α:Type} (all:List Tk) (r:Option (α×RS)) (s:Rd α):Prop:=RunE all Prod.mk r s
section
variable {all:List Tk}
theorem RunE.bind {α β ρ τ:Type} {I:α→RS→ρ} {J:β→RS→τ} {r:Option ρ} {s:Rd α} {g:α→List Tk→Rd β} {k:ρ→Option τ} (h:RunE all I r s)
 (hk:∀a σ q,RSt all σ q→(∀us,σ=.good us→s=.ok a us)→RunE all J (k (I a q)) (Lf (g a) σ)):RunE all J (jc r k) (s.bind g):=by
 cases s with
 | ok a us=>
   obtain ⟨q,rfl,hq⟩:=h
   exact hk a (.good us) q hq (fun us' e=>by injection e with e;rw [e])
 | err e=>
   obtain ⟨a,q,rfl,hq⟩:=h
   exact hk a (.bad e) q hq (fun us' e=>by cases e)
 | out=>trivial
theorem RunE.ok {α ρ:Type} {I:α→RS→ρ} {a:α} {σ:Sg} {q:RS} (h:RSt all σ q):RunE all I (some (I a q)) (Lf (fun ts=>.ok a ts) σ):=by
 cases σ with
 | good ts=>exact ⟨q,rfl,h⟩
 | bad e=>exact ⟨a,q,rfl,h⟩
theorem kt {α β:Type} {s:List Tk→Rd α} {g:α→List Tk→Rd β} {σ:Sg}:Lf (fun ts=>(s ts).bind g) σ=(Lf s σ).bind g:=by cases σ<;>rfl
def kb (w:Za):Sg→Bool
 | .good ts=>Ja w ts
 | .bad _=>false
theorem pI {α:Type} {w:Za} {A B:List Tk→Rd α} {σ:Sg}:Lf (fun ts=>if Ja w ts=true then A ts else B ts) σ=if kb w σ=true then Lf A σ else Lf B σ:=by
 cases σ with
 | good ts=>rfl
 | bad e=>simp [kb,Lf]
theorem Ud {w:Za} {σ:Sg} (h:kb w σ=true):∃ts,σ=.good ts∧Ja w ts=true:=by
 cases σ with
 | good ts=>exact ⟨ts,rfl,h⟩
 | bad e=>cases h
theorem OG {α:Type} {A:List Tk→Rd α} {ts:List Tk}:Lf (fun ts=>A ts.tail) (.good ts)=Lf A (.good ts.tail):=rfl
theorem sC {α:Type} {A:List Tk→Rd α} {σ:Sg}:Lf (fun ts=>A ts) σ=Lf A σ:=rfl
theorem G7 {ts:List Tk} (h:TksOk ts) (j:Nat) (hj:j<ts.length):nV ts[j]∧(j+1<ts.length→ts[j].1≠0∧ts[j].1≠4)∧(j+1=ts.length→ts[j].1=0∨ts[j].1=4):=by
 induction ts generalizing j with
 | nil=>simp at hj
 | cons t l ih=>
   cases l with
   | nil=>
     have:j=0:=by simp at hj;omega
     subst this
     exact ⟨h.1,(fun h=>by simp at h),fun _=>h.2⟩
   | cons u l=>
     cases j with
     | zero=>exact ⟨h.1,fun _=>⟨h.2.1,h.2.2.1⟩,fun h=>by simp at h⟩
     | succ j=>
       have:=ih h.2.2.2 j (by simpa using hj)
       exact ⟨this.1,fun h=>this.2.1 (by simpa using h),fun h=>this.2.2 (by simpa using h)⟩
variable (hall:TksOk all) (hlen:all.length≤40001)
theorem RSt.idx {σ:Sg} {q:RS} (h:RSt all σ q):q.1=all ∧ ∃j:Nat,q.2.1=j∧j<all.length:=by
 cases σ with
 | good ts=>obtain ⟨h1,h2,j,h3,h4,h5⟩:=h;exact ⟨h1,j,h3,h4⟩
 | bad e=>obtain ⟨h1,h2,h3,j,h4,h5⟩:=h;exact ⟨h1,j,h4,h5⟩
include hall
theorem He {σ:Sg} {q:RS} (h:RSt all σ q):∃t,JL q.1 q.2.1 q.2.2.1=some (t,q)∧nV t ∧ ∀ts,σ=.good ts→t=Jy ts:=by
 obtain ⟨h1,j,h2,h3⟩:=h.idx
 refine ⟨all[j],?_,(G7 hall j h3).1,fun ts e=>?_⟩
 ·unfold JL JL.c1
  rw [h1,h2,HD h3]
  exact congrArg some (Prod.ext rfl (by show (all,(j:Int),q.2.2.1,())=q;rw [←h1,←h2]))
 ·subst e
  obtain ⟨_,_,j',h4,h5,h6⟩:=h
  have:j'=j:=by rw [h2] at h4;omega
  subst this
  rw [←h6,List.drop_eq_getElem_cons h5]
  rfl
theorem VR {σ:Sg} {q:RS} (h:RSt all σ q) (w:Za):JJ w q.1 q.2.1 q.2.2.1=some (kb w σ,q):=by
 obtain ⟨t,e,_,ht⟩:=He hall h
 have:JJ.c1 w q.1 q.2.1 q.2.2.1 some=some (kb w σ,q.1,q.2.1,q.2.2.1):=by
  unfold JJ.c1
  cases σ with
  | good ts=>
    rw [JB (by rw [h.2.1];decide),e,je]
    have ht:=ht ts rfl
    subst ht
    rw [show kb w (.good ts)=(decide ((Jy ts).1=2)&&(Jy ts).2.1==w) from rfl]
    by_cases h2:(Jy ts).1=2
    ·rw [YV (by simpa using h2),e,je,zo h2,Bool.true_and]
    ·rw [Ys (by simpa using h2),zp h2,Bool.false_and]
  | bad e'=>rw [JV (by rw [h.2.1];have:=h.2.2.1;omega)];rfl
 unfold JJ
 rw [this,je]
include hlen
theorem cX {σ:Sg} {q:RS} (h:RSt all σ q):∃t q',Jh q.1 q.2.1 q.2.2.1=some (t,q')∧nV t ∧
 (match σ with | .good ts=>t=Jy ts∧((Jy ts).1≠0→(Jy ts).1≠4→RSt all (.good ts.tail) q') | .bad e=>q'=q):=by
 obtain ⟨t,e,hk,ht⟩:=He hall h
 obtain ⟨h1,j,h2,h3⟩:=h.idx
 unfold Jh
 rw [e,je]
 unfold Jh.cc_ Jh.c2
 dsimp only
 rw [h1,h2,JS (by omega)]
 cases σ with
 | good ts=>
   have ht:=ht ts rfl
   subst ht
   by_cases hj:j+1<all.length
   ·rw [JB (by omega),je,YV (by rw [h.2.1];rfl),JS (by omega),je]
    refine ⟨Jy ts,_,rfl,hk,rfl,fun _ _=>⟨rfl,h.2.1,j+1,by simp,hj,?_⟩⟩
    obtain ⟨_,_,j',h4,h5,h6⟩:=h
    have:j'=j:=by rw [h2] at h4;omega
    subst this
    rw [←h6,List.tail_drop]
   ·rw [JV (by omega),je,JA,je]
    refine ⟨Jy ts,_,rfl,hk,rfl,fun g0 g4=>?_⟩
    obtain ⟨_,_,j',h4,h5,h6⟩:=h
    have:j'=j:=by rw [h2] at h4;omega
    subst this
    have hl:=(G7 hall j' h5).2.2 (by omega)
    have hd:Jy ts=all[j']:=by rw [←h6,List.drop_eq_getElem_cons h5];rfl
    rw [hd] at g0 g4
    omega
 | bad e'=>
   have hf:decide (q.2.2.1<0)=false:=zp (by rw [h.2.1];have:=h.2.2.1;omega)
   refine ⟨t,q,?_,hk,rfl⟩
   have:br (decide ((j:Int)<(all.length:Int)-1)) (some (decide (q.2.2.1<0))) (some false)=some false:=by rw [hf];cases decide ((j:Int)<(all.length:Int)-1)<;>rfl
   rw [this,je,JA,je,←h1,←h2]
theorem Vh {ts:List Tk} {q:RS} (h:RSt all (.good ts) q) (h0:(Jy ts).1≠0) (h4:(Jy ts).1≠4):∃q',Jh q.1 q.2.1 q.2.2.1=some (Jy ts,q')∧RSt all (.good ts.tail) q':=by
 obtain ⟨t,q',e,_,ht,h'⟩:=cX hall hlen h
 subst ht
 exact ⟨q',e,h' h0 h4⟩
theorem BD {σ:Sg} {q:RS} (h:RSt all σ q):∃q',VA q.1 q.2.1 q.2.2.1=some q'∧RSt all (match σ with | .good ts=>.bad (Jy ts).2.2 | .bad e=>.bad e) q':=by
 obtain ⟨t,e,hk,ht⟩:=He hall h
 unfold VA
 cases σ with
 | good ts=>
   rw [JB (by rw [h.2.1];decide),e,je]
   have ht:=ht ts rfl
   subst ht
   obtain ⟨h1,j,h2,h3⟩:=h.idx
   exact ⟨_,rfl,h1,rfl,hk.2.2.1,j,h2,h3⟩
 | bad e'=>
   rw [JV (by rw [h.2.1];have:=h.2.2.1;omega)]
   exact ⟨q,rfl,h⟩
theorem aO {σ:Sg} {q:RS} (h:RSt all σ q):VV all (kn q.1 q.2.1 q.2.2.1) (Lf Vl σ):=by
 obtain ⟨t,e,hk,ht⟩:=He hall h
 unfold kn
 rw [e,je]
 unfold kn.cc_
 dsimp only
 by_cases h1:t.1=1
 ·rw [Ys (by simpa using h1),je]
  dsimp only
  cases σ with
  | good ts=>
    have ht:=ht ts rfl
    subst ht
    obtain ⟨q',e',h'⟩:=Vh hall hlen h (by omega) (by omega)
    rw [e',je]
    rw [show Lf Vl (.good ts)=.ok (Jy ts) ts.tail from if_pos h1]
    exact ⟨q',rfl,h'⟩
  | bad e1=>
    obtain ⟨t',q',e',_,h'⟩:=cX hall hlen h
    dsimp only at h'
    subst h'
    rw [e',je]
    exact ⟨t',q',rfl,h⟩
 ·rw [YV (by simpa using h1)]
  obtain ⟨q1,e1,h'⟩:=BD hall hlen h
  rw [e1,je,je]
  cases σ with
  | good ts=>
    have ht:=ht ts rfl
    subst ht
    obtain ⟨t',q',e',_,h2⟩:=cX hall hlen h'
    dsimp only at h2
    subst h2
    dsimp only
    rw [e',je]
    simp only [Lf,Vl,h1,if_false]
    exact ⟨t',q',rfl,h'⟩
  | bad e2=>
    obtain ⟨t',q',e',_,h2⟩:=cX hall hlen h'
    dsimp only at h2
    subst h2
    dsimp only
    rw [e',je]
    exact ⟨t',q',rfl,h'⟩
theorem YQ {σ:Sg} {q:RS} (h:RSt all σ q) (w:Za):VV all (JO w q.1 q.2.1 q.2.2.1) (Lf (JN w) σ):=by
 obtain ⟨t,e,hk,ht⟩:=He hall h
 unfold JO
 rw [e,je,VR hall h w,je]
 dsimp only
 cases hs:kb w σ with
 | true=>
   obtain ⟨ts,rfl,hs'⟩:=Ud hs
   have hso:=kM hs'
   obtain ⟨q',e',h'⟩:=Vh hall hlen h (by omega) (by omega)
   rw [Bool.not_true,JA,e',je]
   simp only [Lf,JN,hs',if_true]
   exact ⟨q',rfl,h'⟩
 | false=>
   obtain ⟨q1,e1,h'⟩:=BD hall hlen h
   rw [Bool.not_false,JD,e1,je]
   cases σ with
   | good ts=>
     have ht:=ht ts rfl
     subst ht
     simp only [Lf,JN,show Ja w ts=false from hs,zi,if_false]
     exact ⟨_,q1,rfl,h'⟩
   | bad e2=>exact ⟨_,q1,rfl,h'⟩
omit hall hlen
theorem mF (w:Za):kA w=some (YT w):=by
 have e2:kA.c3 w some=some (w==[43]||w==[45]):=by simp only [kA.c3,mG]
 have e3:kA.c5 w some=some (w==[42]||(w==[47]||w==[37])):=by simp only [kA.c5,mG]
 have b1 : bs "==" = [61,61] := by decide
 have b2 : bs "!=" = [33,61] := by decide
 have b3 : bs "<" = [60] := by decide
 have b4 : bs "<=" = [60,61] := by decide
 have b5 : bs ">" = [62] := by decide
 have b6 : bs ">=" = [62,61] := by decide
 have b7 : bs "+" = [43] := by decide
 have b8 : bs "-" = [45] := by decide
 have b9 : bs "*" = [42] := by decide
 have b10 : bs "/" = [47] := by decide
 have b11 : bs "%" = [37] := by decide
 have b12 : bs "**" = [42,42] := by decide
 unfold kA YT
 rw [mW _ _ (by simp),je,b1,b2,b3,b4,b5,b6,b7,b8,b9,b10,b11,b12]
 simp only [e2,e3,je,MP,yB,yC,Bool.or_false,Bool.or_eq_true,beq_iff_eq]
 split
 ·rfl
 ·split
  ·rfl
  ·split
   ·rfl
   ·split<;>rfl
theorem PP {l:Za} (h2:l.length≤9) (h3:∀c∈l,Yn c=true) (hb:aA l<1000000000) (hb0:0≤aA l):∃z,JU l=some z∧kC z=some (aA l,true):=by
 have hd:Hj l:=fun c hc=>h3 c hc
 obtain ⟨w,t1,t2,t3,t4⟩:=A4 l hd (by omega)
 obtain ⟨z,u1,u2,u3⟩:=eR false w.2 t2 (by omega)
 refine ⟨z,?_,?_⟩
 ·unfold W.JU
  have e1:W.JU.c1 l Option.some=some false:=by
   unfold W.JU.c1
   cases l with
   | nil=>rfl
   | cons c r=>
     rw [JB (by simp only [zg];omega)]
     have hc:=h3 c (by simp)
     have hc2:48≤c.toNat:=by unfold Yn at hc;simp at hc;exact hc.1
     show some ((c.toNat:Int)==45)=some false
     rw [show ((c.toNat:Int)==45)=false from by simp;omega]
  have e2:W.JU.cc_ l false Option.some=some l:=by unfold W.JU.cc_;rw [JA]
  rw [e1,je,e2,je,t1,je,u1]
  rfl
 ·rw [t4] at u2
  have hr:Rep 10000 z (dec l):=by simpa using u2
  rw [ID hr (by omega)]
  have hdl:dec l=aA l:=rfl
  unfold DZ
  rw [hdl,if_pos (by omega)]
end
end W
end

section
set_option maxRecDepth 4000
namespace W
open Go Go.Ql
abbrev CR:=Int×Int×Za×Int×List Nd×List Tk×Int×Int
def UL (a:Nd) (q:RS):CR:=(a.hQ.1,a.hQ.2.1,a.hQ.2.2.1,a.hQ.2.2.2,a.kQ,q.1,q.2.1,q.2.2.1)
theorem Uf (k t:Int) (s:Za) (n:Int) (l:List Nd):YA k t s n l=some (VC k t s n l):=rfl
def Hyp (all:List Tk) (F:RS→Option (Nd×RS)) (s:List Tk→Rd Nd):Prop:=∀σ q,RSt all σ q→VV all (F q) (Lf s σ)
def d5 (all:List Tk) (F:RS→Option (Nd×RS)) (s:List Tk→Rd Nd):Prop:=∀ts q,RSt all (.good ts) q→VV all (F q) (s ts)
theorem Hyp.good {all:List Tk} {F:RS→Option (Nd×RS)} {s:List Tk→Rd Nd} (h:Hyp all F s):d5 all F s:=fun ts q hq=>h (.good ts) q hq
theorem Hyp.zero {all:List Tk} {F:RS→Option (Nd×RS)} {s:List Tk→Rd Nd} (hs:∀ts,s ts=.out) (hb:∀e q,RSt all (.bad e) q→VV all (F q) (.err e)):Hyp all F s:=fun σ q hq=>by
 cases σ with
 | good ts=>show VV all _ (s ts);rw [hs];trivial
 | bad e=>exact hb e q hq
section
variable {all:List Tk} (hall:TksOk all) (hlen:all.length≤40001)
include hall hlen
theorem K5 {n m:Nat} (hE:d5 all (fun q=>(Yk.fuel m).F_R_rp_expr_b (1,q)) (Yf n 1)) {σ:Sg} {q:RS} (h:RSt all σ q) :
 RunE all UL (jc (JO [40] q.1 q.2.1 q.2.2.1) fun y_12=>
  jc (@jM.cy_ (Yk.fuel m) _ 0 0 [] 0 [] y_12.2.1 y_12.2.2.1 y_12.2.2.2.1 some) fun y_13=>
  jc (JO [41] y_13.2.2.2.2.2.1 y_13.2.2.2.2.2.2.1 y_13.2.2.2.2.2.2.2) fun y_14=>
  some (y_13.1,y_13.2.1,y_13.2.2.1,y_13.2.2.2.1,y_13.2.2.2.2.1,y_14.2.1,y_14.2.2.1,y_14.2.2.2.1))
  (Lf (fun ts=>(JN [40] ts).bind fun _ us=>(Yf n 1 us).bind fun a us=>(JN [41] us).bind fun _ us=>.ok a us) σ):=by
 rw [kt]
 refine RunE.bind (YQ hall hlen h [40]) (fun t σ q h _=>?_)
 rw [kt]
 refine RunE.bind (I:=UL) ?_ (fun a σ q h _=>?_)
 ·unfold jM.cy_
  cases σ with
  | good ts=>
    rw [JB (by show q.2.2.1<0;rw [h.2.1];decide)]
    have hr:=hE ts q h
    show RunE all UL _ (Yf n 1 ts)
    revert hr
    cases Yf n 1 ts with
    | ok a us=>rintro ⟨q',e,h'⟩;exact ⟨q',jf e rfl,h'⟩
    | err c=>rintro ⟨a,q',e,h'⟩;exact ⟨a,q',jf e rfl,h'⟩
    | out=>exact id
  | bad e=>
    rw [JV (by show ¬q.2.2.1<0;rw [h.2.1];have:=h.2.2.1;omega)]
    exact ⟨.mk (0,0,[],0) [],q,rfl,h⟩
 ·rw [kt]
  refine RunE.bind (YQ hall hlen h [41]) (fun t σ q h _=>?_)
  exact RunE.ok (I:=UL) h
theorem zN {n m:Nat} (hE:d5 all (fun q=>(Yk.fuel m).F_R_rp_expr_b (1,q)) (Yf n 1)) {σ:Sg} {q:RS} (h:RSt all σ q) {t:Tk} (hk:nV t) (ht:∀ts,σ=.good ts→t=Jy ts) :
 RunE all UL (@jM.cZ_ (Yk.fuel m) _ t.1 t.2.1 t.2.2 0 0 [] 0 [] q.1 q.2.1 q.2.2.1 some) (Lf (d4 (n+1)) σ):=by
 unfold jM.cZ_
 simp only [jK]
 by_cases h3:t.1=3
 ·rw [YV (by simpa using h3)]
  obtain ⟨d1,d2,d3⟩:=hk.2.2.2 h3
  obtain ⟨_,n0,n1⟩:=xH d1 d2 d3
  obtain ⟨z,z1,z2⟩:=PP d2 d3 n1 n0
  cases σ with
  | good ts=>
    have ht:=ht ts rfl
    subst ht
    obtain ⟨q',e,h'⟩:=Vh hall hlen h (by omega) (by omega)
    rw [e,je,z1,je,z2,je]
    show RunE all UL _ (d4 (n+1) ts)
    rw [d4,if_pos h3]
    exact ⟨q',rfl,h'⟩
  | bad e'=>
    obtain ⟨t',q',e,_,h'⟩:=cX hall hlen h
    dsimp only at h'
    subst h'
    rw [e,je,z1,je,z2,je]
    exact ⟨_,q',rfl,h⟩
 ·rw [Ys (by simpa using h3)]
  by_cases h1:t.1=1
  ·rw [YV (by simpa using h1)]
   cases σ with
   | good ts=>
     have ht:=ht ts rfl
     subst ht
     obtain ⟨q',e,h'⟩:=Vh hall hlen h (by omega) (by omega)
     rw [e,je]
     show RunE all UL _ (d4 (n+1) ts)
     rw [d4,if_neg h3,if_pos h1]
     exact ⟨q',rfl,h'⟩
   | bad e'=>
     obtain ⟨t',q',e,_,h'⟩:=cX hall hlen h
     dsimp only at h'
     subst h'
     rw [e,je]
     exact ⟨VC 21 t.2.2 t.2.1 0 [],q',rfl,h⟩
  ·rw [Ys (by simpa using h1),VR hall h,je]
   dsimp only
   have hs:Lf (d4 (n+1)) σ=if kb [115,105,122,101] σ=true then Lf (fun ts=>(JN [40] ts.tail).bind fun _ us=>(Vl us).bind fun w us=>(JN [41] us).bind fun _ us=>.ok (VC 22 t.2.2 w.2.1 0 []) us) σ
    else Lf (fun ts=>(JN [40] ts).bind fun _ us=>(Yf n 1 us).bind fun a us=>(JN [41] us).bind fun _ us=>.ok a us) σ:=by
    cases σ with
    | good ts=>
      have ht:=ht ts rfl
      subst ht
      show d4 (n+1) ts=_
      rw [d4,if_neg h3,if_neg h1]
      simp only [dA]
      rfl
    | bad e=>simp [Lf,kb]
   rw [hs]
   cases hs1:kb [115,105,122,101] σ with
   | true=>
     obtain ⟨ts,rfl,hs2⟩:=Ud hs1
     have hso:=kM hs2
     obtain ⟨q',e,h'⟩:=Vh hall hlen h (by omega) (by omega)
     rw [JD,e,je,if_pos rfl,OG (A:=fun ts=>(JN [40] ts).bind fun _ us=>(Vl us).bind fun w us=>(JN [41] us).bind fun _ us=>.ok (VC 22 t.2.2 w.2.1 0 []) us),kt]
     refine RunE.bind (YQ hall hlen h' [40]) (fun x σ q h _=>?_)
     rw [kt]
     refine RunE.bind (aO hall hlen h) (fun w σ q h _=>?_)
     rw [kt]
     refine RunE.bind (YQ hall hlen h [41]) (fun x σ q h _=>?_)
     exact RunE.ok (I:=UL) (a:=VC 22 t.2.2 w.2.1 0 []) h
   | false=>
     rw [JA,if_neg (by simp)]
     exact K5 hall hlen hE h
theorem pA {n m:Nat} (hE:d5 all (fun q=>(Yk.fuel m).F_R_rp_expr_b (1,q)) (Yf (n-1) 1)) (hS:d5 all (Yk.fuel m).F_R_rp_signed_b (aL n)) :
 Hyp all (Yk.fuel (m+1)).F_R_rp_signed_b (aL (n+1)):=by
 intro σ q h
 show VV all (@jM (Yk.fuel m) q.1 q.2.1 q.2.2.1) _
 obtain ⟨t,e,hk,ht⟩:=He hall h
 unfold jM
 rw [e,je]
 dsimp only
 rw [VR hall h,je]
 dsimp only
 have hs:Lf (aL (n+1)) σ=if kb [45] σ=true then Lf (fun ts=>(aL n ts.tail).bind fun a us=>.ok (Yh 23 t.2.2 [a]) us) σ
  else Lf (fun ts=>(d4 n ts).bind fun a us=>if Ja [42,42] us=true then (aL n us.tail).bind fun b vs=>.ok (Hf (Jy us) a b) vs else .ok a us) σ:=by
  cases σ with
  | good ts=>
    have ht:=ht ts rfl
    subst ht
    show aL (n+1) ts=_
    rw [aL]
    simp only [dA]
    rfl
  | bad e=>simp [Lf,kb]
 rw [hs]
 cases hs1:kb [45] σ with
 | true=>
   obtain ⟨ts,rfl,hs2⟩:=Ud hs1
   have hso:=kM hs2
   obtain ⟨q',e,h'⟩:=Vh hall hlen h (by omega) (by omega)
   rw [JD,e,je,if_pos rfl]
   simp only [jM.c4,Vv]
   refine RunE.bind (hS ts.tail q' h') (fun a σ q h _=>?_)
   simp only [Uf,je,JG]
   exact RunE.ok (I:=Prod.mk) h
 | false=>
   rw [JA,if_neg (by simp),kt]
   refine RunE.bind (I:=UL) ?_ (fun a σ q h _=>?_)
   ·cases n with
    | zero=>
      cases σ with
      | good ts=>trivial
      | bad e'=>
        have:=zN hall hlen hE h hk ht
        exact this
    | succ n=>exact zN hall hlen hE h hk ht
   ·simp only [UL,JG,jM.cag_,jK,VR hall h,je]
    rw [pI]
    cases hs2:kb [42,42] σ with
    | true=>
      obtain ⟨ts,rfl,hs3⟩:=Ud hs2
      have hso:=kM hs3
      obtain ⟨q',e,h'⟩:=Vh hall hlen h (by omega) (by omega)
      simp only [JD,e,je,if_true,jM.c25,Vv]
      refine RunE.bind (hS ts.tail q' h') (fun b σ q h _=>?_)
      simp only [Uf,je,JG]
      exact RunE.ok (I:=Prod.mk) h
    | false=>
      simp only [JA,je,zi,if_false,JG]
      exact RunE.ok (I:=Prod.mk) h
theorem MR {σ:Sg} {q:RS} (h:RSt all σ q) (lvl:Int):jW.c4 lvl q.1 q.2.1 q.2.2.1 some =
 some ((match σ with | .good ts=>decide ((Jy ts).1=2∧YT (Jy ts).2.1=lvl) | .bad _=>false),q.1,q.2.1,q.2.2.1):=by
 obtain ⟨t,e,hk,ht⟩:=He hall h
 unfold jW.c4
 cases σ with
 | good ts=>
   have ht:=ht ts rfl
   subst ht
   rw [JB (by rw [h.2.1];decide),e,je]
   by_cases h2:(Jy ts).1=2
   ·rw [YV (by simpa using h2),e,je,mF,je]
    simp only [h2,true_and]
    rw [show (YT (Jy ts).2.1==lvl)=decide (YT (Jy ts).2.1=lvl) from by rw [Bool.eq_iff_iff];simp]
   ·rw [Ys (by simpa using h2)]
    simp [h2]
 | bad e'=>rw [JV (by rw [h.2.1];have:=h.2.2.1;omega)]
omit hall hlen in
theorem DM {f:CR→Option (CR⊕CR)} {a:Nd} {e:Int} {q:RS} (h:RSt all (.bad e) q) (hf:f (UL a q)=some (.inr (UL a q))):RunE all UL (iter f (UL a q)) (.err e):=⟨a,q,kD hf,h⟩
omit hall hlen in
theorem R7 {k lvl:Nat} {a:Nd} {ts:List Tk}:Hb (k+1) lvl a ts=if (Jy ts).1=2∧YT (Jy ts).2.1=(lvl:Int) then (Yf k (lvl+1) ts.tail).bind fun b us=>if lvl=1 then .ok (Hf (Jy ts) a b) us else Hb k lvl (Hf (Jy ts) a b) us else .ok a ts:=by rw [Hb]
theorem Q0 {n m lvl:Nat} (hl:1≤lvl∧lvl≤3) (hP:∀k,k≤n→d5 all (fun q=>(Yk.fuel m).F_R_rp_expr_b ((lvl:Int)+1,q)) (Yf k (lvl+1))) :
 ∀k,k≤n+1 → ∀(a:Nd) σ q,RSt all σ q→RunE all UL (iter (fun s:CR=>@jW.ce_ (Yk.fuel m) _ (lvl:Int) s.1 s.2.1 s.2.2.1 s.2.2.2.1 s.2.2.2.2.1 s.2.2.2.2.2.1 s.2.2.2.2.2.2.1 s.2.2.2.2.2.2.2 some) (UL a q)) (Lf (Hb k lvl a) σ):=by
 have hbad:∀(a:Nd) e q,RSt all (.bad e) q→RunE all UL (iter (fun s:CR=>@jW.ce_ (Yk.fuel m) _ (lvl:Int) s.1 s.2.1 s.2.2.1 s.2.2.2.1 s.2.2.2.2.1 s.2.2.2.2.2.1 s.2.2.2.2.2.2.1 s.2.2.2.2.2.2.2 some) (UL a q)) (.err e):=by
  intro a e q h
  refine DM h ?_
  show @jW.ce_ (Yk.fuel m) _ (lvl:Int) a.hQ.1 a.hQ.2.1 a.hQ.2.2.1 a.hQ.2.2.2 a.kQ q.1 q.2.1 q.2.2.1 some=_
  unfold jW.ce_
  rw [MR hall hlen h,je]
  rfl
 intro k
 induction k with
 | zero=>
   intro hk a σ q h
   cases σ with
   | good ts=>trivial
   | bad e=>exact hbad a e q h
 | succ k ih=>
   intro hk a σ q h
   cases σ with
   | bad e=>exact hbad a e q h
   | good ts=>
     show RunE all UL _ (Hb (k+1) lvl a ts)
     rw [R7]
     have hc:=MR hall hlen h (lvl:Int)
     dsimp only at hc
     by_cases hs:(Jy ts).1=2∧YT (Jy ts).2.1=(lvl:Int)
     ·rw [if_pos hs]
      obtain ⟨q',e,h'⟩:=Vh hall hlen h (by omega) (by omega)
      have hb:=hP k (by omega) ts.tail q' h'
      have hw:IntKind.i64.wrap ((lvl:Int)+1)=(lvl:Int)+1:=JS (by omega)
      have e6:∀(b:Nd) q2,(Yk.fuel m).F_R_rp_expr_b ((lvl:Int)+1,q')=some (b,q2) →
       @jW.ce_ (Yk.fuel m) _ (lvl:Int) a.hQ.1 a.hQ.2.1 a.hQ.2.2.1 a.hQ.2.2.2 a.kQ q.1 q.2.1 q.2.2.1 some =
        br ((lvl:Int)==1) (some (.inr (UL (Hf (Jy ts) a b) q2))) (some (.inl (UL (Hf (Jy ts) a b) q2))):=by
       intro b q2 hb
       have e6:@jW.c6 (Yk.fuel m) _ (lvl:Int) a.hQ.1 a.hQ.2.1 a.hQ.2.2.1 a.hQ.2.2.2 a.kQ (Jy ts).2.1 (Jy ts).2.2 q'.1 q'.2.1 q'.2.2.1 some=some (UL (Hf (Jy ts) a b) q2):=by
        unfold jW.c6
        rw [hw]
        refine jf hb ?_
        simp only [Uf,je,JG]
        rfl
       unfold jW.ce_
       rw [hc,je]
       simp only [hs,and_self,decide_true,JD,e,je,e6]
      cases hx:Yf k (lvl+1) ts.tail with
      | out=>trivial
      | ok b us=>
        rw [hx] at hb
        obtain ⟨q2,eq,hq⟩:=hb
        have e7:=e6 b q2 eq
        simp only [Rd.bind]
        by_cases h1:lvl=1
        ·rw [YV (by simp [h1])] at e7
         rw [if_pos h1]
         exact ⟨q2,kD e7,hq⟩
        ·rw [Ys (by simp;omega)] at e7
         rw [if_neg h1]
         have:=ih (by omega) (Hf (Jy ts) a b) (.good us) q2 hq
         revert this
         show RunE all UL _ (Hb k lvl (Hf (Jy ts) a b) us)→_
         cases Hb k lvl (Hf (Jy ts) a b) us with
         | ok c vs=>rintro ⟨p3,e3,h3⟩;exact ⟨p3,kr e7 e3,h3⟩
         | err c=>rintro ⟨a3,p3,e3,h3⟩;exact ⟨a3,p3,kr e7 e3,h3⟩
         | out=>exact id
      | err c=>
        rw [hx] at hb
        obtain ⟨b,q2,eq,hq⟩:=hb
        have e7:=e6 b q2 eq
        simp only [Rd.bind]
        by_cases h1:lvl=1
        ·rw [YV (by simp [h1])] at e7
         exact ⟨_,q2,kD e7,hq⟩
        ·rw [Ys (by simp;omega)] at e7
         obtain ⟨a3,q3,e3,h3⟩:=ih (by omega) (Hf (Jy ts) a b) (.bad c) q2 hq
         exact ⟨a3,q3,kr e7 e3,h3⟩
     ·rw [if_neg hs]
      refine ⟨q,kD ?_,h⟩
      show @jW.ce_ (Yk.fuel m) _ (lvl:Int) a.hQ.1 a.hQ.2.1 a.hQ.2.2.1 a.hQ.2.2.2 a.kQ q.1 q.2.1 q.2.2.1 some=_
      unfold jW.ce_
      rw [hc,je]
      simp only [hs,decide_false,JA]
      rfl
omit hall hlen in
theorem SK {k lvl:Nat} {ts:List Tk} (hl:lvl≠4):Yf (k+1) lvl ts=(Yf k (lvl+1) ts).bind fun a us=>Hb k lvl a us:=by rw [Yf,if_neg hl]
theorem gJ {n m lvl:Nat} (hl:1≤lvl∧lvl≤3) (hH:Hyp all (fun q=>(Yk.fuel m).F_R_rp_expr_b ((lvl:Int)+1,q)) (Yf n (lvl+1)))
 (hP:∀k,k≤n→d5 all (fun q=>(Yk.fuel m).F_R_rp_expr_b ((lvl:Int)+1,q)) (Yf k (lvl+1))) :
 Hyp all (fun q=>(Yk.fuel (m+1)).F_R_rp_expr_b ((lvl:Int),q)) (Yf (n+1) lvl):=by
 intro σ q h
 show VV all (@jW (Yk.fuel m) (lvl:Int) q.1 q.2.1 q.2.2.1) _
 have hs:Lf (Yf (n+1) lvl) σ=Lf (fun ts=>(Yf n (lvl+1) ts).bind fun a us=>Hb n lvl a us) σ:=by
  cases σ with
  | good ts=>exact SK (by omega)
  | bad e=>rfl
 unfold jW
 rw [hs,Ys (by simp;omega),kt,JS (by omega)]
 refine RunE.bind (hH σ q h) (fun a σ q h _=>?_)
 have hc:=Q0 hall hlen hl hP n (by omega) a σ q h
 rw [sC]
 revert hc
 cases Lf (Hb n lvl a) σ with
 | ok b us=>rintro ⟨q2,e,hq⟩;refine ⟨q2,jf e ?_,hq⟩;simp only [UL,JG]
 | err c=>rintro ⟨b,q2,e,hq⟩;refine ⟨b,q2,jf e ?_,hq⟩;simp only [UL,JG]
 | out=>exact id
theorem q8' {n m:Nat} (hS:Hyp all (Yk.fuel m).F_R_rp_signed_b (aL n)):Hyp all (fun q=>(Yk.fuel (m+1)).F_R_rp_expr_b (4,q)) (Yf (n+1) 4):=by
 intro σ q h
 show VV all (@jW (Yk.fuel m) 4 q.1 q.2.1 q.2.2.1) _
 have hs:Lf (Yf (n+1) 4) σ=Lf (aL n) σ:=by
  cases σ with
  | good ts=>exact OE
  | bad e=>rfl
 unfold jW
 rw [hs,YV (by rfl)]
 have:=hS σ q h
 revert this
 cases Lf (aL n) σ with
 | ok b us=>rintro ⟨q2,e,hq⟩;refine ⟨q2,jf e ?_,hq⟩;simp only [JG]
 | err c=>rintro ⟨b,q2,e,hq⟩;refine ⟨b,q2,jf e ?_,hq⟩;simp only [JG]
 | out=>exact id
theorem BM {m:Nat} (hm:5≤m):(∀e q,RSt all (.bad e) q→VV all ((Yk.fuel m).F_R_rp_signed_b q) (.err e)) ∧
 ∀lvl:Nat,1≤lvl→lvl≤4 → ∀e q,RSt all (.bad e) q→VV all ((Yk.fuel m).F_R_rp_expr_b ((lvl:Int),q)) (.err e):=by
 have hS:∀m,Hyp all (Yk.fuel (m+1)).F_R_rp_signed_b (aL 1):=fun m=>pA hall hlen (n:=0) (fun ts q h=>trivial) (fun ts q h=>trivial)
 have hS0:∀m,Hyp all (Yk.fuel (m+1)).F_R_rp_signed_b (aL 0):=fun m=>Hyp.zero (fun _=>rfl) fun e q h=>hS m (.bad e) q h
 have h4:∀m,Hyp all (fun q=>(Yk.fuel (m+2)).F_R_rp_expr_b (4,q)) (Yf 1 4):=fun m=>q8' hall hlen (hS0 m)
 have h40:∀m,Hyp all (fun q=>(Yk.fuel (m+2)).F_R_rp_expr_b (((3:Nat):Int)+1,q)) (Yf 0 4):=fun m=>Hyp.zero (fun _=>rfl) fun e q h=>h4 m (.bad e) q h
 have h3:∀m,Hyp all (fun q=>(Yk.fuel (m+3)).F_R_rp_expr_b (((3:Nat):Int),q)) (Yf 1 3):=fun m=>gJ hall hlen (by omega) (h40 m) (fun k hk ts q h=>by
  obtain rfl:k=0:=by omega
  trivial)
 have h30:∀m,Hyp all (fun q=>(Yk.fuel (m+3)).F_R_rp_expr_b (((2:Nat):Int)+1,q)) (Yf 0 3):=fun m=>Hyp.zero (fun _=>rfl) fun e q h=>h3 m (.bad e) q h
 have h2:∀m,Hyp all (fun q=>(Yk.fuel (m+4)).F_R_rp_expr_b (((2:Nat):Int),q)) (Yf 1 2):=fun m=>gJ hall hlen (by omega) (h30 m) (fun k hk ts q h=>by
  obtain rfl:k=0:=by omega
  trivial)
 have h20:∀m,Hyp all (fun q=>(Yk.fuel (m+4)).F_R_rp_expr_b (((1:Nat):Int)+1,q)) (Yf 0 2):=fun m=>Hyp.zero (fun _=>rfl) fun e q h=>h2 m (.bad e) q h
 have h1:∀m,Hyp all (fun q=>(Yk.fuel (m+5)).F_R_rp_expr_b (((1:Nat):Int),q)) (Yf 1 1):=fun m=>gJ hall hlen (by omega) (h20 m) (fun k hk ts q h=>by
  obtain rfl:k=0:=by omega
  trivial)
 obtain ⟨m,rfl⟩:∃k,m=k+5:=⟨m-5,by omega⟩
 refine ⟨fun e q h=>hS (m+4) (.bad e) q h,fun lvl g1 g4 e q h=>?_⟩
 have:lvl=1∨lvl=2∨lvl=3∨lvl=4:=by omega
 rcases this with rfl | rfl | rfl | rfl
 ·exact h1 m (.bad e) q h
 ·exact h2 (m+1) (.bad e) q h
 ·exact h3 (m+2) (.bad e) q h
 ·exact h4 (m+3) (.bad e) q h
theorem LF:∀n m,n+5≤m→(∀lvl:Nat,1≤lvl→lvl≤4→Hyp all (fun q=>(Yk.fuel m).F_R_rp_expr_b ((lvl:Int),q)) (Yf n lvl))∧Hyp all (Yk.fuel m).F_R_rp_signed_b (aL n):=by
 intro n
 induction n using Nat.strongRecOn with
 | _ n ih=>
   intro m hm
   cases n with
   | zero=>exact ⟨fun lvl h1 h4=>Hyp.zero (fun _=>rfl) ((BM hall hlen (by omega)).2 lvl h1 h4),Hyp.zero (fun _=>rfl) (BM hall hlen (by omega)).1⟩
   | succ n=>
     obtain ⟨m,rfl⟩:∃m',m=m'+1:=⟨m-1,by omega⟩
     have hk:∀k,k≤n→_:=fun k hk=>ih k (by omega) m (by omega)
     refine ⟨fun lvl h1 h4=>?_,pA hall hlen ((hk (n-1) (by omega)).1 1 (by omega) (by omega)).good (hk n (zx _)).2.good⟩
     by_cases h:lvl=4
     ·subst h;exact q8' hall hlen (hk n (zx _)).2
     ·exact gJ hall hlen (by omega) ((hk n (zx _)).1 (lvl+1) (by omega) (by omega)) fun k hk'=>((hk k hk').1 (lvl+1) (by omega) (by omega)).good
theorem Nr {n:Nat} (hn:n≤900000) {σ:Sg} {q:RS} (h:RSt all σ q):VV all (YX (1,q)) (Lf (Yf n 1) σ):=(LF hall hlen n 1000000 (by omega)).1 1 (by omega) (by omega) σ q h
end
end W
end

section
set_option maxRecDepth 4000
namespace W
open Go Go.Ql
def VD {α:Type} (a:α) (q:RS):α×List Tk×Int×Int:=(a,q.1,q.2.1,q.2.2.1)
section
variable {all:List Tk} (hall:TksOk all) (hlen:all.length≤40001)
include hall hlen
theorem zU {n:Nat} (hn:n≤900000) (w:Tk) {σ:Sg} {q:RS} (h:RSt all σ q):VV all (Yt w q.1 q.2.1 q.2.2.1) (Lf (fM n w) σ):=by
 have hs:Lf (fM n w) σ=if kb [91] σ=true then Lf (fun ts=>(Yf n 1 ts.tail).bind fun a us=>if Ja [46,46] us=true then (Yf n 1 us.tail).bind fun b us=>(JN [93] us).bind fun _ us=>.ok (VC 19 w.2.2 w.2.1 2 [a,b]) us
  else (JN [93] us).bind fun _ us=>.ok (VC 19 w.2.2 w.2.1 1 [a]) us) σ else Lf (fun ts=>.ok (VC 19 w.2.2 w.2.1 0 []) ts) σ:=by
  cases σ with
  | good ts=>show fM n w ts=_;unfold fM;simp only [dA];rfl
  | bad e=>simp [Lf,kb]
 unfold Yt
 rw [hs,VR hall h,je]
 dsimp only
 cases hs1:kb [91] σ with
 | true=>
   obtain ⟨ts,rfl,hs2⟩:=Ud hs1
   have hso:=kM hs2
   obtain ⟨q',e,h'⟩:=Vh hall hlen h (by omega) (by omega)
   rw [Bool.not_true,JA,e,je,if_pos rfl]
   show VV all _ ((Yf n 1 ts.tail).bind _)
   refine RunE.bind (Nr hall hlen hn h') (fun a σ q h _=>?_)
   rw [pI]
   simp only [Yt.cR_,jK,VR hall h,je]
   cases hs3:kb [46,46] σ with
   | true=>
     obtain ⟨us,rfl,hs4⟩:=Ud hs3
     have hso:=kM hs4
     obtain ⟨q',e,h'⟩:=Vh hall hlen h (by omega) (by omega)
     simp only [JD,e,je,if_true,Vv]
     refine RunE.bind (Nr hall hlen hn h') (fun b σ q h _=>?_)
     rw [aB (l:=[a]) (by simp)]
     simp only [je]
     rw [kt]
     refine RunE.bind (YQ hall hlen h [93]) (fun x σ q h _=>?_)
     simp only [Uf,je,JG]
     exact RunE.ok (I:=Prod.mk) h
   | false=>
     simp only [JA,je,zi,if_false]
     rw [kt]
     refine RunE.bind (YQ hall hlen h [93]) (fun x σ q h _=>?_)
     simp only [Uf,je,JG]
     exact RunE.ok (I:=Prod.mk) h
 | false=>
   rw [Bool.not_false,JD,if_neg (by simp)]
   simp only [Uf,je,JG]
   exact RunE.ok (I:=Prod.mk) h
omit hall hlen in
theorem nB (r:Option (Nd×RS)) (s:Rd Nd) (hr:VV all r s):VV all (jc r fun y=>some (Rose.mk (y.1.hQ.1,y.1.hQ.2.1,y.1.hQ.2.2.1,y.1.hQ.2.2.2) y.1.kQ,y.2)) s:=by
 cases s with
 | ok a us=>obtain ⟨p,rfl,hp⟩:=hr;exact ⟨p,by simp only [je,JG],hp⟩
 | err e=>obtain ⟨a,p,rfl,hp⟩:=hr;exact ⟨a,p,by simp only [je,JG],hp⟩
 | out=>trivial
theorem eL {n:Nat} (hn:n≤900000) {σ:Sg} {q:RS} (h:RSt all σ q):VV all (Vi q.1 q.2.1 q.2.2.1) (Lf (UA n) σ):=by
 have hs:Lf (UA n) σ=Lf (fun ts=>(Vl ts).bind fun w us=>fM n w us) σ:=by cases σ<;>rfl
 unfold Vi
 rw [hs,kt]
 refine RunE.bind (aO hall hlen h) (fun w σ q h _=>?_)
 exact nB _ _ (zU hall hlen hn w h)
def pT (wires:Bool):List Tk→Rd Nd:=if wires then hG else fK
theorem RW (wires:Bool) (ts:List Tk):Lq (pT wires ts) ts.length:=by
 cases wires with
 | false=>exact DF
 | true=>exact DG
theorem DR {wires:Bool} {σ:Sg} {q:RS} (h:RSt all σ q) :
 RunE all (fun (a:Nd) (q:RS)=>(a,q)) (jc (kn q.1 q.2.1 q.2.2.1) fun y=>jc (Ju.cP_ wires 0 y.2.1 y.2.2.1 y.2.2.2.1 some) fun y_1=>jc (YA 6 y.1.2.2 y.1.2.1 y_1.1 []) fun y_2=>some (y_2,y_1.2.2.1,y_1.2.2.2.1,y_1.2.2.2.2,())) (Lf (pT wires) σ):=by
 cases wires with
 | false=>
   have hs:Lf (pT false) σ=Lf (fun ts=>(Vl ts).bind fun v us=>.ok (VC 6 v.2.2 v.2.1 0 []) us) σ:=by cases σ<;>rfl
   rw [hs,kt]
   refine RunE.bind (aO hall hlen h) (fun w σ q h _=>?_)
   simp only [Ju.cP_,Ju.c5,JA,je,Uf]
   exact RunE.ok (I:=fun (a:Nd) (q:RS)=>(a,q)) h
 | true=>
   have hs:Lf (pT true) σ=Lf (fun ts=>(Vl ts).bind fun v us=>if Ja [91] us=true then (JN [93] us.tail).bind fun _ us=>.ok (VC 6 v.2.2 v.2.1 1 []) us else .ok (VC 6 v.2.2 v.2.1 0 []) us) σ:=by
    cases σ with
    | good ts=>show hG ts=_;unfold hG;simp only [dA];rfl
    | bad e=>rfl
   rw [hs,kt]
   refine RunE.bind (aO hall hlen h) (fun w σ q h _=>?_)
   rw [pI]
   simp only [Ju.cP_,Ju.c5,JD,jK,VR hall h,je]
   cases hs3:kb [91] σ with
   | true=>
     obtain ⟨us,rfl,hs4⟩:=Ud hs3
     have hso:=kM hs4
     obtain ⟨q',e,h'⟩:=Vh hall hlen h (by omega) (by omega)
     simp only [JD,e,je,if_true,Vv]
     show RunE all _ _ ((JN [93] us.tail).bind _)
     refine RunE.bind (YQ hall hlen h' [93]) (fun x σ q h _=>?_)
     simp only [Uf,je]
     exact RunE.ok (I:=fun (a:Nd) (q:RS)=>(a,q)) h
   | false=>
     simp only [JA,je,zi,if_false,Uf]
     exact RunE.ok (I:=fun (a:Nd) (q:RS)=>(a,q)) h
abbrev QR:=List Nd×List Tk×Int×Int
def mE:Sg→List Nd→Prop
 | .good ts,l=>l.length+ts.length≤100000
 | .bad _,_=>True
theorem q9 {wires:Bool} (k:Nat) (hk:∀(l:List Nd) ts q,RSt all (.good ts) q→l.length+ts.length≤100000 →
 RunE all VD (iter (fun s:QR=>Ju.ca_ wires s.1 s.2.1 s.2.2.1 s.2.2.2 some) (VD l q)) (match k with | 0=>.out | k+1=>((pT wires ts).bind fun a us=>HJ (pT wires) k (l++[a]) us)))
 (l:List Nd) (σ:Sg) (q:RS) (h:RSt all σ q) (hl:mE σ l) :
 RunE all VD (iter (fun s:QR=>Ju.ca_ wires s.1 s.2.1 s.2.2.1 s.2.2.2 some) (VD l q)) (Lf (fun ts=>(pT wires ts).bind fun a us=>HJ (pT wires) k (l++[a]) us) σ):=by
 cases σ with
 | bad e=>
   refine ⟨l,q,kD ?_,h⟩
   show Ju.ca_ wires l q.1 q.2.1 q.2.2.1 some=_
   unfold Ju.ca_
   rw [JV (by rw [h.2.1];have:=h.2.2.1;omega)]
   rfl
 | good ts=>
   have hl:l.length+ts.length≤100000:=hl
   have hts:1≤ts.length:=by
    obtain ⟨_,_,j,_,h5,h6⟩:=h
    rw [←h6,zu];omega
   have ho:=DR hall hlen (wires:=wires) h
   have hlq:=RW hall hlen wires ts
   have body:∀a q1,(jc (kn q.1 q.2.1 q.2.2.1) fun y=>jc (Ju.cP_ wires 0 y.2.1 y.2.2.1 y.2.2.2.1 some) fun y_1=>jc (YA 6 y.1.2.2 y.1.2.1 y_1.1 []) fun y_2=>some (y_2,y_1.2.2.1,y_1.2.2.2.1,y_1.2.2.2.2,()))=some (a,q1) →
    Ju.ca_ wires l q.1 q.2.1 q.2.2.1 some=jc (JJ [44] q1.1 q1.2.1 q1.2.2.1) fun y_4=>br (!y_4.1) (some (.inr (l++[a],y_4.2.1,y_4.2.2.1,y_4.2.2.2.1))) (jc (Jh y_4.2.1 y_4.2.2.1 y_4.2.2.2.1) fun y_5=>some (.inl (l++[a],y_5.2.1,y_5.2.2.1,y_5.2.2.2.1))):=by
    intro a q1 e
    unfold Ju.ca_
    rw [JB (by rw [h.2.1];decide)]
    revert e
    cases kn q.1 q.2.1 q.2.2.1 with
    | none=>intro e;cases e
    | some y=>
      simp only [je]
      cases Ju.cP_ wires 0 y.2.1 y.2.2.1 y.2.2.2.1 some with
      | none=>intro e;cases e
      | some y1=>
        simp only [je,Uf]
        intro e
        injection e with e
        obtain ⟨rfl,rfl⟩:=Prod.mk.inj e
        rw [aB (l:=l) (by omega),je]
   show RunE all VD _ ((pT wires ts).bind fun a us=>HJ (pT wires) k (l++[a]) us)
   revert ho hlq
   show RunE all _ _ (pT wires ts)→_
   cases pT wires ts with
   | out=>intro _ _;trivial
   | err c=>
     rintro ⟨a,q1,e,h1⟩ _
     have eb:=body a q1 e
     rw [VR hall h1,je] at eb
     refine ⟨l++[a],q1,kD (eb.trans ?_),h1⟩
     rfl
   | ok a us=>
     rintro ⟨q1,e,h1⟩ hus
     have hus:us.length<ts.length:=hus
     have eb:=body a q1 e
     rw [VR hall h1,je] at eb
     dsimp only at eb
     simp only [Rd.bind]
     cases k with
     | zero=>trivial
     | succ k=>
       rw [y4]
       cases hs:Ja [44] us with
       | true=>
         have hso:=kM hs
         have htl:=Jc hs
         obtain ⟨q2,e2,h2⟩:=Vh hall hlen h1 (by omega) (by omega)
         rw [show kb [44] (.good us)=true from hs,Bool.not_true,JA,e2,je] at eb
         have:=hk (l++[a]) us.tail q2 h2 (by simp only [zf,Z4];omega)
         dsimp only at this
         rw [if_pos rfl]
         revert this
         cases ((pT wires us.tail).bind fun a_1 us=>HJ (pT wires) k (l++[a]++[a_1]) us) with
         | ok c vs=>rintro ⟨p3,e3,h3⟩;exact ⟨p3,kr eb e3,h3⟩
         | err c=>rintro ⟨b3,p3,e3,h3⟩;exact ⟨b3,p3,kr eb e3,h3⟩
         | out=>exact id
       | false=>
         rw [show kb [44] (.good us)=false from hs,Bool.not_false,JD] at eb
         rw [if_neg (by simp)]
         exact ⟨q1,kD eb,h1⟩
theorem zT {wires:Bool}:∀k (l:List Nd) σ q,RSt all σ q→mE σ l →
 RunE all VD (iter (fun s:QR=>Ju.ca_ wires s.1 s.2.1 s.2.2.1 s.2.2.2 some) (VD l q)) (Lf (fun ts=>(pT wires ts).bind fun a us=>HJ (pT wires) k (l++[a]) us) σ):=by
 intro k
 induction k with
 | zero=>exact fun l σ q h hl=>q9 hall hlen 0 (fun _ _ _ _ _=>trivial) l σ q h hl
 | succ k ih=>exact fun l σ q h hl=>q9 hall hlen (k+1) (fun l ts q h hl=>ih l (.good ts) q h hl) l σ q h hl
theorem tM {wires:Bool} {k:Nat} {σ:Sg} {q:RS} (h:RSt all σ q):VV all (Ju wires q.1 q.2.1 q.2.2.1) (Lf (UM (pT wires) k) σ):=by
 have hs:Lf (UM (pT wires) k) σ=Lf (fun ts=>(pT wires ts).bind fun a us=>HJ (pT wires) k ([]++[a]) us) σ:=by cases σ<;>rfl
 have hc:=zT hall hlen (wires:=wires) k [] σ q h (by
  cases σ with
  | good ts=>
    obtain ⟨_,_,j,_,h5,h6⟩:=h
    show [].length+ts.length≤100000
    rw [←h6,zu,zh];omega
  | bad e=>trivial)
 unfold Ju
 rw [hs]
 revert hc
 cases Lf (fun ts=>(pT wires ts).bind fun a us=>HJ (pT wires) k ([]++[a]) us) σ with
 | ok b us=>rintro ⟨q2,e,hq⟩;exact ⟨q2,jf e rfl,hq⟩
 | err c=>rintro ⟨b,q2,e,hq⟩;exact ⟨b,q2,jf e rfl,hq⟩
 | out=>exact id
end
end W
end

section
set_option maxRecDepth 4000
namespace W
open Go Go.Ql
abbrev TR:=Int×Za×Int×CR
def pG (t:Tk) (a:Nd) (q:RS):TR:=(t.1,t.2.1,t.2.2,UL a q)
def B7 (all:List Tk) (r:Option TR):Rd Nd→Prop
 | .ok a us=>∃t q,r=some (pG t a q)∧RSt all (.good us) q
 | .err e=>∃t a q,r=some (pG t a q)∧RSt all (.bad e) q
 | .out=>True
abbrev wordsR:List Za:=[[],[124],[94],[38]]
abbrev kindsR:List Int:=[0,29,30,28]
def tU (lvl:Nat):Za:=wordsR.getD lvl []
def mR (lvl:Nat):Int:=kindsR.getD lvl 0
theorem R8 {k lvl:Nat} (hl:1≤lvl∧lvl≤3) {a:Nd} {ts:List Tk}:UQ (k+1) lvl a ts=if Ja (tU lvl) ts then (Vn k (lvl+1) ts.tail).bind fun b us=>UQ k lvl (Yh (mR lvl) (Jy ts).2.2 [a,b]) us else .ok a ts:=by
 have:lvl=1∨lvl=2∨lvl=3:=by omega
 rcases this with rfl | rfl | rfl
 ·exact M8
 ·exact M9
 ·exact OA
theorem SE {n lvl:Nat} (hl:lvl≠4) {ts:List Tk}:Vn (n+1) lvl ts=(Vn n (lvl+1) ts).bind fun a us=>UQ n lvl a us:=by rw [Vn,if_neg hl]
theorem AJ {lvl:Nat} (hl:1≤lvl∧lvl≤3):idx wordsR (lvl:Int)=some (tU lvl):=by
 have:lvl=1∨lvl=2∨lvl=3:=by omega
 rcases this with rfl | rfl | rfl<;>rfl
theorem KR {lvl:Nat} (hl:1≤lvl∧lvl≤3):idx kindsR (lvl:Int)=some (mR lvl):=by
 have:lvl=1∨lvl=2∨lvl=3:=by omega
 rcases this with rfl | rfl | rfl<;>rfl
section
variable {all:List Tk} (hall:TksOk all) (hlen:all.length≤40001)
include hall hlen
theorem Q5 {n m lvl:Nat} (hl:1≤lvl∧lvl≤3) (hP:∀k,k≤n→d5 all (fun q=>(ju.fuel m).F ((lvl:Int)+1,q)) (Vn k (lvl+1))) :
 ∀k,k≤n+1 → ∀(t:Tk) (a:Nd) σ q,RSt all σ q→B7 all (iter (fun s:TR=>@ju.cf_ (ju.fuel m) _ (lvl:Int) wordsR kindsR s.1 s.2.1 s.2.2.1 s.2.2.2.1 s.2.2.2.2.1 s.2.2.2.2.2.1 s.2.2.2.2.2.2.1 s.2.2.2.2.2.2.2.1 s.2.2.2.2.2.2.2.2.1 s.2.2.2.2.2.2.2.2.2.1 s.2.2.2.2.2.2.2.2.2.2 some) (pG t a q)) (Lf (UQ k lvl a) σ):=by
 have stop:∀(t:Tk) (a:Nd) σ q,RSt all σ q→kb (tU lvl) σ=false→iter (fun s:TR=>@ju.cf_ (ju.fuel m) _ (lvl:Int) wordsR kindsR s.1 s.2.1 s.2.2.1 s.2.2.2.1 s.2.2.2.2.1 s.2.2.2.2.2.1 s.2.2.2.2.2.2.1 s.2.2.2.2.2.2.2.1 s.2.2.2.2.2.2.2.2.1 s.2.2.2.2.2.2.2.2.2.1 s.2.2.2.2.2.2.2.2.2.2 some) (pG t a q)=some (pG t a q):=by
  intro t a σ q h hs
  refine kD ?_
  show @ju.cf_ (ju.fuel m) _ (lvl:Int) wordsR kindsR t.1 t.2.1 t.2.2 a.hQ.1 a.hQ.2.1 a.hQ.2.2.1 a.hQ.2.2.2 a.kQ q.1 q.2.1 q.2.2.1 some=_
  unfold ju.cf_
  rw [AJ hl,je,VR hall h,je,hs]
  rfl
 intro k
 induction k with
 | zero=>
   intro hk t a σ q h
   cases σ with
   | good ts=>trivial
   | bad e=>exact ⟨t,a,q,stop t a _ q h rfl,h⟩
 | succ k ih=>
   intro hk t a σ q h
   cases σ with
   | bad e=>exact ⟨t,a,q,stop t a _ q h rfl,h⟩
   | good ts=>
     show B7 all _ (UQ (k+1) lvl a ts)
     rw [R8 hl]
     cases hs:Ja (tU lvl) ts with
     | true=>
       have hso:=kM hs
       obtain ⟨q',e,h'⟩:=Vh hall hlen h (by omega) (by omega)
       have hb:=hP k (by omega) ts.tail q' h'
       have hw:IntKind.i64.wrap ((lvl:Int)+1)=(lvl:Int)+1:=JS (by omega)
       have e7:∀(b:Nd) q2,(ju.fuel m).F ((lvl:Int)+1,q')=some (b,q2) →
        @ju.cf_ (ju.fuel m) _ (lvl:Int) wordsR kindsR t.1 t.2.1 t.2.2 a.hQ.1 a.hQ.2.1 a.hQ.2.2.1 a.hQ.2.2.2 a.kQ q.1 q.2.1 q.2.2.1 some=some (.inl (pG (Jy ts) (Yh (mR lvl) (Jy ts).2.2 [a,b]) q2)):=by
        intro b q2 hb
        have e8:@ju.c8 (ju.fuel m) _ (lvl:Int) kindsR (Jy ts).2.2 a.hQ.1 a.hQ.2.1 a.hQ.2.2.1 a.hQ.2.2.2 a.kQ q'.1 q'.2.1 q'.2.2.1 some=some (UL (Yh (mR lvl) (Jy ts).2.2 [a,b]) q2):=by
         unfold ju.c8
         rw [KR hl,je,hw]
         refine jf hb ?_
         simp only [Uf,je,JG]
         rfl
        unfold ju.cf_
        rw [AJ hl,je,VR hall h,je,show kb (tU lvl) (.good ts)=true from hs]
        dsimp only
        rw [JD,e,je]
        dsimp only
        rw [e8,je]
        rfl
       rw [if_pos rfl]
       cases hx:Vn k (lvl+1) ts.tail with
       | out=>trivial
       | ok b us=>
         rw [hx] at hb
         obtain ⟨q2,eq,hq⟩:=hb
         have:=ih (by omega) (Jy ts) (Yh (mR lvl) (Jy ts).2.2 [a,b]) (.good us) q2 hq
         simp only [Rd.bind]
         revert this
         show B7 all _ (UQ k lvl _ us)→_
         cases UQ k lvl (Yh (mR lvl) (Jy ts).2.2 [a,b]) us with
         | ok c vs=>rintro ⟨t3,p3,e3,h3⟩;exact ⟨t3,p3,kr (e7 b q2 eq) e3,h3⟩
         | err c=>rintro ⟨t3,a3,p3,e3,h3⟩;exact ⟨t3,a3,p3,kr (e7 b q2 eq) e3,h3⟩
         | out=>exact id
       | err c=>
         rw [hx] at hb
         obtain ⟨b,q2,eq,hq⟩:=hb
         obtain ⟨t3,a3,q3,e3,h3⟩:=ih (by omega) (Jy ts) (Yh (mR lvl) (Jy ts).2.2 [a,b]) (.bad c) q2 hq
         exact ⟨t3,a3,q3,kr (e7 b q2 eq) e3,h3⟩
     | false=>
       rw [if_neg (by simp)]
       exact ⟨t,q,stop t a _ q h hs,h⟩
theorem fB {n m lvl:Nat} (hl:1≤lvl∧lvl≤3) (hH:Hyp all (fun q=>(ju.fuel m).F ((lvl:Int)+1,q)) (Vn n (lvl+1)))
 (hP:∀k,k≤n→d5 all (fun q=>(ju.fuel m).F ((lvl:Int)+1,q)) (Vn k (lvl+1))) :
 Hyp all (fun q=>(ju.fuel (m+1)).F ((lvl:Int),q)) (Vn (n+1) lvl):=by
 intro σ q h
 show VV all (@ju (ju.fuel m) (lvl:Int) q.1 q.2.1 q.2.2.1) _
 have hs:Lf (Vn (n+1) lvl) σ=Lf (fun ts=>(Vn n (lvl+1) ts).bind fun a us=>UQ n lvl a us) σ:=by
  cases σ with
  | good ts=>exact SE (by omega)
  | bad e=>rfl
 obtain ⟨t,e,hk,ht⟩:=He hall h
 unfold ju
 rw [hs,e,je,JB (show (lvl:Int)<4 by omega),kt,JS (by omega)]
 refine RunE.bind (hH σ q h) (fun a σ q h _=>?_)
 have hc:=Q5 hall hlen hl hP n (by omega) t a σ q h
 rw [sC]
 revert hc
 cases Lf (UQ n lvl a) σ with
 | ok b us=>rintro ⟨t2,q2,e,hq⟩;refine ⟨q2,jf e ?_,hq⟩;simp only [pG,UL,JG]
 | err c=>rintro ⟨t2,b,q2,e,hq⟩;refine ⟨b,q2,jf e ?_,hq⟩;simp only [pG,UL,JG]
 | out=>exact id
theorem pB {n m:Nat} (hn:n≤900000) (h1:d5 all (fun q=>(ju.fuel m).F (1,q)) (Vn (n-1) 1)) (h4:d5 all (fun q=>(ju.fuel m).F (4,q)) (cH (n-1))) :
 Hyp all (fun q=>(ju.fuel (m+1)).F (4,q)) (cH n):=by
 intro σ q h
 show VV all (@ju (ju.fuel m) 4 q.1 q.2.1 q.2.2.1) _
 obtain ⟨t,e,hk,ht⟩:=He hall h
 unfold ju
 rw [e,je,JV (show ¬(4:Int)<4 by omega)]
 dsimp only
 have hz:∀ts,σ=.good ts→n=0→VV all (jc (JJ [33] q.1 q.2.1 q.2.2.1) fun y_3=>none) (cH n ts):=fun ts _ h0=>by subst h0;trivial
 have hs:(∃ts,σ=.good ts∧n=0)∨Lf (cH n) σ=if kb [33] σ=true then Lf (fun ts=>(cH (n-1) ts.tail).bind fun a us=>.ok (Yh 27 t.2.2 [a]) us) σ
  else if kb [40] σ=true then Lf (fun ts=>(Vn (n-1) 1 ts.tail).bind fun a us=>(JN [41] us).bind fun _ us=>.ok a us) σ
  else if t.1=3∧(t.2.1=[48]∨t.2.1=[49]) then Lf (fun ts=>.ok (VC 26 t.2.2 [] (if t.2.1=[48] then 0 else 1) []) ts.tail) σ else Lf (UA (n-1)) σ:=by
  cases σ with
  | good ts=>
    cases n with
    | zero=>exact .inl ⟨ts,rfl,rfl⟩
    | succ n=>
      have ht:=ht ts rfl
      subst ht
      refine .inr ?_
      show cH (n+1) ts=_
      rw [cH]
      simp only [dA, show bs "!" = [33] from by decide, show bs "0" = [48] from by decide, show bs "1" = [49] from by decide]
      rfl
  | bad e=>refine .inr ?_;simp [Lf,kb]
 rcases hs with ⟨ts,rfl,rfl⟩ | hs
 ·trivial
 rw [hs,VR hall h,je]
 dsimp only
 cases hs1:kb [33] σ with
 | true=>
   obtain ⟨ts,rfl,hs2⟩:=Ud hs1
   have hso:=kM hs2
   obtain ⟨q',e,h'⟩:=Vh hall hlen h (by omega) (by omega)
   rw [JD,e,je,if_pos rfl]
   simp only [ju.c12,Vv]
   refine RunE.bind (h4 ts.tail q' h') (fun a σ q h _=>?_)
   simp only [Uf,je,JG]
   exact RunE.ok (I:=Prod.mk) h
 | false=>
   rw [JA,if_neg (by simp),VR hall h,je]
   dsimp only
   cases hs2:kb [40] σ with
   | true=>
     obtain ⟨ts,rfl,hs3⟩:=Ud hs2
     have hso:=kM hs3
     obtain ⟨q',e,h'⟩:=Vh hall hlen h (by omega) (by omega)
     rw [JD,e,je,if_pos rfl]
     refine RunE.bind (h1 ts.tail q' h') (fun a σ q h _=>?_)
     rw [kt]
     refine RunE.bind (YQ hall hlen h [41]) (fun x σ q h _=>?_)
     simp only [JG]
     exact RunE.ok (I:=Prod.mk) h
   | false=>
     rw [JA,if_neg (by simp)]
     have e18:ju.c18 t.1 t.2.1 some=some (decide (t.1=3∧(t.2.1=[48]∨t.2.1=[49]))):=by
      unfold ju.c18
      by_cases h3:t.1=3
      ·rw [YV (by simpa using h3)]
       by_cases h0:t.2.1=[48]
       ·rw [YV (by rw [h0];rfl)];simp [h3,h0]
       ·rw [Ys (by simpa using h0)]
        simp only [h3,h0,true_and,false_or]
        exact congrArg some (by rw [Bool.eq_iff_iff];simp)
      ·rw [Ys (by simpa using h3)];simp [h3]
     rw [e18,je]
     by_cases hc:t.1=3∧(t.2.1=[48]∨t.2.1=[49])
     ·rw [zo hc,JD,if_pos hc]
      have e20:ju.c20 t.2.1 t.2.2 some=some (26,t.2.2,[],(if t.2.1=[48] then 0 else 1),[]):=by
       unfold ju.c20
       rcases hc.2 with h0 | h0<;>(rw [h0];rfl)
      cases σ with
      | good ts=>
        have ht:=ht ts rfl
        subst ht
        obtain ⟨q',e,h'⟩:=Vh hall hlen h (by omega) (by omega)
        rw [e,je,e20,je]
        exact ⟨q',rfl,h'⟩
      | bad e'=>
        obtain ⟨t',q',e,_,h'⟩:=cX hall hlen h
        dsimp only at h'
        subst h'
        rw [e,je,e20,je]
        exact ⟨_,q',rfl,h⟩
     ·rw [zp hc,JA,if_neg hc]
      exact nB _ _ (eL hall hlen (by omega) h)
theorem rtr4 {n m:Nat} (h:Hyp all (fun q=>(ju.fuel m).F (4,q)) (cH n)):Hyp all (fun q=>(ju.fuel m).F (4,q)) (Vn (n+1) 4):=by
 intro σ q hq
 have:=h σ q hq
 cases σ with
 | good ts=>show VV all _ (Vn (n+1) 4 ts);rw [OC];exact this
 | bad e=>exact this
theorem wN {m:Nat} (hm:4≤m):∀lvl:Nat,1≤lvl→lvl≤4 → ∀e q,RSt all (.bad e) q→VV all ((ju.fuel m).F ((lvl:Int),q)) (.err e):=by
 have h4:∀m,Hyp all (fun q=>(ju.fuel (m+1)).F (4,q)) (cH 0):=fun m=>pB hall hlen (by omega) (fun ts q h=>trivial) (fun ts q h=>trivial)
 have h40:∀m,Hyp all (fun q=>(ju.fuel (m+1)).F (((3:Nat):Int)+1,q)) (Vn 0 4):=fun m=>Hyp.zero (fun _=>rfl) fun e q h=>h4 m (.bad e) q h
 have h3:∀m,Hyp all (fun q=>(ju.fuel (m+2)).F (((3:Nat):Int),q)) (Vn 1 3):=fun m=>fB hall hlen (by omega) (h40 m) (fun k hk ts q h=>by
  obtain rfl:k=0:=by omega
  trivial)
 have h30:∀m,Hyp all (fun q=>(ju.fuel (m+2)).F (((2:Nat):Int)+1,q)) (Vn 0 3):=fun m=>Hyp.zero (fun _=>rfl) fun e q h=>h3 m (.bad e) q h
 have h2:∀m,Hyp all (fun q=>(ju.fuel (m+3)).F (((2:Nat):Int),q)) (Vn 1 2):=fun m=>fB hall hlen (by omega) (h30 m) (fun k hk ts q h=>by
  obtain rfl:k=0:=by omega
  trivial)
 have h20:∀m,Hyp all (fun q=>(ju.fuel (m+3)).F (((1:Nat):Int)+1,q)) (Vn 0 2):=fun m=>Hyp.zero (fun _=>rfl) fun e q h=>h2 m (.bad e) q h
 have h1:∀m,Hyp all (fun q=>(ju.fuel (m+4)).F (((1:Nat):Int),q)) (Vn 1 1):=fun m=>fB hall hlen (by omega) (h20 m) (fun k hk ts q h=>by
  obtain rfl:k=0:=by omega
  trivial)
 obtain ⟨m,rfl⟩:∃k,m=k+4:=⟨m-4,by omega⟩
 intro lvl g1 g4 e q h
 have:lvl=1∨lvl=2∨lvl=3∨lvl=4:=by omega
 rcases this with rfl | rfl | rfl | rfl
 ·exact h1 m (.bad e) q h
 ·exact h2 (m+1) (.bad e) q h
 ·exact h3 (m+2) (.bad e) q h
 ·exact h4 (m+3) (.bad e) q h
theorem DW:∀n m,n≤900000→n+4≤m→(∀lvl:Nat,1≤lvl→lvl≤4→Hyp all (fun q=>(ju.fuel m).F ((lvl:Int),q)) (Vn n lvl))∧Hyp all (fun q=>(ju.fuel m).F (4,q)) (cH n):=by
 intro n
 induction n using Nat.strongRecOn with
 | _ n ih=>
   intro m hn hm
   cases n with
   | zero=>
     refine ⟨fun lvl h1 h4=>Hyp.zero (fun _=>rfl) (wN hall hlen (by omega) lvl h1 h4),?_⟩
     exact Hyp.zero (fun _=>rfl) (wN hall hlen (by omega) 4 (by omega) (by omega))
   | succ n=>
     obtain ⟨m,rfl⟩:∃m',m=m'+1:=⟨m-1,by omega⟩
     have hk:∀k,k≤n→_:=fun k hk=>ih k (by omega) m (by omega) (by omega)
     have hno:=pB hall hlen (n:=n+1) (by omega) ((hk n (zx _)).1 1 (by omega) (by omega)).good (hk n (zx _)).2.good
     refine ⟨fun lvl h1 h4=>?_,hno⟩
     by_cases h:lvl=4
     ·subst h
      refine rtr4 hall hlen ?_
      exact (ih n (by omega) (m+1) (by omega) (by omega)).2
     ·exact fB hall hlen (by omega) ((hk n (zx _)).1 (lvl+1) (by omega) (by omega)) fun k hk'=>((hk k hk').1 (lvl+1) (by omega) (by omega)).good
theorem GV {n:Nat} (hn:n≤900000) {σ:Sg} {q:RS} (h:RSt all σ q):VV all (HW (1,q)) (Lf (Vn n 1) σ):=(DW hall hlen n 1000000 (by omega) (by omega)).1 1 (by omega) (by omega) σ q h
end
end W
end

section
set_option maxRecDepth 4000
namespace W
open Go Go.Ql
section
variable {all:List Tk} (hall:TksOk all) (hlen:all.length≤40001)
include hall hlen
omit hall hlen in
theorem mM {ts:List Tk} {q:RS} (h:RSt all (.good ts) q):1≤ts.length∧ts.length≤all.length:=by
 obtain ⟨_,_,j,_,h5,h6⟩:=h
 rw [←h6,zu];omega
theorem nA {one:List Tk→Rd Nd} {f:QR→Option (QR⊕QR)} (hq:∀ts,Lq (one ts) ts.length)
 (h1:∀l ts q,RSt all (.good ts) q→l.length≤100000→Ja [44] ts=true→RunE all (fun (a:Nd) q=>(Sum.inl (VD (l++[a]) q):QR⊕QR)) (f (VD l q)) (one ts.tail))
 (h2:∀l σ q,RSt all σ q→kb [44] σ=false→f (VD l q)=some (.inr (VD l q))) :
 ∀k l σ q,RSt all σ q→mE σ l→RunE all VD (iter f (VD l q)) (Lf (HJ one k l) σ)
 | 0,l,σ,q,h,hl=>by
   cases σ with
   | good ts=>trivial
   | bad e=>exact ⟨l,q,kD (h2 l _ q h rfl),h⟩
 | k+1,l,σ,q,h,hl=>by
   cases σ with
   | bad e=>exact ⟨l,q,kD (h2 l _ q h rfl),h⟩
   | good ts=>
     have hl':l.length+ts.length≤100000:=hl
     show RunE all VD _ (HJ one (k+1) l ts)
     rw [y4]
     cases hs:Ja [44] ts with
     | true=>
       have htl:=Jc hs
       have hlq:=hq ts.tail
       have ho:=h1 l ts q h (by omega) hs
       rw [if_pos rfl]
       cases hx:one ts.tail with
       | out=>trivial
       | ok a us=>
         rw [hx] at ho hlq
         obtain ⟨q2,e2,hq2⟩:=ho
         have hus:us.length<ts.tail.length:=hlq
         have:=nA hq h1 h2 k (l++[a]) (.good us) q2 hq2 (show (l++[a]).length+us.length≤100000 by simp only [zf,Z4];omega)
         simp only [Rd.bind]
         revert this
         show RunE all _ _ (HJ one k (l++[a]) us)→_
         cases HJ one k (l++[a]) us with
         | ok c vs=>rintro ⟨p3,e3,h3⟩;exact ⟨p3,kr e2 e3,h3⟩
         | err c=>rintro ⟨b3,p3,e3,h3⟩;exact ⟨b3,p3,kr e2 e3,h3⟩
         | out=>exact id
       | err c=>
         rw [hx] at ho
         obtain ⟨a,q2,e2,hq2⟩:=ho
         exact ⟨l++[a],q2,kr e2 (kD (h2 (l++[a]) _ q2 hq2 rfl)),hq2⟩
     | false=>
       rw [if_neg (by simp)]
       exact ⟨q,kD (h2 l _ q h hs),h⟩
theorem LA {n k:Nat} (hn:n≤900000) {σ:Sg} {q:RS} (h:RSt all σ q) :
 RunE all VD (Jn.cX_ [] q.1 q.2.1 q.2.2.1 some) (Lf (fun ts=>if Ja [40] ts=true then (UM (Yf n 1) k ts.tail).bind fun l us=>(JN [41] us).bind fun _ us=>.ok l us else .ok [] ts) σ):=by
 rw [pI]
 unfold Jn.cX_
 simp only [jK,VR hall h,je]
 cases hs:kb [40] σ with
 | true=>
   obtain ⟨ts,rfl,hs2⟩:=Ud hs
   have hso:=kM hs2
   obtain ⟨q',e,h'⟩:=Vh hall hlen h (by omega) (by omega)
   simp only [JD,e,je,if_true]
   show RunE all VD _ (((Yf n 1 ts.tail).bind fun a us=>HJ (Yf n 1) k [a] us).bind _)
   rw [NM]
   refine RunE.bind (Nr hall hlen hn h') (fun a σ q h hu=>?_)
   rw [show Je (decide ((List.length ([]:List (Rose (Int×(Int×(Za×Int)))))+(1:Nat))*(64:Nat)≤(140737488355328:Nat))&&decide (List.length ([]:List (Rose (Int×(Int×(Za×Int)))))+(1:Nat)≤(140737488355328:Nat)))=some () from g9 (by simp),je,kt]
   refine RunE.bind (I:=VD) (nA hall hlen (f:=fun s:QR=>Jn.cd_ s.1 s.2.1 s.2.2.1 s.2.2.2 some) (fun _=>ex_lq) (fun l ts q h hl hs=>?_) (fun l σ q h hs=>?_) k [a] σ q h ?_) (fun l σ q h _=>?_)
   ·have hso:=kM hs
    obtain ⟨q',e,h'⟩:=Vh hall hlen h (by omega) (by omega)
    show RunE all _ (Jn.cd_ l q.1 q.2.1 q.2.2.1 some) _
    unfold Jn.cd_
    simp only [jK,VR hall h,je,show kb [44] (.good ts)=true from hs,JD,e]
    have hr:=Nr hall hlen hn h'
    revert hr
    show VV all _ (Yf n 1 ts.tail)→_
    cases Yf n 1 ts.tail with
    | ok b us=>rintro ⟨q2,e2,hq2⟩;exact ⟨q2,jf e2 (jf (aB (l:=l) (by omega)) rfl),hq2⟩
    | err c=>rintro ⟨b,q2,e2,hq2⟩;exact ⟨b,q2,jf e2 (jf (aB (l:=l) (by omega)) rfl),hq2⟩
    | out=>exact id
   ·show Jn.cd_ l q.1 q.2.1 q.2.2.1 some=_
    unfold Jn.cd_
    simp only [jK,VR hall h,je,hs,JA]
    rfl
   ·cases σ with
    | good us=>have:=mM h;show [a].length+us.length≤100000;simp only [Z4];omega
    | bad e=>trivial
   ·rw [kt]
    refine RunE.bind (YQ hall hlen h [41]) (fun x σ q h _=>?_)
    exact RunE.ok (I:=VD) h
 | false=>
   simp only [JA,zi,if_false]
   exact RunE.ok (I:=VD) h
theorem LH {n k:Nat} (hn:n≤900000) {σ:Sg} {q:RS} (h:RSt all σ q) :
 RunE all VD (Jn.caa_ [] q.1 q.2.1 q.2.2.1 some) (Lf (fun ts=>if (Jy ts).1=1 then UM (UA n) k ts else .ok [] ts) σ):=by
 unfold Jn.caa_
 have e9:Jn.c9 q.1 q.2.1 q.2.2.1 some=some ((match σ with | .good ts=>decide ((Jy ts).1=1) | .bad _=>false),q.1,q.2.1,q.2.2.1):=by
  obtain ⟨t,e,hk,ht⟩:=He hall h
  unfold Jn.c9
  cases σ with
  | good ts=>
    have ht:=ht ts rfl
    subst ht
    rw [JB (by rw [h.2.1];decide),e,je]
    rw [show (((Jy ts,q).1.1)==(1:Int))=decide ((Jy ts).1=1) from by rw [Bool.eq_iff_iff];simp]
  | bad e'=>rw [JV (by rw [h.2.1];have:=h.2.2.1;omega)]
 rw [e9,je]
 cases σ with
 | bad e=>exact ⟨[],q,rfl,h⟩
 | good ts=>
   dsimp only
   show RunE all VD _ (if (Jy ts).1=1 then UM (UA n) k ts else .ok [] ts)
   by_cases h1:(Jy ts).1=1
   ·rw [zo h1,JD,if_pos h1]
    show RunE all VD _ ((UA n ts).bind fun a us=>HJ (UA n) k [a] us)
    refine RunE.bind (eL hall hlen hn h) (fun a σ q h hu=>?_)
    rw [show Je (decide ((List.length ([]:List (Rose (Int×(Int×(Za×Int)))))+(1:Nat))*(64:Nat)≤(140737488355328:Nat))&&decide (List.length ([]:List (Rose (Int×(Int×(Za×Int)))))+(1:Nat)≤(140737488355328:Nat)))=some () from g9 (by simp),je]
    have hc:=nA hall hlen (f:=fun s:QR=>Jn.ci_ s.1 s.2.1 s.2.2.1 s.2.2.2 some) (one:=UA n) (fun _=>re_lq) (fun l ts q h hl hs=>by
     have hso:=kM hs
     obtain ⟨q',e,h'⟩:=Vh hall hlen h (by omega) (by omega)
     show RunE all _ (Jn.ci_ l q.1 q.2.1 q.2.2.1 some) _
     unfold Jn.ci_
     simp only [jK,VR hall h,je,show kb [44] (.good ts)=true from hs,JD,e]
     have hr:=eL hall hlen hn h'
     revert hr
     show VV all _ (UA n ts.tail)→_
     cases UA n ts.tail with
     | ok b us=>rintro ⟨q2,e2,hq2⟩;exact ⟨q2,jf e2 (jf (aB (l:=l) (by omega)) rfl),hq2⟩
     | err c=>rintro ⟨b,q2,e2,hq2⟩;exact ⟨b,q2,jf e2 (jf (aB (l:=l) (by omega)) rfl),hq2⟩
     | out=>exact id) (fun l σ q h hs=>by
     show Jn.ci_ l q.1 q.2.1 q.2.2.1 some=_
     unfold Jn.ci_
     simp only [jK,VR hall h,je,hs,JA]
     rfl) k [a] σ q h (by
     cases σ with
     | good us=>have:=mM h;show [a].length+us.length≤100000;simp only [Z4];omega
     | bad e=>trivial)
    rw [sC]
    revert hc
    cases Lf (HJ (UA n) k [a]) σ with
    | ok b us=>rintro ⟨q2,e,hq⟩;exact ⟨q2,jf e rfl,hq⟩
    | err c=>rintro ⟨b,q2,e,hq⟩;exact ⟨b,q2,jf e rfl,hq⟩
    | out=>exact id
   ·rw [zp h1,JA,if_neg h1]
    exact ⟨q,rfl,h⟩
theorem oV {n:Nat} (hn:n≤900000) (at_:Int) (w:Tk) (mods:List Nd) {σ:Sg} {q:RS} (h:RSt all σ q) :
 VV all (Jn at_ w.2.1 mods q.1 q.2.1 q.2.2.1) (Lf (cD n at_ mods w) σ):=by
 have hs:Lf (cD n at_ mods w) σ=Lf (fun ts=>(if Ja [40] ts=true then (UM (Yf n 1) n ts.tail).bind fun l us=>(JN [41] us).bind fun _ us=>.ok l us else .ok [] ts).bind fun args us=>
  (if (Jy us).1=1 then UM (UA n) n us else .ok [] us).bind fun refs us=>(JN [59] us).bind fun _ us=>.ok (VC 8 at_ w.2.1 0 [gr mods,gr args,gr refs]) us) σ:=by
  cases σ with
  | good ts=>show cD n at_ mods w ts=_;unfold cD;simp only [dA];rfl
  | bad e=>rfl
 unfold Jn
 rw [hs,kt]
 refine RunE.bind (LA hall hlen hn h) (fun args σ q h _=>?_)
 rw [kt]
 refine RunE.bind (LH hall hlen hn h) (fun refs σ q h _=>?_)
 rw [kt]
 refine RunE.bind (YQ hall hlen h [59]) (fun x σ q h _=>?_)
 simp only [Uf,je,JG]
 exact RunE.ok (I:=Prod.mk) h
theorem tL {n:Nat} (hn:n≤900000):∀k l σ q,k≤n→RSt all σ q→mE σ l →
 RunE all VD (iter (fun s:QR=>jh.cB_ s.1 s.2.1 s.2.2.1 s.2.2.2 some) (VD l q)) (Lf (Hx k l) σ):=by
 have e42:∀σ q,RSt all σ q→jh.c42 q.1 q.2.1 q.2.2.1 some=some (kb [105,110,118] σ||(kb [99,116,114,108] σ||kb [112,111,119] σ),q.1,q.2.1,q.2.2.1):=by
  intro σ q h
  unfold jh.c42
  simp only [jK,VR hall h,je]
  cases kb [105,110,118] σ
  ·cases kb [99,116,114,108] σ<;>simp [JD,JA]
  ·simp [JD]
 have stop:∀l σ q,RSt all σ q→(kb [105,110,118] σ||(kb [99,116,114,108] σ||kb [112,111,119] σ))=false→iter (fun s:QR=>jh.cB_ s.1 s.2.1 s.2.2.1 s.2.2.2 some) (VD l q)=some (VD l q):=by
  intro l σ q h hs
  refine kD ?_
  show jh.cB_ l q.1 q.2.1 q.2.2.1 some=_
  unfold jh.cB_
  rw [e42 σ q h,je,hs]
  rfl
 intro k
 induction k with
 | zero=>
   intro l σ q hk h hl
   cases σ with
   | good ts=>trivial
   | bad e=>exact ⟨l,q,stop l _ q h rfl,h⟩
 | succ k ih=>
   intro l σ q hk h hl
   cases σ with
   | bad e=>exact ⟨l,q,stop l _ q h rfl,h⟩
   | good ts=>
     have hl':l.length+ts.length≤100000:=hl
     show RunE all VD _ (Hx (k+1) l ts)
     rw [l8]
     have go:∀(s:Rd (List Nd)),(∀l' us,s=.ok l' us→l'.length+us.length≤100000)→(RunE all (fun (l':List Nd) q=>(Sum.inl (VD l' q):QR⊕QR)) (jh.cB_ l q.1 q.2.1 q.2.2.1 some) s)→RunE all VD (iter (fun s:QR=>jh.cB_ s.1 s.2.1 s.2.2.1 s.2.2.2 some) (VD l q)) (s.bind fun l us=>Hx k l us):=by
      intro s hs hr
      cases s with
      | ok l' us=>
        obtain ⟨q2,e2,h2⟩:=hr
        have:=ih l' (.good us) q2 (by omega) h2 (hs l' us rfl)
        simp only [Rd.bind]
        revert this
        show RunE all _ _ (Hx k l' us)→_
        cases Hx k l' us with
        | ok c vs=>rintro ⟨p3,e3,h3⟩;exact ⟨p3,kr e2 e3,h3⟩
        | err c=>rintro ⟨b3,p3,e3,h3⟩;exact ⟨b3,p3,kr e2 e3,h3⟩
        | out=>exact id
      | err c=>
        obtain ⟨l',q2,e2,h2⟩:=hr
        exact ⟨l',q2,kr e2 (stop l' _ q2 h2 rfl),h2⟩
      | out=>trivial
     have lenOk:∀(x:Nd) (s:Rd Tk),Lq s ts.length → ∀l' us,(s.bind fun _ us=>.ok (l++[x]) us)=.ok l' us→l'.length+us.length≤100000:=by
      intro x s hq l' us e
      cases s with
      | ok t vs=>injection e with e1 e2;rw [←e1,←e2];have:vs.length<ts.length:=hq;simp only [zf,Z4];omega
      | err c=>cases e
      | out=>cases e
     have hc:=e42 (.good ts) q h
     cases h1:Ja [105,110,118] ts with
     | true=>
       have hso:=kM h1
       have htl:=Jc h1
       obtain ⟨q',e,h'⟩:=Vh hall hlen h (by omega) (by omega)
       rw [if_pos rfl]
       refine go _ (lenOk _ _ (want_lq.mono (by omega))) ?_
       unfold jh.cB_ jh.cG_
       rw [hc,je]
       dsimp only
       rw [show (kb [105,110,118] (.good ts))=true from h1,Bool.true_or,JD,e,je]
       dsimp only
       rw [YV (by rw [NQ h1];rfl),Uf,je,aB (l:=l) (by omega),je,je]
       refine RunE.bind (s:=JN [64] ts.tail) (YQ hall hlen h' [64]) (fun x σ q h _=>?_)
       exact RunE.ok (I:=fun (l':List Nd) q=>(Sum.inl (VD l' q):QR⊕QR)) (a:=l++[Yh 9 (Jy ts).2.2 []]) h
     | false=>
       rw [if_neg (by simp)]
       cases h2:Ja [99,116,114,108] ts with
       | true=>
         have hso:=kM h2
         have htl:=Jc h2
         obtain ⟨q',e,h'⟩:=Vh hall hlen h (by omega) (by omega)
         rw [if_pos rfl]
         refine go _ (lenOk _ _ (want_lq.mono (by omega))) ?_
         unfold jh.cB_ jh.cG_
         rw [hc,je]
         dsimp only
         rw [show (kb [99,116,114,108] (.good ts))=true from h2,Bool.true_or,Bool.or_true,JD,e,je]
         dsimp only
         rw [Ys (by rw [NQ h2];rfl),YV (by rw [NQ h2];rfl),Uf,je,aB (l:=l) (by omega),je,je]
         refine RunE.bind (s:=JN [64] ts.tail) (YQ hall hlen h' [64]) (fun x σ q h _=>?_)
         exact RunE.ok (I:=fun (l':List Nd) q=>(Sum.inl (VD l' q):QR⊕QR)) (a:=l++[Yh 10 (Jy ts).2.2 []]) h
       | false=>
         rw [if_neg (by simp)]
         cases h3:Ja [112,111,119] ts with
         | true=>
           have hso:=kM h3
           have htl:=Jc h3
           obtain ⟨q',e,h'⟩:=Vh hall hlen h (by omega) (by omega)
           rw [if_pos rfl]
           refine go _ ?_ ?_
           ·have hq:=Lq.bind (M:=ts.length) (want_lq (w:=[40]) (ts:=ts.tail)) (f:=fun _ us=>(Yf k 1 us).bind fun e us=>(JN [41] us).bind fun _ us=>(JN [64] us).bind fun _ us=>.ok (l++[Yh 11 (Jy ts).2.2 [e]]) us) (fun _ us h=>ex_lq.bind fun e vs hv=>want_lq.bind fun _ xs hx=>want_lq.bind fun _ ys hy=>by show _<_;omega)
            intro l' us e'
            rw [e'] at hq
            have hus:us.length<ts.length:=hq
            have hll:l'.length=l.length+1:=by
             revert e'
             cases JN [40] ts.tail with
             | ok a vs=>
               simp only [Rd.bind]
               cases Yf k 1 vs with
               | ok b xs=>
                 simp only [Rd.bind]
                 cases JN [41] xs with
                 | ok c ys=>
                   simp only [Rd.bind]
                   cases JN [64] ys with
                   | ok d zs=>intro hs;injection hs with hs1 hs2;rw [←hs1];simp
                   | err c=>intro hs;cases hs
                   | out=>intro hs;cases hs
                 | err c=>intro hs;cases hs
                 | out=>intro hs;cases hs
               | err c=>intro hs;cases hs
               | out=>intro hs;cases hs
             | err c=>intro hs;cases hs
             | out=>intro hs;cases hs
            omega
           ·unfold jh.cB_ jh.cG_
            rw [hc,je]
            dsimp only
            rw [show (kb [112,111,119] (.good ts))=true from h3,Bool.or_true,Bool.or_true,JD,e,je]
            dsimp only
            rw [Ys (by rw [NQ h3];rfl),Ys (by rw [NQ h3];rfl)]
            simp only [Vv]
            refine RunE.bind (s:=JN [40] ts.tail) (YQ hall hlen h' [40]) (fun x σ q h _=>?_)
            rw [kt]
            refine RunE.bind (Nr hall hlen (by omega) h) (fun a σ q h _=>?_)
            rw [kt]
            refine RunE.bind (YQ hall hlen h [41]) (fun x σ q h _=>?_)
            simp only [Uf,je,JG]
            rw [aB (l:=l) (by omega),je,kt]
            refine RunE.bind (YQ hall hlen h [64]) (fun x σ q h _=>?_)
            exact RunE.ok (I:=fun (l':List Nd) q=>(Sum.inl (VD l' q):QR⊕QR)) (a:=l++[Yh 11 (Jy ts).2.2 [a]]) h
         | false=>
           rw [if_neg (by simp)]
           exact ⟨q,stop l _ q h (by
            show (Ja [105,110,118] ts||(Ja [99,116,114,108] ts||Ja [112,111,119] ts))=false
            rw [h1,h2,h3];rfl),h⟩
end
end W
end

section
set_option maxRecDepth 4000
namespace W
open Go Go.Ql
def rD:Nat→List Nd→List Tk→Rd (List Nd)
 | 0,_,_=>.out
 | n+1,l,ts=>if Ja [125] ts then .ok l ts else (Ni n ts).bind fun a us=>rD n (l++[a]) us
theorem GY:∀(n:Nat) (l:List Nd) (ts:List Tk),((rD n l ts).bind fun l us=>(JN [125] us).bind fun _ us=>.ok l us)=lE n l ts
 | 0,_,_=>rfl
 | n+1,l,ts=>by
   rw [rD,lE]
   cases hs:Ja [125] ts with
   | true=>
     rw [if_pos rfl,if_pos rfl]
     show (JN [125] ts).bind _=_
     unfold JN
     rw [if_pos hs]
     rfl
   | false=>
     rw [if_neg (by simp),if_neg (by simp),NM]
     congr 1
     funext a us
     exact GY n (l++[a]) us
section
variable {all:List Tk} (hall:TksOk all) (hlen:all.length≤40001)
include hall hlen
theorem AX {n m:Nat} (hS:∀k,k≤n→d5 all (Vb.fuel m).F_R_rp_statement_b (Ni k)) :
 ∀k l σ q,k≤n+1→RSt all σ q→mE σ l→RunE all VD (iter (fun s:QR=>@Jb.cb_ (Vb.fuel m) _ s.1 s.2.1 s.2.2.1 s.2.2.2 some) (VD l q)) (Lf (rD k l) σ):=by
 have stop:∀l σ q,RSt all σ q→(∀ts,σ=.good ts→Ja [125] ts=true)→iter (fun s:QR=>@Jb.cb_ (Vb.fuel m) _ s.1 s.2.1 s.2.2.1 s.2.2.2 some) (VD l q)=some (VD l q):=by
  intro l σ q h hs
  refine kD ?_
  show @Jb.cb_ (Vb.fuel m) _ l q.1 q.2.1 q.2.2.1 some=_
  unfold Jb.cb_ Jb.c3
  cases σ with
  | good ts=>
    rw [JB (by rw [h.2.1];decide)]
    simp only [jK,VR hall h,je,show kb [125] (.good ts)=true from hs ts rfl,Bool.not_true,JA]
    rfl
  | bad e=>rw [JV (by rw [h.2.1];have:=h.2.2.1;omega)];rfl
 intro k
 induction k with
 | zero=>
   intro l σ q hk h hl
   cases σ with
   | good ts=>trivial
   | bad e=>exact ⟨l,q,stop l _ q h (fun ts e=>by cases e),h⟩
 | succ k ih=>
   intro l σ q hk h hl
   cases σ with
   | bad e=>exact ⟨l,q,stop l _ q h (fun ts e=>by cases e),h⟩
   | good ts=>
     have hl':l.length+ts.length≤100000:=hl
     show RunE all VD _ (rD (k+1) l ts)
     rw [rD]
     cases hs:Ja [125] ts with
     | true=>
       rw [if_pos rfl]
       exact ⟨q,stop l _ q h (fun ts' e=>by injection e with e;rw [←e];exact hs),h⟩
     | false=>
       rw [if_neg (by simp)]
       have hb:=hS k (by omega) ts q h
       have hlq:=D1 (n:=k) (ts:=ts)
       have e7:∀a q2,(Vb.fuel m).F_R_rp_statement_b q=some (a,q2) → @Jb.cb_ (Vb.fuel m) _ l q.1 q.2.1 q.2.2.1 some=some (.inl (VD (l++[a]) q2)):=by
        intro a q2 e
        unfold Jb.cb_ Jb.c3
        rw [JB (by rw [h.2.1];decide)]
        simp only [jK,VR hall h,je,show kb [125] (.good ts)=false from hs,Bool.not_false,JD]
        exact jf e (jf (aB (l:=l) (by omega)) rfl)
       cases hx:Ni k ts with
       | out=>trivial
       | ok a us=>
         rw [hx] at hb hlq
         have hus:us.length<ts.length:=hlq
         obtain ⟨q2,e2,h2⟩:=hb
         have:=ih (l++[a]) (.good us) q2 (by omega) h2 (show (l++[a]).length+us.length≤100000 by simp only [zf,Z4];omega)
         simp only [Rd.bind]
         revert this
         show RunE all _ _ (rD k (l++[a]) us)→_
         cases rD k (l++[a]) us with
         | ok c vs=>rintro ⟨p3,e3,h3⟩;exact ⟨p3,kr (e7 a q2 e2) e3,h3⟩
         | err c=>rintro ⟨b3,p3,e3,h3⟩;exact ⟨b3,p3,kr (e7 a q2 e2) e3,h3⟩
         | out=>exact id
       | err c=>
         rw [hx] at hb
         obtain ⟨a,q2,e2,h2⟩:=hb
         exact ⟨l++[a],q2,kr (e7 a q2 e2) (stop _ _ q2 h2 (fun ts e=>by cases e)),h2⟩
theorem qZ {n m:Nat} (hS:∀k,k≤n→d5 all (Vb.fuel m).F_R_rp_statement_b (Ni k)):Hyp all (Vb.fuel (m+1)).F_R_rp_block_b (UD (n+1)):=by
 intro σ q h
 show VV all (@Jb (Vb.fuel m) q.1 q.2.1 q.2.2.1) _
 have hs:Lf (UD (n+1)) σ=Lf (fun ts=>(JN [123] ts).bind fun t us=>(rD n [] us).bind fun l us=>(JN [125] us).bind fun _ us=>.ok (Yh 7 t.2.2 l) us) σ:=by
  cases σ with
  | good ts=>
    show UD (n+1) ts=(JN [123] ts).bind fun t us=>(rD n [] us).bind fun l us=>(JN [125] us).bind fun _ us=>.ok (Yh 7 t.2.2 l) us
    rw [UD]
    congr 1
    funext t us
    rw [←GY,NM]
    congr 1
    funext l vs
    rw [NM]
    rfl
  | bad e=>rfl
 unfold Jb
 rw [hs,kt]
 refine RunE.bind (YQ hall hlen h [123]) (fun t σ q h _=>?_)
 rw [kt]
 refine RunE.bind (I:=VD) (AX hall hlen hS n [] σ q (by omega) h ?_) (fun l σ q h _=>?_)
 ·cases σ with
  | good us=>have:=mM h;show [].length+us.length≤100000;simp only [zh];omega
  | bad e=>trivial
 ·rw [kt]
  refine RunE.bind (YQ hall hlen h [125]) (fun x σ q h _=>?_)
  simp only [Uf,je,JG]
  exact RunE.ok (I:=Prod.mk) h
theorem P9 {α:Type} {w v:Za} {A B:List Tk→Rd α} {σ:Sg}:Lf (fun ts=>if (Ja w ts||Ja v ts)=true then A ts else B ts) σ=if (kb w σ||kb v σ)=true then Lf A σ else Lf B σ:=by
 cases σ with
 | good ts=>rfl
 | bad e=>simp [kb,Lf]
theorem EW {mods:List Nd} {σ:Sg} {q:RS} (h:RSt all σ q):jh.c54 mods q.1 q.2.1 q.2.2.1 some=some (decide (mods.length=0)&&(kb [91] σ||kb [94,61] σ),q.1,q.2.1,q.2.2.1):=by
 unfold jh.c54
 by_cases hm:mods.length=0
 ·rw [YV (by simp [hm]),zo hm,Bool.true_and]
  simp only [jK,VR hall h,je]
  cases kb [91] σ<;>simp [JD,JA]
 ·rw [Ys (by simp;intro e;rw [e] at hm;exact hm rfl),zp hm,Bool.false_and]
omit hall hlen in
theorem BL:∀(n:Nat) (l:List Nd) (ts:List Tk) (l':List Nd) (us:List Tk),Hx n l ts=.ok l' us→l.length≤l'.length
 | 0,_,_,_,_,h=>by cases h
 | n+1,l,ts,l',us,h=>by
   rw [l8] at h
   have key:∀(s:Rd (List Nd)),(∀l2 vs,s=.ok l2 vs→l.length≤l2.length)→(s.bind fun l us=>Hx n l us)=.ok l' us→l.length≤l'.length:=by
    intro s hs he
    cases s with
    | ok l2 vs=>exact Nat.le_trans (hs l2 vs rfl) (BL n l2 vs l' us he)
    | err c=>cases he
    | out=>cases he
   have k1:∀(x:Nd) (s:Rd Tk) l2 vs,(s.bind fun _ us=>.ok (l++[x]) us)=.ok l2 vs→l.length≤l2.length:=by
    intro x s l2 vs he
    cases s with
    | ok t ws=>injection he with e1 e2;rw [←e1];simp
    | err c=>cases he
    | out=>cases he
   split at h
   ·exact key _ (k1 _ _) h
   ·split at h
    ·exact key _ (k1 _ _) h
    ·split at h
     ·refine key _ (fun l2 vs he=>?_) h
      revert he
      cases JN [40] ts.tail with
      | ok a vs=>
        simp only [Rd.bind]
        cases Yf n 1 vs with
        | ok b xs=>
          simp only [Rd.bind]
          cases JN [41] xs with
          | ok c ys=>exact k1 _ (JN [64] ys) l2 _
          | err c=>intro hs;cases hs
          | out=>intro hs;cases hs
        | err c=>intro hs;cases hs
        | out=>intro hs;cases hs
      | err c=>intro hs;cases hs
      | out=>intro hs;cases hs
     ·injection h with e1 e2;rw [e1];exact zx _
omit hall hlen in
theorem PC {n:Nat} {ts:List Tk} {l':List Nd} {us:List Tk} (hs:(Ja [105,110,118] ts||Ja [99,116,114,108] ts||Ja [112,111,119] ts)=true) (h:Hx n [] ts=.ok l' us):l'.length≠0:=by
 cases n with
 | zero=>cases h
 | succ n=>
   rw [l8] at h
   have key:∀(s:Rd (List Nd)),(∀l2 vs,s=.ok l2 vs→1≤l2.length)→(s.bind fun l us=>Hx n l us)=.ok l' us→l'.length≠0:=by
    intro s hs he
    cases s with
    | ok l2 vs=>have:=hs l2 vs rfl;have:=BL n l2 vs l' us he;omega
    | err c=>cases he
    | out=>cases he
   have k1:∀(x:Nd) (s:Rd Tk) l2 vs,(s.bind fun _ us=>.ok ([]++[x]) us)=.ok l2 vs→1≤l2.length:=by
    intro x s l2 vs he
    cases s with
    | ok t ws=>injection he with e1 e2;rw [←e1];simp
    | err c=>cases he
    | out=>cases he
   split at h
   ·exact key _ (k1 _ _) h
   ·split at h
    ·exact key _ (k1 _ _) h
    ·split at h
     ·refine key _ (fun l2 vs he=>?_) h
      revert he
      cases JN [40] ts.tail with
      | ok a vs=>
        simp only [Rd.bind]
        cases Yf n 1 vs with
        | ok b xs=>
          simp only [Rd.bind]
          cases JN [41] xs with
          | ok c ys=>exact k1 _ (JN [64] ys) l2 _
          | err c=>intro hs;cases hs
          | out=>intro hs;cases hs
        | err c=>intro hs;cases hs
        | out=>intro hs;cases hs
      | err c=>intro hs;cases hs
      | out=>intro hs;cases hs
     ·rename_i g1 g2 g3
      rw [show Ja [105,110,118] ts=false by simpa using g1,show Ja [99,116,114,108] ts=false by simpa using g2,show Ja [112,111,119] ts=false by simpa using g3] at hs
      cases hs
theorem wJ {n m:Nat} (hn:n≤900000) (hB:Hyp all (Vb.fuel m).F_R_rp_block_b (UD n)):Hyp all (Vb.fuel (m+1)).F_R_rp_statement_b (Ni (n+1)):=by
 intro σ q h
 show VV all (@jh (Vb.fuel m) q.1 q.2.1 q.2.2.1) _
 obtain ⟨t,e,hk,ht⟩:=He hall h
 have hs:Lf (Ni (n+1)) σ =
  if kb [102,111,114] σ=true then Lf (fun ts=>(Vl ts.tail).bind fun w us=>(JN [105,110] us).bind fun _ us=>(Yf n 1 us).bind fun lo us=>(JN [46,46] us).bind fun _ us=>(Yf n 1 us).bind fun hi us=>(UD n us).bind fun b us=>.ok (VC 12 t.2.2 w.2.1 0 [lo,hi,b]) us) σ
  else if kb [119,104,101,110] σ=true then Lf (fun ts=>(Yf n 1 ts.tail).bind fun e us=>(UD n us).bind fun b us=>.ok (Yh 13 t.2.2 [e,b]) us) σ
  else if kb [105,102] σ=true then Lf (fun ts=>(UA n (if Ja [33] ts.tail then ts.tail.tail else ts.tail)).bind fun r us=>(UD n us).bind fun b us=>if Ja [101,108,115,101] us=true then (UD n us.tail).bind fun c us=>.ok (VC 14 t.2.2 [] (if Ja [33] ts.tail then 1 else 0) [r,b,c]) us
   else .ok (VC 14 t.2.2 [] (if Ja [33] ts.tail then 1 else 0) [r,b]) us) σ
  else if kb [109,101,97,115,117,114,101] σ=true then Lf (fun ts=>(UA n ts.tail).bind fun q us=>(JN [45,62] us).bind fun _ us=>(UA n us).bind fun b us=>(JN [59] us).bind fun _ us=>.ok (Yh 15 t.2.2 [q,b]) us) σ
  else if kb [114,101,115,101,116] σ=true then Lf (fun ts=>(UA n ts.tail).bind fun q us=>(JN [59] us).bind fun _ us=>.ok (Yh 16 t.2.2 [q]) us) σ
  else if kb [119,105,116,104,105,110] σ=true then Lf (fun ts=>(UD n ts.tail).bind fun a us=>(JN [97,112,112,108,121] us).bind fun _ us=>(UD n us).bind fun b us=>.ok (Yh 17 t.2.2 [a,b]) us) σ
  else if (kb [105,110,118] σ||kb [99,116,114,108] σ||kb [112,111,119] σ)=true then Lf (fun ts=>(Hx n [] ts).bind fun mods us=>(Vl us).bind fun w us=>cD n t.2.2 mods w us) σ
  else Lf (fun ts=>(Vl ts).bind fun w us=>if (Ja [91] us||Ja [94,61] us)=true then (fM n w us).bind fun r us=>(JN [94,61] us).bind fun _ us=>(Vn n 1 us).bind fun e us=>(JN [59] us).bind fun _ us=>.ok (Yh 18 t.2.2 [r,e]) us
   else cD n t.2.2 [] w us) σ:=by
  cases σ with
  | good ts=>
    have ht:=ht ts rfl
    subst ht
    show Ni (n+1) ts=_
    rw [Ni]
    simp only [dA,MQ,bsG]
    rfl
  | bad e=>simp [Lf,kb]
 unfold jh
 rw [hs,e,je]
 simp only [jK,VR hall h,je]
 clear hs
 cases h1:kb [102,111,114] σ with
 | true=>
   obtain ⟨ts,rfl,hs2⟩:=Ud h1
   have hso:=kM hs2
   obtain ⟨q',e,h'⟩:=Vh hall hlen h (by omega) (by omega)
   simp only [JD,e,je,if_true]
   refine RunE.bind (s:=Vl ts.tail) (aO hall hlen h') (fun w σ q h _=>?_)
   rw [kt]
   refine RunE.bind (YQ hall hlen h [105,110]) (fun x σ q h _=>?_)
   rw [kt]
   refine RunE.bind (Nr hall hlen hn h) (fun lo σ q h _=>?_)
   rw [kt]
   refine RunE.bind (YQ hall hlen h [46,46]) (fun x σ q h _=>?_)
   rw [kt]
   refine RunE.bind (Nr hall hlen hn h) (fun hi σ q h _=>?_)
   simp only [jh.c9,Vv]
   rw [kt]
   refine RunE.bind (hB σ q h) (fun b σ q h _=>?_)
   simp only [Uf,je,JG]
   exact RunE.ok (I:=Prod.mk) h
 | false=>
 simp only [JA,zi,if_false]
 cases h2:kb [119,104,101,110] σ with
 | true=>
   obtain ⟨ts,rfl,hs2⟩:=Ud h2
   have hso:=kM hs2
   obtain ⟨q',e,h'⟩:=Vh hall hlen h (by omega) (by omega)
   simp only [JD,e,je,if_true]
   refine RunE.bind (s:=Yf n 1 ts.tail) (Nr hall hlen hn h') (fun a σ q h _=>?_)
   simp only [jh.c13,Vv]
   rw [kt]
   refine RunE.bind (hB σ q h) (fun b σ q h _=>?_)
   simp only [Uf,je,JG]
   exact RunE.ok (I:=Prod.mk) h
 | false=>
 simp only [JA,zi,if_false]
 cases h3:kb [105,102] σ with
 | true=>
   obtain ⟨ts,rfl,hs2⟩:=Ud h3
   have hso:=kM hs2
   obtain ⟨q',e,h'⟩:=Vh hall hlen h (by omega) (by omega)
   simp only [JD,e,je,if_true]
   have e1:∃q2,jh.cK_ 0 q'.1 q'.2.1 q'.2.2.1 some=some (if Ja [33] ts.tail then 1 else 0,q2.1,q2.2.1,q2.2.2.1)∧RSt all (.good (if Ja [33] ts.tail then ts.tail.tail else ts.tail)) q2:=by
    unfold jh.cK_
    simp only [jK,VR hall h',je]
    cases hs3:Ja [33] ts.tail with
    | true=>
      have hso:=kM hs3
      obtain ⟨q2,e2,h2⟩:=Vh hall hlen h' (by omega) (by omega)
      exact ⟨q2,by simp only [show kb [33] (.good ts.tail)=true from hs3,JD,e2,je];rfl,h2⟩
    | false=>exact ⟨q',by simp only [show kb [33] (.good ts.tail)=false from hs3,JA];rfl,h'⟩
   obtain ⟨q2,e2,h2⟩:=e1
   rw [e2,je]
   refine RunE.bind (s:=UA n _) (eL hall hlen hn h2) (fun r σ q h _=>?_)
   rw [kt]
   refine RunE.bind (hB σ q h) (fun b σ q h _=>?_)
   rw [show Je (decide (((1:Nat)+(1:Nat))*(64:Nat)≤(140737488355328:Nat))&&decide ((1:Nat)+(1:Nat)≤(140737488355328:Nat)))=some () from by decide,je,pI]
   simp only [jh.cV_,jK,VR hall h,je]
   cases hs3:kb [101,108,115,101] σ with
   | true=>
     obtain ⟨us,rfl,hs4⟩:=Ud hs3
     have hso:=kM hs4
     obtain ⟨q',e,h'⟩:=Vh hall hlen h (by omega) (by omega)
     simp only [JD,e,je,if_true,Vv]
     refine RunE.bind (s:=UD n us.tail) (hB (.good us.tail) q' h') (fun c σ q h _=>?_)
     rw [aB (l:=[r]++[b]) (by simp)]
     simp only [Uf,je,JG]
     exact RunE.ok (I:=Prod.mk) h
   | false=>
     simp only [JA,zi,if_false,je,Uf,JG]
     exact RunE.ok (I:=Prod.mk) h
 | false=>
 simp only [JA,zi,if_false]
 have e26:jh.c26 q.1 q.2.1 q.2.2.1 some=some (kb [109,101,97,115,117,114,101] σ||kb [114,101,115,101,116] σ,q.1,q.2.1,q.2.2.1):=by
  unfold jh.c26
  simp only [jK,VR hall h,je]
  cases kb [109,101,97,115,117,114,101] σ<;>simp [JD,JA]
 rw [e26,je]
 dsimp only
 cases h4:kb [109,101,97,115,117,114,101] σ with
 | true=>
   obtain ⟨ts,rfl,hs2⟩:=Ud h4
   have hso:=kM hs2
   obtain ⟨q',e,h'⟩:=Vh hall hlen h (by omega) (by omega)
   have ht:=ht ts rfl
   have hw:t.2.1=[109,101,97,115,117,114,101]:=by rw [ht];exact NQ hs2
   simp only [Bool.true_or,JD,e,je,if_true]
   refine RunE.bind (s:=UA n ts.tail) (eL hall hlen hn h') (fun a σ q h _=>?_)
   simp only [jh.cQ_,jK,hw,beq_self_eq_true,JD,Vv]
   rw [kt]
   refine RunE.bind (YQ hall hlen h [45,62]) (fun x σ q h _=>?_)
   rw [kt]
   refine RunE.bind (eL hall hlen hn h) (fun b σ q h _=>?_)
   rw [aB (l:=[a]) (by simp),je,je,kt]
   refine RunE.bind (YQ hall hlen h [59]) (fun x σ q h _=>?_)
   simp only [Uf,je,JG]
   exact RunE.ok (I:=Prod.mk) h
 | false=>
 simp only [Bool.false_or,zi,if_false]
 cases h5:kb [114,101,115,101,116] σ with
 | true=>
   obtain ⟨ts,rfl,hs2⟩:=Ud h5
   have hso:=kM hs2
   obtain ⟨q',e,h'⟩:=Vh hall hlen h (by omega) (by omega)
   have ht:=ht ts rfl
   have hw:(t.2.1==[109,101,97,115,117,114,101])=false:=by rw [ht,NQ hs2];rfl
   simp only [JD,e,je,if_true]
   refine RunE.bind (s:=UA n ts.tail) (eL hall hlen hn h') (fun a σ q h _=>?_)
   simp only [jh.cQ_,jK,hw,JA,je]
   rw [kt]
   refine RunE.bind (YQ hall hlen h [59]) (fun x σ q h _=>?_)
   simp only [Uf,je,JG]
   exact RunE.ok (I:=Prod.mk) h
 | false=>
 simp only [JA,zi,if_false,VR hall h,je]
 cases h6:kb [119,105,116,104,105,110] σ with
 | true=>
   obtain ⟨ts,rfl,hs2⟩:=Ud h6
   have hso:=kM hs2
   obtain ⟨q',e,h'⟩:=Vh hall hlen h (by omega) (by omega)
   simp only [JD,e,je,if_true]
   refine RunE.bind (s:=UD n ts.tail) (hB (.good ts.tail) q' h') (fun a σ q h _=>?_)
   rw [kt]
   refine RunE.bind (YQ hall hlen h [97,112,112,108,121]) (fun x σ q h _=>?_)
   simp only [jh.c40,Vv]
   rw [kt]
   refine RunE.bind (hB σ q h) (fun b σ q h _=>?_)
   simp only [Uf,je,JG]
   exact RunE.ok (I:=Prod.mk) h
 | false=>
 simp only [JA,zi,if_false]
 have hLen:mE σ []:=by
  cases σ with
  | good us=>have:=mM h;show [].length+us.length≤100000;simp only [zh];omega
  | bad e=>trivial
 cases h7:(kb [105,110,118] σ||kb [99,116,114,108] σ||kb [112,111,119] σ) with
 | true=>
   obtain ⟨ts,rfl⟩:∃ts,σ=.good ts:=by
    cases σ with
    | good ts=>exact ⟨ts,rfl⟩
    | bad e=>cases h7
   simp only [if_true]
   rw [kt]
   refine RunE.bind (I:=VD) (tL hall hlen hn n [] (.good ts) q (zx _) h hLen) (fun mods σ' q h hu=>?_)
   rw [kt]
   refine RunE.bind (aO hall hlen h) (fun w τ q h hv=>?_)
   have hno:(decide (mods.length=0)&&(kb [91] τ||kb [94,61] τ))=false:=by
    cases τ with
    | bad e=>simp [kb]
    | good vs=>
      have hv:=hv vs rfl
      cases σ' with
      | bad e=>cases hv
      | good us=>rw [zp (PC h7 (hu us rfl)),Bool.false_and]
   show VV all (jc (jh.c54 mods q.1 q.2.1 q.2.2.1 some) _) _
   rw [EW hall hlen h,hno,je,sC]
   exact nB _ _ (oV hall hlen hn t.2.2 w mods h)
 | false=>
   simp only [zi,if_false]
   have hsp:∀(g:List Tk→Rd Nd),Lf g σ=Lf (fun ts=>(Hx 1 [] ts).bind fun _ us=>g us) σ:=by
    intro g
    cases σ with
    | good ts=>
      have h7':(Ja [105,110,118] ts||Ja [99,116,114,108] ts||Ja [112,111,119] ts)=false:=h7
      simp only [Bool.or_eq_false_iff] at h7'
      show g ts=(Hx 1 [] ts).bind fun _ us=>g us
      rw [l8,h7'.1.1,h7'.1.2,h7'.2]
      rfl
    | bad e=>rfl
   rw [hsp,kt]
   refine RunE.bind (I:=VD) (tL hall hlen (n:=1) (by omega) 1 [] σ q (zx _) h hLen) (fun mods σ' q' h' hu=>?_)
   have hmods:∀us,σ'=.good us→mods=[]:=by
    intro us e
    have hu:=hu us e
    cases σ with
    | good ts=>
      have h7':(Ja [105,110,118] ts||Ja [99,116,114,108] ts||Ja [112,111,119] ts)=false:=h7
      simp only [Bool.or_eq_false_iff] at h7'
      have hu:Hx 1 [] ts=.ok mods us:=hu
      rw [l8,h7'.1.1,h7'.1.2,h7'.2] at hu
      injection hu with e1 e2
      exact e1.symm
    | bad e=>cases hu
   rw [kt]
   refine RunE.bind (aO hall hlen h') (fun w τ q h hv=>?_)
   show VV all (jc (jh.c54 mods q.1 q.2.1 q.2.2.1 some) _) _
   rw [EW hall hlen h,je,P9 hall hlen]
   cases τ with
   | bad e=>
     rw [show (decide (mods.length=0)&&(kb [91] (.bad e)||kb [94,61] (.bad e)))=false from by simp [kb],JA]
     exact nB _ (.err e) (oV hall hlen hn t.2.2 w mods h)
   | good vs=>
     have hv:=hv vs rfl
     cases σ' with
     | bad e=>cases hv
     | good us=>
       obtain rfl:=hmods us rfl
       rw [show decide (([]:List Nd).length=0)=true from rfl,Bool.true_and]
       cases h8:(kb [91] (.good vs)||kb [94,61] (.good vs)) with
       | true=>
         rw [JD,if_pos rfl]
         show VV all _ ((fM n w vs).bind _)
         refine RunE.bind (zU hall hlen hn w h) (fun r σ q h _=>?_)
         rw [kt]
         refine RunE.bind (YQ hall hlen h [94,61]) (fun x σ q h _=>?_)
         rw [kt]
         refine RunE.bind (GV hall hlen hn h) (fun a σ q h _=>?_)
         rw [kt]
         refine RunE.bind (YQ hall hlen h [59]) (fun x σ q h _=>?_)
         simp only [Uf,je,JG]
         exact RunE.ok (I:=Prod.mk) h
       | false=>
         rw [JA,if_neg (by simp)]
         exact nB _ _ (oV hall hlen hn t.2.2 w [] h)
theorem BY {m:Nat} (hm:2≤m):(∀e q,RSt all (.bad e) q→VV all ((Vb.fuel m).F_R_rp_block_b q) (.err e))∧(∀e q,RSt all (.bad e) q→VV all ((Vb.fuel m).F_R_rp_statement_b q) (.err e)):=by
 have hB:∀m,Hyp all (Vb.fuel (m+1)).F_R_rp_block_b (UD 1):=fun m=>qZ hall hlen (fun k hk ts q h=>by
  obtain rfl:k=0:=by omega
  trivial)
 have hB0:∀m,Hyp all (Vb.fuel (m+1)).F_R_rp_block_b (UD 0):=fun m=>Hyp.zero (fun _=>rfl) fun e q h=>hB m (.bad e) q h
 have hS:∀m,Hyp all (Vb.fuel (m+2)).F_R_rp_statement_b (Ni 1):=fun m=>wJ hall hlen (by omega) (hB0 m)
 obtain ⟨m,rfl⟩:∃k,m=k+2:=⟨m-2,by omega⟩
 exact ⟨fun e q h=>hB (m+1) (.bad e) q h,fun e q h=>hS m (.bad e) q h⟩
theorem zV:∀n m,n≤900000→n+2≤m→Hyp all (Vb.fuel m).F_R_rp_block_b (UD n)∧Hyp all (Vb.fuel m).F_R_rp_statement_b (Ni n):=by
 intro n
 induction n using Nat.strongRecOn with
 | _ n ih=>
   intro m hn hm
   cases n with
   | zero=>exact ⟨Hyp.zero (fun _=>rfl) (BY hall hlen (by omega)).1,Hyp.zero (fun _=>rfl) (BY hall hlen (by omega)).2⟩
   | succ n=>
     obtain ⟨m,rfl⟩:∃m',m=m'+1:=⟨m-1,by omega⟩
     exact ⟨qZ hall hlen (fun k hk=>(ih k (by omega) m (by omega) (by omega)).2.good),wJ hall hlen (by omega) (ih n (by omega) m (by omega) (by omega)).1⟩
theorem GO {n:Nat} (hn:n≤900000) {σ:Sg} {q:RS} (h:RSt all σ q):VV all (HV q) (Lf (UD n) σ):=(zV hall hlen n 1000000 (by omega) (by omega)).1 σ q h
theorem wS {n:Nat} (hn:n≤900000) {σ:Sg} {q:RS} (h:RSt all σ q):VV all (UG q) (Lf (Ni n) σ):=(zV hall hlen n 1000000 (by omega) (by omega)).2 σ q h
end
end W
end

section
set_option maxRecDepth 4000
namespace W
open Go Go.Ql
section
variable {all:List Tk} (hall:TksOk all) (hlen:all.length≤40001)
include hall hlen
theorem LB {n:Nat} (hn:n≤900000) (t:Tk) {σ:Sg} {q:RS} (h:RSt all σ q):VV all (kK t.2.2 q.1 q.2.1 q.2.2.1) (Lf (iT n t) σ):=by
 have hs:Lf (iT n t) σ=Lf (fun ts=>(Vl ts).bind fun w us=>(if Ja [40] us=true then (UM fK n us.tail).bind fun l us=>(JN [41] us).bind fun _ us=>.ok l us else .ok [] us).bind fun ints us=>
  (UM hG n us).bind fun wires us=>(UD n us).bind fun b us=>.ok (VC 5 t.2.2 w.2.1 0 [gr ints,gr wires,b]) us) σ:=by
  cases σ with
  | good ts=>show iT n t ts=_;unfold iT;simp only [dA];rfl
  | bad e=>rfl
 unfold kK
 rw [hs,kt]
 refine RunE.bind (aO hall hlen h) (fun w σ q h _=>?_)
 rw [kt]
 refine RunE.bind (I:=VD) ?_ (fun ints σ q h _=>?_)
 ·unfold kK.cO_
  rw [pI]
  simp only [jK,VR hall h,je]
  cases hs:kb [40] σ with
  | true=>
    obtain ⟨ts,rfl,hs2⟩:=Ud hs
    have hso:=kM hs2
    obtain ⟨q',e,h'⟩:=Vh hall hlen h (by omega) (by omega)
    simp only [JD,e,je,if_true]
    refine RunE.bind (s:=UM fK n ts.tail) (tM hall hlen (wires:=false) (k:=n) h') (fun l σ q h _=>?_)
    rw [kt]
    refine RunE.bind (YQ hall hlen h [41]) (fun x σ q h _=>?_)
    exact RunE.ok (I:=VD) h
  | false=>
    simp only [JA,zi,if_false]
    exact RunE.ok (I:=VD) h
 ·rw [kt]
  refine RunE.bind (tM hall hlen (wires:=true) (k:=n) h) (fun wires σ q h _=>?_)
  rw [kt]
  refine RunE.bind (GO hall hlen hn h) (fun b σ q h _=>?_)
  simp only [kK.c9,Uf,je,JG]
  exact RunE.ok (I:=Prod.mk) h
theorem LD {n:Nat} (hn:n≤900000) {σ:Sg} {q:RS} (h:RSt all σ q):VV all (kz q.1 q.2.1 q.2.2.1) (Lf (fZ n) σ):=by
 obtain ⟨t,e,hk,ht⟩:=He hall h
 have hs:Lf (fZ n) σ =
  if (kb [113,117,98,105,116] σ||kb [98,105,116] σ)=true then Lf (fun ts=>(Vl ts.tail).bind fun w us=>(JN [91] us).bind fun _ us=>(Yf n 1 us).bind fun e us=>(JN [93] us).bind fun _ us=>(JN [59] us).bind fun _ us=>.ok (VC (if kb [98,105,116] σ then 3 else 2) t.2.2 w.2.1 0 [e]) us) σ
  else if kb [99,111,110,115,116] σ=true then Lf (fun ts=>(Vl ts.tail).bind fun w us=>(JN [61] us).bind fun _ us=>(Yf n 1 us).bind fun e us=>(JN [59] us).bind fun _ us=>.ok (VC 4 t.2.2 w.2.1 0 [e]) us) σ
  else if kb [103,97,116,101] σ=true then Lf (fun ts=>iT n t ts.tail) σ else Lf (Ni n) σ:=by
  cases σ with
  | good ts=>
    have ht:=ht ts rfl
    subst ht
    show fZ n ts=_
    unfold fZ
    simp only [dA,MQ,bsG,bsH]
    rfl
  | bad e=>simp [Lf,kb]
 unfold kz
 rw [hs,e,je]
 have e2:kz.c2 q.1 q.2.1 q.2.2.1 some=some (kb [113,117,98,105,116] σ||kb [98,105,116] σ,q.1,q.2.1,q.2.2.1):=by
  unfold kz.c2
  simp only [jK,VR hall h,je]
  cases kb [113,117,98,105,116] σ<;>simp [JD,JA]
 rw [e2,je]
 dsimp only
 clear hs
 cases h1:(kb [113,117,98,105,116] σ||kb [98,105,116] σ) with
 | true=>
   obtain ⟨ts,rfl⟩:∃ts,σ=.good ts:=by
    cases σ with
    | good ts=>exact ⟨ts,rfl⟩
    | bad e=>cases h1
   have hso:(Jy ts).1=2:=by
    rcases (Bool.or_eq_true _ _▸h1:_∨_) with h | h<;>exact kM h
   obtain ⟨q',e',h'⟩:=Vh hall hlen h (by omega) (by omega)
   have e3:kz.cj_ 2 q.1 q.2.1 q.2.2.1 some=some (if kb [98,105,116] (.good ts) then 3 else 2,q.1,q.2.1,q.2.2.1):=by
    unfold kz.cj_
    simp only [jK,VR hall h,je]
    cases kb [98,105,116] (.good ts)<;>rfl
   rw [JD,e3,je]
   simp only [e',je,if_true]
   refine RunE.bind (s:=Vl ts.tail) (aO hall hlen h') (fun w σ q h _=>?_)
   rw [kt]
   refine RunE.bind (YQ hall hlen h [91]) (fun x σ q h _=>?_)
   rw [kt]
   refine RunE.bind (Nr hall hlen hn h) (fun a σ q h _=>?_)
   rw [kt]
   refine RunE.bind (YQ hall hlen h [93]) (fun x σ q h _=>?_)
   rw [kt]
   refine RunE.bind (YQ hall hlen h [59]) (fun x σ q h _=>?_)
   simp only [Uf,je,JG]
   exact RunE.ok (I:=Prod.mk) h
 | false=>
 simp only [JA,zi,if_false,jK,VR hall h,je]
 cases h2:kb [99,111,110,115,116] σ with
 | true=>
   obtain ⟨ts,rfl,hs2⟩:=Ud h2
   have hso:=kM hs2
   obtain ⟨q',e,h'⟩:=Vh hall hlen h (by omega) (by omega)
   simp only [JD,e,je,if_true]
   refine RunE.bind (s:=Vl ts.tail) (aO hall hlen h') (fun w σ q h _=>?_)
   rw [kt]
   refine RunE.bind (YQ hall hlen h [61]) (fun x σ q h _=>?_)
   rw [kt]
   refine RunE.bind (Nr hall hlen hn h) (fun a σ q h _=>?_)
   rw [kt]
   refine RunE.bind (YQ hall hlen h [59]) (fun x σ q h _=>?_)
   simp only [Uf,je,JG]
   exact RunE.ok (I:=Prod.mk) h
 | false=>
 simp only [JA,zi,if_false,VR hall h,je]
 cases h3:kb [103,97,116,101] σ with
 | true=>
   obtain ⟨ts,rfl,hs2⟩:=Ud h3
   have hso:=kM hs2
   obtain ⟨q',e,h'⟩:=Vh hall hlen h (by omega) (by omega)
   simp only [JD,e,je,if_true]
   exact nB _ _ (LB hall hlen hn t h')
 | false=>
   simp only [JA,zi,if_false]
   exact nB _ _ (wS hall hlen hn h)
theorem DT {n:Nat} (hn:n≤900000):∀k l σ q,RSt all σ q→mE σ l →
 RunE all VD (iter (fun s:QR=>kq.cd_ s.1 s.2.1 s.2.2.1 s.2.2.2 some) (VD l q)) (Lf (cI n k l) σ):=by
 have stop:∀l σ q,RSt all σ q→(∀ts,σ=.good ts→(Jy ts).1=0)→iter (fun s:QR=>kq.cd_ s.1 s.2.1 s.2.2.1 s.2.2.2 some) (VD l q)=some (VD l q):=by
  intro l σ q h hs
  refine kD ?_
  show kq.cd_ l q.1 q.2.1 q.2.2.1 some=_
  unfold kq.cd_ kq.c5
  obtain ⟨t,e,hk,ht⟩:=He hall h
  cases σ with
  | good ts=>
    rw [JB (by rw [h.2.1];decide),e,je]
    have ht:=ht ts rfl
    subst ht
    rw [show (((Jy ts,q).1.1) !=(0:Int))=false from by simp [hs ts rfl],je]
    rfl
  | bad e=>rw [JV (by rw [h.2.1];have:=h.2.2.1;omega)];rfl
 intro k
 induction k with
 | zero=>
   intro l σ q h hl
   cases σ with
   | good ts=>trivial
   | bad e=>exact ⟨l,q,stop l _ q h (fun ts e=>by cases e),h⟩
 | succ k ih=>
   intro l σ q h hl
   cases σ with
   | bad e=>exact ⟨l,q,stop l _ q h (fun ts e=>by cases e),h⟩
   | good ts=>
     have hl':l.length+ts.length≤100000:=hl
     show RunE all VD _ (cI n (k+1) l ts)
     rw [cI]
     by_cases h0:(Jy ts).1=0
     ·rw [if_pos h0]
      exact ⟨q,stop l _ q h (fun ts' e=>by injection e with e;rw [←e];exact h0),h⟩
     ·rw [if_neg h0]
      have hb:=LD hall hlen hn h
      have hlq:=MV (n:=n) (ts:=ts)
      obtain ⟨t,e,hk,ht⟩:=He hall h
      have ht:=ht ts rfl
      subst ht
      have e7:∀a q2,kz q.1 q.2.1 q.2.2.1=some (a,q2)→kq.cd_ l q.1 q.2.1 q.2.2.1 some=some (.inl (VD (l++[a]) q2)):=by
       intro a q2 e'
       unfold kq.cd_ kq.c5
       rw [JB (by rw [h.2.1];decide),e,je]
       rw [show (((Jy ts,q).1.1) !=(0:Int))=true from by simp [h0],je]
       dsimp only
       rw [JD,e',je,aB (l:=l) (by omega)]
       rfl
      revert hb hlq
      show VV all _ (fZ n ts)→_
      cases fZ n ts with
      | out=>intro _ _;trivial
      | ok a us=>
        rintro ⟨q2,e2,h2⟩ hus
        have hus:us.length<ts.length:=hus
        have:=ih (l++[a]) (.good us) q2 h2 (show (l++[a]).length+us.length≤100000 by simp only [zf,Z4];omega)
        simp only [Rd.bind]
        revert this
        show RunE all _ _ (cI n k (l++[a]) us)→_
        cases cI n k (l++[a]) us with
        | ok c vs=>rintro ⟨p3,e3,h3⟩;exact ⟨p3,kr (e7 a q2 e2) e3,h3⟩
        | err c=>rintro ⟨b3,p3,e3,h3⟩;exact ⟨b3,p3,kr (e7 a q2 e2) e3,h3⟩
        | out=>exact id
      | err c=>
        rintro ⟨a,q2,e2,h2⟩ _
        exact ⟨l++[a],q2,kr (e7 a q2 e2) (stop _ _ q2 h2 (fun ts e=>by cases e)),h2⟩
end
end W
end
