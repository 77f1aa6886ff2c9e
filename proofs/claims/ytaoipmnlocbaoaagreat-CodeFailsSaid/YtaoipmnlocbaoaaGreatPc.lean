/- Plain laws: words of letters; codes checked; errors decoded. -/
import Derived.Test.YtaoipmnlocbaoaaGreatPb
set_option linter.all false
section
section
set_option maxHeartbeats 1000000
namespace Go.Ql
abbrev Tx:=List UInt8
abbrev Lt:=Bool×Bool
abbrev Wd:=List Lt
def kDec (u:UInt8):Lt:=(u==88||u==89,u==90||u==89)
def enc:Lt→UInt8
 | (false,false)=>73
 | (true,false)=>88
 | (false,true)=>90
 | (true,true)=>89
def okL (u:UInt8):Bool:=u==73||u==88||u==89||u==90
theorem Vr {u:UInt8}:okL u=true↔u=73∨u=88∨u=89∨u=90:=by simp [okL,or_assoc]
theorem enc_dec {u:UInt8} (h:okL u=true):enc (kDec u)=u:=by
 rcases Vr.1 h with rfl | rfl | rfl | rfl<;>rfl
theorem dec_enc:∀a:Lt,kDec (enc a)=a
 | (false,false)=>rfl
 | (true,false)=>rfl
 | (false,true)=>rfl
 | (true,true)=>rfl
theorem ok_enc:∀a:Lt,okL (enc a)=true
 | (false,false)=>rfl
 | (true,false)=>rfl
 | (false,true)=>rfl
 | (true,true)=>rfl
theorem map_enc_dec {l:Tx} (h:l.all okL=true):(l.map kDec).map enc=l:=by
 induction l with
 | nil=>rfl
 | cons a l ih=>
   simp only [List.all_cons,Bool.and_eq_true] at h
   simp only [List.map_cons,enc_dec h.1,ih h.2]
theorem map_dec_enc (w:Wd):(w.map enc).map kDec=w:=by
 induction w with
 | nil=>rfl
 | cons a l ih=>simp only [List.map_cons,dec_enc,ih]
theorem all_enc (w:Wd):(w.map enc).all okL=true:=by
 induction w with
 | nil=>rfl
 | cons a l ih=>simp only [List.map_cons,List.all_cons,ok_enc,ih];rfl
def xl (w:Wd):List Bool:=w.map (·.1)
def zl (w:Wd):List Bool:=w.map (·.2)
def xs (w:Wd):Nat:=pack (xl w)
def zs (w:Wd):Nat:=pack (zl w)
theorem xs_lt (w:Wd):xs w<2^w.length:=by simpa [xs,xl] using Uf (xl w)
theorem zs_lt (w:Wd):zs w<2^w.length:=by simpa [zs,zl] using Uf (zl w)
theorem xs_snoc (w:Wd) (a:Lt):xs (w++[a])=xs w+2^w.length*a.1.toNat:=by
 simp [xs,xl,Ux,pack]
theorem zs_snoc (w:Wd) (a:Lt):zs (w++[a])=zs w+2^w.length*a.2.toNat:=by
 simp [zs,zl,Ux,pack]
theorem u8_eq {u:UInt8} (k:Nat) (hk:k<256):(((u.toNat:Nat):Int)==(k:Int))=(u==UInt8.ofNat k):=by
 rw [Bool.eq_iff_iff]
 simp only [beq_iff_eq]
 constructor
 ·intro h
  rw [←Int.ofNat_inj.1 h,UInt8.ofNat_toNat]
 ·rintro rfl
  simp [Nat.mod_eq_of_lt hk]
theorem u8_43 {u:UInt8}:(((u.toNat:Nat):Int)==43)=(u==43):=u8_eq 43 (by decide)
theorem u8_45 {u:UInt8}:(((u.toNat:Nat):Int)==45)=(u==45):=u8_eq 45 (by decide)
theorem u8_73 {u:UInt8}:(((u.toNat:Nat):Int)==73)=(u==73):=u8_eq 73 (by decide)
theorem u8_88 {u:UInt8}:(((u.toNat:Nat):Int)==88)=(u==88):=u8_eq 88 (by decide)
theorem u8_89 {u:UInt8}:(((u.toNat:Nat):Int)==89)=(u==89):=u8_eq 89 (by decide)
theorem u8_90 {u:UInt8}:(((u.toNat:Nat):Int)==90)=(u==90):=u8_eq 90 (by decide)
theorem u8_u8 {u v:UInt8}:(((u.toNat:Nat):Int)==((v.toNat:Nat):Int))=(u==v):=by
 rw [u8_eq v.toNat (UInt8.toNat_lt v),UInt8.ofNat_toNat]
theorem u8_back {u:UInt8}:(((u.toNat:Nat):Int)).toNat.toUInt8=u:=by
 rw [Int.toNat_natCast];exact UInt8.ofNat_toNat
theorem UP {α:Type} [BEq α] {a b:α}:(a !=b)=!(a==b):=rfl
def kSgn (s:Tx):Bool:=s.getD 0 0==45
def isP (s:Tx) (n:Nat):Bool:=decide (s.length=n+1)&&(s.getD 0 0==43||s.getD 0 0==45)&&(s.drop 1).all okL
def wd (s:Tx):Wd:=(s.drop 1).map kDec
theorem UR {s:Tx} {n:Nat} (h:isP s n=true):s.length=n+1∧(s.drop 1).length=n∧(wd s).length=n∧(s.drop 1).all okL=true:=by
 simp only [isP,Bool.and_eq_true,decide_eq_true_eq] at h
 refine ⟨h.1.1,?_,?_,h.2⟩<;>simp [wd,h.1.1]
theorem index_letters (c:UInt8):Lib.indexByte [73,88,90,89] c=if okL c=true then ((kDec c).1.toNat:Int)+2*((kDec c).2.toNat:Int) else -1:=by
 by_cases h:okL c=true
 ·rw [if_pos h]
  rcases Vr.1 h with rfl | rfl | rfl | rfl<;>rfl
 ·rw [if_neg h]
  simp only [Vr,not_or] at h
  obtain ⟨h1,h2,h3,h4⟩:=h
  have g1:((73:UInt8)==c)=false:=by simpa using Ne.symm h1
  have g2:((88:UInt8)==c)=false:=by simpa using Ne.symm h2
  have g3:((89:UInt8)==c)=false:=by simpa using Ne.symm h3
  have g4:((90:UInt8)==c)=false:=by simpa using Ne.symm h4
  simp [Lib.indexByte,g1,g2,g3,g4]
theorem bit_or {p q:Nat} (h:p<2^q) (hq:q<12) (b:Bool):ibits BinOp.or IntKind.u64 (p:Int) (IntKind.u64.wrap (IntKind.u64.wrap (b.toNat:Int)*(2:Int)^Min.min (Int.toNat (q:Int)) 64))=((p+2^q*b.toNat:Nat):Int):=by
 have hq2:(2:Nat)^q<2^12:=Nat.pow_lt_pow_right (by decide) hq
 have e:IntKind.u64.wrap (IntKind.u64.wrap (b.toNat:Int)*(2:Int)^Min.min (Int.toNat (q:Int)) 64)=((b.toNat*2^q:Nat):Int):=by
  rw [Int.toNat_natCast,Nat.min_eq_left (by omega),Js (x:=(b.toNat:Int)) (by cases b<;>simp),Js]
  ·simp
  ·cases b
   ·simp
   ·simp only [Bool.toNat_true,Int.natCast_one,Int.one_mul]
    have:((2:Int)^q)=((2^q:Nat):Int):=by simp
    omega
 rw [e,ior64 (by omega) (by cases b<;>simp<;>omega),or_high h]
theorem xs_take {w:Wd} {i:Nat} (h:i<w.length):xs (w.take (i+1))=xs (w.take i)+2^i*(w[i]).1.toNat:=by
 rw [List.take_succ_eq_append_getElem h,xs_snoc,List.length_take,Nat.min_eq_left (by omega)]
theorem zs_take {w:Wd} {i:Nat} (h:i<w.length):zs (w.take (i+1))=zs (w.take i)+2^i*(w[i]).2.toNat:=by
 rw [List.take_succ_eq_append_getElem h,zs_snoc,List.length_take,Nat.min_eq_left (by omega)]
def pl (w:Wd) (m:Bool):Int×Int×Bool:=((xs w:Int),(zs w:Int),m)
theorem Hz (a b:Bool):ibits BinOp.and IntKind.i64 ((a.toNat:Int)+2*(b.toNat:Int)) 1=(a.toNat:Int)∧Int.fdiv ((a.toNat:Int)+2*(b.toNat:Int)) ((2:Int)^1)=(b.toNat:Int):=by
 cases a<;>cases b<;>decide
theorem tread_ok (s:Tx) (n:Nat) (hn:1≤n∧n≤12):(isP s n=true∧W.JD s n=some (pl (wd s) (kSgn s),true))∨(isP s n=false ∧ ∃r,W.JD s n=some (r,false)):=by
 have hc2:W.ju.c2 s n some=some (!(decide (s.length=n+1)&&(s.getD 0 0==43||s.getD 0 0==45))):=by
  simp only [W.ju.c2,ji (show -9223372036854775808≤(n:Int)+1∧(n:Int)+1≤9223372036854775807 by omega),br_if]
  by_cases hl:s.length=n+1
  ·rw [if_neg (by simp [hl])]
   cases s with
   | nil=>simp at hl
   | cons a s=>
     simp only [show idx (a::s) 0=some a from rfl,ja,UP,u8_43,u8_45,List.getD_cons_zero,hl,decide_true,Bool.true_and]
     cases a==43<;>simp
  ·rw [if_pos (by simp;omega)]
   simp [hl]
 unfold W.JD W.ju
 simp only [hc2,ja,br_if]
 cases hA:(decide (s.length=n+1)&&(s.getD 0 0==43||s.getD 0 0==45)) with
 | false=>
   rw [if_pos (by simp)]
   exact .inr ⟨by rw [isP,hA];rfl,_,rfl⟩
 | true=>
   rw [if_neg (by simp)]
   have hA':=hA
   simp only [Bool.and_eq_true,decide_eq_true_eq] at hA
   have hl:=hA.1
   have h0:idx s 0=some (s.getD 0 0):=by cases s<;>simp [idx] at hl ⊢
   have hw:(wd s).length=n:=by simp [wd,hl]
   have key:=kZ (f:=fun s_1:Int×Int×Int↦W.ju.cc_ s n (Prod.fst s_1) (Prod.fst (Prod.snd s_1)) (Prod.snd (Prod.snd s_1)) some)
    (P:=fun i st=>st=((i:Int),(xs ((wd s).take i):Int),(zs ((wd s).take i):Int))) n (fun i=>!okL (s.getD (i+1) 0)) (X:=fun _ _=>True)
    (Q:=fun r=>r=((n:Int),(xs (wd s):Int),(zs (wd s):Int))) (s:=((0:Int),(0:Int),(0:Int)))
    (by
     intro i st hi hs hp
     subst hs
     have hi':i+1<s.length:=by omega
     have hp:okL s[i+1]=false:=by simpa [List.getD,List.getElem?_eq_getElem hi'] using hp
     simp only [W.ju.cc_,br_if]
     rw [if_pos (by simp;omega),ji (by omega),show ((i:Int)+1)=((i+1:Nat):Int) by omega,JJ hi',ja]
     simp only [W.kn,u8_back,ja,index_letters,hp]
     exact ⟨_,rfl,trivial⟩)
    (by
     intro i st hi hs hp
     subst hs
     have hi':i+1<s.length:=by omega
     have hp:okL s[i+1]=true:=by simpa [List.getD,List.getElem?_eq_getElem hi'] using hp
     have hd:(wd s)[i]'(by omega)=kDec s[i+1]:=by simp [wd,Nat.add_comm]
     have hx:=xs_lt ((wd s).take i)
     have hz:=zs_lt ((wd s).take i)
     rw [List.length_take,hw,Nat.min_eq_left (by omega)] at hx hz
     simp only [W.ju.cc_,br_if]
     rw [if_pos (by simp;omega),ji (by omega),show ((i:Int)+1)=((i+1:Nat):Int) by omega,JJ hi',ja]
     simp only [W.kn,u8_back,ja,index_letters,hp,if_true]
     rw [if_neg (by cases (kDec s[i+1]).1<;>cases (kDec s[i+1]).2<;>simp),W.ju.c11,W.ju.c12,jB (by simp)]
     simp only [ja]
     rw [(Hz _ _).1,(Hz _ _).2,bit_or hx (by omega),bit_or hz (by omega)]
     refine ⟨_,rfl,?_⟩
     rw [xs_take (by omega),zs_take (by omega),hd])
    (by
     intro st hs
     subst hs
     simp only [W.ju.cc_,br_if]
     rw [if_neg (by simp)]
     refine ⟨_,rfl,?_⟩
     rw [List.take_of_length_le (by omega)])
    rfl
   rcases key with ⟨i,e,h1,h2,_⟩ | ⟨r,h1,h2,h3⟩
   ·right
    rw [h2,h0]
    refine ⟨?_,_,rfl⟩
    obtain ⟨_,g1,g2,_⟩:=Uc h1
    rw [isP,hA',Bool.true_and]
    simp only [Bool.not_eq_true'] at g2
    have hi:i+1<s.length:=by omega
    rw [Bool.eq_false_iff]
    intro hall
    have:=List.all_eq_true.1 hall (s[i+1]) (by rw [List.mem_iff_getElem?];exact ⟨i,by simp [hi,Nat.add_comm]⟩)
    rw [List.getD,List.getElem?_eq_getElem hi,Option.getD_some] at g2
    rw [this] at g2;cases g2
   ·left
    rw [h2,h0,h3]
    refine ⟨?_,?_⟩
    ·rw [isP,hA',Bool.true_and,List.all_eq_true]
     intro u hu
     obtain ⟨i,hi⟩:=List.mem_iff_getElem?.1 hu
     have hi':i<n:=by
      have:=(List.getElem?_eq_some_iff.1 hi).1
      simp at this;omega
     have:=Vi.1 h1 i (by omega) (by omega)
     simp only [Bool.not_eq_false'] at this
     rw [List.getElem?_drop,Nat.add_comm] at hi
     rw [List.getD,hi] at this
     exact this
    ·simp only [ja,Vg,u8_45]
     rfl
end Go.Ql
end
section
namespace Go.Ql
def parN:Nat→Nat→Bool
 | 0,_=>false
 | k+1,x=>(x % 2==1) !=parN k (x / 2)
theorem ones_all:∀x y:Fin 64,(match W.JP ((x.val*64+y.val:Nat):Int) with | some k=>ibits .and .i64 k 1==((parN 12 (x.val*64+y.val)).toNat:Int) | none=>false)=true:=by decide +kernel
end Go.Ql
end
section
set_option maxHeartbeats 1000000
namespace Go.Ql
def par:List Bool→Bool
 | []=>false
 | b::r=>b !=par r
theorem parN_pack:∀(k:Nat) (l:List Bool),l.length≤k→parN k (pack l)=par l
 | 0,[],_=>rfl
 | k+1,[],_=>by
   have h:=parN_pack k [] (by simp)
   simp only [pack,par,parN] at h ⊢
   simp [h]
 | k+1,b::r,h=>by
   have h1:=parN_pack k r (by simpa using h)
   rw [parN,pack,par]
   have e1:(b.toNat+2*pack r) % 2=b.toNat:=by cases b<;>simp<;>omega
   have e2:(b.toNat+2*pack r) / 2=pack r:=by cases b<;>simp<;>omega
   rw [e1,e2,h1]
   cases b<;>simp
theorem ones_ok {x:Nat} (h:x<4096):∃k,W.JP (x:Int)=some k∧ibits .and .i64 k 1=((parN 12 x).toNat:Int):=by
 have:=ones_all ⟨x / 64,by omega⟩ ⟨x % 64,by omega⟩
 simp only [show x / 64*64+x % 64=x by omega] at this
 split at this
 ·rename_i k hk
  exact ⟨k,hk,by simpa using this⟩
 ·cases this
def ap:Wd→Wd→Bool
 | a::w,b::v=>((a.1&&b.2) !=(a.2&&b.1)) !=ap w v
 | _,_=>false
theorem ap_par:∀(w v:Wd),(par (List.zipWith (· && ·) (xl w) (zl v)) !=par (List.zipWith (· && ·) (zl w) (xl v)))=ap w v
 | [],v=>by cases v<;>rfl
 | a::w,[]=>rfl
 | (a,b)::w,(c,d)::v=>by
   have h:=ap_par w v
   simp only [xl,zl,List.map_cons,List.zipWith_cons_cons,par,ap] at h ⊢
   rw [←h]
   generalize par _=p
   generalize par _=q
   cases a<;>cases b<;>cases c<;>cases d<;>cases p<;>cases q<;>rfl
theorem VT (w:Wd):(xl w).length=w.length:=by simp [xl]
theorem Vh (w:Wd):(zl w).length=w.length:=by simp [zl]
theorem meets_ok {w v:Wd} {n:Nat} (hw:w.length=n) (hv:v.length=n) (hn:n≤12) (m m':Bool):W.Jl (pl w m) (pl v m')=some (ap w v):=by
 have two:(2:Nat)^n≤2^12:=Nat.pow_le_pow_right (by decide) hn
 have h1:=xs_lt w;have h2:=zs_lt w;have h3:=xs_lt v;have h4:=zs_lt v
 rw [hw] at h1 h2;rw [hv] at h3 h4
 have a1:xs w &&& zs v=pack (List.zipWith (· && ·) (xl w) (zl v)):=pack_and _ _ (by rw [VT,Vh,hw,hv])
 have a2:zs w &&& xs v=pack (List.zipWith (· && ·) (zl w) (xl v)):=pack_and _ _ (by rw [VT,Vh,hw,hv])
 have b1:xs w &&& zs v<4096:=Nat.lt_of_le_of_lt Nat.and_le_left (by omega)
 have b2:zs w &&& xs v<4096:=Nat.lt_of_le_of_lt Nat.and_le_left (by omega)
 obtain ⟨k1,c1,d1⟩:=ones_ok b1
 obtain ⟨k2,c2,d2⟩:=ones_ok b2
 simp only [W.Jl,W.jQ,W.jQ.c1,pl]
 rw [iand64 (by omega) (by omega),iand64 (by omega) (by omega),c1,c2]
 simp only [ja,d1,d2]
 rw [a1,a2,parN_pack 12 _ (by simp [VT,Vh];omega),parN_pack 12 _ (by simp [VT,Vh];omega),←ap_par]
 congr 1
 generalize par _=p
 generalize par _=q
 cases p<;>cases q<;>rfl
theorem zip_at {A B:Type} {a:List A} {b:List B} {pre:List (A×B)} {x:A} {y:B} {r:List (A×B)} (h:a.zip b=pre++(x,y)::r):idx a (pre.length:Int)=some x∧idx b (pre.length:Int)=some y∧pre.length<a.length:=by
 have h1:(a.zip b)[pre.length]?=some (x,y):=by rw [h];simp
 rw [List.getElem?_zip_eq_some] at h1
 exact ⟨by rw [idx_at,h1.1],by rw [idx_at,h1.2],(List.getElem?_eq_some_iff.1 h1.1).1⟩
def difs (x y:UInt8):Bool:=x !=73&&y !=73&&x !=y
theorem Hx (g:Nat→UInt8×UInt8→Nat) (hg:∀t p,g t p=t+(difs p.1 p.2).toNat):∀(a b:Tx) (t:Nat),a.all okL=true→b.all okL=true→a.length=b.length →
 ((a.zip b).foldl g t) % 2=(((t % 2==1) !=ap (a.map kDec) (b.map kDec))).toNat∧(a.zip b).foldl g t≤t+a.length
 | [],[],t,_,_,_=>by
   simp only [List.zip_nil_left,List.foldl_nil,List.map_nil,ap]
   refine ⟨?_,by simp⟩
   rcases Nat.mod_two_eq_zero_or_one t with h | h<;>simp [h]
 | x::a,y::b,t,ha,hb,hl=>by
   simp only [List.all_cons,Bool.and_eq_true] at ha hb
   obtain ⟨h1,h2⟩:=Hx g hg a b (g t (x,y)) ha.2 hb.2 (by simpa using hl)
   simp only [List.zip_cons_cons,List.foldl_cons,List.map_cons,ap,List.length_cons]
   rw [h1]
   rw [hg] at h2 ⊢
   simp only
   constructor
   ·congr 1
    generalize ap _ _=p
    have e:((t+(difs x y).toNat) % 2==1)=((t % 2==1) !=difs x y):=by
     cases difs x y<;>rcases Nat.mod_two_eq_zero_or_one t with h | h<;>simp [h]<;>omega
    rw [e]
    generalize (t % 2==1)=q
    rcases Vr.1 ha.1 with rfl | rfl | rfl | rfl<;>rcases Vr.1 hb.1 with rfl | rfl | rfl | rfl<;>cases p<;>cases q<;>rfl
   ·have:(difs x y).toNat≤1:=by cases difs x y<;>simp
    simp only at h2
    omega
theorem apart_ok {a b:Tx} (ha:a.all okL=true) (hb:b.all okL=true) (hl:a.length=b.length) (hs:a.length≤140737488355328):W.Jd a b=some (ap (a.map kDec) (b.map kDec)):=by
 have key:=Hx (fun t p=>t+(difs p.1 p.2).toNat) (fun _ _=>rfl) a b 0 ha hb hl
 have hz:(a.zip b).length=a.length:=by simp [hl]
 simp only [W.Jd]
 have hb2:∀(pre r:List (UInt8×UInt8)),a.zip b=pre++r→pre.foldl (fun t p=>t+(difs p.1 p.2).toNat) 0≤pre.length:=by
  intro pre
  have:∀(l:List (UInt8×UInt8)) (t:Nat),l.foldl (fun t p=>t+(difs p.1 p.2).toNat) t≤t+l.length:=by
   intro l
   induction l with
   | nil=>intro t;simp
   | cons p l ih=>
     intro t
     have h1:=ih (t+(difs p.1 p.2).toNat)
     have:(difs p.1 p.2).toNat≤1:=by cases difs p.1 p.2<;>simp
     simp only [List.foldl_cons,List.length_cons]
     omega
  intro r _
  have:=this pre 0
  omega
 rw [VD (l:=a.zip b) (t0:=0) (s0:=((0:Int),(0:Int))) (fun i (t:Nat)=>((t:Int),(i:Int))) (fun t p=>t+(difs p.1 p.2).toNat) (fun (t:Nat)=>((t:Int),((a.zip b).length:Int)))]
 ·simp only [ja]
  congr 1
  rw [Int.tmod_eq_emod_of_nonneg (by omega)]
  have h1:=key.1
  simp only [Nat.zero_mod] at h1
  have:(((a.zip b).foldl (fun t p=>t+(difs p.1 p.2).toNat) 0:Nat):Int) % 2=(((ap (a.map kDec) (b.map kDec)).toNat:Nat):Int):=by
   generalize (a.zip b).foldl (fun t p=>t+(difs p.1 p.2).toNat) 0=F at h1
   cases hap:ap (a.map kDec) (b.map kDec)<;>simp [hap] at h1 ⊢ <;> omega
  rw [this]
  cases ap (a.map kDec) (b.map kDec)<;>rfl
 ·rintro pre ⟨x,y⟩ r t hz' rfl
  obtain ⟨h1,h2,h3⟩:=zip_at hz'
  have h4:=hb2 pre _ hz'
  have c5:W.Jd.c5 a b (pre.length:Int) some=some (difs x y):=by
   simp only [W.Jd.c5,h1,h2,ja,UP,u8_73,u8_u8,br_if,difs]
   cases x==73<;>cases y==73<;>simp
  simp only [W.Jd.ca_,W.Jd.cn_,br_if,c5,ja]
  rw [if_pos (by simpa using h3)]
  cases difs x y
  ·rw [if_neg (by decide),ja,ji (by omega)]
   rfl
  ·rw [if_pos rfl,ji (by omega),ja,ji (by omega)]
   rfl
 ·simp only [W.Jd.ca_,br_if]
  rw [if_neg (by simp [hl])]
 ·rfl
theorem ispauli_ok (s:Tx) (n:Int) (hs:s.length≤140737488355328) (hn:n<9223372036854775808) :
 W.jA s n=some (if (decide (1≤n)&&isP s n.toNat)=true then ((kSgn s,s.drop 1),true) else ((false,[]),false)):=by
 have hc1:W.jA.c1 s n some=some (!(decide (1≤n)&&(decide (s.length=n.toNat+1)&&(s.getD 0 0==43||s.getD 0 0==45)))):=by
  simp only [W.jA.c1,br_if]
  by_cases h1:n<1
  ·rw [if_pos (by simpa using h1)]
   have:¬(1≤n):=by omega
   simp [this]
  ·rw [if_neg (by simpa using h1)]
   have h2:1≤n:=by omega
   have hw:(((s.length:Nat):Int) !=IntKind.i64.wrap (n+1))=!decide (s.length=n.toNat+1):=by
    rw [UP]
    congr 1
    rw [Bool.eq_iff_iff]
    simp only [beq_iff_eq,decide_eq_true_eq]
    by_cases hb:n<9223372036854775807
    ·rw [ji (by omega)];omega
    ·have:n=9223372036854775807:=by omega
     subst this
     rw [show IntKind.i64.wrap (9223372036854775807+1)=-9223372036854775808 by decide]
     omega
   rw [hw]
   cases hd:decide (s.length=n.toNat+1) with
   | false=>rw [if_pos (by simp)];simp
   | true=>
     rw [if_neg (by simp)]
     cases s with
     | nil=>simp at hd
     | cons a s=>
       simp only [show idx (a::s) 0=some a from rfl,ja,UP,u8_43,u8_45,List.getD_cons_zero,h2,decide_true,Bool.true_and]
       cases a==43<;>simp
 unfold W.jA
 simp only [hc1,ja,br_if]
 cases hA:(decide (1≤n)&&(decide (s.length=n.toNat+1)&&(s.getD 0 0==43||s.getD 0 0==45))) with
 | false=>
   rw [if_pos (by simp),if_neg]
   rw [isP,←Bool.and_assoc,hA]
   simp
 | true=>
   rw [if_neg (by simp)]
   have hA':=hA
   simp only [Bool.and_eq_true,decide_eq_true_eq] at hA
   obtain ⟨h1,hl,h43⟩:=hA
   obtain ⟨m,rfl⟩:=Int.eq_ofNat_of_zero_le (show 0≤n by omega)
   rw [Int.toNat_natCast] at hl
   have hc6:∀i,i+1<s.length→W.jA.c6 s ((i+1:Nat):Int) some=some (!okL (s.getD (i+1) 0)):=by
    intro i hi
    simp only [W.jA.c6,JJ hi,ja,UP,u8_73,u8_88,u8_89,u8_90,br_if,okL,List.getD,List.getElem?_eq_getElem hi,Option.getD_some]
    generalize s[i+1]=u
    cases u==73<;>cases u==88<;>cases u==89<;>simp
   have key:=kZ (f:=fun s_1:Int↦W.jA.cb_ s (m:Int) s_1 some)
    (P:=fun i st=>st=((i+1:Nat):Int)) m (fun i=>!okL (s.getD (i+1) 0)) (X:=fun _ _=>True) (Q:=fun _=>True) (s:=(1:Int))
    (by
     intro i st hi hs hp
     subst hs
     simp only [W.jA.cb_,br_if,hc6 i (by omega),ja]
     rw [if_pos (by simp;omega),if_pos hp]
     exact ⟨_,rfl,trivial⟩)
    (by
     intro i st hi hs hp
     subst hs
     simp only [W.jA.cb_,br_if,hc6 i (by omega),ja]
     rw [if_pos (by simp;omega),if_neg (by simpa using hp),ji (by omega)]
     exact ⟨_,rfl,by omega⟩)
    (by
     intro st hs
     subst hs
     simp only [W.jA.cb_,br_if]
     rw [if_neg (by simp;omega)]
     exact ⟨_,rfl,trivial⟩)
    rfl
   have hall:isP s m=(s.drop 1).all okL:=by
    rw [isP,show (decide (s.length=m+1)&&(s.getD 0 0==43||s.getD 0 0==45))=true by simpa [hl] using h43,Bool.true_and]
   rcases key with ⟨i,e,g1,g2,_⟩ | ⟨r,g1,g2,_⟩
   ·rw [g2]
    obtain ⟨_,g3,g4,_⟩:=Uc g1
    rw [ja,sel_inl,if_neg]
    rw [Int.toNat_natCast,hall]
    intro hh
    simp only [Bool.and_eq_true] at hh
    simp only [Bool.not_eq_true'] at g4
    have hi:i+1<s.length:=by omega
    have:=List.all_eq_true.1 hh.2 (s[i+1]) (by rw [List.mem_iff_getElem?];exact ⟨i,by simp [hi,Nat.add_comm]⟩)
    rw [List.getD,List.getElem?_eq_getElem hi,Option.getD_some] at g4
    rw [this] at g4;cases g4
   ·rw [g2,ja,Vg]
    have h0:idx s 0=some (s.getD 0 0):=by cases s<;>simp [idx] at hl ⊢
    have:(s.drop 1).all okL=true:=by
     rw [List.all_eq_true]
     intro u hu
     obtain ⟨i,hi⟩:=List.mem_iff_getElem?.1 hu
     have hi':i<m:=by
      have:=(List.getElem?_eq_some_iff.1 hi).1
      simp at this;omega
     have:=Vi.1 g1 i (by omega) (by omega)
     simp only [Bool.not_eq_false'] at this
     rw [List.getElem?_drop,Nat.add_comm] at hi
     rw [List.getD,hi] at this
     exact this
    rw [if_pos (by rw [Int.toNat_natCast,hall,this];simp;omega)]
    simp only [W.jA.c8,h0,ja,u8_45]
    rw [jB (by simp;omega)]
    simp only [ja,kSgn,Int.toNat_natCast,List.take_length]
end Go.Ql
end
section
set_option maxHeartbeats 1000000
namespace Go.Ql
def sp:List Nat→Nat→Bool
 | [],x=>x==0
 | v::vs,x=>sp vs x||sp vs (x^^^v)
theorem Ho:∀vs,sp vs 0=true
 | []=>rfl
 | v::vs=>by rw [sp,Ho vs];rfl
theorem UT (x y:Nat):x^^^y^^^y=x:=by rw [Nat.xor_assoc,Nat.xor_self,Nat.xor_zero]
theorem x_comm3 (x y z:Nat):x^^^y^^^z=x^^^z^^^y:=by rw [Nat.xor_assoc,Nat.xor_assoc,Nat.xor_comm y z]
theorem VS:∀{vs x y},sp vs x=true→sp vs y=true→sp vs (x^^^y)=true
 | [],x,y,h1,h2=>by
   simp only [sp,beq_iff_eq] at h1 h2 ⊢
   subst h1;subst h2;rfl
 | v::vs,x,y,h1,h2=>by
   simp only [sp,Bool.or_eq_true] at h1 h2 ⊢
   rcases h1 with h1 | h1<;>rcases h2 with h2 | h2
   ·exact .inl (VS h1 h2)
   ·exact .inr (by rw [Nat.xor_assoc];exact VS h1 h2)
   ·exact .inr (by rw [x_comm3];exact VS h1 h2)
   ·have:=VS h1 h2
    refine .inl ?_
    rwa [show x^^^v^^^(y^^^v)=x^^^y by rw [←Nat.xor_assoc,x_comm3 x v y,UT]] at this
theorem Hn:∀(vs:List Nat) (v x:Nat),sp (vs++[v]) x=(sp vs x||sp vs (x^^^v))
 | [],v,x=>by simp [sp]
 | u::vs,v,x=>by
   simp only [List.cons_append,sp,Hn vs]
   rw [x_comm3 x u v]
   cases sp vs x<;>cases sp vs (x^^^u)<;>cases sp vs (x^^^v)<;>simp
def bl (x:Nat):Nat:=if x=0 then 0 else x.log2+1
theorem bl_le {x k:Nat}:bl x≤k↔x<2^k:=by
 unfold bl
 by_cases h:x=0
 ·subst h;simp;exact Nat.two_pow_pos k
 ·rw [if_neg h,←Nat.log2_lt h];omega
theorem bl_pos {x:Nat} (h:x≠0):0<bl x:=by unfold bl;rw [if_neg h];omega
theorem bl_ge {x k:Nat} (h:bl x=k+1):2^k≤x:=by
 rcases Nat.lt_or_ge x (2^k) with h1 | h1
 ·have:=bl_le.2 h1
  omega
 ·exact h1
theorem bl_bit {x k:Nat} (h:bl x=k+1):x.testBit k=true:=
 Nat.testBit_of_two_pow_le_and_two_pow_add_one_gt (bl_ge h) (bl_le.1 (by omega))
theorem bl_same {x y:Nat} (hx:x≠0) (h:bl x=bl y):bl (x^^^y)<bl x:=by
 obtain ⟨k,hk⟩:∃k,bl x=k+1:=⟨bl x-1,by have:=bl_pos hx;omega⟩
 have hk':bl y=k+1:=h▸hk
 have:bl (x^^^y)≤k:=bl_le.2 (Nat.lt_pow_two_of_testBit _ fun i hi=>by
  rw [Nat.testBit_xor]
  by_cases hik:i=k
  ·subst hik;rw [bl_bit hk,bl_bit hk'];rfl
  ·rw [Nat.testBit_lt_two_pow (Nat.lt_of_lt_of_le (bl_le.1 (Nat.le_of_eq hk)) (Nat.pow_le_pow_right (by decide) (by omega))),
    Nat.testBit_lt_two_pow (Nat.lt_of_lt_of_le (bl_le.1 (Nat.le_of_eq hk')) (Nat.pow_le_pow_right (by decide) (by omega)))]
   rfl)
 omega
theorem bl_diff {x y:Nat} (h:bl x<bl y):bl (x^^^y)=bl y:=by
 obtain ⟨k,hk⟩:∃k,bl y=k+1:=⟨bl y-1,by omega⟩
 have h1:x<2^k:=bl_le.1 (by omega)
 have h2:y<2^(k+1):=bl_le.1 (by omega)
 have h3:x^^^y<2^(k+1):=Nat.xor_lt_two_pow (Nat.lt_of_lt_of_le h1 (Nat.pow_le_pow_right (by decide) (by omega))) h2
 have h4:(x^^^y).testBit k=true:=by rw [Nat.testBit_xor,Nat.testBit_lt_two_pow h1,bl_bit hk];rfl
 have h5:¬bl (x^^^y)≤k:=fun hh=>by
  rw [Nat.testBit_lt_two_pow (bl_le.1 hh)] at h4;cases h4
 have:=bl_le.2 h3
 omega
def Ech:List Nat→Prop
 | []=>True
 | w::r=>w≠0∧w<2^28∧(∀u∈r,bl u≠bl w)∧Ech r
theorem Ech.mem:∀{es:List Nat},Ech es → ∀w∈es,w≠0∧w<2^28
 | _::_,h,w,hw=>by
   rcases List.mem_cons.1 hw with rfl | hw
   ·exact ⟨h.1,h.2.1⟩
   ·exact Ech.mem h.2.2.2 w hw
theorem Ech.snoc:∀{es:List Nat} {r:Nat},Ech es→r≠0→r<2^28→(∀w∈es,bl w≠bl r)→Ech (es++[r])
 | [],r,_,h1,h2,_=>⟨h1,h2,(fun _ h=>nomatch h),trivial⟩
 | w::es,r,h,h1,h2,h3=>⟨h.1,h.2.1,fun u hu=>by
  rcases List.mem_append.1 hu with hu | hu
  ·exact h.2.2.1 u hu
  ·rw [List.mem_singleton.1 hu]
   exact Ne.symm (h3 w (List.mem_cons_self ..)),h.2.2.2.snoc h1 h2 fun u hu=>h3 u (List.mem_cons_of_mem _ hu)⟩
theorem Ech.lead:∀{es:List Nat} {x:Nat},Ech es→sp es x=true→x≠0 → ∃w∈es,bl w=bl x
 | [],x,_,h,hx=>by simp [sp] at h;exact absurd h hx
 | w::es,x,he,h,hx=>by
   simp only [sp,Bool.or_eq_true] at h
   rcases h with h | h
   ·obtain ⟨u,h1,h2⟩:=Ech.lead he.2.2.2 h hx
    exact ⟨u,List.mem_cons_of_mem _ h1,h2⟩
   ·by_cases h0:x^^^w=0
    ·have:x=w:=by have:=UT x w;rw [h0,Nat.zero_xor] at this;exact this.symm
     exact ⟨w,List.mem_cons_self ..,by rw [this]⟩
    ·obtain ⟨u,h1,h2⟩:=Ech.lead he.2.2.2 h h0
     have h3:=he.2.2.1 u h1
     have hx':x=(x^^^w)^^^w:=(UT x w).symm
     rcases Nat.lt_or_ge (bl (x^^^w)) (bl w) with h4 | h4
     ·exact ⟨w,List.mem_cons_self ..,by rw [hx',bl_diff h4]⟩
     ·refine ⟨u,List.mem_cons_of_mem _ h1,?_⟩
      rw [hx',Nat.xor_comm,bl_diff (by omega),h2]
theorem len_small:∀x:Fin 256,W.jH (x.val:Int)=some (bl x.val:Int):=by decide +kernel
theorem bl_div {x k:Nat} (h:2^k≤x):bl x=bl (x / 2^k)+k:=by
 have key:∀j,bl x≤j+k↔bl (x / 2^k)≤j:=fun j=>by
  rw [bl_le,bl_le,Nat.pow_add,Nat.div_lt_iff_lt_mul (Nat.two_pow_pos k)]
 have h1:k<bl x:=by
  rcases Nat.lt_or_ge k (bl x) with h1 | h1
  ·exact h1
  ·have:=bl_le.1 h1
   omega
 have h2:=(key (bl x-k)).1 (by omega)
 have h3:=(key (bl (x / 2^k))).2 (Nat.le_refl _)
 omega
theorem kLen_ok {v:Nat} (h:v<4294967296):W.jH (v:Int)=some (bl v:Int):=by
 have last:∀(x n:Nat),x<256→n≤24→bl v=bl x+n → ∀o:Option UInt8,
  (bnd o fun y=>some (IntKind.i64.wrap (0+IntKind.i64.wrap (↑(UInt8.toNat y):Int))))=some (bl x:Int) →
  (bnd o fun y=>some (IntKind.i64.wrap ((n:Int)+IntKind.i64.wrap (↑(UInt8.toNat y):Int))))=some (bl v:Int):=fun x n hx hn he o ho=>by
  cases o with
  | none=>cases ho
  | some u=>
    have hu:=UInt8.toNat_lt u
    simp only [ja] at ho ⊢
    rw [ji (x:=((u.toNat:Nat):Int)) (by omega),ji (by omega)] at ho ⊢
    have:=Option.some.inj ho
    congr 1
    omega
 have small:=fun (x:Nat) (hx:x<256)=>len_small ⟨x,hx⟩
 simp only [W.jH,W.jH.cp_,W.jH.cz_,W.jH.cab_,br_if] at small ⊢
 have small':∀x:Nat,x<256→_:=fun x hx=>by
  have hs:=small x hx
  rw [if_neg (by simp;omega),ja,if_neg (by simp;omega),ja,if_neg (by simp;omega),ja] at hs
  exact hs
 have dv:∀(x k:Nat),Int.fdiv (x:Int) ((2:Int)^k)=((x / 2^k:Nat):Int):=fun x k=>by
  rw [Int.fdiv_eq_ediv_of_nonneg _ (by exact Int.le_of_lt (Int.pow_pos (by decide)))]
  simp
 rw [if_neg (by simp;omega),ja]
 by_cases h1:65536≤v
 ·have e1:=bl_div (x:=v) (k:=16) (by omega)
  rw [if_pos (by simp;omega),ja,dv,ji (by omega)]
  by_cases h2:256≤v / 65536
  ·have e2:=bl_div (x:=v / 2^16) (k:=8) (by omega)
   rw [if_pos (by simp;omega),ja,dv,ji (by omega)]
   have hs:=small' (v / 2^16 / 2^8) (by omega)
   revert hs
   generalize idx _ _=o
   exact last _ 24 (by omega) (by omega) (by omega) o
  ·rw [if_neg (by simp;omega),ja]
   have hs:=small' (v / 2^16) (by omega)
   revert hs
   generalize idx _ _=o
   exact last _ 16 (by omega) (by omega) (by omega) o
 ·rw [if_neg (by simp;omega),ja]
  by_cases h2:256≤v
  ·have e2:=bl_div (x:=v) (k:=8) (by omega)
   rw [if_pos (by simp;omega),ja,dv,ji (by omega)]
   have hs:=small' (v / 2^8) (by omega)
   revert hs
   generalize idx _ _=o
   exact last _ 8 (by omega) (by omega) (by omega) o
  ·rw [if_neg (by simp;omega),ja]
   exact small' v (by omega)
def Bmap (es:List Nat):List (List (Int×Int)):=[es.map fun w=>((bl w:Int),(w:Int))]
theorem mfind_B:∀(es:List Nat) (n:Nat),(∃w∈es,bl w=n∧mfind (es.map fun w=>((bl w:Int),(w:Int))) (n:Int)=some (w:Int))∨(mfind (es.map fun w=>((bl w:Int),(w:Int))) (n:Int)=none ∧ ∀w∈es,bl w≠n)
 | [],n=>.inr ⟨rfl,fun _ h=>nomatch h⟩
 | w::es,n=>by
   by_cases h:bl w=n
   ·exact .inl ⟨w,List.mem_cons_self ..,h,by simp [mfind,h]⟩
   ·have e:mfind ((w::es).map fun w=>((bl w:Int),(w:Int))) (n:Int)=mfind (es.map fun w=>((bl w:Int),(w:Int))) (n:Int):=by
     rw [List.map_cons,mfind,show decide ((bl w:Int)=(n:Int))=false by simp;omega]
     rfl
    rcases mfind_B es n with ⟨u,h1,h2,h3⟩ | ⟨h1,h2⟩
    ·exact .inl ⟨u,List.mem_cons_of_mem _ h1,h2,by rw [e,h3]⟩
    ·refine .inr ⟨by rw [e,h1],fun u hu=>?_⟩
     rcases List.mem_cons.1 hu with rfl | hu
     ·exact h
     ·exact h2 u hu
theorem mput_B:∀(es:List Nat) (r:Nat),(∀w∈es,bl w≠bl r)→mset (es.map fun w=>((bl w:Int),(w:Int))) (bl r:Int) (r:Int)=(es++[r]).map fun w=>((bl w:Int),(w:Int))
 | [],r,_=>rfl
 | w::es,r,h=>by
   have h1:=h w (List.mem_cons_self ..)
   have h2:=mput_B es r fun u hu=>h u (List.mem_cons_of_mem _ hu)
   rw [List.map_cons,List.cons_append,List.map_cons,←h2]
   rw [mset,show decide ((bl w:Int)=(bl r:Int))=false by simp;omega]
   rfl
theorem rest_ok {es:List Nat} {v:Nat} (he:Ech es) (hv:v<2^28):∃r:Nat,W.jK (v:Int) (Bmap es)=some ((r:Int),Bmap es,())∧r<2^28∧sp es (v^^^r)=true∧(r=0 ∨ ∀w∈es,bl w≠bl r):=by
 obtain ⟨x,h1,h2⟩:=JG (f:=fun s↦W.jK.cj_ s (Bmap es) some) (J:=fun s=>∃n:Nat,s=(n:Int)∧n<2^28∧sp es (v^^^n)=true)
  (Q:=fun x=>(∃n:Nat,x=.inl ((n:Int),(n:Int))∧n<2^28∧sp es (v^^^n)=true ∧ ∀w∈es,bl w≠bl n)∨x=.inr (0:Int)∧sp es v=true)
  (fun s=>bl s.toNat) (by
   rintro s ⟨n,rfl,hn,hs⟩
   simp only [W.jK.cj_]
   by_cases h0:n=0
   ·subst h0
    rw [JQ (by simp)]
    exact .inl ⟨_,rfl,.inr ⟨rfl,by simpa using hs⟩⟩
   ·rw [ko (by simp;omega),kLen_ok (by omega),ja]
    rcases mfind_B es (bl n) with ⟨w,g1,g2,g3⟩ | ⟨g1,g2⟩
    ·rw [show mget (Bmap es) (bl n:Int)=some (w:Int) from g3,JQ (b:=!Option.isSome (some (w:Int))) rfl]
     refine .inr ⟨_,rfl,⟨n^^^w,?_,?_,?_⟩,?_⟩
     ·exact ixor64 (by omega) (by have:=(he.mem w g1).2;omega)
     ·exact Nat.xor_lt_two_pow hn (he.mem w g1).2
     ·rw [←Nat.xor_assoc]
      have:sp es w=true:=by
       clear hs g3
       induction es with
       | nil=>cases g1
       | cons u es ih=>
         rw [sp,Bool.or_eq_true]
         rcases List.mem_cons.1 g1 with rfl | g1
         ·exact .inr (by rw [Nat.xor_self];exact Ho es)
         ·exact .inl (ih he.2.2.2 g1)
      exact VS hs this
     ·show bl (ibits .xor .u64 (n:Int) (w:Int)).toNat<_
      rw [ixor64 (by omega) (by have:=(he.mem w g1).2;omega),Int.toNat_natCast,Int.toNat_natCast]
      exact bl_same h0 g2.symm
    ·rw [show mget (Bmap es) (bl n:Int)=none from g1,ko (b:=!Option.isSome (none:Option Int)) rfl]
     exact .inl ⟨_,rfl,.inl ⟨n,rfl,hn,hs,g2⟩⟩)
  (s:=(v:Int)) ⟨v,rfl,hv,by rw [Nat.xor_self];exact Ho es⟩
 simp only [W.jK,h1,ja]
 rcases h2 with ⟨n,rfl,h3,h4,h5⟩ | ⟨rfl,h3⟩
 ·exact ⟨n,rfl,h3,h4,.inr h5⟩
 ·exact ⟨0,rfl,by decide,by rw [Nat.xor_zero];exact h3,.inl rfl⟩
theorem vector_ok {x z:Nat} (hx:x<4096) (hz:z<4096):W.JV [(x:Int),(z:Int)]=some ((x*65536+z:Nat):Int):=by
 simp only [W.JV]
 rw [show idx [(x:Int),(z:Int)] 0=some (x:Int) from rfl,show idx [(x:Int),(z:Int)] 1=some (z:Int) from rfl]
 simp only [ja]
 rw [Js (by omega),show (x:Int)*2^16=((2^16*x:Nat):Int) by omega,ior64 (by omega) (by omega),
  ←Nat.two_pow_add_eq_or_of_lt (by omega)]
 congr 2
 omega
theorem kAdd_ok {es:List Nat} {x z:Nat} (he:Ech es) (hx:x<4096) (hz:z<4096) :
 (sp es (x*65536+z)=true∧W.Jw [(x:Int),(z:Int)] (Bmap es)=some (false,Bmap es,())) ∨
 ∃r:Nat,sp es (x*65536+z)=false∧W.Jw [(x:Int),(z:Int)] (Bmap es)=some (true,Bmap (es++[r]),())∧Ech (es++[r])∧sp es ((x*65536+z)^^^r)=true:=by
 obtain ⟨r,h1,h2,h3,h4⟩:=rest_ok (v:=x*65536+z) he (by omega)
 simp only [W.Jw]
 rw [vector_ok hx hz]
 simp only [ja,uP,h1]
 by_cases h0:r=0
 ·subst h0
  exact .inl ⟨by rw [Nat.xor_zero] at h3;exact h3,rfl⟩
 ·right
  have h5:∀w∈es,bl w≠bl r:=h4.resolve_left h0
  refine ⟨r,?_,?_,he.snoc h0 h2 h5,h3⟩
  ·rw [Bool.eq_false_iff]
   intro hh
   have:=VS hh h3
   rw [←Nat.xor_assoc,Nat.xor_self,Nat.zero_xor] at this
   obtain ⟨w,g1,g2⟩:=he.lead this h0
   exact h5 w g1 g2
  ·rw [JQ (by simp;omega),kLen_ok (by omega)]
   simp only [ja]
   rw [show mput (Bmap es) (bl r:Int) (r:Int)=Bmap (es++[r]) from congrArg (fun l=>[l]) (mput_B es r h5)]
end Go.Ql
end
section
set_option maxHeartbeats 1000000
namespace Go.Ql
def mul1 (a b:Lt):Lt:=(a.1 !=b.1,a.2 !=b.2)
def mul (w v:Wd):Wd:=List.zipWith mul1 w v
def vec (w:Wd):Nat:=xs w*65536+zs w
theorem YU {w v:Wd} (h:w.length=v.length):(mul w v).length=w.length:=by simp [mul,h]
theorem mul_mul:∀{w v:Wd},w.length=v.length→mul (mul w v) v=w
 | [],[],_=>rfl
 | a::w,b::v,h=>by
   have:=mul_mul (w:=w) (v:=v) (by simpa using h)
   simp only [mul] at this ⊢
   simp only [List.zipWith_cons_cons,this]
   obtain ⟨a1,a2⟩:=a
   obtain ⟨b1,b2⟩:=b
   cases a1<;>cases a2<;>cases b1<;>cases b2<;>rfl
def vbits (w:Wd):List Bool:=zl w++(List.replicate (16-w.length) false++xl w)
theorem vec_bits {w:Wd} (h:w.length≤16):vec w=pack (vbits w):=by
 rw [vbits,Ux,Ux,pack_falses,Vh,List.length_replicate,Nat.zero_add,←Nat.mul_assoc,←Nat.pow_add,show w.length+(16-w.length)=16 by omega]
 unfold vec xs zs
 omega
theorem vbits_len {w:Wd}:(vbits w).length=w.length+(16-w.length)+w.length:=by simp [vbits,Vh,VT];omega
theorem xl_mul:∀(w v:Wd),xl (mul w v)=List.zipWith (· != ·) (xl w) (xl v)
 | [],v=>by cases v<;>rfl
 | a::w,[]=>rfl
 | a::w,b::v=>by
   have:=xl_mul w v
   simp only [xl,mul,List.zipWith_cons_cons,List.map_cons] at this ⊢
   rw [this];rfl
theorem zl_mul:∀(w v:Wd),zl (mul w v)=List.zipWith (· != ·) (zl w) (zl v)
 | [],v=>by cases v<;>rfl
 | a::w,[]=>rfl
 | a::w,b::v=>by
   have:=zl_mul w v
   simp only [zl,mul,List.zipWith_cons_cons,List.map_cons] at this ⊢
   rw [this];rfl
theorem vec_xor {w v:Wd} (h:w.length=v.length) (hn:w.length≤16):vec w^^^vec v=vec (mul w v):=by
 rw [vec_bits hn,vec_bits (by omega),vec_bits (by rw [YU h];exact hn),pack_xor _ _ (by rw [vbits_len,vbits_len,h])]
 unfold vbits
 rw [List.zipWith_append (by rw [Vh,Vh,h]),List.zipWith_append (by rw [h]),xl_mul,zl_mul,YU h,h]
 congr 3
 generalize 16-v.length=k
 induction k with
 | zero=>rfl
 | succ k ih=>rw [List.replicate_succ,List.zipWith_cons_cons,ih];rfl
theorem vec_inj {w v:Wd} (h:w.length=v.length) (hn:w.length≤16) (he:vec w=vec v):w=v:=by
 have h1:=zs_lt w;have h2:=zs_lt v
 have h3:(2:Nat)^w.length≤2^16:=Nat.pow_le_pow_right (by decide) hn
 rw [←h] at h2
 unfold vec at he
 have e1:xl w=xl v:=pack_inj (by rw [VT,VT,h]) (show xs w=xs v by omega)
 have e2:zl w=zl v:=pack_inj (by rw [Vh,Vh,h]) (show zs w=zs v by omega)
 apply List.ext_getElem h
 intro i i1 i2
 have g1:(xl w)[i]?=(xl v)[i]?:=by rw [e1]
 have g2:(zl w)[i]?=(zl v)[i]?:=by rw [e2]
 simp only [xl,zl,List.getElem?_map,List.getElem?_eq_getElem i1,List.getElem?_eq_getElem i2,Option.map_some,Option.some.injEq] at g1 g2
 exact Prod.ext g1 g2
def one (n:Nat):Wd:=List.replicate n (false,false)
theorem Vu (n:Nat):vec (one n)=0:=by
 simp [vec,xs,zs,xl,zl,one,pack_falses]
theorem VK (n:Nat):(one n).length=n:=by simp [one]
def grp (n:Nat) (ws:List Wd):List Wd:=ws.foldl (fun out w=>out++out.map fun g=>mul g w) [one n]
theorem grp_go {n:Nat} (hn:n≤16):∀(ws:List Wd) (acc:List Wd) (S:List Nat),(∀w∈ws,w.length=n)→(∀v,v∈acc↔v.length=n∧sp S (vec v)=true) →
 ∀v,v∈ws.foldl (fun out w=>out++out.map fun g=>mul g w) acc↔v.length=n∧sp (S++ws.map vec) (vec v)=true
 | [],acc,S,_,h,v=>by simp [h v]
 | w::ws,acc,S,hw,h,v=>by
   have hl:=hw w (List.mem_cons_self ..)
   rw [List.foldl_cons,grp_go hn ws _ (S++[vec w]) (fun u hu=>hw u (List.mem_cons_of_mem _ hu)) (fun v=>?_),List.map_cons,List.append_assoc,List.singleton_append]
   rw [Hn,List.mem_append,List.mem_map,h v,Bool.or_eq_true]
   constructor
   ·rintro (⟨h1,h2⟩ | ⟨g,h1,rfl⟩)
    ·exact ⟨h1,.inl h2⟩
    ·obtain ⟨g1,g2⟩:=(h g).1 h1
     refine ⟨by rw [YU (by omega)];exact g1,.inr ?_⟩
     rw [vec_xor (by rw [YU (by omega)];omega) (by rw [YU (by omega)];omega),mul_mul (by omega)]
     exact g2
   ·rintro ⟨h1,h2 | h2⟩
    ·exact .inl ⟨h1,h2⟩
    ·refine .inr ⟨mul v w,(h _).2 ⟨by rw [YU (by omega)];exact h1,?_⟩,mul_mul (by omega)⟩
     rw [←vec_xor (by omega) (by omega)]
     exact h2
theorem Hi {n:Nat} (hn:n≤16) {ws:List Wd} (hw:∀w∈ws,w.length=n) (v:Wd):v∈grp n ws↔v.length=n∧sp (ws.map vec) (vec v)=true:=by
 rw [grp,grp_go hn ws _ [] hw (fun v=>?_),List.nil_append]
 rw [List.mem_singleton]
 constructor
 ·rintro rfl
  exact ⟨VK n,by rw [Vu];rfl⟩
 ·rintro ⟨h1,h2⟩
  refine vec_inj (by rw [VK];exact h1) (by omega) ?_
  rw [Vu]
  simpa [sp] using h2
theorem Hh {n:Nat}:∀(ws:List Wd) (acc:List Wd),(ws.foldl (fun out w=>out++out.map fun g=>mul g w) acc).length=acc.length*2^ws.length
 | [],acc=>by simp
 | w::ws,acc=>by
   rw [List.foldl_cons,Hh (n:=n) ws,List.length_append,List.length_map,List.length_cons,Nat.pow_succ]
   grind
theorem grp_take {n:Nat} {ws:List Wd} {i:Nat} (h:i<ws.length):grp n (ws.take (i+1))=grp n (ws.take i)++(grp n (ws.take i)).map fun g=>mul g ws[i]:=by
 rw [grp,List.take_succ_eq_append_getElem h,List.foldl_append]
 rfl
def txt (w:Wd):Tx:=w.map enc
theorem kI (w:Wd):(txt w).length=w.length:=by simp [txt]
theorem Vs (w:Wd):(txt w).map kDec=w:=map_dec_enc w
theorem UN (w:Wd):(txt w).all okL=true:=all_enc w
theorem sub_one {A:Type} {l:List A} {i:Nat} (h:i<l.length):List.drop i (List.take (i+1) l)=[l[i]]:=by
 rw [List.take_succ_eq_append_getElem h,List.drop_append_of_le_length (by simp;omega),List.drop_of_length_le (by simp;omega)]
 rfl
def tl (x y:UInt8):UInt8:=enc (mul1 (kDec x) (kDec y))
theorem third {a b:Tx} {i:Int} {x y:UInt8} (ea:idx a i=some x) (eb:idx b i=some y) (hx:x=88∨x=89∨x=90) (hy:y=88∨y=89∨y=90) (h:x≠y) (c:Tx) :
 iter (fun s↦W.jh.cl_ a b i (Prod.fst s) (Prod.snd s) some) (c,(0:Int))=some ([tl x y],(3:Int)):=by
 rcases hx with rfl | rfl | rfl<;>rcases hy with rfl | rfl | rfl<;>first | exact absurd rfl h | (
  refine YA (s':=(?_,(1:Int))) (by simp only [W.jh.cl_,W.jh.cP_,W.jh.c15,ea,eb];rfl)
   (YA (s':=(?_,(2:Int))) (by simp only [W.jh.cl_,W.jh.cP_,W.jh.c15,ea,eb];rfl)
   (YA (s':=(?_,(3:Int))) (by simp only [W.jh.cl_,W.jh.cP_,W.jh.c15,ea,eb];rfl) (Yq rfl))))
theorem times_one {a b:Tx} {i:Nat} (hi:i<a.length) (hj:i<b.length) (hs:a.length≤140737488355328) (hx:okL a[i]=true) (hy:okL b[i]=true):W.jh.cT_ a b (i:Int) [a[i]] some=some [tl a[i] b[i]]:=by
 have ea:idx a (i:Int)=some a[i]:=JJ hi
 have eb:idx b (i:Int)=some b[i]:=JJ hj
 have e73:∀u:UInt8,u≠73→(u==73)=false:=fun u h=>by simpa using h
 simp only [W.jh.cT_,W.jh.c8,ea,eb,ja,u8_73,UP,u8_u8,br_if]
 by_cases h1:a[i]=73
 ·rw [if_pos (by simpa using h1),ji (by omega),jB (by simp;omega),ja,show ((i:Int)+1)=((i+1:Nat):Int) by omega,Int.toNat_natCast,Int.toNat_natCast,sub_one hj,h1]
  rcases Vr.1 hy with h | h | h | h<;>rw [h]<;>rfl
 ·rw [if_neg (by simpa using h1)]
  by_cases h2:a[i]=b[i]
  ·rw [if_pos (by simpa using h2),h2]
   rcases Vr.1 hy with h | h | h | h<;>rw [h]<;>rfl
  ·rw [if_neg (by simpa using h2)]
   by_cases h3:b[i]=73
   ·rw [if_neg (by simpa using h3),h3]
    rcases Vr.1 hx with h | h | h | h<;>rw [h]<;>rfl
   ·rw [if_pos (by simpa using h3),third ea eb ((Vr.1 hx).resolve_left h1) ((Vr.1 hy).resolve_left h3) h2]
    rfl
theorem VC {A B:Type} (g:A→B):∀(l:List A) (acc:List B),l.foldl (fun t p=>t++[g p]) acc=acc++l.map g
 | [],acc=>by simp
 | a::l,acc=>by rw [List.foldl_cons,VC g l];simp
theorem times_ok {a b:Tx} (ha:a.all okL=true) (hb:b.all okL=true) (hl:a.length=b.length) (hs:a.length≤140737488355328) :
 W.jh a b=some (txt (mul (a.map kDec) (b.map kDec))):=by
 have hz:(a.zip b).length=a.length:=by simp [hl]
 simp only [W.jh]
 rw [VD (l:=a.zip b) (t0:=([]:Tx)) (s0:=(([]:Tx),(0:Int))) (fun i (t:Tx)=>(t,(i:Int))) (fun t p=>t++[tl p.1 p.2]) (fun (t:Tx)=>(t,((a.zip b).length:Int)))]
 ·rw [ja,VC]
  congr 1
  clear hz hs
  induction a generalizing b with
  | nil=>rfl
  | cons x a ih=>
    cases b with
    | nil=>rfl
    | cons y b=>
      simp only [List.all_cons,Bool.and_eq_true] at ha hb
      have:=ih ha.2 hb.2 (by simpa using hl)
      simp only [List.nil_append,txt,mul] at this ⊢
      simp only [List.zip_cons_cons,List.map_cons,List.zipWith_cons_cons]
      exact congrArg (List.cons _) this
 ·rintro pre ⟨x,y⟩ r t hz' rfl
  obtain ⟨h1,h2,h3⟩:=zip_at hz'
  have h4:pre.length<b.length:=by omega
  rw [JJ h3] at h1
  rw [JJ h4] at h2
  cases h1;cases h2
  have ox:=List.all_eq_true.1 ha a[pre.length] (List.getElem_mem h3)
  have oy:=List.all_eq_true.1 hb b[pre.length] (List.getElem_mem h4)
  simp only [W.jh.ca_,br_if]
  rw [if_pos (by simpa using h3),ji (by omega),jB (by simp;omega),ja,show ((pre.length:Int)+1)=((pre.length+1:Nat):Int) by omega,Int.toNat_natCast,Int.toNat_natCast,
   sub_one h3,times_one h3 h4 hs ox oy,ja,VC,jB (by simp;omega),ja]
 ·simp only [W.jh.ca_,br_if]
  rw [if_neg (by simp [hl])]
 ·rfl
theorem bare_ok (gs:List Tx) (h:∀g∈gs,1≤g.length) (hn:gs.length≤8796093022208):W.kb gs=some (gs.map (List.drop 1)):=by
 simp only [W.kb]
 rw [VD (l:=gs) (t0:=([]:List Tx)) (s0:=((0:Int),([]:List Tx))) (fun i t=>((i:Int),t)) (fun t g=>t++[g.drop 1]) (fun t=>((gs.length:Int),t))]
 ·rw [ja,VC];rfl
 ·rintro pre g r t hz rfl
  subst hz
  have hg:=h g (by simp)
  simp only [List.length_append,List.length_cons] at hn
  simp only [W.kb.ca_,br_if,idx_mid,ja]
  rw [if_pos lt_app,jB (by simp;omega),ja,jB (by rw [VC];simp;omega),ja,ji (by omega),Int.toNat_natCast,List.take_length]
  rfl
 ·simp only [W.kb.ca_,br_if]
  rw [if_neg (by simp)]
 ·rfl
theorem group_ok {n:Nat} {ws:List Wd} (hw:∀w∈ws,w.length=n) (hk:ws.length≤12) (hn:n≤12) :
 W.jD (ws.map txt)=some (if ws=[] then [] else (grp n ws).map txt):=by
 have hgl:∀i,(grp n (ws.take i)).length≤4096:=fun i=>by
  rw [grp,Hh (n:=n),List.length_take]
  have:(2:Nat)^(min i ws.length)≤2^12:=Nat.pow_le_pow_right (by decide) (by omega)
  simp only [List.length_singleton];omega
 simp only [W.jD]
 obtain ⟨x,h1,h2⟩:=Ud (f:=fun s↦W.jD.ca_ (ws.map txt) (Prod.fst s) (Prod.snd s) some) ws.length
  (fun i s=>s=(if i=0 then [] else (grp n (ws.take i)).map txt,(i:Int))) (fun x=>x.1=(if ws=[] then [] else (grp n ws).map txt))
  (by
   rintro i s hi rfl
   have hwi:ws[i].length=n:=hw _ (List.getElem_mem hi)
   have hg:idx (ws.map txt) (i:Int)=some (txt ws[i]):=by rw [JJ (by simpa using hi)];simp
   have h16:W.jD.cF_ (ws.map txt) (if i=0 then [] else (grp n (ws.take i)).map txt) (i:Int) some=some ((grp n (ws.take i)).map txt):=by
    simp only [W.jD.cF_,br_if]
    by_cases h0:i=0
    ·subst h0
     rw [if_pos (by simp),Yg (s0:=((ByteArray.mk #[]).data.toList,(0:Int))) n (fun k=>(List.replicate k 73,(k:Int))) (List.replicate n 73,(n:Int))]
     ·simp [ja,grp,txt,one,enc]
     ·intro k hk'
      simp only [W.jD.ch_,show idx (ws.map txt) 0=some (txt ws[0]) from hg,ja,br_if]
      rw [if_pos (by simp [kI,hwi];omega),jB (by simp;omega),ja,ji (by omega)]
      congr 3
      exact List.replicate_succ'.symm
     ·simp only [W.jD.ch_,show idx (ws.map txt) 0=some (txt ws[0]) from hg,ja,br_if]
      rw [if_neg (by simp [kI,hwi])]
     ·rfl
    ·rw [if_neg (by simp;omega),if_neg h0]
   have hb:=hgl i
   simp only [W.jD.ca_,br_if,h16,ja]
   rw [if_pos (by simp;omega),jB (by simp;omega),ja,
    Yg (s0:=((0:Int),(grp n (ws.take i)).map txt)) (grp n (ws.take i)).length (fun k=>((k:Int),(grp n (ws.take i)).map txt++(((grp n (ws.take i)).take k).map fun g=>txt (mul g ws[i])))) (((grp n (ws.take i)).length:Int),(grp n (ws.take i)).map txt++((grp n (ws.take i)).map fun g=>txt (mul g ws[i])))]
   ·refine .inl ⟨_,rfl,?_⟩
    simp only [ja]
    rw [ji (by omega),if_neg (by omega),grp_take hi,List.map_append,List.map_map]
    rfl
   ·intro k hk'
    have hgk:((grp n (ws.take i))[k]).length=n:=((Hi (by omega) (fun w h=>hw w (List.mem_of_mem_take h)) _).1 (List.getElem_mem hk')).1
    simp only [W.jD.cs_,W.jD.c16,br_if,hg,JJ (l:=(grp n (ws.take i)).map txt) (i:=k) (by simpa using hk'),ja,List.getElem_map]
    rw [if_pos (by simpa using hk'),times_ok (UN _) (UN _) (by rw [kI,kI,hgk,hwi]) (by rw [kI];omega),Vs,Vs,ja,jB (by simp;omega),ja,ja,ji (by omega)]
    rw [List.take_succ_eq_append_getElem hk',List.map_append,←List.append_assoc]
    rfl
   ·simp only [W.jD.cs_,br_if]
    rw [if_neg (by simp),List.take_length]
   ·simp)
  (by
   rintro s rfl
   simp only [W.jD.ca_,br_if]
   rw [if_neg (by simp)]
   refine ⟨_,rfl,?_⟩
   rw [List.take_length]
   cases ws<;>simp)
  (s:=(([]:List Tx),(0:Int))) rfl
 rw [h1,ja,h2]
end Go.Ql
end
section
set_option maxHeartbeats 1000000
namespace Go.Ql
def wds (gs:List Tx):List Wd:=gs.map wd
def nmeet (ws:List Wd) (i:Nat):Bool:=(ws.take i).any fun v=>ap (ws.getD i []) v
def ndep (ws:List Wd) (i:Nat):Bool:=sp ((ws.take i).map vec) (vec (ws.getD i []))
def chkC (n:Int) (gs:List Tx):Int×Int:=
 if n<1∨12<n then (6,0) else if n<gs.length then (21,0) else
 match fstF (fun i=>!isP (gs.getD i []) n.toNat) 0 gs.length with
 | some i=>(33,(i:Int))
 | none=>match fstF (nmeet (wds gs)) 0 gs.length with
   | some i=>(34,(i:Int))
   | none=>match fstF (ndep (wds gs)) 0 gs.length with
     | some i=>(35,(i:Int))
     | none=>(0,0)
def WTxs (gs:List Tx):Prop:=gs.length≤8796093022208 ∧ ∀g∈gs,g.length≤140737488355328
theorem JW {A:Type} {l:List A} {i:Nat} {d:A} (h:i<l.length):l.getD i d=l[i]:=by
 rw [List.getD,List.getElem?_eq_getElem h,Option.getD_some]
theorem txt_inj {w v:Wd} (h:txt w=txt v):w=v:=by
 have:=congrArg (List.map kDec) h
 rwa [Vs,Vs] at this
theorem txt_beq (w v:Wd):(txt w==txt v)=(w==v):=by
 rw [Bool.eq_iff_iff]
 simp only [beq_iff_eq]
 exact ⟨txt_inj,fun h=>by rw [h]⟩
theorem all_isP {n:Nat} {gs:List Tx} (h:fstF (fun i=>!isP (gs.getD i []) n) 0 gs.length=none):∀g∈gs,isP g n=true:=by
 intro g hg
 obtain ⟨i,hi,rfl⟩:=List.mem_iff_getElem.1 hg
 have:=Vi.1 h i (by omega) (by omega)
 rw [JW hi] at this
 simpa using this
theorem UE {n:Nat} {gs:List Tx} (h:∀g∈gs,isP g n=true):∀w∈wds gs,w.length=n:=by
 intro w hw
 obtain ⟨g,hg,rfl⟩:=List.mem_map.1 hw
 exact (UR (h g hg)).2.2.1
theorem wds_txt {n:Nat} {gs:List Tx} (h:∀g∈gs,isP g n=true):gs.map (List.drop 1)=(wds gs).map txt:=by
 rw [wds,List.map_map]
 refine List.map_congr_left fun g hg=>?_
 exact (map_enc_dec (UR (h g hg)).2.2.2).symm
theorem UD {gs:List Tx} {i:Nat} (h:i<gs.length):(wds gs).getD i []=wd gs[i]:=by
 rw [JW (by simpa [wds] using h)];simp [wds]
theorem rfault_ok (a b:Int):W.kC a b=some (a,b):=rfl
theorem rmeet_ok {n:Nat} {ws:List Wd} (hw:∀w∈ws,w.length=n) (hn:n≤12) (hk:ws.length≤12) :
 (∃i u,fstF (nmeet ws) 0 ws.length=some i∧iter (fun s↦W.jd.cl_ (ws.map txt) s some) (0:Int)=some (.inl (u,34,(i:Int)))) ∨
 ∃u,fstF (nmeet ws) 0 ws.length=none∧iter (fun s↦W.jd.cl_ (ws.map txt) s some) (0:Int)=some (.inr u):=by
 have inner:∀i,i<ws.length →
  (nmeet ws i=true ∧ ∃u,iter (fun s↦W.jd.ck_ (ws.map txt) (i:Int) s some) (0:Int)=some (.inl (u,34,(i:Int)))) ∨
  (nmeet ws i=false ∧ ∃u,iter (fun s↦W.jd.ck_ (ws.map txt) (i:Int) s some) (0:Int)=some (.inr u)):=by
  intro i hi
  have hap:∀k,k<i→W.jd.c18 (ws.map txt) (i:Int) (k:Int) some=some (ap (ws.getD i []) (ws.getD k [])):=by
   intro k hk'
   have hk2:k<ws.length:=by omega
   simp only [W.jd.c18,JJ (l:=ws.map txt) (i:=i) (by simpa using hi),JJ (l:=ws.map txt) (i:=k) (by simpa using hk2),ja,List.getElem_map]
   have h1:=hw _ (List.getElem_mem hi)
   have h2:=hw _ (List.getElem_mem hk2)
   rw [apart_ok (UN _) (UN _) (by rw [kI,kI,h1,h2]) (by rw [kI];omega),Vs,Vs,JW hi,JW hk2]
   rfl
  have key:=kZ (f:=fun s↦W.jd.ck_ (ws.map txt) (i:Int) s some) (P:=fun k st=>st=(k:Int)) i (fun k=>ap (ws.getD i []) (ws.getD k []))
   (X:=fun _ e=>∃u,e=(u,34,(i:Int))) (Q:=fun _=>True) (s:=(0:Int))
   (by
    rintro k st hk' rfl hp
    simp only [W.jd.ck_,hap k hk',ja,br_if,rfault_ok]
    rw [if_pos (by simp;omega),if_pos hp]
    exact ⟨_,rfl,_,rfl⟩)
   (by
    rintro k st hk' rfl hp
    simp only [W.jd.ck_,hap k hk',ja,br_if]
    rw [if_pos (by simp;omega),if_neg (by simpa using hp),ji (by omega)]
    exact ⟨_,rfl,rfl⟩)
   (by
    rintro st rfl
    simp only [W.jd.ck_,br_if]
    rw [if_neg (by simp)]
    exact ⟨_,rfl,trivial⟩)
   rfl
  rcases key with ⟨k,e,h1,h2,u,rfl⟩ | ⟨r,h1,h2,_⟩
  ·refine .inl ⟨?_,u,h2⟩
   obtain ⟨_,h3,h4,_⟩:=Uc h1
   rw [nmeet,List.any_eq_true]
   refine ⟨ws[k]'(by omega),?_,by rw [JW (show k<ws.length by omega)] at h4;exact h4⟩
   rw [List.mem_take_iff_getElem]
   exact ⟨k,by omega,rfl⟩
  ·refine .inr ⟨?_,r,h2⟩
   rw [nmeet,List.any_eq_false]
   intro v hv
   obtain ⟨k,hk',rfl⟩:=List.mem_take_iff_getElem.1 hv
   have:=Vi.1 h1 k (by omega) (by omega)
   rw [JW (show k<ws.length by omega)] at this
   simpa using this
 have key:=kZ (f:=fun s↦W.jd.cl_ (ws.map txt) s some) (P:=fun k st=>st=(k:Int)) ws.length (nmeet ws)
  (X:=fun i e=>∃u,e=(u,34,(i:Int))) (Q:=fun _=>True) (s:=(0:Int))
  (by
   rintro i st hi rfl hp
   simp only [W.jd.cl_,br_if]
   rw [if_pos (by simp;omega)]
   rcases inner i hi with ⟨_,u,h2⟩ | ⟨h1,_⟩
   ·rw [h2];exact ⟨_,rfl,_,rfl⟩
   ·rw [hp] at h1;cases h1)
  (by
   rintro i st hi rfl hp
   simp only [W.jd.cl_,br_if]
   rw [if_pos (by simp;omega)]
   rcases inner i hi with ⟨h1,_⟩ | ⟨_,u,h2⟩
   ·rw [hp] at h1;cases h1
   ·rw [h2,ja,Vg,ji (by omega)];exact ⟨_,rfl,rfl⟩)
  (by
   rintro st rfl
   simp only [W.jd.cl_,br_if]
   rw [if_neg (by simp)]
   exact ⟨_,rfl,trivial⟩)
  rfl
 rcases key with ⟨i,e,h1,h2,u,rfl⟩ | ⟨r,h1,h2,_⟩
 ·exact .inl ⟨i,u,h1,h2⟩
 ·exact .inr ⟨r,h1,h2⟩
theorem rdep_ok {n:Nat} {ws:List Wd} (hw:∀w∈ws,w.length=n) (hn:n≤12) (hk:ws.length≤12) :
 (∃i u,fstF (ndep ws) 0 ws.length=some i∧iter (fun s↦W.jd.cB_ (ws.map txt) (txt (one n)) s some) (0:Int)=some (.inl (u,35,(i:Int)))) ∨
 ∃u,fstF (ndep ws) 0 ws.length=none∧iter (fun s↦W.jd.cB_ (ws.map txt) (txt (one n)) s some) (0:Int)=some (.inr u):=by
 have inner:∀i,i<ws.length → ∃G,W.jD ((ws.map txt).take i)=some G ∧ ∃u,iter (fun s↦W.jd.cO_ (ws.map txt) (i:Int) (Prod.fst s) G (Prod.snd s) some) ((txt (ws.getD i [])==txt (one n)),(0:Int))=some (ndep ws i,u):=by
  intro i hi
  have hwi:ws[i].length=n:=hw _ (List.getElem_mem hi)
  have hG:=group_ok (n:=n) (ws:=ws.take i) (fun w h=>hw w (List.mem_of_mem_take h)) (by rw [List.length_take];omega) hn
  rw [List.map_take] at hG
  refine ⟨_,hG,?_⟩
  have hgl:(if ws.take i=[] then [] else (grp n (ws.take i)).map txt).length≤4096:=by
   split
   ·simp
   ·rw [List.length_map,grp,Hh (n:=n),List.length_take]
    have:(2:Nat)^(min i ws.length)≤2^12:=Nat.pow_le_pow_right (by decide) (by omega)
    simp only [List.length_singleton];omega
  generalize hGG:(if ws.take i=[] then [] else (grp n (ws.take i)).map txt)=G at hgl
  refine ⟨(G.length:Int),?_⟩
  rw [VD (l:=G) (t0:=(txt (ws.getD i [])==txt (one n))) (s0:=((txt (ws.getD i [])==txt (one n)),(0:Int))) (fun k t=>(t,(k:Int))) (fun t g=>t||g==txt (ws.getD i [])) (fun t=>(t,(G.length:Int)))]
  ·congr 2
   have fa:∀(l:List Tx) (t:Bool),l.foldl (fun t g=>t||g==txt (ws.getD i [])) t=(t||l.any (· == txt (ws.getD i []))):=by
    intro l
    induction l with
    | nil=>intro t;simp
    | cons a l ih=>intro t;rw [List.foldl_cons,ih,List.any_cons,Bool.or_assoc]
   rw [fa,txt_beq,JW hi,Bool.eq_iff_iff,ndep,JW hi]
   have hmem:=Hi (n:=n) (by omega) (ws:=ws.take i) (fun w h=>hw w (List.mem_of_mem_take h)) ws[i]
   have hone:one n∈grp n (ws.take i):=(Hi (n:=n) (by omega) (ws:=ws.take i) (fun w h=>hw w (List.mem_of_mem_take h)) (one n)).2 ⟨VK n,by rw [Vu];exact Ho _⟩
   simp only [Bool.or_eq_true,beq_iff_eq,List.any_eq_true]
   rw [←hGG]
   by_cases h0:ws.take i=[]
   ·rw [if_pos h0,h0]
    simp only [List.map_nil,sp,beq_iff_eq]
    constructor
    ·rintro (h | ⟨g,hg,_⟩)
     ·rw [h,Vu]
     ·cases hg
    ·intro h
     exact .inl (vec_inj (by rw [hwi,VK]) (by omega) (by rw [h,Vu]))
   ·rw [if_neg h0]
    constructor
    ·rintro (h | ⟨g,hg,h⟩)
     ·rw [h,Vu];exact Ho _
     ·obtain ⟨v,hv,rfl⟩:=List.mem_map.1 hg
      rw [txt_inj h] at hv
      exact (hmem.1 hv).2
    ·intro h
     exact .inr ⟨_,List.mem_map.2 ⟨_,hmem.2 ⟨hwi,h⟩,rfl⟩,rfl⟩
  ·rintro pre g r t rfl rfl
   simp only [List.length_append,List.length_cons] at hgl
   simp only [W.jd.cO_,W.jd.c33,br_if,idx_mid,JJ (l:=ws.map txt) (i:=i) (by simpa using hi),ja,List.getElem_map]
   rw [if_pos lt_app,ji (by omega),JW hi]
   generalize pre.foldl _ _=t
   cases t<;>rfl
  ·simp only [W.jd.cO_,br_if]
   rw [if_neg (by simp)]
  ·rfl
 have key:=kZ (f:=fun s↦W.jd.cB_ (ws.map txt) (txt (one n)) s some) (P:=fun k st=>st=(k:Int)) ws.length (ndep ws)
  (X:=fun i e=>∃u,e=(u,35,(i:Int))) (Q:=fun _=>True) (s:=(0:Int))
  (by
   rintro i st hi rfl hp
   obtain ⟨G,h1,u,h2⟩:=inner i hi
   rw [JW hi] at h2
   simp only [W.jd.cB_,br_if,JJ (l:=ws.map txt) (i:=i) (by simpa using hi),ja,List.getElem_map,Int.toNat_natCast,h1,h2,rfault_ok]
   rw [if_pos (by simp;omega),jB (by simp;omega),ja,if_pos hp]
   exact ⟨_,rfl,_,rfl⟩)
  (by
   rintro i st hi rfl hp
   obtain ⟨G,h1,u,h2⟩:=inner i hi
   rw [JW hi] at h2
   simp only [W.jd.cB_,br_if,JJ (l:=ws.map txt) (i:=i) (by simpa using hi),ja,List.getElem_map,Int.toNat_natCast,h1,h2]
   rw [if_pos (by simp;omega),jB (by simp;omega),ja,if_neg (by simpa using hp),ji (by omega)]
   exact ⟨_,rfl,rfl⟩)
  (by
   rintro st rfl
   simp only [W.jd.cB_,br_if]
   rw [if_neg (by simp)]
   exact ⟨_,rfl,trivial⟩)
  rfl
 rcases key with ⟨i,e,h1,h2,u,rfl⟩ | ⟨r,h1,h2,_⟩
 ·exact .inl ⟨i,u,h1,h2⟩
 ·exact .inr ⟨r,h1,h2⟩
theorem rcheck_ok (n:Int) (gs:List Tx) (hg:WTxs gs) (hn:n<9223372036854775808):W.jd (n,gs)=some (chkC n gs):=by
 have c1:W.jd.c1 n some=some (decide (n<1∨12<n)):=by
  simp only [W.jd.c1,br_or];exact some_dec (by simp)
 simp only [W.jd,c1,ja,br_if,chkC,decide_eq_true_eq,rfault_ok]
 by_cases h1:n<1∨12<n
 ·rw [if_pos h1,if_pos h1]
 ·rw [if_neg h1,if_neg h1]
  by_cases h2:n<(gs.length:Int)
  ·rw [if_pos h2,if_pos h2]
  ·rw [if_neg h2,if_neg h2]
   obtain ⟨m,rfl⟩:=Int.eq_ofNat_of_zero_le (show 0≤n by omega)
   have k1:=kZ (f:=fun s↦W.jd.cc_ s (m:Int) gs some) (P:=fun k st=>st=(k:Int)) gs.length (fun i=>!isP (gs.getD i []) m)
    (X:=fun i e=>∃u,e=(u,33,(i:Int))) (Q:=fun _=>True) (s:=(0:Int))
    (by
     rintro i st hi rfl hp
     rw [JW hi] at hp
     simp only [W.jd.cc_,W.jd.c8,br_if,JJ hi,ja,ispauli_ok _ (m:Int) (hg.2 _ (List.getElem_mem hi)) hn,Int.toNat_natCast,rfault_ok]
     rw [if_pos (by simp;omega),if_neg (c:=(decide (1≤(m:Int))&&isP gs[i] m)=true) (by simp at hp;simp [hp]),if_pos (by simp)]
     exact ⟨_,rfl,_,rfl⟩)
    (by
     rintro i st hi rfl hp
     rw [JW hi] at hp
     simp only [W.jd.cc_,W.jd.c8,br_if,JJ hi,ja,ispauli_ok _ (m:Int) (hg.2 _ (List.getElem_mem hi)) hn,Int.toNat_natCast]
     rw [if_pos (by simp;omega),if_pos (c:=(decide (1≤(m:Int))&&isP gs[i] m)=true) (by simp at hp;simp [hp];omega),if_neg (by simp),ji (by omega)]
     exact ⟨_,rfl,rfl⟩)
    (by
     rintro st rfl
     simp only [W.jd.cc_,br_if]
     rw [if_neg (by simp)]
     exact ⟨_,rfl,trivial⟩)
    rfl
   rw [Int.toNat_natCast]
   rcases k1 with ⟨i,e,h3,h4,u,rfl⟩ | ⟨r,h3,h4,_⟩
   ·rw [h3,h4];rfl
   ·have hall:=all_isP h3
    have hw:=UE hall
    have hl:(wds gs).length=gs.length:=by simp [wds]
    rw [h3,h4,ja,Vg,bare_ok gs (fun g h=>by have:=(UR (hall g h)).1;omega) hg.1,ja,wds_txt hall]
    simp only
    rcases rmeet_ok hw (by omega) (by omega) with ⟨i,u,h5,h6⟩ | ⟨u,h5,h6⟩
    ·rw [hl] at h5
     rw [h6,h5];rfl
    ·rw [hl] at h5
     rw [h6,h5,ja,Vg]
     rw [Yg (s0:=((ByteArray.mk #[]).data.toList,(0:Int))) m (fun k=>(List.replicate k 73,(k:Int))) (List.replicate m 73,(m:Int))]
     ·have he:List.replicate m (73:UInt8)=txt (one m):=by simp [txt,one,enc]
      rw [ja,he]
      rcases rdep_ok hw (by omega) (by omega) with ⟨i,u,h7,h8⟩ | ⟨u,h7,h8⟩
      ·rw [hl] at h7
       simp only [h8,h7];rfl
      ·rw [hl] at h7
       simp only [h8,h7];rfl
     ·intro k hk'
      simp only [W.jd.cN_,br_if]
      rw [if_pos (by simp;omega),jB (by simp;omega),ja,ji (by omega)]
      congr 3
      exact List.replicate_succ'.symm
     ·simp only [W.jd.cN_,br_if]
      rw [if_neg (by simp)]
     ·rfl
end Go.Ql
end
section
set_option maxHeartbeats 1000000
namespace Go.Ql
def pw (g:Tx):Int×Int×Bool:=pl (wd g) (kSgn g)
theorem Hc (a b:Int):W.JZ a b=some ([],a,b):=rfl
theorem bare_of (w:Wd) (m:Bool):W.Jc (pl w m)=some [(xs w:Int),(zs w:Int)]:=rfl
theorem small_of {w:Wd} {n:Nat} (h:w.length=n) (hn:n≤12):xs w<4096∧zs w<4096:=by
 have h1:=xs_lt w;have h2:=zs_lt w
 have two:(2:Nat)^n≤2^12:=Nat.pow_le_pow_right (by decide) hn
 rw [h] at h1 h2
 omega
theorem pmeet_ok {n:Nat} {gs:List Tx} (hw:∀w∈wds gs,w.length=n) (hn:n≤12) (hk:gs.length≤12) :
 (∃i a b,fstF (nmeet (wds gs)) 0 gs.length=some i∧iter (fun s↦W.jo.ck_ (gs.map pw) (gs.map pw) (gs.length:Int) s some) (0:Int)=some (.inl (a,b,34,(i:Int)))) ∨
 ∃u,fstF (nmeet (wds gs)) 0 gs.length=none∧iter (fun s↦W.jo.ck_ (gs.map pw) (gs.map pw) (gs.length:Int) s some) (0:Int)=some (.inr u):=by
 have hl:(wds gs).length=gs.length:=by simp [wds]
 have hwl:∀i,i<gs.length→((wds gs).getD i []).length=n:=fun i hi=>by
  rw [JW (by omega)];exact hw _ (List.getElem_mem _)
 have inner:∀i,(hi:i<gs.length) →
  (nmeet (wds gs) i=true ∧ ∃a b,iter (fun s↦W.jo.cA_ (i:Int) ((gs.map pw).take i) (i:Int) s (pw gs[i]).1 (pw gs[i]).2.1 (pw gs[i]).2.2 some) (0:Int)=some (.inl (a,b,34,(i:Int)))) ∨
  (nmeet (wds gs) i=false ∧ ∃u,iter (fun s↦W.jo.cA_ (i:Int) ((gs.map pw).take i) (i:Int) s (pw gs[i]).1 (pw gs[i]).2.1 (pw gs[i]).2.2 some) (0:Int)=some (.inr u)):=by
  intro i hi
  have hap:∀k,(hk':k<i)→idx ((gs.map pw).take i) (k:Int)=some (pw (gs[k]'(by omega)))∧W.Jl ((pw gs[i]).1,(pw gs[i]).2.1,(pw gs[i]).2.2) (pw (gs[k]'(by omega)))=some (ap ((wds gs).getD i []) ((wds gs).getD k [])):=by
   intro k hk'
   have hk2:k<gs.length:=by omega
   have h1:=hwl i hi
   have h2:=hwl k hk2
   rw [UD hi] at h1 ⊢
   rw [UD hk2] at h2 ⊢
   refine ⟨?_,meets_ok h1 h2 hn _ _⟩
   rw [JJ (by simp;omega)]
   simp
  have key:=kZ (f:=fun s↦W.jo.cA_ (i:Int) ((gs.map pw).take i) (i:Int) s (pw gs[i]).1 (pw gs[i]).2.1 (pw gs[i]).2.2 some) (P:=fun k st=>st=(k:Int)) i (fun k=>ap ((wds gs).getD i []) ((wds gs).getD k []))
   (X:=fun _ e=>∃a b,e=(a,b,34,(i:Int))) (Q:=fun _=>True) (s:=(0:Int))
   (by
    rintro k st hk' rfl hp
    obtain ⟨g1,g2⟩:=hap k hk'
    simp only [W.jo.cA_,g1,ja,br_if,Hc]
    rw [if_pos (by simp;omega),g2,ja,if_pos hp]
    exact ⟨_,rfl,_,_,rfl⟩)
   (by
    rintro k st hk' rfl hp
    obtain ⟨g1,g2⟩:=hap k hk'
    simp only [W.jo.cA_,g1,ja,br_if]
    rw [if_pos (by simp;omega),g2,ja,if_neg (by simpa using hp),ji (by omega)]
    exact ⟨_,rfl,rfl⟩)
   (by
    rintro st rfl
    simp only [W.jo.cA_,br_if]
    rw [if_neg (by simp)]
    exact ⟨_,rfl,trivial⟩)
   rfl
  rcases key with ⟨k,e,h1,h2,a,b,rfl⟩ | ⟨r,h1,h2,_⟩
  ·refine .inl ⟨?_,a,b,h2⟩
   obtain ⟨_,h3,h4,_⟩:=Uc h1
   rw [nmeet,List.any_eq_true]
   refine ⟨(wds gs)[k]'(by omega),?_,by rw [JW (show k<(wds gs).length by omega)] at h4;exact h4⟩
   rw [List.mem_take_iff_getElem]
   exact ⟨k,by omega,rfl⟩
  ·refine .inr ⟨?_,r,h2⟩
   rw [nmeet,List.any_eq_false]
   intro v hv
   obtain ⟨k,hk',rfl⟩:=List.mem_take_iff_getElem.1 hv
   have:=Vi.1 h1 k (by omega) (by omega)
   rw [JW (show k<(wds gs).length by omega)] at this
   simpa using this
 have hlt:∀i,i<gs.length→(List.take i (gs.map pw)).length=i:=fun i hi=>by simp;omega
 have key:=kZ (f:=fun s↦W.jo.ck_ (gs.map pw) (gs.map pw) (gs.length:Int) s some) (P:=fun k st=>st=(k:Int)) gs.length (nmeet (wds gs))
  (X:=fun i e=>∃a b,e=(a,b,34,(i:Int))) (Q:=fun _=>True) (s:=(0:Int))
  (by
   rintro i st hi rfl hp
   simp only [W.jo.ck_,br_if,JJ (l:=gs.map pw) (i:=i) (by simpa using hi),ja,List.getElem_map,Int.toNat_natCast,hlt i hi]
   rw [if_pos (by simp;omega),jB (by simp;omega),ja]
   rcases inner i hi with ⟨_,a,b,h2⟩ | ⟨h1,_⟩
   ·rw [h2];exact ⟨_,rfl,_,_,rfl⟩
   ·rw [hp] at h1;cases h1)
  (by
   rintro i st hi rfl hp
   simp only [W.jo.ck_,br_if,JJ (l:=gs.map pw) (i:=i) (by simpa using hi),ja,List.getElem_map,Int.toNat_natCast,hlt i hi]
   rw [if_pos (by simp;omega),jB (by simp;omega),ja]
   rcases inner i hi with ⟨h1,_⟩ | ⟨_,u,h2⟩
   ·rw [hp] at h1;cases h1
   ·rw [h2,ja,Vg,ji (by omega)];exact ⟨_,rfl,rfl⟩)
  (by
   rintro st rfl
   simp only [W.jo.ck_,br_if]
   rw [if_neg (by simp)]
   exact ⟨_,rfl,trivial⟩)
  rfl
 rcases key with ⟨i,e,h1,h2,a,b,rfl⟩ | ⟨r,h1,h2,_⟩
 ·exact .inl ⟨i,a,b,h1,h2⟩
 ·exact .inr ⟨r,h1,h2⟩
def Tells (vs:List Nat) (M:List (List (Int×Int))):Prop:=∃es,M=Bmap es∧Ech es ∧ ∀x,sp es x=sp vs x
theorem tells_add {vs:List Nat} {M:List (List (Int×Int))} {w:Wd} {n:Nat} (h:Tells vs M) (hw:w.length=n) (hn:n≤12) :
 (sp vs (vec w)=true∧W.Jw [(xs w:Int),(zs w:Int)] M=some (false,M,())∧Tells (vs++[vec w]) M) ∨
 (sp vs (vec w)=false ∧ ∃M',W.Jw [(xs w:Int),(zs w:Int)] M=some (true,M',())∧Tells (vs++[vec w]) M'):=by
 obtain ⟨es,rfl,h1,h2⟩:=h
 obtain ⟨s1,s2⟩:=small_of hw hn
 rcases kAdd_ok h1 s1 s2 with ⟨g1,g2⟩ | ⟨r,g1,g2,g3,g4⟩
 ·refine .inl ⟨by rw [←h2];exact g1,g2,es,rfl,h1,fun x=>?_⟩
  rw [Hn,←h2,←h2]
  have g1:sp es (vec w)=true:=g1
  rw [Bool.eq_iff_iff,Bool.or_eq_true]
  refine ⟨.inl,fun h=>h.elim id fun h=>?_⟩
  have:=VS h g1
  rwa [UT] at this
 ·refine .inr ⟨by rw [←h2];exact g1,_,g2,es++[r],rfl,g3,fun x=>?_⟩
  rw [Hn,Hn,←h2,←h2]
  congr 1
  have g4:sp es (vec w^^^r)=true:=g4
  rw [Bool.eq_iff_iff]
  constructor
  ·intro h
   have:=VS h g4
   rwa [←Nat.xor_assoc,x_comm3 x r (vec w),UT] at this
  ·intro h
   have:=VS h g4
   rwa [←Nat.xor_assoc,UT] at this
theorem tells_nil:Tells [] UJ:=⟨[],rfl,trivial,fun _=>rfl⟩
theorem pdep_ok {n:Nat} {gs:List Tx} (hw:∀w∈wds gs,w.length=n) (hn:n≤12) (hk:gs.length≤12) :
 (∃i a b M,fstF (ndep (wds gs)) 0 gs.length=some i∧iter (fun s↦W.jo.cC_ (gs.map pw) (gs.length:Int) (Prod.fst s) (Prod.snd s) some) ((0:Int),UJ)=some (.inl (a,b,35,(i:Int),M))) ∨
 ∃u,fstF (ndep (wds gs)) 0 gs.length=none∧iter (fun s↦W.jo.cC_ (gs.map pw) (gs.length:Int) (Prod.fst s) (Prod.snd s) some) ((0:Int),UJ)=some (.inr u):=by
 have hl:(wds gs).length=gs.length:=by simp [wds]
 have hwl:∀i,(hi:i<gs.length)→(wd gs[i]).length=n:=fun i hi=>by
  rw [←UD hi,JW (by omega)];exact hw _ (List.getElem_mem _)
 have htk:∀i,(hi:i<gs.length)→((wds gs).take (i+1)).map vec=((wds gs).take i).map vec++[vec (wd gs[i])]:=fun i hi=>by
  rw [List.take_succ_eq_append_getElem (by omega),List.map_append]
  simp [wds]
 have key:=kZ (f:=fun s↦W.jo.cC_ (gs.map pw) (gs.length:Int) (Prod.fst s) (Prod.snd s) some) (P:=fun k st=>st.1=(k:Int)∧Tells (((wds gs).take k).map vec) st.2) gs.length (ndep (wds gs))
  (X:=fun i e=>∃a b M,e=(a,b,35,(i:Int),M)) (Q:=fun _=>True) (s:=((0:Int),UJ))
  (by
   rintro i ⟨j,M⟩ hi ⟨rfl,ht⟩ hp
   simp only at ht
   have hp':sp (((wds gs).take i).map vec) (vec (wd gs[i]))=true:=by rw [ndep,UD hi] at hp;exact hp
   simp only [W.jo.cC_,br_if,JJ (l:=gs.map pw) (i:=i) (by simpa using hi),ja,List.getElem_map,uP,Hc]
   rw [if_pos (by simp;omega)]
   rw [show W.Jc ((pw gs[i]).1,(pw gs[i]).2.1,(pw gs[i]).2.2)=some [(xs (wd gs[i]):Int),(zs (wd gs[i]):Int)] from bare_of _ _,ja]
   rcases tells_add ht (hwl i hi) hn with ⟨h1,h2,h3⟩ | ⟨h1,_⟩
   ·simp only [h2,ja]
    exact ⟨_,rfl,_,_,_,rfl⟩
   ·rw [hp'] at h1;cases h1)
  (by
   rintro i ⟨j,M⟩ hi ⟨rfl,ht⟩ hp
   simp only at ht
   have hp':sp (((wds gs).take i).map vec) (vec (wd gs[i]))=false:=by rw [ndep,UD hi] at hp;exact hp
   simp only [W.jo.cC_,br_if,JJ (l:=gs.map pw) (i:=i) (by simpa using hi),ja,List.getElem_map,uP,Hc]
   rw [if_pos (by simp;omega)]
   rw [show W.Jc ((pw gs[i]).1,(pw gs[i]).2.1,(pw gs[i]).2.2)=some [(xs (wd gs[i]):Int),(zs (wd gs[i]):Int)] from bare_of _ _,ja]
   rcases tells_add ht (hwl i hi) hn with ⟨h1,_⟩ | ⟨h1,M',h2,h3⟩
   ·rw [hp'] at h1;cases h1
   ·simp only [h2,ja]
    rw [ji (by omega)]
    exact ⟨_,rfl,rfl,by rw [htk i hi];exact h3⟩)
  (by
   rintro ⟨j,M⟩ ⟨rfl,ht⟩
   simp only [W.jo.cC_,br_if]
   rw [if_neg (by simp)]
   exact ⟨_,rfl,trivial⟩)
  ⟨rfl,tells_nil⟩
 rcases key with ⟨i,e,h1,h2,a,b,M,rfl⟩ | ⟨r,h1,h2,_⟩
 ·exact .inl ⟨i,a,b,M,h1,h2⟩
 ·exact .inr ⟨r,h1,h2⟩
theorem pread_ok (n:Int) (gs:List Tx):∃L,W.jo (n,gs)=some (L,chkC n gs)∧((chkC n gs).1=0→L=gs.map pw):=by
 have c2:W.jo.c2 n some=some (decide (n<1∨12<n)):=by
  simp only [W.jo.c2,br_or];exact some_dec (by simp)
 simp only [W.jo,c2,ja,br_if,chkC,decide_eq_true_eq,Hc]
 by_cases h1:n<1∨12<n
 ·rw [if_pos h1,if_pos h1];exact ⟨_,rfl,fun h=>by simp at h⟩
 ·rw [if_neg h1,if_neg h1]
  by_cases h2:n<(gs.length:Int)
  ·rw [if_pos h2,if_pos h2];exact ⟨_,rfl,fun h=>by simp at h⟩
  ·rw [if_neg h2,if_neg h2]
   obtain ⟨m,rfl⟩:=Int.eq_ofNat_of_zero_le (show 0≤n by omega)
   have hm:1≤m∧m≤12:=by omega
   have k1:=kZ (f:=fun s↦W.jo.ch_ gs (gs.length:Int) (Prod.fst s) (m:Int) (Prod.snd s) some) (P:=fun k st=>st=((k:Int),(gs.take k).map pw)) gs.length (fun i=>!isP (gs.getD i []) m)
    (X:=fun i e=>∃a b c,e=(a,b,33,(i:Int),c)) (Q:=fun r=>r=((gs.length:Int),gs.map pw)) (s:=((0:Int),[]))
    (by
     rintro i st hi rfl hp
     rw [JW hi] at hp
     simp only [W.jo.ch_,br_if,JJ hi,ja,Hc]
     rw [if_pos (by simp;omega)]
     rcases tread_ok gs[i] m hm with ⟨g1,_⟩ | ⟨_,r,g2⟩
     ·rw [g1] at hp;cases hp
     ·rw [g2];exact ⟨_,rfl,_,_,_,rfl⟩)
    (by
     rintro i st hi rfl hp
     rw [JW hi] at hp
     simp only [W.jo.ch_,br_if,JJ hi,ja]
     rw [if_pos (by simp;omega)]
     rcases tread_ok gs[i] m hm with ⟨_,g2⟩ | ⟨g1,_⟩
     ·rw [g2,ja,if_neg (by simp),jB (by simp;omega),ja,ji (by omega)]
      refine ⟨_,rfl,?_⟩
      rw [List.take_succ_eq_append_getElem hi,List.map_append]
      rfl
     ·rw [g1] at hp;cases hp)
    (by
     rintro st rfl
     simp only [W.jo.ch_,br_if]
     rw [if_neg (by simp),List.take_length]
     exact ⟨_,rfl,rfl⟩)
    rfl
   rw [Int.toNat_natCast]
   rcases k1 with ⟨i,e,h3,h4,a,b,c,rfl⟩ | ⟨r,h3,h4,rfl⟩
   ·rw [h3,h4];exact ⟨_,rfl,fun h=>by simp at h⟩
   ·have hall:=all_isP h3
    have hw:=UE hall
    have hl:(wds gs).length=gs.length:=by simp [wds]
    rw [h3,h4,ja,Vg]
    simp only [List.length_map]
    rcases pmeet_ok hw (by omega) (by omega) with ⟨i,a,b,h5,h6⟩ | ⟨u,h5,h6⟩
    ·rw [h6,h5];exact ⟨_,rfl,fun h=>by simp at h⟩
    ·rw [h6,h5,ja,Vg]
     rcases pdep_ok hw (by omega) (by omega) with ⟨i,a,b,M,h7,h8⟩ | ⟨u,h7,h8⟩
     ·rw [h8,h7];exact ⟨_,rfl,fun h=>by simp at h⟩
     ·rw [h8,h7];exact ⟨_,rfl,fun _=>rfl⟩
end Go.Ql
end
section
set_option maxHeartbeats 1000000
namespace Go.Ql
def syn (ws:List Wd) (e:Wd):List Int:=ws.map fun w=>((ap w e).toNat:Int)
theorem set_mid {A:Type} (l:List A) (a x:A) (r:List A):(l++a::r).set l.length x=l++x::r:=by
 induction l with
 | nil=>rfl
 | cons b l ih=>simp [ih]
theorem shows_ok {n:Nat} {gs:List Tx} {e:Wd} (hw:∀w∈wds gs,w.length=n) (he:e.length=n) (hn:n≤12) (hk:gs.length≤12) (m:Bool):W.jV (gs.map pw) (pl e m)=some (syn (wds gs) e):=by
 have hl:(syn (wds gs) e).length=gs.length:=by simp [syn,wds]
 simp only [W.jV,List.length_map]
 rw [jB (by simp;omega),ja]
 rw [Yg (s0:=((0:Int),List.replicate (gs.length:Int).toNat 0)) gs.length (fun k=>((k:Int),(syn (wds gs) e).take k++List.replicate (gs.length-k) 0)) ((gs.length:Int),syn (wds gs) e)]
 ·rfl
 ·intro i hi
  have hwi:(wd gs[i]).length=n:=by rw [←UD hi,JW (by simpa [wds] using hi)];exact hw _ (List.getElem_mem _)
  have hmt:W.Jl ((pw gs[i]).1,(pw gs[i]).2.1,(pw gs[i]).2.2) ((pl e m).1,(pl e m).2.1,(pl e m).2.2)=some (ap (wd gs[i]) e):=meets_ok hwi he hn _ _
  have hlt:((syn (wds gs) e).take i).length=i:=by rw [List.length_take];omega
  have hst:(syn (wds gs) e).take (i+1)=(syn (wds gs) e).take i++[((ap (wd gs[i]) e).toNat:Int)]:=by
   rw [List.take_succ_eq_append_getElem (by omega)];simp [syn,wds]
  simp only [W.jV.ca_,W.jV.cJ_,br_if,JJ (l:=gs.map pw) (i:=i) (by simpa using hi),ja,List.getElem_map]
  rw [if_pos (by simp;omega),hmt,ja,hst,show gs.length-i=(gs.length-(i+1))+1 by omega,List.replicate_succ]
  cases ap (wd gs[i]) e with
  | true=>
    rw [if_pos rfl,UH (by simp;omega),JJ (by simp;omega)]
    simp only [ja]
    rw [ji (by omega),Int.toNat_natCast]
    have:=set_mid ((syn (wds gs) e).take i) (0:Int) 1 (List.replicate (gs.length-(i+1)) 0)
    rw [hlt] at this
    rw [this]
    simp
  | false=>
    rw [if_neg (by simp),ja,ji (by omega)]
    simp
 ·simp only [W.jV.ca_,br_if]
  rw [if_neg (by simp),List.take_of_length_le (by omega),Nat.sub_self]
  simp
 ·simp
theorem rsyn_ok {n:Nat} {gs:List Tx} {e:Wd} (hall:∀g∈gs,isP g n=true) (he:e.length=n) (hn:n≤12) (hk:gs.length≤12) (c0:Int):W.Jh (c0,gs) (txt e)=some (syn (wds gs) e):=by
 simp only [W.Jh]
 rw [VD (l:=gs) (t0:=([]:List Int)) (s0:=((0:Int),([]:List Int))) (fun i t=>((i:Int),t)) (fun t g=>t++[((ap (wd g) e).toNat:Int)]) (fun t=>((gs.length:Int),t))]
 ·rw [ja,VC];simp [syn,wds]
 ·rintro pre g r t hz rfl
  subst hz
  have hg:=UR (hall g (by simp))
  simp only [List.length_append,List.length_cons] at hk
  simp only [W.Jh.ca_,br_if,idx_mid,ja]
  rw [if_pos lt_app,jB (by simp;omega),ja,Int.toNat_natCast,List.take_length,apart_ok hg.2.2.2 (UN e) (by rw [kI,he];exact hg.2.1) (by omega),Vs,ja]
  have h1:W.Yd (ap ((g.drop 1).map kDec) e)=some ((ap (wd g) e).toNat:Int):=by
   unfold wd
   cases ap ((g.drop 1).map kDec) e<;>rfl
  rw [h1,ja,jB (by rw [VC];simp;omega),ja,ji (by omega)]
  rfl
 ·simp only [W.Jh.ca_,br_if]
  rw [if_neg (by simp)]
 ·rfl
theorem copyCode_ok (n:Int) (a:List Tx) (ha:a.length≤8796093022208):W.Jr (n,a)=some (n,a):=by
 simp only [W.Jr,W.Jr.c1]
 rw [jB (by simp;omega)];rfl
theorem sameInts_ok (a b:List Int) (ha:a.length≤17592186043904):W.jU a b=some (decide (a=b)):=by
 simp only [W.jU,br_if]
 by_cases hlen:a.length=b.length
 ·rw [if_neg (by simp [hlen])]
  have h:∃r,iter (fun s:Int↦W.jU.cb_ a b s some) (0:Int)=some r∧((∃u,r=.inl u∧a≠b) ∨ ∃u,r=.inr u∧a=b):=by
   refine Ud a.length (fun i s=>s=(i:Int)∧a.take i=b.take i) _ ?_ ?_ ⟨rfl,rfl⟩
   ·rintro i s hi ⟨rfl,h1⟩
    have h6:W.jU.c6 a b (i:Int) some=some (decide (a[i]≠b[i]'(by omega))):=by
     simp only [W.jU.c6,JJ hi,JJ (show i<b.length by omega),ja]
     exact some_dec (by simp)
    simp only [W.jU.cb_,br_if,h6,ja]
    rw [if_pos (by simpa using hi)]
    by_cases hd:a[i]=b[i]'(by omega)
    ·rw [if_neg (by simpa using hd),ji (by omega)]
     exact .inl ⟨_,rfl,by simp,by rw [List.take_succ_eq_append_getElem hi,List.take_succ_eq_append_getElem (by omega),h1,hd]⟩
    ·rw [if_pos (by simpa using hd)]
     exact .inr ⟨_,rfl,.inl ⟨_,rfl,fun e=>hd (by subst e;rfl)⟩⟩
   ·rintro s ⟨rfl,h1⟩
    simp only [W.jU.cb_,br_if]
    rw [if_neg (by simp)]
    rw [List.take_length,hlen,List.take_length] at h1
    exact ⟨_,rfl,.inr ⟨_,rfl,h1⟩⟩
  obtain ⟨r,hr,h⟩:=h
  rw [hr,ja]
  rcases h with ⟨u,rfl,h⟩ | ⟨u,rfl,h⟩
  ·rw [sel_inl];simp [h]
  ·rw [Vg];simp [h]
 ·rw [if_pos (by simp;omega)]
  have:a≠b:=fun e=>hlen (by rw [e])
  simp [this]
theorem eqT_pair (f g:Int×Int):Ty.eqT (Ty.pair (Ty.int IntKind.i64) (Ty.int IntKind.i64)) f g=decide (f=g):=by
 obtain ⟨a,b⟩:=f
 obtain ⟨c,d⟩:=g
 rw [Bool.eq_iff_iff]
 simp [Ty.eqT]
theorem chk_zero {n:Int} {gs:List Tx} (h:(chkC n gs).1=0):chkC n gs=(0,0) ∧ ∃m:Nat,n=(m:Int)∧1≤m∧m≤12∧gs.length≤m∧(∀g∈gs,isP g m=true) ∧
 fstF (nmeet (wds gs)) 0 gs.length=none∧fstF (ndep (wds gs)) 0 gs.length=none:=by
 unfold chkC at h ⊢
 by_cases h1:n<1∨12<n
 ·rw [if_pos h1] at h;cases h
 ·rw [if_neg h1] at h ⊢
  by_cases h2:n<(gs.length:Int)
  ·rw [if_pos h2] at h;cases h
  ·rw [if_neg h2] at h ⊢
   obtain ⟨m,rfl⟩:=Int.eq_ofNat_of_zero_le (show 0≤n by omega)
   rw [Int.toNat_natCast] at h ⊢
   generalize e1:fstF (fun i=>!isP (gs.getD i []) m) 0 gs.length=o1 at h ⊢
   cases o1 with
   | some i=>cases h
   | none=>
     simp only at h ⊢
     generalize e2:fstF (nmeet (wds gs)) 0 gs.length=o2 at h ⊢
     cases o2 with
     | some i=>cases h
     | none=>
       simp only at h ⊢
       generalize e3:fstF (ndep (wds gs)) 0 gs.length=o3 at h ⊢
       cases o3 with
       | some i=>cases h
       | none=>exact ⟨rfl,m,rfl,by omega,by omega,by omega,all_isP e1,by first | exact e2 | trivial,by first | exact e3 | trivial⟩
theorem psyn_ok (n:Int) (gs:List Tx) (p:Tx) (hn:n<9223372036854775808) (hp:p.length≤140737488355328) :
 W.jN (n,gs) p=some (if (chkC n gs).1=0 then (if isP p n.toNat=true then (syn (wds gs) (wd p),0,0) else ([],33,0)) else ([],chkC n gs)):=by
 obtain ⟨L,h1,h2⟩:=pread_ok n gs
 simp only [W.jN,h1,ja,br_if]
 by_cases h0:(chkC n gs).1=0
 ·obtain ⟨h3,m,rfl,hm1,hm2,hk,hall,_,_⟩:=chk_zero h0
  rw [if_neg (by simp [h0]),if_pos h0,Int.toNat_natCast,h2 h0]
  rcases tread_ok p m ⟨hm1,hm2⟩ with ⟨g1,g2⟩ | ⟨g1,r,g2⟩
  ·rw [g2,ja,if_neg (by simp),if_pos g1]
   rw [show W.jN.c7 (gs.map pw) (Prod.fst (Prod.fst (pl (wd p) (kSgn p),true))) (Prod.fst (Prod.snd (Prod.fst (pl (wd p) (kSgn p),true)))) (Prod.snd (Prod.snd (Prod.fst (pl (wd p) (kSgn p),true)))) some=some (syn (wds gs) (wd p)) by
    simp only [W.jN.c7]
    rw [show W.jV (gs.map pw) ((pl (wd p) (kSgn p)).1,(pl (wd p) (kSgn p)).2.1,(pl (wd p) (kSgn p)).2.2)=_ from shows_ok (UE hall) (UR g1).2.2.1 hm2 (by omega) (kSgn p)]
    rfl]
   rw [h3];rfl
  ·rw [g2,ja,if_pos (by simp),if_neg (by simp [g1])]
 ·rw [if_pos (by simpa using h0),if_neg h0]
  rfl
end Go.Ql
end
section
set_option maxHeartbeats 1000000
namespace Go.Ql
def L4:List Lt:=[(false,false),(true,false),(true,true),(false,true)]
def errs:Nat→List Wd
 | 0=>[[]]
 | n+1=>L4.flatMap fun a=>(errs n).map (a :: ·)
theorem VA:∀{n:Nat} {e:Wd},e∈errs n→e.length=n
 | 0,e,h=>by rw [errs,List.mem_singleton] at h;subst h;rfl
 | n+1,e,h=>by
   rw [errs,List.mem_flatMap] at h
   obtain ⟨a,_,h⟩:=h
   obtain ⟨f,hf,rfl⟩:=List.mem_map.1 h
   rw [List.length_cons,VA hf]
theorem L4_all:∀a:Lt,a∈L4
 | (false,false)=>by decide
 | (true,false)=>by decide
 | (false,true)=>by decide
 | (true,true)=>by decide
theorem errs_all:∀e:Wd,e∈errs e.length
 | []=>by simp [errs]
 | a::e=>by
   rw [List.length_cons,errs,List.mem_flatMap]
   exact ⟨a,L4_all a,List.mem_map.2 ⟨e,errs_all e,rfl⟩⟩
theorem errs_snoc:∀n:Nat,errs (n+1)=(errs n).flatMap fun e=>L4.map fun a=>e++[a]
 | 0=>rfl
 | n+1=>by
   rw [errs]
   conv=>rhs;rw [errs]
   rw [List.flatMap_assoc]
   congr 1
   funext a
   rw [errs_snoc n,List.map_flatMap,List.flatMap_map]
   rfl
theorem VJ:∀n:Nat,(errs n).length=4^n
 | 0=>rfl
 | n+1=>by
   rw [errs_snoc,List.length_flatMap]
   simp only [List.length_map]
   have:∀l:List Wd,(l.map fun _=>L4.length).sum=l.length*4:=by
    intro l
    induction l with
    | nil=>rfl
    | cons a l ih=>rw [List.map_cons,List.sum_cons,ih,List.length_cons];simp [L4];omega
   rw [this,VJ n,Nat.pow_succ]
def wgt:Wd→Nat
 | []=>0
 | a::e=>(a !=(false,false)).toNat+wgt e
theorem wgt_app:∀e f:Wd,wgt (e++f)=wgt e+wgt f
 | [],f=>by simp [wgt]
 | a::e,f=>by rw [List.cons_append,wgt,wgt,wgt_app e f];omega
theorem Hs:∀e:Wd,wgt e≤e.length
 | []=>Nat.le_refl _
 | a::e=>by
   have:=Hs e
   rw [wgt,List.length_cons]
   cases a !=(false,false)<;>simp<;>omega
theorem wgt_zero:∀{e:Wd},wgt e=0→e=one e.length
 | [],_=>rfl
 | a::e,h=>by
   rw [wgt] at h
   have h1:a=(false,false):=by
    cases h2:(a !=(false,false)) with
    | true=>rw [h2] at h;simp at h
    | false=>simpa using h2
   have h2:=wgt_zero (e:=e) (by omega)
   rw [h1,List.length_cons,one,List.replicate_succ]
   exact congrArg _ h2
theorem wgt_one:∀n:Nat,wgt (one n)=0
 | 0=>rfl
 | n+1=>by
   have:=wgt_one n
   rw [one,List.replicate_succ,wgt]
   rw [one] at this
   simp [this]
theorem ap_mul:∀{a b e:Wd},a.length=b.length→ap (mul a b) e=(ap a e !=ap b e)
 | [],[],e,_=>by simp [mul,ap]
 | (a,a')::w,(b,b')::v,[],_=>by simp [mul,ap]
 | (a,a')::w,(b,b')::v,(c,c')::e,h=>by
   have:=ap_mul (a:=w) (b:=v) (e:=e) (by simpa using h)
   simp only [mul] at this
   simp only [mul,List.zipWith_cons_cons,ap,this,mul1]
   generalize ap w e=p
   generalize ap v e=q
   cases a<;>cases a'<;>cases b<;>cases b'<;>cases c<;>cases c'<;>cases p<;>cases q<;>rfl
theorem UO:∀{e a b:Wd},a.length=b.length→ap e (mul a b)=(ap e a !=ap e b)
 | e,[],[],_=>by cases e<;>simp [mul,ap]
 | [],(a,a')::w,(b,b')::v,_=>by simp [mul,ap]
 | (c,c')::e,(a,a')::w,(b,b')::v,h=>by
   have:=UO (e:=e) (a:=w) (b:=v) (by simpa using h)
   simp only [mul] at this
   simp only [mul,List.zipWith_cons_cons,ap,this,mul1]
   generalize ap e w=p
   generalize ap e v=q
   cases a<;>cases a'<;>cases b<;>cases b'<;>cases c<;>cases c'<;>cases p<;>cases q<;>rfl
theorem ap_one:∀(w:Wd) (n:Nat),ap w (one n)=false
 | [],n=>by cases n<;>rfl
 | a::w,0=>rfl
 | (a,b)::w,n+1=>by
   have:=ap_one w n
   rw [one,List.replicate_succ,ap]
   rw [one] at this
   rw [this];cases a<;>cases b<;>rfl
theorem ap_one':∀(n:Nat) (w:Wd),ap (one n) w=false
 | 0,w=>by cases w<;>rfl
 | n+1,[]=>rfl
 | n+1,(a,b)::w=>by
   have:=ap_one' n w
   rw [one,List.replicate_succ,ap]
   rw [one] at this
   rw [this];cases a<;>cases b<;>rfl
theorem ap_unit:∀{v:Wd},v≠one v.length → ∃e:Wd,e.length=v.length∧ap v e=true
 | [],h=>absurd rfl h
 | (a,b)::v,h=>by
   cases a with
   | true=>exact ⟨(false,true)::one v.length,by simp [VK],by rw [ap,ap_one];cases b<;>rfl⟩
   | false=>
     cases b with
     | true=>exact ⟨(true,false)::one v.length,by simp [VK],by rw [ap,ap_one];rfl⟩
     | false=>
       obtain ⟨e,h1,h2⟩:=ap_unit (v:=v) (fun hh=>h (by rw [List.length_cons,one,List.replicate_succ];exact congrArg _ hh))
       exact ⟨(false,false)::e,by simp [h1],by rw [ap,h2];rfl⟩
theorem sp_ap {n:Nat} (hn:n≤16) {e:Wd}:∀{ws:List Wd} {u:Wd},(∀w∈ws,w.length=n∧ap w e=false)→u.length=n→sp (ws.map vec) (vec u)=true→ap u e=false
 | [],u,_,hu,h=>by
   have:u=one n:=vec_inj (by rw [VK,hu]) (by omega) (by rw [Vu];simpa [sp] using h)
   rw [this,ap_one']
 | w::ws,u,hw,hu,h=>by
   simp only [List.map_cons,sp,Bool.or_eq_true] at h
   obtain ⟨h1,h2⟩:=hw w (List.mem_cons_self ..)
   rcases h with h | h
   ·exact sp_ap hn (fun x hx=>hw x (List.mem_cons_of_mem _ hx)) hu h
   ·rw [vec_xor (by omega) (by omega)] at h
    have:=sp_ap hn (fun x hx=>hw x (List.mem_cons_of_mem _ hx)) (by rw [YU (by omega)];exact hu) h
    rw [ap_mul (by omega),h2] at this
    simpa using this
theorem separate {n:Nat} (hn:n≤16):∀(ws:List Wd) (v:Wd),(∀w∈ws,w.length=n)→v.length=n→sp (ws.map vec) (vec v)=false → ∃e:Wd,e.length=n∧(∀w∈ws,ap w e=false)∧ap v e=true
 | [],v,_,hv,h=>by
   obtain ⟨e,h1,h2⟩:=ap_unit (v:=v) (fun hh=>by
    rw [hh,Vu] at h
    simp [sp] at h)
   exact ⟨e,by omega,(fun _ h=>nomatch h),h2⟩
 | u::us,v,hw,hv,h=>by
   simp only [List.map_cons,sp,Bool.or_eq_false_iff] at h
   have hu:=hw u (List.mem_cons_self ..)
   have hus:=fun x hx=>hw x (List.mem_cons_of_mem _ hx)
   obtain ⟨e1,a1,a2,a3⟩:=separate hn us v hus hv h.1
   have close:∀e:Wd,e.length=n→(∀w∈us,ap w e=false)→ap u e=false→ap v e=true → ∃e:Wd,e.length=n∧(∀w∈u::us,ap w e=false)∧ap v e=true:=
    fun e g1 g2 g3 g4=>⟨e,g1,fun w hw=>by
     rcases List.mem_cons.1 hw with rfl | hw
     ·exact g3
     ·exact g2 w hw,g4⟩
   cases hs:sp (us.map vec) (vec u) with
   | true=>exact close e1 a1 a2 (sp_ap hn (fun w hw=>⟨hus w hw,a2 w hw⟩) hu hs) a3
   | false=>
     cases h1:ap u e1 with
     | false=>exact close e1 a1 a2 h1 a3
     | true=>
       rw [vec_xor (by omega) (by omega)] at h
       obtain ⟨e2,b1,b2,b3⟩:=separate hn us (mul v u) hus (by rw [YU (by omega)];exact hv) h.2
       rw [ap_mul (by omega)] at b3
       cases h2:ap u e2 with
       | false=>exact close e2 b1 b2 h2 (by rw [h2] at b3;simpa using b3)
       | true=>
         have b4:ap v e2=false:=by rw [h2] at b3;simpa using b3
         refine close (mul e1 e2) (by rw [YU (by omega)];exact a1) (fun w hw=>?_) ?_ ?_
         ·rw [UO (by omega),a2 w hw,b2 w hw];rfl
         ·rw [UO (by omega),h1,h2];rfl
         ·rw [UO (by omega),a3,b4];rfl
theorem attain {n:Nat} (hn:n≤16) {ws:List Wd} (hw:∀w∈ws,w.length=n) (hd:∀i,i<ws.length→ndep ws i=false) (bs:List Bool) (hb:bs.length=ws.length):∃e:Wd,e.length=n∧ws.map (fun w=>ap w e)=bs:=by
 have key:∀i,i≤ws.length → ∃e:Wd,e.length=n∧(ws.take i).map (fun w=>ap w e)=bs.take i:=by
  intro i
  induction i with
  | zero=>intro _;exact ⟨one n,VK n,by simp⟩
  | succ i ih=>
    intro hi
    have hi':i<ws.length:=by omega
    obtain ⟨e,h1,h2⟩:=ih (by omega)
    have step:∀f:Wd,(ws.take i).map (fun w=>ap w f)=bs.take i→ap ws[i] f=bs[i]'(by omega)→(ws.take (i+1)).map (fun w=>ap w f)=bs.take (i+1):=by
     intro f g1 g2
     rw [List.take_succ_eq_append_getElem hi',List.take_succ_eq_append_getElem (by omega),List.map_append,g1]
     simp [g2]
    by_cases hh:ap ws[i] e=bs[i]'(by omega)
    ·exact ⟨e,h1,step e h2 hh⟩
    ·have hdi:=hd i hi'
     rw [ndep,JW hi'] at hdi
     obtain ⟨f,f1,f2,f3⟩:=separate hn (ws.take i) ws[i] (fun w hx=>hw w (List.mem_of_mem_take hx)) (hw _ (List.getElem_mem hi')) hdi
     refine ⟨mul e f,by rw [YU (by omega)];exact h1,step _ ?_ ?_⟩
     ·rw [←h2]
      refine List.map_congr_left fun w hx=>?_
      rw [UO (by omega),f2 w hx];simp
     ·rw [UO (by omega),f3]
      revert hh
      cases ap ws[i] e<;>cases bs[i]'(by omega)<;>simp
 obtain ⟨e,h1,h2⟩:=key ws.length (Nat.le_refl _)
 rw [List.take_length,←hb,List.take_length] at h2
 exact ⟨e,h1,h2⟩
end Go.Ql
end
section
set_option maxHeartbeats 1000000
namespace Go.Ql
def ke (ws:List Wd) (e:Wd):List Bool:=ws.map fun w=>ap w e
theorem syn_bits (ws:List Wd) (e:Wd):syn ws e=(ke ws e).map fun b=>(b.toNat:Int):=by simp [syn,ke]
theorem pack_take {l:List Bool} {i:Nat} (h:i<l.length):pack (l.take (i+1))=pack (l.take i)+2^i*(l[i]).toNat:=by
 rw [List.take_succ_eq_append_getElem h,Ux,List.length_take,Nat.min_eq_left (by omega)]
 simp [pack]
theorem bit_ori {p q:Nat} (h:p<2^q) (hq:q<12) (b:Bool):ibits BinOp.or IntKind.i64 (p:Int) (IntKind.i64.wrap ((b.toNat:Int)*(2:Int)^Min.min (Int.toNat (q:Int)) 64))=((p+2^q*b.toNat:Nat):Int):=by
 have hq2:(2:Nat)^q<2^12:=Nat.pow_lt_pow_right (by decide) hq
 have e:IntKind.i64.wrap ((b.toNat:Int)*(2:Int)^Min.min (Int.toNat (q:Int)) 64)=((b.toNat*2^q:Nat):Int):=by
  rw [Int.toNat_natCast,Nat.min_eq_left (by omega),ji]
  ·simp
  ·cases b
   ·simp
   ·simp only [Bool.toNat_true,Int.natCast_one,Int.one_mul]
    have:((2:Int)^q)=((2^q:Nat):Int):=by simp
    omega
 rw [e,iori64 (by omega) (by cases b<;>simp<;>omega),or_high h]
theorem kNumber_ok (bs:List Bool) (h:bs.length≤12):W.Jf (bs.map fun b=>(b.toNat:Int))=some (pack bs:Int):=by
 simp only [W.Jf,List.length_map]
 rw [Yg (s0:=((0:Int),(0:Int))) bs.length (fun k=>((pack (bs.take k):Int),(k:Int))) ((pack bs:Int),(bs.length:Int))]
 ·rfl
 ·intro i hi
  have hp:=Uf (bs.take i)
  rw [List.length_take,Nat.min_eq_left (by omega)] at hp
  simp only [W.Jf.ca_,br_if,JJ (l:=bs.map fun b=>(b.toNat:Int)) (i:=i) (by simpa using hi),ja,List.getElem_map]
  rw [if_pos (by simpa using hi),jB (by simp),ja,bit_ori hp (by omega),ji (by omega),pack_take hi]
  rfl
 ·simp only [W.Jf.ca_,br_if]
  rw [if_neg (by simp),List.take_length]
 ·rfl
theorem tells_rest {vs:List Nat} {M:List (List (Int×Int))} (h:Tells vs M) {v:Nat} (hv:v<2^28):∃r:Nat,W.jK (v:Int) M=some ((r:Int),M,())∧(r=0↔sp vs v=true):=by
 obtain ⟨es,rfl,h1,h2⟩:=h
 obtain ⟨r,g1,_,g3,g4⟩:=rest_ok h1 hv
 refine ⟨r,g1,?_⟩
 rw [←h2]
 constructor
 ·rintro rfl;rwa [Nat.xor_zero] at g3
 ·intro hs
  refine Classical.byContradiction fun h0=>?_
  have:=VS hs g3
  rw [←Nat.xor_assoc,Nat.xor_self,Nat.zero_xor] at this
  obtain ⟨w,k1,k2⟩:=h1.lead this h0
  exact (g4.resolve_left h0) w k1 k2
theorem span_ok {n:Nat} {gs:List Tx} (hw:∀w∈wds gs,w.length=n) (hn:n≤12) (hk:gs.length≤12):∃M,W.JB (gs.map pw)=some (M,())∧Tells ((wds gs).map vec) M:=by
 have hwl:∀i,(hi:i<gs.length)→(wd gs[i]).length=n:=fun i hi=>by
  rw [←UD hi,JW (by simpa [wds] using hi)];exact hw _ (List.getElem_mem _)
 have htk:∀i,(hi:i<gs.length)→((wds gs).take (i+1)).map vec=((wds gs).take i).map vec++[vec (wd gs[i])]:=fun i hi=>by
  rw [List.take_succ_eq_append_getElem (by simpa [wds] using hi),List.map_append]
  simp [wds]
 obtain ⟨x,h1,h2⟩:=Ud (f:=fun s↦W.JB.ca_ (gs.map pw) (gs.length:Int) (Prod.fst s) (Prod.snd s) some) gs.length
  (fun k s=>s.1=(k:Int)∧Tells (((wds gs).take k).map vec) s.2) (fun x=>Tells ((wds gs).map vec) x.2)
  (by
   rintro i ⟨j,M⟩ hi ⟨rfl,ht⟩
   simp only at ht
   simp only [W.JB.ca_,br_if,JJ (l:=gs.map pw) (i:=i) (by simpa using hi),ja,List.getElem_map,uP]
   rw [if_pos (by simp;omega)]
   rw [show W.Jc ((pw gs[i]).1,(pw gs[i]).2.1,(pw gs[i]).2.2)=some [(xs (wd gs[i]):Int),(zs (wd gs[i]):Int)] from bare_of _ _,ja]
   rcases tells_add ht (hwl i hi) hn with ⟨_,g2,g3⟩ | ⟨_,M',g2,g3⟩
   ·simp only [g2,ja]
    rw [ji (by omega)]
    exact .inl ⟨_,rfl,rfl,by rw [htk i hi];exact g3⟩
   ·simp only [g2,ja]
    rw [ji (by omega)]
    exact .inl ⟨_,rfl,rfl,by rw [htk i hi];exact g3⟩)
  (by
   rintro ⟨j,M⟩ ⟨rfl,ht⟩
   simp only [W.JB.ca_,br_if]
   rw [if_neg (by simp)]
   have:List.take gs.length (wds gs)=wds gs:=by rw [List.take_of_length_le];simp [wds]
   exact ⟨_,rfl,by rw [this] at ht;exact ht⟩)
  (s:=((0:Int),UJ)) ⟨rfl,tells_nil⟩
 simp only [W.JB,List.length_map,uP]
 rw [h1]
 exact ⟨x.2,rfl,h2⟩
theorem lett_take {ls:List Int} {i:Nat} {y:Int} (h:i<ls.length):(ls.set i y).take (i+1)=ls.take i++[y]:=by
 rw [List.take_succ_eq_append_getElem (by simpa using h),List.getElem_set_self,List.take_set_of_le (Nat.le_refl _)]
def lett (p:Wd):List Int:=43::(txt p).map fun u=>((u.toNat:Nat):Int)
theorem UI (p:Wd) (a:Lt):lett (p++[a])=lett p++[(((enc a).toNat:Nat):Int)]:=by simp [lett,txt]
theorem UW (p:Wd):(lett p).length=p.length+1:=by simp [lett,txt]
theorem lett_text (p:Wd):(lett p).map (fun n=>UInt8.ofNat (Int.toNat n))=43::txt p:=by
 rw [lett,List.map_cons,List.map_map]
 congr 1
 induction txt p with
 | nil=>rfl
 | cons u l ih=>rw [List.map_cons,ih];simp
theorem lett_read {p:Wd} {n:Nat} (h:p.length=n) (hn:1≤n∧n≤12):W.JD (43::txt p) (n:Int)=some (pl p false,true):=by
 have h1:isP (43::txt p) n=true:=by simp [isP,kI,h,UN]
 rcases tread_ok (43::txt p) n hn with ⟨_,g⟩ | ⟨g,_⟩
 ·rw [g]
  have:wd (43::txt p)=p:=Vs p
  rw [this];rfl
 ·rw [h1] at g;cases g
theorem weigh (p:Wd) (a:Lt) (h:p.length<100):(if ((((enc a).toNat:Nat):Int) !=73)=true then some (IntKind.i64.wrap ((wgt p:Int)+1)) else some (wgt p:Int))=some ((wgt (p++[a]):Nat):Int):=by
 have:=Hs p
 rw [wgt_app]
 obtain ⟨a,b⟩:=a
 cases a<;>cases b<;>simp [enc,wgt]<;>rw [ji (by omega)]<;>rfl
theorem letter_at {i:Nat} (h:i<4):idx [(73:Int),(88:Int),(89:Int),(90:Int)] (i:Int)=some (((enc (L4[i]'h)).toNat:Nat):Int):=by
 rcases (show i=0∨i=1∨i=2∨i=3 by omega) with rfl | rfl | rfl | rfl<;>rfl
end Go.Ql
end
section
set_option maxHeartbeats 1000000
namespace Go.Ql
def stepF (ws:List Wd) (t:List Bool) (o:Option Wd) (e:Wd):Option Wd:=
 if ke ws e=t then (match o with | none=>some e | some b=>if wgt e<wgt b then some e else some b) else o
def decF (ws:List Wd) (t:List Bool) (es:List Wd):Option Wd:=es.foldl (stepF ws t) none
theorem decF_snoc (ws:List Wd) (t:List Bool) (es:List Wd) (e:Wd):decF ws t (es++[e])=stepF ws t (decF ws t es) e:=by simp [decF]
theorem decF_some {ws:List Wd} {t:List Bool}:∀(es:List Wd) (o:Option Wd) (b:Wd),(∀b,o=some b→ke ws b=t)→es.foldl (stepF ws t) o=some b →
 ke ws b=t∧(b∈es∨o=some b)∧(∀e∈es,ke ws e=t→wgt b≤wgt e) ∧ ∀c,o=some c→wgt b≤wgt c
 | [],o,b,h,hb=>by
   simp only [List.foldl_nil] at hb
   exact ⟨h b hb,.inr hb,(fun _ h=>nomatch h),fun c hc=>by rw [hb] at hc;cases hc;exact Nat.le_refl _⟩
 | a::es,o,b,h,hb=>by
   rw [List.foldl_cons] at hb
   have hs:∀b,stepF ws t o a=some b→ke ws b=t:=by
    intro b hb
    unfold stepF at hb
    split at hb
    ·rename_i ha
     split at hb
     ·cases hb;exact ha
     ·rename_i c
      split at hb
      ·cases hb;exact ha
      ·cases hb;exact h _ rfl
    ·exact h b hb
   obtain ⟨h1,h2,h3,h4⟩:=decF_some es _ b hs hb
   refine ⟨h1,?_,?_,?_⟩
   ·rcases h2 with h2 | h2
    ·exact .inl (List.mem_cons_of_mem _ h2)
    ·unfold stepF at h2
     split at h2
     ·split at h2
      ·cases h2;exact .inl (List.mem_cons_self ..)
      ·split at h2
       ·cases h2;exact .inl (List.mem_cons_self ..)
       ·exact .inr h2
     ·exact .inr h2
   ·intro e he ht
    rcases List.mem_cons.1 he with rfl | he
    ·cases o with
     | none=>exact h4 _ (by simp [stepF,ht])
     | some c=>
       by_cases hc:wgt e<wgt c
       ·exact h4 _ (by simp [stepF,ht,hc])
       ·have:=h4 c (by simp [stepF,ht,hc])
        omega
    ·exact h3 e he ht
   ·intro c hc
    subst hc
    by_cases ha:ke ws a=t
    ·by_cases hw:wgt a<wgt c
     ·have:=h4 a (by simp [stepF,ha,hw])
      omega
     ·exact h4 c (by simp [stepF,ha,hw])
    ·exact h4 c (by simp [stepF,ha])
theorem decF_none {ws:List Wd} {t:List Bool}:∀(es:List Wd) (o:Option Wd),es.foldl (stepF ws t) o=none→o=none ∧ ∀e∈es,ke ws e≠t
 | [],o,h=>⟨h,fun _ h=>nomatch h⟩
 | a::es,o,h=>by
   rw [List.foldl_cons] at h
   obtain ⟨h1,h2⟩:=decF_none es _ h
   unfold stepF at h1
   split at h1
   ·split at h1
    ·cases h1
    ·split at h1<;>cases h1
   ·rename_i ha
    exact ⟨h1,fun e he=>by
     rcases List.mem_cons.1 he with rfl | he
     ·exact ha
     ·exact h2 e he⟩
abbrev Pq:=Int×Int×Bool
def stepL (ws:List Wd) (st:List Int×List Pq) (e:Wd):List Int×List Pq:=
 if (wgt e:Int)<st.1.getD (pack (ke ws e)) 0 then (st.1.set (pack (ke ws e)) (wgt e:Int),st.2.set (pack (ke ws e)) (pl e false)) else st
theorem Hu (ws:List Wd) (e:Wd):(ke ws e).length=ws.length:=by simp [ke]
def LenOk (ws:List Wd) (st:List Int×List Pq):Prop:=st.1.length=2^ws.length∧st.2.length=2^ws.length
theorem stepL_len {ws:List Wd} {st:List Int×List Pq} {e:Wd} (h:LenOk ws st):LenOk ws (stepL ws st e):=by
 unfold stepL LenOk at *
 split<;>simp [h]
theorem foldL_len {ws:List Wd}:∀(es:List Wd) (st:List Int×List Pq),LenOk ws st→LenOk ws (es.foldl (stepL ws) st)
 | [],_,h=>h
 | e::es,st,h=>foldL_len es _ (stepL_len h)
def InvL (ws:List Wd) (n:Nat) (es:List Wd) (st:List Int×List Pq):Prop:=LenOk ws st ∧ ∀t:List Bool,t.length=ws.length →
 (decF ws t es=none∧st.1[pack t]?=some ((n+1:Nat):Int))∨(∃e,decF ws t es=some e∧st.1[pack t]?=some (wgt e:Int)∧st.2[pack t]?=some (pl e false))
theorem InvL.step {ws:List Wd} {n:Nat} {es:List Wd} {st:List Int×List Pq} {e:Wd} (h:InvL ws n es st) (he:e.length=n):InvL ws n (es++[e]) (stepL ws st e):=by
 refine ⟨stepL_len h.1,fun t ht=>?_⟩
 have hw:=Hs e
 rw [decF_snoc]
 by_cases hb:ke ws e=t
 ·subst hb
  have hlt:=Uf (ke ws e)
  rw [Hu] at hlt
  rcases h.2 _ ht with ⟨h1,h2⟩ | ⟨b,h1,h2,h3⟩
  ·rw [h1]
   have:stepL ws st e=(st.1.set (pack (ke ws e)) (wgt e:Int),st.2.set (pack (ke ws e)) (pl e false)):=by
    unfold stepL
    rw [if_pos]
    rw [List.getD,h2]
    simp;omega
   rw [this]
   refine .inr ⟨e,by simp [stepF],?_,?_⟩
   ·simp only;rw [List.getElem?_set_self (by rw [h.1.1];exact hlt)]
   ·simp only;rw [List.getElem?_set_self (by rw [h.1.2];exact hlt)]
  ·rw [h1]
   by_cases hc:wgt e<wgt b
   ·have:stepL ws st e=(st.1.set (pack (ke ws e)) (wgt e:Int),st.2.set (pack (ke ws e)) (pl e false)):=by
     unfold stepL
     rw [if_pos]
     rw [List.getD,h2]
     simp;omega
    rw [this]
    refine .inr ⟨e,by simp [stepF,hc],?_,?_⟩
    ·simp only;rw [List.getElem?_set_self (by rw [h.1.1];exact hlt)]
    ·simp only;rw [List.getElem?_set_self (by rw [h.1.2];exact hlt)]
   ·have:stepL ws st e=st:=by
     unfold stepL
     rw [if_neg]
     rw [List.getD,h2]
     simp;omega
    rw [this]
    exact .inr ⟨b,by simp [stepF,hc],h2,h3⟩
 ·have hne:pack (ke ws e)≠pack t:=fun hh=>hb (pack_inj (by rw [Hu,ht]) hh)
  have e1:(stepL ws st e).1[pack t]?=st.1[pack t]?:=by
   unfold stepL
   split
   ·simp only;rw [List.getElem?_set_ne hne]
   ·rfl
  have e2:(stepL ws st e).2[pack t]?=st.2[pack t]?:=by
   unfold stepL
   split
   ·simp only;rw [List.getElem?_set_ne hne]
   ·rfl
  rw [e1,e2,show stepF ws t (decF ws t es) e=decF ws t es by simp [stepF,hb]]
  exact h.2 t ht
theorem InvL.fold {ws:List Wd} {n:Nat}:∀(fs es:List Wd) (st:List Int×List Pq),(∀e∈fs,e.length=n)→InvL ws n es st→InvL ws n (es++fs) (fs.foldl (stepL ws) st)
 | [],es,st,_,h=>by simpa using h
 | e::fs,es,st,hf,h=>by
   have:=InvL.fold fs (es++[e]) _ (fun x hx=>hf x (List.mem_cons_of_mem _ hx)) (h.step (hf e (List.mem_cons_self ..)))
   simpa using this
theorem see_least {n:Nat} {gs:List Tx} {e:Wd} {st:List Int×List Pq} (hw:∀w∈wds gs,w.length=n) (he:e.length=n) (hn:n≤12) (hk:gs.length≤12) (hst:LenOk (wds gs) st) :
 W.Ji (pl e false) (wgt e:Int) (gs.map pw) st.1 st.2=some (gs.map pw,(stepL (wds gs) st e).1,(stepL (wds gs) st e).2,()):=by
 have hsh:W.jV (gs.map pw) ((pl e false).1,(pl e false).2.1,(pl e false).2.2)=some (syn (wds gs) e):=shows_ok hw he hn hk false
 have hnum:W.Jf (syn (wds gs) e)=some (pack (ke (wds gs) e):Int):=by
  rw [syn_bits];exact kNumber_ok _ (by simp [ke,wds];omega)
 have hlt:=Uf (ke (wds gs) e)
 rw [Hu] at hlt
 have l1:pack (ke (wds gs) e)<st.1.length:=by rw [hst.1];exact hlt
 have l2:pack (ke (wds gs) e)<st.2.length:=by rw [hst.2];exact hlt
 simp only [W.Ji,W.Ji.c3,hsh,ja,hnum,uP,br_if]
 rw [UH l1,UH l2,JJ l1,JJ l2]
 simp only [ja,stepL,JW l1,decide_eq_true_eq,Int.toNat_natCast]
 split<;>rfl
noncomputable def Fl (f:Nat) (q w n:Int) (L:List Pq) (ls:List Int) (wt:List Int) (bs:List Pq):Option (Int×List Pq×List Int×List Int×List Pq×Unit):=
 (W.jf.fuel f).F (q,w,n,L,ls,wt,bs,())
theorem least_rec {n:Nat} {gs:List Tx} (hw:∀w∈wds gs,w.length=n) (hn:1≤n∧n≤12) (hk:gs.length≤12) :
 ∀(k f:Nat) (p:Wd) (ls:List Int) (st:List Int×List Pq),p.length+k=n→k<f→ls.length=n+1→ls.take (p.length+1)=lett p→LenOk (wds gs) st →
 ∃ls',Fl f (p.length:Int) (wgt p:Int) (n:Int) (gs.map pw) ls st.1 st.2=some ((n:Int),gs.map pw,ls',(((errs k).map (p ++ ·)).foldl (stepL (wds gs)) st).1,(((errs k).map (p ++ ·)).foldl (stepL (wds gs)) st).2,())∧ls'.length=n+1∧ls'.take (p.length+1)=lett p:=by
 intro k
 induction k with
 | zero=>
   intro f p ls st hp hf hl ht hst
   obtain ⟨f,rfl⟩:∃g,f=g+1:=⟨f-1,by omega⟩
   have hp:p.length=n:=by omega
   refine ⟨ls,?_,hl,ht⟩
   have hls:ls=lett p:=by rw [←ht,hp,←hl,List.take_length]
   show @W.jf (W.jf.fuel f) (p.length:Int) (wgt p:Int) (n:Int) (gs.map pw) ls st.1 st.2=_
   simp only [W.jf,uP,br_if]
   rw [if_pos (by simp [hp]),hls,lett_text,lett_read hp hn,ja]
   rw [show W.Ji ((pl p false).1,(pl p false).2.1,(pl p false).2.2) (wgt p:Int) (gs.map pw) st.1 st.2=_ from see_least hw hp hn.2 hk hst]
   simp [errs,ja]
 | succ k ih=>
   intro f p ls st hp hf hl ht hst
   obtain ⟨f,rfl⟩:∃g,f=g+1:=⟨f-1,by omega⟩
   have hp:p.length<n:=by omega
   show ∃ls',@W.jf (W.jf.fuel f) (p.length:Int) (wgt p:Int) (n:Int) (gs.map pw) ls st.1 st.2=_∧_
   simp only [W.jf,uP,br_if]
   rw [if_neg (by simp;omega)]
   obtain ⟨x,h1,ls',h2,h3,h4⟩:=Ud (f:=fun s ↦ @W.jf.cb_ (W.jf.fuel f) _ (p.length:Int) (wgt p:Int) [(73:Int),(88:Int),(89:Int),(90:Int)] (↑(4:Nat):Int) (Prod.fst s) (Prod.fst (Prod.snd s)) (Prod.fst (Prod.snd (Prod.snd s))) (Prod.fst (Prod.snd (Prod.snd (Prod.snd s)))) (Prod.fst (Prod.snd (Prod.snd (Prod.snd (Prod.snd s))))) (Prod.snd (Prod.snd (Prod.snd (Prod.snd (Prod.snd s))))) some) 4
    (fun i s=>∃ls',s=((i:Int),(n:Int),gs.map pw,ls',(((L4.take i).flatMap fun a=>(errs k).map fun e=>p++a::e).foldl (stepL (wds gs)) st).1,(((L4.take i).flatMap fun a=>(errs k).map fun e=>p++a::e).foldl (stepL (wds gs)) st).2)∧ls'.length=n+1∧ls'.take (p.length+1)=lett p)
    (fun x=>∃ls',x=((4:Int),(n:Int),gs.map pw,ls',((L4.flatMap fun a=>(errs k).map fun e=>p++a::e).foldl (stepL (wds gs)) st).1,((L4.flatMap fun a=>(errs k).map fun e=>p++a::e).foldl (stepL (wds gs)) st).2)∧ls'.length=n+1∧ls'.take (p.length+1)=lett p)
    (by
     rintro i s hi ⟨ls',rfl,g1,g2⟩
     have hset:(ls'.set (p.length+1) (((enc (L4[i]'hi)).toNat:Nat):Int)).take ((p++[L4[i]'hi]).length+1)=lett (p++[L4[i]'hi]):=by
      rw [List.length_append,List.length_singleton,lett_take (by omega),g2,UI]
     obtain ⟨ls2,k1,k2,k3⟩:=ih f (p++[L4[i]'hi]) (ls'.set (p.length+1) (((enc (L4[i]'hi)).toNat:Nat):Int)) (((L4.take i).flatMap fun a=>(errs k).map fun e=>p++a::e).foldl (stepL (wds gs)) st) (by simp;omega) (by omega) (by simpa using g1) hset (foldL_len _ _ hst)
     simp only [W.jf.cb_,W.jf.co_,br_if,letter_at hi,ja,uP]
     rw [if_pos (by simp;omega),ji (by omega),kE (by omega) (by omega),ja,show ((p.length:Int)+1)=((p.length+1:Nat):Int) by omega,JJ (by omega),ja,weigh p _ (by omega),ja,Int.toNat_natCast]
     rw [List.length_append,List.length_singleton] at k1
     refine .inl ⟨_,Vx (show @W.jf.self (W.jf.fuel f) (((p.length+1:Nat):Int),((wgt (p++[L4[i]'hi]):Nat):Int),(n:Int),gs.map pw,ls'.set (p.length+1) (((enc (L4[i]'hi)).toNat:Nat):Int),(((L4.take i).flatMap fun a=>(errs k).map fun e=>p++a::e).foldl (stepL (wds gs)) st).1,(((L4.take i).flatMap fun a=>(errs k).map fun e=>p++a::e).foldl (stepL (wds gs)) st).2,())=some _ from k1) rfl,ls2,?_,k2,?_⟩
     ·rw [ji (by omega),List.take_succ_eq_append_getElem (show i<L4.length from hi),List.flatMap_append,List.foldl_append]
      simp
      exact ⟨rfl,rfl⟩
     ·have:=congrArg (List.take (p.length+1)) k3
      rw [List.take_take,UI,List.take_append_of_le_length (by rw [UW];omega)] at this
      rw [show min (p.length+1) ((p++[L4[i]'hi]).length+1)=p.length+1 by simp] at this
      rw [this,List.take_of_length_le (by rw [UW];omega)])
    (by
     rintro s ⟨ls',rfl,g1,g2⟩
     simp only [W.jf.cb_,br_if]
     rw [if_neg (by simp)]
     exact ⟨_,rfl,ls',rfl,g1,g2⟩)
    (s:=((0:Int),(n:Int),gs.map pw,ls,st.1,st.2)) ⟨ls,rfl,hl,ht⟩
   rw [h1,h2]
   refine ⟨ls',?_,h3,h4⟩
   have he:(errs (k+1)).map (p ++ ·)=L4.flatMap fun a=>(errs k).map fun e=>p++a::e:=by
    rw [errs,List.map_flatMap]
    congr 1
    funext a
    rw [List.map_map]
    rfl
   rw [he]
   rfl
theorem errsl_ok {n:Nat} {gs:List Tx} (hw:∀w∈wds gs,w.length=n) (hn:1≤n∧n≤12) (hk:gs.length≤12) (st:List Int×List Pq) (hst:LenOk (wds gs) st) :
 W.Jv (n:Int) (gs.map pw) st.1 st.2=some (gs.map pw,((errs n).foldl (stepL (wds gs)) st).1,((errs n).foldl (stepL (wds gs)) st).2,()):=by
 obtain ⟨ls',h1,_,_⟩:=least_rec hw hn hk n 16 [] ((List.replicate (n+1) (0:Int)).set 0 43) st (by simp) (by omega) (by simp) (by simp [lett,txt,List.replicate_succ]) hst
 simp only [W.Jv,uP]
 rw [ji (by omega),jB (by simp;omega),ja,show ((n:Int)+1)=((n+1:Nat):Int) by omega,Int.toNat_natCast,kE (by simp) (by simp),ja,show idx (List.replicate (n+1) (0:Int)) 0=some 0 from rfl,ja]
 refine Vx (show W.kz ((0:Int),(0:Int),(n:Int),gs.map pw,(List.replicate (n+1) (0:Int)).set 0 43,st.1,st.2,())=some _ from h1) ?_
 simp
theorem least_ok {n:Nat} {gs:List Tx} (hw:∀w∈wds gs,w.length=n) (hn:1≤n∧n≤12) (hk:gs.length≤12) (gs':List Tx):∃wt bs,W.Jx ((n:Int),gs') (gs.map pw)=some bs∧InvL (wds gs) n (errs n) (wt,bs):=by
 have hl:(wds gs).length=gs.length:=by simp [wds]
 have two:(2:Nat)^gs.length≤2^12:=Nat.pow_le_pow_right (by decide) hk
 have hpow:IntKind.i64.wrap ((1:Int)*(2:Int)^Min.min gs.length 64)=((2^gs.length:Nat):Int):=by
  have h0:(0:Int)≤((2^gs.length:Nat):Int):=Int.natCast_nonneg _
  rw [Nat.min_eq_left (by omega),Int.one_mul,show ((2:Int)^gs.length)=((2^gs.length:Nat):Int) by simp,ji (by omega)]
 have hP2:(2:Nat)^(wds gs).length=2^gs.length:=by rw [hl]
 simp only [W.Jx,List.length_map,List.length_replicate,Int.toNat_natCast,hpow,uP]
 generalize hP:2^gs.length=P at *
 have hst:LenOk (wds gs) (List.replicate (P) ((n+1:Nat):Int),List.replicate (P) ((0:Int),(0:Int),false)):=by simp [LenOk,hP2]
 have hinv:InvL (wds gs) n [] (List.replicate (P) ((n+1:Nat):Int),List.replicate (P) ((0:Int),(0:Int),false)):=by
  refine ⟨hst,fun t ht=>.inl ⟨rfl,?_⟩⟩
  have:=Uf t
  rw [ht,hP2] at this
  simp only
  rw [List.getElem?_replicate,if_pos this]
 have hfin:=InvL.fold (errs n) [] _ (fun e he=>VA he) hinv
 refine ⟨((errs n).foldl (stepL (wds gs)) _).1,((errs n).foldl (stepL (wds gs)) _).2,?_,hfin⟩
 rw [jB (by simp),ja,jB (by simp;omega),ja,jB (by simp;omega),ja]
 rw [Yg (s0:=((0:Int),List.replicate (P) (0:Int))) (P) (fun k=>((k:Int),List.replicate k ((n+1:Nat):Int)++List.replicate (P-k) 0)) (((P:Nat):Int),List.replicate (P) ((n+1:Nat):Int))]
 ·have hE:=errsl_ok hw hn hk _ hst
  simp only at hE
  rw [ja,hE,ja]
 ·intro i hi
  simp only [W.Jx.cb_,br_if]
  rw [if_pos (by simpa using hi),UH (by simp;omega),ja,JJ (by simp;omega),ja,ji (by omega),ji (by omega),Int.toNat_natCast]
  have e1:List.replicate (P-i) (0:Int)=0::List.replicate (P-(i+1)) 0:=by
   rw [show P-i=(P-(i+1))+1 by omega,List.replicate_succ]
  have:=set_mid (List.replicate i ((n+1:Nat):Int)) (0:Int) ((n+1:Nat):Int) (List.replicate (P-(i+1)) 0)
  rw [List.length_replicate] at this
  rw [e1,show ((n:Int)+1)=((n+1:Nat):Int) by omega,this,List.replicate_succ']
  simp
 ·simp only [W.Jx.cb_,br_if]
  rw [if_neg (by simp),Nat.sub_self]
  simp
 ·simp
theorem bit_of {l:List Bool} {q:Nat} (h:q<l.length) (hl:l.length≤12):ibits BinOp.and IntKind.u64 (Int.fdiv (pack l:Int) ((2:Int)^Min.min (Int.toNat (q:Int)) 64)) 1=((l[q].toNat:Nat):Int):=by
 have two:(2:Nat)^l.length≤2^12:=Nat.pow_le_pow_right (by decide) hl
 have hp:=Uf l
 have hp2:pack l<4096:=by omega
 have hq:pack l / 2^q<2^64:=Nat.lt_of_le_of_lt (Nat.div_le_self _ _) (Nat.lt_trans hp2 (by decide))
 have h64:min q 64=q:=Nat.min_eq_left (by omega)
 rw [Int.toNat_natCast,h64,Int.fdiv_eq_ediv_of_nonneg _ (by exact Int.le_of_lt (Int.pow_pos (by decide))),show ((pack l:Int) / 2^q)=((pack l / 2^q:Nat):Int) by simp,
  show (1:Int)=((1:Nat):Int) from rfl,iand64 hq (by decide),Nat.and_one_is_mod]
 have:=pack_bit l q
 rw [Nat.testBit_eq_decide_div_mod_eq,JW h] at this
 have h2:=Nat.mod_two_eq_zero_or_one (pack l / 2^q)
 cases hb:l[q] with
 | true=>rw [hb,decide_eq_true_eq] at this;rw [this];rfl
 | false=>
   rw [hb,decide_eq_false_iff_not] at this
   rw [show pack l / 2^q % 2=0 by omega];rfl
theorem letter_bits (a b:Bool):idx (Array.toList (ByteArray.data (ByteArray.mk #[(73:UInt8),(88:UInt8),(90:UInt8),(89:UInt8)]))) (ibits BinOp.or IntKind.u64 ((a.toNat:Nat):Int) (IntKind.u64.wrap (((b.toNat:Nat):Int)*(2:Int)^(1:Nat))))=some (enc (a,b)):=by
 cases a<;>cases b<;>rfl
theorem ptext_ok {e:Wd} {n:Nat} (he:e.length=n) (hn:n≤12):W.JI (pl e false) (n:Int)=some (43::txt e):=by
 simp only [W.JI,W.jp,W.jp.cg_,pl,br_if]
 rw [if_neg (by simp),ja]
 rw [Yg (s0:=((0:Int),[(43:Int)])) n (fun k=>((k:Int),lett (e.take k))) ((n:Int),lett e)]
 ·rw [ja,lett_text];rfl
 ·intro i hi
  have hx:ibits BinOp.and IntKind.u64 (Int.fdiv (xs e:Int) ((2:Int)^Min.min (Int.toNat (i:Int)) 64)) 1=((((xl e)[i]'(by rw [VT];omega)).toNat:Nat):Int):=bit_of _ (by rw [VT];omega)
  have hz:ibits BinOp.and IntKind.u64 (Int.fdiv (zs e:Int) ((2:Int)^Min.min (Int.toNat (i:Int)) 64)) 1=((((zl e)[i]'(by rw [Vh];omega)).toNat:Nat):Int):=bit_of _ (by rw [Vh];omega)
  simp only [W.jp.cf_,W.jp.c7,br_if]
  rw [if_pos (by simpa using hi),jB (by simp),hx,hz,letter_bits]
  simp only [ja]
  rw [jB (by rw [UW];simp;omega),ja,ja,ji (by omega),List.take_succ_eq_append_getElem (by omega),UI]
  simp [xl,zl]
 ·simp only [W.jp.cf_,br_if]
  rw [if_neg (by simp),List.take_of_length_le (by omega)]
 ·simp [lett,txt]
def badB (s:List Int) (i:Nat):Bool:=s.getD i 0 !=0&&s.getD i 0 !=1
theorem bools_of {s:List Int} (h:fstF (badB s) 0 s.length=none):s=(s.map (· == 1)).map fun b=>(b.toNat:Int):=by
 rw [List.map_map]
 apply List.ext_getElem (by simp)
 intro i h1 h2
 have:=Vi.1 h i (by omega) (by omega)
 rw [badB,JW h1] at this
 simp only [List.getElem_map,Function.comp]
 by_cases h0:s[i]=0
 ·rw [h0];rfl
 ·by_cases h1:s[i]=1
  ·rw [h1];rfl
  ·simp [h0,h1] at this
theorem pdec_ok (n:Int) (gs:List Tx) (s:List Int) (hs:s.length≤17592186043904) :
 ((chkC n gs).1≠0∧W.jv (n,gs) s=some ([],chkC n gs))∨((chkC n gs).1=0∧9<n∧W.jv (n,gs) s=some ([],21,0)) ∨
 ((chkC n gs).1=0∧n≤9∧s.length≠gs.length∧W.jv (n,gs) s=some ([],25,0)) ∨
 ((chkC n gs).1=0∧n≤9∧s.length=gs.length ∧ ∃i,fstF (badB s) 0 s.length=some i∧W.jv (n,gs) s=some ([],20,(i:Int))) ∨
 ((chkC n gs).1=0∧n≤9∧s.length=gs.length∧fstF (badB s) 0 s.length=none ∧ ∃e,decF (wds gs) (s.map (· == 1)) (errs n.toNat)=some e∧W.jv (n,gs) s=some (43::txt e,0,0)):=by
 obtain ⟨L,h1,h2⟩:=pread_ok n gs
 simp only [W.jv,h1,ja,br_if]
 by_cases h0:(chkC n gs).1=0
 ·obtain ⟨h3,m,rfl,hm1,hm2,hk,hall,_,hd⟩:=chk_zero h0
  rw [if_neg (by simp [h0]),h2 h0]
  right
  by_cases h9:9<m
  ·rw [if_pos (by simp;omega)];exact .inl ⟨h0,by omega,rfl⟩
  ·rw [if_neg (by simp;omega)]
   right
   simp only [List.length_map]
   by_cases hls:s.length=gs.length
   ·rw [if_neg (by simp [hls])]
    right
    have hl:(wds gs).length=gs.length:=by simp [wds]
    have c12:∀i,(hi:i<s.length)→W.jv.c12 s[i] some=some (badB s i):=fun i hi=>by
     simp only [W.jv.c12,br_if,badB,JW hi]
     cases s[i] !=0<;>simp
    have key:=kZ (f:=fun st↦W.jv.ci_ s (s.length:Int) st some) (P:=fun k st=>st=(k:Int)) s.length (badB s)
     (X:=fun i e=>∃b,e=([],b,20,(i:Int))) (Q:=fun _=>True) (s:=(0:Int))
     (by
      rintro i st hi rfl hp
      simp only [W.jv.ci_,br_if,JJ hi,ja,c12 i hi]
      rw [if_pos (by simpa using hi),if_pos hp]
      exact ⟨_,rfl,_,rfl⟩)
     (by
      rintro i st hi rfl hp
      simp only [W.jv.ci_,br_if,JJ hi,ja,c12 i hi]
      rw [if_pos (by simpa using hi),if_neg (by simpa using hp),ji (by omega)]
      exact ⟨_,rfl,rfl⟩)
     (by
      rintro st rfl
      simp only [W.jv.ci_,br_if]
      rw [if_neg (by simp)]
      exact ⟨_,rfl,trivial⟩)
     rfl
    rcases key with ⟨i,e,g1,g2,b,rfl⟩ | ⟨r,g1,g2,_⟩
    ·rw [g2];exact .inl ⟨h0,by omega,hls,i,g1,rfl⟩
    ·rw [g2,ja,Vg]
     refine .inr ⟨h0,by omega,hls,g1,?_⟩
     rw [Int.toNat_natCast]
     obtain ⟨wt,bs,k1,k2⟩:=least_ok (UE hall) ⟨hm1,hm2⟩ (by omega) gs
     have hlen:(s.map (· == 1)).length=(wds gs).length:=by simp [hl,hls]
     have hsb:=bools_of g1
     have hnum:W.Jf s=some (pack (s.map (· == 1)):Int):=by
      conv=>lhs;rw [hsb]
      exact kNumber_ok _ (by simp;omega)
     rcases k2.2 _ hlen with ⟨q1,_⟩ | ⟨e,q1,_,q3⟩
     ·exfalso
      obtain ⟨f,f1,f2⟩:=attain (n:=m) (by omega) (UE hall) (fun i hi=>Vi.1 hd i (by omega) (by omega)) (s.map (· == 1)) hlen
      exact (decF_none _ _ q1).2 f (by rw [←f1];exact errs_all f) f2
     ·refine ⟨e,q1,?_⟩
      have he:e.length=m:=by
       have:=(decF_some _ _ e (fun _ h=>by cases h) q1).2.1
       rcases this with h | h
       ·exact VA h
       ·cases h
      simp only [W.jv.c15,k1,ja,hnum]
      rw [idx_at,q3,ja,ptext_ok he hm2,h3]
      rfl
   ·rw [if_pos (by simp;omega)];exact .inl ⟨h0,by omega,hls,rfl⟩
 ·rw [if_pos (by simpa using h0)]
  exact .inl ⟨h0,rfl⟩
end Go.Ql
end
section
set_option maxHeartbeats 1000000
namespace Go.Ql
theorem rweight_ok (e:Wd) (he:e.length≤140737488355328):W.Jg (txt e)=some (wgt e:Int):=by
 simp only [W.Jg]
 rw [Yg (s0:=((0:Int),(0:Int))) e.length (fun k=>((wgt (e.take k):Int),(k:Int))) ((wgt e:Int),(e.length:Int))]
 ·rfl
 ·intro i hi
  have hw:=Hs (e.take i)
  rw [List.length_take] at hw
  have h73:((((enc e[i]).toNat:Nat):Int) !=73)=(e[i] !=(false,false)):=by
   generalize e[i]=a
   obtain ⟨a,b⟩:=a
   cases a<;>cases b<;>rfl
  simp only [W.Jg.ca_,W.Jg.cn_,br_if,JJ (l:=txt e) (i:=i) (by rw [kI];exact hi),ja]
  rw [if_pos (by simp [kI];exact hi),show (txt e)[i]'(by rw [kI];exact hi)=enc e[i] by simp [txt],h73,List.take_succ_eq_append_getElem hi,wgt_app,show wgt [e[i]]=(e[i] !=(false,false)).toNat by simp [wgt]]
  cases e[i] !=(false,false) with
  | true=>
    rw [if_pos rfl,ji (by omega),ja,ji (by omega)]
    rfl
  | false=>
    rw [if_neg (by simp),ja,ji (by omega)]
    rfl
 ·simp only [W.Jg.ca_,br_if]
  rw [if_neg (by simp [kI]),List.take_length]
 ·rfl
theorem ringroup_ok {n:Nat} {ws:List Wd} {e:Wd} (hw:∀w∈ws,w.length=n) (he:e.length=n) (hn:n≤12) (hk:ws.length≤12):W.jZ (if ws=[] then [] else (grp n ws).map txt) (txt e)=some (sp (ws.map vec) (vec e)):=by
 have hgl:(if ws=[] then [] else (grp n ws).map txt).length≤4096:=by
  split
  ·simp
  ·rw [List.length_map,grp,Hh (n:=n)]
   have:(2:Nat)^ws.length≤2^12:=Nat.pow_le_pow_right (by decide) hk
   simp only [List.length_singleton];omega
 generalize hG:(if ws=[] then [] else (grp n ws).map txt)=G at *
 have key:=kZ (f:=fun s↦W.jZ.ce_ G (txt e) s some) (P:=fun k st=>st=(k:Int)) G.length (fun i=>G.getD i []==txt e)
  (X:=fun _ _=>True) (Q:=fun _=>True) (s:=(0:Int))
  (by
   rintro i st hi rfl hp
   rw [JW hi] at hp
   simp only [W.jZ.ce_,br_if,JJ hi,ja]
   rw [if_pos (by simpa using hi),if_pos hp]
   exact ⟨_,rfl,trivial⟩)
  (by
   rintro i st hi rfl hp
   rw [JW hi] at hp
   simp only [W.jZ.ce_,br_if,JJ hi,ja]
   rw [if_pos (by simpa using hi),if_neg (by simpa using hp),ji (by omega)]
   exact ⟨_,rfl,rfl⟩)
  (by
   rintro st rfl
   simp only [W.jZ.ce_,br_if]
   rw [if_neg (by simp)]
   exact ⟨_,rfl,trivial⟩)
  rfl
 have hmem:(∃g∈G,g=txt e)→sp (ws.map vec) (vec e)=true:=by
  rintro ⟨g,hg,rfl⟩
  rw [←hG] at hg
  split at hg
  ·cases hg
  ·obtain ⟨v,hv,hh⟩:=List.mem_map.1 hg
   rw [txt_inj hh] at hv
   exact ((Hi (by omega) hw e).1 hv).2
 simp only [W.jZ]
 rcases key with ⟨i,_,h1,h2,_⟩ | ⟨_,h1,h2,_⟩
 ·rw [h2,ja,sel_inl]
  obtain ⟨_,h3,h4,_⟩:=Uc h1
  rw [JW (by omega)] at h4
  rw [hmem ⟨_,List.getElem_mem (show i<G.length by omega),by simpa using h4⟩]
 ·rw [h2,ja,Vg]
  have hno:∀g∈G,g≠txt e:=by
   intro g hg
   obtain ⟨i,hi,rfl⟩:=List.mem_iff_getElem.1 hg
   have:=Vi.1 h1 i (by omega) (by omega)
   rw [JW hi] at this
   simpa using this
  simp only [W.jZ.c6,rweight_ok e (by omega),ja,br_if]
  by_cases h0:ws=[]
  ·subst h0
   rw [if_pos rfl] at hG
   subst hG
   rw [if_pos (by simp),ja]
   congr 1
   rw [Bool.eq_iff_iff]
   simp only [List.map_nil,sp,beq_iff_eq]
   constructor
   ·intro h
    rw [wgt_zero (show wgt e=0 by omega),Vu]
   ·intro h
    have:e=one n:=vec_inj (by rw [VK,he]) (by omega) (by rw [Vu,h])
    rw [this,wgt_one];rfl
  ·rw [if_neg h0] at hG
   have hpos:G.length≠0:=by
    rw [←hG,List.length_map,grp,Hh (n:=n)]
    have:=Nat.two_pow_pos ws.length
    simp only [List.length_singleton];omega
   rw [if_neg (by simp;intro hh;rw [hh] at hpos;exact hpos rfl),ja]
   congr 1
   symm
   rw [Bool.eq_false_iff]
   intro hs
   refine hno (txt e) ?_ rfl
   rw [←hG]
   exact List.mem_map.2 ⟨e,(Hi (by omega) hw e).2 ⟨he,hs⟩,rfl⟩
theorem ixyz_at {j:Nat} (h:j<4):List.drop j (List.take (j+1) (Array.toList (ByteArray.data (ByteArray.mk #[(73:UInt8),(88:UInt8),(89:UInt8),(90:UInt8)]))))=txt [L4[j]'h]:=by
 rcases (show j=0∨j=1∨j=2∨j=3 by omega) with rfl | rfl | rfl | rfl<;>rfl
theorem txt_app (w v:Wd):txt (w++v)=txt w++txt v:=by simp [txt]
theorem rerrors_ok (n:Nat) (hn:n≤7):W.jL (n:Int)=some ((errs n).map txt):=by
 have h4:∀i,i≤7→(4:Nat)^i≤4^7:=fun i hi=>Nat.pow_le_pow_right (by decide) hi
 simp only [W.jL]
 rw [Yg (s0:=([(ByteArray.mk #[]).data.toList],(0:Int))) n (fun i=>((errs i).map txt,(i:Int))) ((errs n).map txt,(n:Int))]
 ·rfl
 ·intro i hi
  have hc:=VJ i
  have hci:=h4 i (by omega)
  simp only [W.jL.ca_,br_if]
  rw [if_pos (by simpa using hi),Yg (s0:=((0:Int),([]:List Tx))) (errs i).length (fun k=>((k:Int),(((errs i).take k).flatMap fun e=>L4.map fun a=>txt (e++[a])))) (((errs i).length:Int),(errs (i+1)).map txt)]
  ·rw [ja,ji (by omega)]
   rfl
  ·intro k hk
   simp only [W.jL.cd_,br_if,List.length_map]
   have hfl:(((errs i).take k).flatMap fun e=>L4.map fun a=>txt (e++[a])).length=k*4:=by
    rw [List.length_flatMap]
    have:∀l:List Wd,(l.map fun e=>(L4.map fun a=>txt (e++[a])).length).sum=l.length*4:=by
     intro l
     induction l with
     | nil=>rfl
     | cons a l ih=>rw [List.map_cons,List.sum_cons,ih,List.length_cons];simp [L4];omega
    rw [this,List.length_take];omega
   rw [if_pos (by simpa using hk),Yg (s0:=((0:Int),(((errs i).take k).flatMap fun e=>L4.map fun a=>txt (e++[a])))) 4 (fun j=>((j:Int),(((errs i).take k).flatMap fun e=>L4.map fun a=>txt (e++[a]))++(L4.take j).map fun a=>txt ((errs i)[k]++[a]))) ((4:Int),(((errs i).take (k+1)).flatMap fun e=>L4.map fun a=>txt (e++[a])))]
   ·rw [ja,ji (by omega)]
    rfl
   ·intro j hj
    have hlk:=VA (List.getElem_mem hk)
    simp only [W.jL.ci_,W.jL.c12,br_if,JJ (l:=(errs i).map txt) (i:=k) (by simpa using hk),ja,List.getElem_map]
    rw [if_pos (by simp;omega),ji (by omega),show ((j:Int)+1)=((j+1:Nat):Int) by omega,Int.toNat_natCast,Int.toNat_natCast,ixyz_at hj,
     jB (by simp;omega),ja,jB (by simp [kI,hlk];omega),ja,jB (by rw [List.length_append,hfl,List.length_map,List.length_take];simp [L4];omega),ja,ja,
     List.take_succ_eq_append_getElem (show j<L4.length from hj),List.map_append,←List.append_assoc,←txt_app]
    rfl
   ·simp only [W.jL.ci_,br_if]
    rw [if_neg (by simp),List.take_succ_eq_append_getElem hk,List.flatMap_append]
    simp [L4]
   ·simp
  ·simp only [W.jL.cd_,br_if,List.length_map]
   rw [if_neg (by simp),List.take_length,errs_snoc,List.map_flatMap]
   congr 4
  ·rfl
 ·simp only [W.jL.ca_,br_if]
  rw [if_neg (by simp)]
 ·rfl
end Go.Ql
end
section
set_option maxHeartbeats 1000000
namespace Go.Ql
def otxt:Option Wd→Tx
 | none=>[]
 | some e=>txt e
theorem rdec_ok {n:Nat} {gs:List Tx} (hall:∀g∈gs,isP g n=true) (hn:1≤n∧n≤7) (hk:gs.length≤n) (t:List Bool) (ht:t.length=gs.length) :
 W.jJ ((n:Int),gs) (t.map fun b=>(b.toNat:Int)) ((errs n).map txt)=some (otxt (decF (wds gs) t (errs n))):=by
 have hl:(wds gs).length=gs.length:=by simp [wds]
 have hc:=VJ n
 have h4:(4:Nat)^n≤4^7:=Nat.pow_le_pow_right (by decide) hn.2
 have hsame:∀e:Wd,W.jU (syn (wds gs) e) (t.map fun b=>(b.toNat:Int))=some (decide (ke (wds gs) e=t)):=fun e=>by
  rw [sameInts_ok _ _ (by simp [syn];omega),syn_bits]
  congr 1
  rw [decide_eq_decide]
  constructor
  ·intro h
   have:=congrArg (List.map fun x:Int=>x==1) h
   rw [List.map_map,List.map_map] at this
   have hf:((fun x:Int=>x==1) ∘ fun b:Bool=>(b.toNat:Int))=id:=by funext b;cases b<;>rfl
   rwa [hf,List.map_id,List.map_id] at this
  ·intro h;rw [h]
 simp only [W.jJ]
 rw [VD (l:=errs n) (t0:=(none:Option Wd)) (s0:=((ByteArray.mk #[]).data.toList,(0:Int))) (fun i o=>(otxt o,(i:Int))) (stepF (wds gs) t) (fun o=>(otxt o,((errs n).length:Int)))]
 ·rfl
 ·rintro pre e r o hz ho
  have hk2:pre.length<(errs n).length:=by rw [hz];simp
  have he0:(errs n)[pre.length]=e:=by simp [hz]
  have he:e.length=n:=VA (by rw [←he0];exact List.getElem_mem hk2)
  have hid:idx ((errs n).map txt) (pre.length:Int)=some (txt e):=by rw [JJ (by simpa using hk2),List.getElem_map,he0]
  have hob:∀b,o=some b→b.length=n:=by
   intro b hb
   rw [ho] at hb
   have:=(decF_some (ws:=wds gs) (t:=t) pre none b (fun _ h=>by cases h) hb).2.1
   rcases this with h | h
   ·exact VA (by rw [hz];exact List.mem_append_left _ h)
   ·cases h
  have hc5:W.jJ.c5 (t.map fun b=>(b.toNat:Int)) ((errs n).map txt) (otxt o) (pre.length:Int) (n:Int) gs some=some (decide (ke (wds gs) e=t ∧ ∀b,o=some b→wgt e<wgt b)):=by
   simp only [W.jJ.c5,hid,ja,rsyn_ok hall he (by omega) (by omega),hsame,rweight_ok e (by omega),br_if]
   cases o with
   | none=>rw [if_pos (by rfl)];simp
   | some b=>
     have hb:=hob b rfl
     have hne:(otxt (some b)==(ByteArray.mk #[]).data.toList)=false:=by
      rw [Bool.eq_false_iff]
      intro hh
      have:txt b=[]:=by simpa [otxt] using hh
      have:=congrArg List.length this
      rw [kI,List.length_nil] at this
      omega
     rw [hne,if_neg (by simp),show W.Jg (otxt (some b))=some (wgt b:Int) from rweight_ok b (by omega),ja]
     by_cases h1:wgt e<wgt b
     ·rw [if_pos (by simpa using h1)];simp [h1]
     ·rw [if_neg (by simpa using h1)];simp [h1]
  simp only [W.jJ.ca_,W.jJ.cn_,br_if,hid,ja,hc5,List.length_map]
  rw [if_pos (by simp;omega),ji (by omega)]
  unfold stepF
  by_cases h1:ke (wds gs) e=t
  ·cases o with
   | none=>rw [if_pos (by simp [h1]),if_pos h1];rfl
   | some b=>
     by_cases h2:wgt e<wgt b
     ·rw [if_pos (by simp [h1,h2]),if_pos h1];simp only [h2,if_true];rfl
     ·rw [if_neg (by simp [h2]),if_pos h1];simp only [h2,if_false];rfl
  ·rw [if_neg (by simp [h1]),if_neg h1];rfl
 ·simp only [W.jJ.ca_,br_if,List.length_map]
  rw [if_neg (by simp)]
 ·rfl
theorem begun_ok:W.Jm=some true:=by
 have e1:(chkC 3 [[43,90,90,73],[43,73,90,90]])=(0,0):=by decide +kernel
 have e2:isP [43,88,73,73] (3:Int).toNat=true:=by decide +kernel
 have e3:syn (wds [[43,90,90,73],[43,73,90,90]]) (wd [43,88,73,73])=[1,0]:=by decide +kernel
 have h1:=psyn_ok 3 [[43,90,90,73],[43,73,90,90]] [43,88,73,73] (by decide) (by decide)
 rw [e1,if_pos rfl,if_pos e2,e3] at h1
 simp only [W.Jm]
 refine Vx h1 ?_
 have h2:=pdec_ok 3 [[43,90,90,73],[43,73,90,90]] [1,0] (by decide)
 have e4:fstF (badB [1,0]) 0 ([1,0]:List Int).length=none:=by decide +kernel
 have e5:decF (wds [[43,90,90,73],[43,73,90,90]]) (([1,0]:List Int).map (· == 1)) (errs (3:Int).toNat)=some [(true,false),(false,false),(false,false)]:=by decide +kernel
 rw [e1,e4,e5] at h2
 rcases h2 with ⟨h,_⟩ | ⟨_,h,_⟩ | ⟨_,_,h,_⟩ | ⟨_,_,_,i,h,_⟩ | ⟨_,_,_,_,e,h,h2⟩
 ·exact absurd rfl h
 ·exact absurd h (by decide)
 ·exact absurd rfl h
 ·cases h
 ·cases h
  refine Vx h2 ?_
  simp only [W.Jm.c4,sameInts_ok [1,0] [1,0] (by decide),ja,br_if]
  rfl
end Go.Ql
end
end
