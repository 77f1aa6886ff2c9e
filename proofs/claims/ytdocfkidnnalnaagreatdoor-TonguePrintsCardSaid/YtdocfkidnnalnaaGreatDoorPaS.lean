/- Plain laws: tokens and programs as the document means them; the program's scanner and its readers. -/
import Derived.Test.YtdocfkidnnalnaaGreatDoorLfS
import Derived.IntWalk
import Derived.Test.YtdocfkidnnalnaaGreatDoorLaS
import Derived.Test.YtdocfkidnnalnaaGreatDoorWbS
import Derived.Test.YtdocfkidnnalnaaGreatDoorWdS
set_option linter.all false
section
namespace Go.Ql
section
variable {S R:Type} {f:S→Option (S⊕R)}
def kD {s:S} {r:R} (h:f s=some (.inr r)):iter f s=some r:=uK (n:=1) (by simp [Hd,h])
def kr {s s':S} {r:R} (h:f s=some (.inl s')) (h':iter f s'=some r):iter f s=some r:=by
 obtain ⟨n,hn⟩:=iV h'
 exact uK (n:=n+1) (by simp [Hd,h,hn])
def Uk {J:S→Prop} {Q:R→Prop} (m:S→Nat) (hstep:∀s,J s→(∃r,f s=some (.inr r)∧Q r) ∨ ∃s',f s=some (.inl s')∧J s'∧m s'<m s) {s:S} (h:J s):∃r,iter f s=some r∧Q r:=by
 have key:∀(k:Nat) (s:S),m s≤k→J s → ∃r,iter f s=some r∧Q r:=by
  intro k
  induction k with
  | zero=>
    intro s hk hj
    rcases hstep s hj with ⟨r,h1,h2⟩ | ⟨s',h1,h2,h3⟩
    ·exact ⟨r,kD h1,h2⟩
    ·omega
  | succ k ih=>
    intro s hk hj
    rcases hstep s hj with ⟨r,h1,h2⟩ | ⟨s',h1,h2,h3⟩
    ·exact ⟨r,kD h1,h2⟩
    ·obtain ⟨r,h4,h5⟩:=ih s' (by omega) h2
     exact ⟨r,kr h1 h4,h5⟩
 exact key (m s) s (zx _) h
end
def jf {α β:Type} {p:Option α} {x:α} {k:α→Option β} {r:Option β} (h:p=some x) (h':k x=r):jc p k=r:=by rw [h];exact h'
def je {α β:Type} {x:α} {k:α→Option β}:jc (some x) k=k x:=rfl
def YV {α:Type} {x y:α} {b:Bool} (h:b=true):br b x y=x:=by rw [h];rfl
def Ys {α:Type} {x y:α} {b:Bool} (h:b=false):br b x y=y:=by rw [h];rfl
def JB {α:Type} {x y:α} {p:Prop} [Decidable p] (h:p):br (decide p) x y=x:=YV (zo h)
def JV {α:Type} {x y:α} {p:Prop} [Decidable p] (h:¬p):br (decide p) x y=y:=Ys (zp h)
def jY {b:Bool} (h:b=true):Je b=some ():=by rw [h];rfl
def aK {xs:List Int} {i:Int} (n:Nat) (hi:i=n) (h:n<xs.length):idx xs i=some (xs.getD n 0):=by
 subst hi
 unfold idx
 simp [h]
def QM {n:Nat} {i:Int} (h0:0≤i) (h:i<(n:Int)):vQ n i=some ():=by
 unfold vQ
 simp [h0,h]
def JS {x:Int} (h:-9223372036854775808≤x∧x≤9223372036854775807):IntKind.i64.wrap x=x:=IntWalk.i64_in _ (by omega)
def MD {x:Int} (h:0≤x∧x<18446744073709551616):IntKind.u64.wrap x=x:=IntWalk.u64_in _ (by omega)
def val (B:Int):List Int→Int
 | []=>0
 | d::l=>d+B*val B l
def Dig (B:Int) (l:List Int):Prop:=∀d∈l,0≤d∧d<B
def tS (B:Int) (m:List Int):∀l:List Int,val B (l++m)=val B l+B^l.length*val B m
 | []=>by simp [val]
 | d::l=>by
   simp only [List.cons_append,val,tS B m l,zg,Int.pow_succ]
   grind
def nN (B:Int) (l:List Int) (d:Int):val B (l++[d])=val B l+B^l.length*d:=by
 rw [tS];simp [val]
def Dig.nil {B:Int}:Dig B []:=fun _ h=>by cases h
def Dig.cons {B d:Int} {l:List Int} (h:0≤d∧d<B) (hl:Dig B l):Dig B (d::l):=fun x hx=>by
 rcases Z5.1 hx with rfl | hx
 ·exact h
 ·exact hl x hx
def Dig.append {B:Int} {l m:List Int} (hl:Dig B l) (hm:Dig B m):Dig B (l++m):=fun x hx=>by
 rcases List.mem_append.1 hx with hx | hx
 ·exact hl x hx
 ·exact hm x hx
def Dig.head {B d:Int} {l:List Int} (h:Dig B (d::l)):0≤d∧d<B:=h d (List.mem_cons_self ..)
def Dig.tail {B d:Int} {l:List Int} (h:Dig B (d::l)):Dig B l:=fun x hx=>h x (zz _ hx)
def Dig.take {B:Int} {l:List Int} (h:Dig B l) (n:Nat):Dig B (l.take n):=fun x hx=>h x (List.mem_of_mem_take hx)
def Dig.drop {B:Int} {l:List Int} (h:Dig B l) (n:Nat):Dig B (l.drop n):=fun x hx=>h x (List.mem_of_mem_drop hx)
def Dig.getD {B:Int} {l:List Int} (hB:0<B) (h:Dig B l) (i:Nat):0≤l.getD i 0∧l.getD i 0<B:=by
 by_cases hi:i<l.length
 ·simp only [List.getD,Z7 hi,Option.getD_some]
  exact h _ (List.getElem_mem hi)
 ·rw [List.getD,List.getElem?_eq_none (by omega:l.length≤i),Option.getD_none]
  omega
def Dig.set {B x:Int} {l:List Int} (h:Dig B l) (hx:0≤x∧x<B) (i:Nat):Dig B (l.set i x):=fun y hy=>by
 rcases List.mem_or_eq_of_mem_set hy with hy | rfl
 ·exact h y hy
 ·exact hx
def Dig.replicate {B:Int} (hB:0<B) (n:Nat):Dig B (List.replicate n 0):=fun x hx=>by
 rw [(List.mem_replicate.1 hx).2];omega
def Nl {B:Int} (hB:0≤B):∀{l:List Int},Dig B l→0≤val B l
 | [],_=>Int.le_refl 0
 | d::l,h=>by
   have h1:=Nl hB h.tail
   have h2:=h.head
   have h3:=Int.mul_nonneg hB h1
   simp only [val]
   omega
def tT {B:Int} (hB:0<B):∀{l:List Int},Dig B l→val B l<B^l.length
 | [],_=>by simp [val]
 | d::l,h=>by
   have h1:=tT hB h.tail
   have h2:=h.head
   have h3:B*(val B l+1)≤B*B^l.length:=Int.mul_le_mul_of_nonneg_left (by omega) (by omega)
   simp only [val,zg,Int.pow_succ]
   rw [Int.mul_comm (B^l.length) B]
   rw [Int.mul_add] at h3
   omega
def VY (B:Int):∀(i:Nat) (l:List Int),val B (l.take (i+1))=val B (l.take i)+B^i*l.getD i 0
 | _,[]=>by simp [val]
 | 0,d::l=>by simp [val]
 | i+1,d::l=>by
   have h:=VY B i l
   simp only [List.take_succ_cons,val,List.getD_cons_succ,Int.pow_succ] at h ⊢
   rw [h]
   grind
def pow_pos {B:Int} (hB:0<B) (n:Nat):0<B^n:=Int.pow_pos hB
end Go.Ql
end

section
namespace Go.Ql
def MP {α:Type} {x y:α} {b:Bool}:br b x y=if b=true then x else y:=by cases b<;>rfl
def Ym {α β γ:Type} {x:α} {f:α→γ} {g:β→γ}:sel (.inl x) f g=f x:=rfl
def Vg {α β γ:Type} {x:β} {f:α→γ} {g:β→γ}:sel (.inr x) f g=g x:=rfl
def QK {α:Type} {l:List α} {i:Nat}:idx l (i:Int)=l[i]?:=by
 unfold idx
 simp
def HD {α:Type} {l:List α} {i:Nat} (h:i<l.length):idx l (i:Int)=some l[i]:=by
 rw [QK,Z7 h]
def QL {n:Nat} {i:Nat} (h:i<n):vQ n (i:Int)=some ():=QM (by omega) (by omega)
def mG {b c:Bool}:br b (some true) (some c)=some (b||c):=by cases b<;>rfl
def JD {α:Type} {x y:α}:br true x y=x:=rfl
def JA {α:Type} {x y:α}:br false x y=y:=rfl
def mU {n k:Nat} (h:n*k≤140737488355328∧n≤140737488355328):Je (decide (n*k≤(140737488355328:Nat))&&decide (n≤(140737488355328:Nat)))=some ():=
 jY (by simp [h])
end Go.Ql
end

section
namespace Go.Ql
abbrev Tk:=Int×Za×Int
abbrev NdT:=Int×(Int×(Za×Int))
abbrev Nd:=Rose NdT
def bs (s:String):Za:=s.toList.map fun c=>UInt8.ofNat c.toNat
def Yh (kind at_:Int) (kids:List Nd):Nd:=.mk (kind,at_,[],0) kids
def VC (kind at_:Int) (name:Za) (n:Int) (kids:List Nd):Nd:=.mk (kind,at_,name,n) kids
inductive Rd (α:Type) where
 | ok (a:α) (ts:List Tk) | err (at_:Int) | out
def Rd.bind {α β:Type}:Rd α→(α→List Tk→Rd β)→Rd β
 | .ok a ts,f=>f a ts
 | .err p,_=>.err p
 | .out,_=>.out
def Jy (ts:List Tk):Tk:=ts.headD (0,[],0)
def Ja (w:Za) (ts:List Tk):Bool:=decide ((Jy ts).1=2)&&(Jy ts).2.1==w
def JN (w:Za) (ts:List Tk):Rd Tk:=if Ja w ts then .ok (Jy ts) ts.tail else .err (Jy ts).2.2
def Vl (ts:List Tk):Rd Tk:=if (Jy ts).1=1 then .ok (Jy ts) ts.tail else .err (Jy ts).2.2
def YT (w:Za):Int:=
 if w = bs "==" ∨ w = bs "!=" ∨ w = bs "<" ∨ w = bs "<=" ∨ w = bs ">" ∨ w = bs ">=" then 1
 else if w = bs "+" ∨ w = bs "-" then 2
 else if w = bs "*" ∨ w = bs "/" ∨ w = bs "%" then 3
 else if w = bs "**" then 5 else 0
def Hf (t:Tk) (a b:Nd):Nd:=VC 24 t.2.2 t.2.1 0 [a,b]
def aA (l:Za):Int:=l.foldl (fun n c=>n*10+((c.toNat:Int)-48)) 0
mutual
def Yf:Nat→Nat→List Tk→Rd Nd
 | 0,_,_=>.out
 | n+1,lvl,ts=>if lvl=4 then aL n ts else (Yf n (lvl+1) ts).bind fun a ts=>Hb n lvl a ts
def Hb:Nat→Nat→Nd→List Tk→Rd Nd
 | 0,_,_,_=>.out
 | n+1,lvl,a,ts=>
   if (Jy ts).1=2∧YT (Jy ts).2.1=lvl then
    (Yf n (lvl+1) ts.tail).bind fun b us=>if lvl=1 then .ok (Hf (Jy ts) a b) us else Hb n lvl (Hf (Jy ts) a b) us
   else .ok a ts
def aL:Nat→List Tk→Rd Nd
 | 0,_=>.out
 | n+1,ts=>
   if Ja (bs "-") ts then (aL n ts.tail).bind fun a us => .ok (Yh 23 (Jy ts).2.2 [a]) us
   else (d4 n ts).bind fun a us=>
    if Ja (bs "**") us then (aL n us.tail).bind fun b vs => .ok (Hf (Jy us) a b) vs else .ok a us
def d4:Nat→List Tk→Rd Nd
 | 0,_=>.out
 | n+1,ts=>
   if (Jy ts).1=3 then .ok (VC 20 (Jy ts).2.2 [] (aA (Jy ts).2.1) []) ts.tail
   else if (Jy ts).1=1 then .ok (VC 21 (Jy ts).2.2 (Jy ts).2.1 0 []) ts.tail
   else if Ja (bs "size") ts then (JN (bs "(") ts.tail).bind fun _ us => (Vl us).bind fun w us => (JN (bs ")") us).bind fun _ us => .ok (VC 22 (Jy ts).2.2 w.2.1 0 []) us
   else (JN (bs "(") ts).bind fun _ us => (Yf n 1 us).bind fun a us => (JN (bs ")") us).bind fun _ us => .ok a us
end
def fM (n:Nat) (w:Tk) (ts:List Tk):Rd Nd:=
 if Ja (bs "[") ts then (Yf n 1 ts.tail).bind fun a us =>
  if Ja (bs "..") us then (Yf n 1 us.tail).bind fun b us => (JN (bs "]") us).bind fun _ us => .ok (VC 19 w.2.2 w.2.1 2 [a, b]) us
  else (JN (bs "]") us).bind fun _ us => .ok (VC 19 w.2.2 w.2.1 1 [a]) us
 else .ok (VC 19 w.2.2 w.2.1 0 []) ts
def UA (n:Nat) (ts:List Tk):Rd Nd:=(Vl ts).bind fun w us=>fM n w us
def gW:Nat→Za×Int
 | 1 => (bs "|", 29)
 | 2 => (bs "^", 30)
 | _ => (bs "&", 28)
mutual
def Vn:Nat→Nat→List Tk→Rd Nd
 | 0,_,_=>.out
 | n+1,lvl,ts=>if lvl=4 then cH n ts else (Vn n (lvl+1) ts).bind fun a ts=>UQ n lvl a ts
def UQ:Nat→Nat→Nd→List Tk→Rd Nd
 | 0,_,_,_=>.out
 | n+1,lvl,a,ts=>
   if Ja (gW lvl).1 ts then (Vn n (lvl+1) ts.tail).bind fun b us=>UQ n lvl (Yh (gW lvl).2 (Jy ts).2.2 [a,b]) us
   else .ok a ts
def cH:Nat→List Tk→Rd Nd
 | 0,_=>.out
 | n+1,ts=>
   if Ja (bs "!") ts then (cH n ts.tail).bind fun a us => .ok (Yh 27 (Jy ts).2.2 [a]) us
   else if Ja (bs "(") ts then (Vn n 1 ts.tail).bind fun a us => (JN (bs ")") us).bind fun _ us => .ok a us
   else if (Jy ts).1 = 3 ∧ ((Jy ts).2.1 = bs "0" ∨ (Jy ts).2.1 = bs "1") then .ok (VC 26 (Jy ts).2.2 [] (if (Jy ts).2.1 = bs "0" then 0 else 1) []) ts.tail
   else UA n ts
end
def HJ (one:List Tk→Rd Nd):Nat→List Nd→List Tk→Rd (List Nd)
 | 0,_,_=>.out
 | n + 1, l, ts => if Ja (bs ",") ts then (one ts.tail).bind fun a us => HJ one n (l ++ [a]) us else .ok l ts
def UM (one:List Tk→Rd Nd) (n:Nat) (ts:List Tk):Rd (List Nd):=(one ts).bind fun a us=>HJ one n [a] us
def gr (l:List Nd):Nd:=Yh 25 0 l
def Hx:Nat→List Nd→List Tk→Rd (List Nd)
 | 0,_,_=>.out
 | n+1,l,ts=>
   if Ja (bs "inv") ts then (JN (bs "@") ts.tail).bind fun _ us => Hx n (l ++ [Yh 9 (Jy ts).2.2 []]) us
   else if Ja (bs "ctrl") ts then (JN (bs "@") ts.tail).bind fun _ us => Hx n (l ++ [Yh 10 (Jy ts).2.2 []]) us
   else if Ja (bs "pow") ts then (JN (bs "(") ts.tail).bind fun _ us => (Yf n 1 us).bind fun e us => (JN (bs ")") us).bind fun _ us => (JN (bs "@") us).bind fun _ us => Hx n (l ++ [Yh 11 (Jy ts).2.2 [e]]) us
   else .ok l ts
def cD (n:Nat) (at_:Int) (mods:List Nd) (w:Tk) (ts:List Tk):Rd Nd:=
 ((if Ja (bs "(") ts then (UM (Yf n 1) n ts.tail).bind fun l us => (JN (bs ")") us).bind fun _ us => .ok l us else .ok [] ts) : Rd (List Nd)).bind fun args us =>
 ((if (Jy us).1=1 then UM (UA n) n us else .ok [] us):Rd (List Nd)).bind fun refs us=>
 (JN (bs ";") us).bind fun _ us => .ok (VC 8 at_ w.2.1 0 [gr mods, gr args, gr refs]) us
mutual
def UD:Nat→List Tk→Rd Nd
 | 0,_=>.out
 | n+1,ts=>(JN ([123]) ts).bind fun t us=>(lE n [] us).bind fun l us=>.ok (Yh 7 t.2.2 l) us
def lE:Nat→List Nd→List Tk→Rd (List Nd)
 | 0,_,_=>.out
 | n+1,l,ts=>if Ja ([125]) ts then .ok l ts.tail else (Ni n ts).bind fun a us=>lE n (l++[a]) us
def Ni:Nat→List Tk→Rd Nd
 | 0,_=>.out
 | n+1,ts=>
   let t:=Jy ts
   if Ja (bs "for") ts then (Vl ts.tail).bind fun w us => (JN (bs "in") us).bind fun _ us => (Yf n 1 us).bind fun lo us => (JN (bs "..") us).bind fun _ us => (Yf n 1 us).bind fun hi us =>
    (UD n us).bind fun b us=>.ok (VC 12 t.2.2 w.2.1 0 [lo,hi,b]) us
   else if Ja (bs "when") ts then (Yf n 1 ts.tail).bind fun e us => (UD n us).bind fun b us => .ok (Yh 13 t.2.2 [e, b]) us
   else if Ja (bs "if") ts then
    let no := Ja (bs "!") ts.tail
    (UA n (if no then ts.tail.tail else ts.tail)).bind fun r us=>(UD n us).bind fun b us=>
     if Ja (bs "else") us then (UD n us.tail).bind fun c us => .ok (VC 14 t.2.2 [] (if no then 1 else 0) [r, b, c]) us
     else .ok (VC 14 t.2.2 [] (if no then 1 else 0) [r,b]) us
   else if Ja (bs "measure") ts then (UA n ts.tail).bind fun q us => (JN (bs "->") us).bind fun _ us => (UA n us).bind fun b us => (JN (bs ";") us).bind fun _ us => .ok (Yh 15 t.2.2 [q, b]) us
   else if Ja (bs "reset") ts then (UA n ts.tail).bind fun q us => (JN (bs ";") us).bind fun _ us => .ok (Yh 16 t.2.2 [q]) us
   else if Ja (bs "within") ts then (UD n ts.tail).bind fun a us => (JN (bs "apply") us).bind fun _ us => (UD n us).bind fun b us => .ok (Yh 17 t.2.2 [a, b]) us
   else if Ja (bs "inv") ts || Ja (bs "ctrl") ts || Ja (bs "pow") ts then (Hx n [] ts).bind fun mods us => (Vl us).bind fun w us => cD n t.2.2 mods w us
   else (Vl ts).bind fun w us=>
    if Ja (bs "[") us || Ja (bs "^=") us then (fM n w us).bind fun r us => (JN (bs "^=") us).bind fun _ us => (Vn n 1 us).bind fun e us => (JN (bs ";") us).bind fun _ us => .ok (Yh 18 t.2.2 [r, e]) us
    else cD n t.2.2 [] w us
end
def fK (ts:List Tk):Rd Nd:=(Vl ts).bind fun v us=>.ok (VC 6 v.2.2 v.2.1 0 []) us
def hG (ts : List Tk) : Rd Nd := (Vl ts).bind fun v us => if Ja (bs "[") us then (JN (bs "]") us.tail).bind fun _ us => .ok (VC 6 v.2.2 v.2.1 1 []) us else .ok (VC 6 v.2.2 v.2.1 0 []) us
def iT (n:Nat) (t:Tk) (ts:List Tk):Rd Nd:=
 (Vl ts).bind fun w us=>
 ((if Ja (bs "(") us then (UM fK n us.tail).bind fun l us => (JN (bs ")") us).bind fun _ us => .ok l us else .ok [] us) : Rd (List Nd)).bind fun ints us =>
 (UM hG n us).bind fun wires us=>(UD n us).bind fun b us=>.ok (VC 5 t.2.2 w.2.1 0 [gr ints,gr wires,b]) us
def fZ (n:Nat) (ts:List Tk):Rd Nd:=
 let t:=Jy ts
 if Ja (bs "qubit") ts || Ja (bs "bit") ts then
  (Vl ts.tail).bind fun w us => (JN (bs "[") us).bind fun _ us => (Yf n 1 us).bind fun e us => (JN (bs "]") us).bind fun _ us => (JN (bs ";") us).bind fun _ us => .ok (VC (if Ja (bs "bit") ts then 3 else 2) t.2.2 w.2.1 0 [e]) us
 else if Ja (bs "const") ts then (Vl ts.tail).bind fun w us => (JN (bs "=") us).bind fun _ us => (Yf n 1 us).bind fun e us => (JN (bs ";") us).bind fun _ us => .ok (VC 4 t.2.2 w.2.1 0 [e]) us
 else if Ja (bs "gate") ts then iT n t ts.tail
 else Ni n ts
def cI (n:Nat):Nat→List Nd→List Tk→Rd (List Nd)
 | 0,_,_=>.out
 | m+1,l,ts=>if (Jy ts).1=0 then .ok l ts else (fZ n ts).bind fun a us=>cI n m (l++[a]) us
end Go.Ql
end

section
namespace Go.Ql
def YY (c:UInt8):Bool:=(decide (97≤c.toNat)&&decide (c.toNat≤122))||(decide (65≤c.toNat)&&decide (c.toNat≤90))||c==95
def Yn (c:UInt8):Bool:=decide (48≤c.toNat)&&decide (c.toNat≤57)
def fR (c:UInt8):Bool:=c==32||c==9||c==10||c==13
def Yq:Bool→Za→Nat
 | _,[]=>0
 | true,c::r=>1+Yq (!(c==10)) r
 | false,c::r=>if fR c then 1+Yq false r else if c==47&&r.head? == some 47 then 1+Yq true r else 0
def keysT : List Za := [bs "qubit", bs "bit", bs "const", bs "gate", bs "for", bs "in", bs "when", bs "if", bs "else", bs "measure", bs "reset", bs "within", bs "apply", bs "inv", bs "ctrl", bs "pow", bs "size"]
def twosT : List Za := [bs "..", bs "->", bs "^=", bs "==", bs "!=", bs "<=", bs ">=", bs "**"]
def onesT:Za:=[123,125,40,41,91,93,59,44,64,61,60,62,43,45,42,47,37,33,38,124,94]
def VH:Za→Int×Za
 | []=>(0,[])
 | c::r=>
   if YY c then (if keysT.elem ((c::r).takeWhile fun c=>YY c||Yn c) then 2 else 1,(c::r).takeWhile fun c=>YY c||Yn c)
   else if Yn c then (if ((c::r).takeWhile Yn).length>9∨(((c::r).takeWhile Yn).length>1∧c=48) then 4 else 3,(c::r).takeWhile Yn)
   else if twosT.elem ((c::r).take 2) then (2,(c::r).take 2)
   else if onesT.elem c then (2,[c]) else (4,[])
def lH:Nat→Za→Nat→List Tk
 | 0,_,_=>[]
 | n+1,rest,i=>
   ((VH (rest.drop (Yq false rest))).1,(VH (rest.drop (Yq false rest))).2,((i+Yq false rest:Nat):Int)) ::
     if (VH (rest.drop (Yq false rest))).1=0∨(VH (rest.drop (Yq false rest))).1=4 then []
     else lH n ((rest.drop (Yq false rest)).drop (VH (rest.drop (Yq false rest))).2.length) (i+Yq false rest+(VH (rest.drop (Yq false rest))).2.length)
def UC (text:Za):List Tk:=lH (text.length+1) text 0
end Go.Ql
end

section
namespace Go.Ql
def Gd {α:Type}:Rd α→Nat→Prop
 | .ok _ us,L=>us.length<L
 | .err _,_=>True
 | .out,_=>False
def Gd.bind {α β:Type} {r:Rd α} {f:α→List Tk→Rd β} {L M:Nat} (h:Gd r L) (hf:∀a us,us.length<L→Gd (f a us) M):Gd (r.bind f) M:=by
 cases r with
 | ok a us=>exact hf a us h
 | err e=>trivial
 | out=>exact h
def Gd.mono {α:Type} {r:Rd α} {L M:Nat} (h:Gd r L) (hm:L≤M):Gd r M:=by
 cases r with
 | ok a us=>exact Z2 h hm
 | err e=>trivial
 | out=>exact h
def Gd.ite {α:Type} {c:Prop} [Decidable c] {r s:Rd α} {M:Nat} (h1:c→Gd r M) (h2:¬c→Gd s M):Gd (if c then r else s) M:=by
 by_cases h:c
 ·rw [if_pos h];exact h1 h
 ·rw [if_neg h];exact h2 h
def Gd.ne_out {α:Type} {r:Rd α} {L:Nat} (h:Gd r L):r ≠ .out:=by intro e;rw [e] at h;exact h
def PV {ts:List Tk} (h:(Jy ts).1≠0):ts.tail.length<ts.length:=by
 cases ts with
 | nil=>exact absurd rfl h
 | cons a l=>simp
def UO {ts:List Tk} {k:Int} (h:(Jy ts).1=k) (hk:k≠0):ts.tail.length<ts.length:=PV (by omega)
def kM {w:Za} {ts:List Tk} (h:Ja w ts=true):(Jy ts).1=2:=by
 unfold Ja at h;simp only [ze,zn] at h;exact h.1
def NQ {w:Za} {ts:List Tk} (h:Ja w ts=true):(Jy ts).2.1=w:=by
 unfold Ja at h;simp only [ze,zn] at h;exact eq_of_beq h.2
def Jc {w:Za} {ts:List Tk} (h:Ja w ts=true):ts.tail.length<ts.length:=UO (kM h) (by omega)
def want_gd {w:Za} {ts:List Tk}:Gd (JN w ts) ts.length:=by
 unfold JN;exact Gd.ite (fun h=>Jc h) (fun _=>trivial)
def word_gd {ts:List Tk}:Gd (Vl ts) ts.length:=by
 unfold Vl;exact Gd.ite (fun h=>UO h (by omega)) (fun _=>trivial)
def QQ:∀n:Nat,
 (∀lvl ts,1≤lvl→lvl≤4→8*ts.length+7≤n+lvl→Gd (Yf n lvl ts) ts.length) ∧
 (∀lvl a ts,1≤lvl→lvl≤3→8*ts.length+1≤n→Gd (Hb n lvl a ts) (ts.length+1)) ∧
 (∀ts,8*ts.length+2≤n→Gd (aL n ts) ts.length) ∧
 (∀ts,8*ts.length+1≤n→Gd (d4 n ts) ts.length):=by
 intro n
 induction n with
 | zero=>exact ⟨fun _ _ _ _ h=>by omega,fun _ _ _ _ _ h=>by omega,fun _ h=>by omega,fun _ h=>by omega⟩
 | succ n ih=>
   obtain ⟨hE,hT,hS,hA⟩:=ih
   refine ⟨fun lvl ts h1 h4 hn=>?_,fun lvl a ts h1 h3 hn=>?_,fun ts hn=>?_,fun ts hn=>?_⟩
   ·rw [Yf]
    refine Gd.ite (fun h=>hS ts (by omega)) (fun h=>?_)
    refine (hE (lvl+1) ts (by omega) (by omega) (by omega)).bind fun a us hu=>?_
    exact (hT lvl a us h1 (by omega) (by omega)).mono (by omega)
   ·rw [Hb]
    refine Gd.ite (fun h=>?_) (fun h=>by show _<_;omega)
    have ht:=UO h.1 (by omega)
    refine (hE (lvl+1) ts.tail (by omega) (by omega) (by omega)).bind fun b us hu=>?_
    refine Gd.ite (fun h=>by show _<_;omega) (fun h=>?_)
    exact (hT lvl _ us h1 h3 (by omega)).mono (by omega)
   ·rw [aL]
    refine Gd.ite (fun h=>?_) (fun h=>?_)
    ·have ht:=Jc h
     exact (hS ts.tail (by omega)).bind fun a us hu=>by show _<_;omega
    ·refine (hA ts (by omega)).bind fun a us hu=>?_
     refine Gd.ite (fun h=>?_) (fun h=>hu)
     have ht:=Jc h
     exact (hS us.tail (by omega)).bind fun b vs hv=>by show _<_;omega
   ·rw [d4]
    refine Gd.ite (fun h=>UO h (by omega)) fun _=>Gd.ite (fun h=>UO h (by omega)) fun _=>Gd.ite (fun h=>?_) fun _=>?_
    ·have ht:=Jc h
     refine want_gd.bind fun _ us hu=>word_gd.bind fun _ vs hv=>want_gd.bind fun _ xs hx=>by show _<_;omega
    ·refine want_gd.bind fun _ us hu=>(hE 1 us (by omega) (by omega) (by omega)).bind fun a vs hv=>want_gd.bind fun _ xs hx=>by show _<_;omega
def gC {n:Nat} {ts:List Tk} (h:8*ts.length+6≤n):Gd (Yf n 1 ts) ts.length:=(QQ n).1 1 ts (by omega) (by omega) (by omega)
def M6 {n:Nat} {w:Tk} {ts:List Tk} (h:8*ts.length≤n):Gd (fM n w ts) (ts.length+1):=by
 unfold fM
 refine Gd.ite (fun h=>?_) (fun h=>by show _<_;omega)
 have ht:=Jc h
 refine (gC (by omega)).bind fun a us hu=>Gd.ite (fun h=>?_) (fun h=>?_)
 ·have ht:=Jc h
  exact (gC (by omega)).bind fun b vs hv=>want_gd.bind fun _ xs hx=>by show _<_;omega
 ·exact want_gd.bind fun _ xs hx=>by show _<_;omega
def qE {n:Nat} {ts:List Tk} (h:8*ts.length≤n):Gd (UA n ts) ts.length:=by
 unfold UA
 exact word_gd.bind fun w us hu=>(M6 (by omega)).mono (by omega)
def L4:∀n:Nat,
 (∀lvl ts,1≤lvl→lvl≤4→8*ts.length+7≤n+lvl→Gd (Vn n lvl ts) ts.length) ∧
 (∀lvl a ts,1≤lvl→lvl≤3→8*ts.length+1≤n→Gd (UQ n lvl a ts) (ts.length+1)) ∧
 (∀ts,8*ts.length+1≤n→Gd (cH n ts) ts.length):=by
 intro n
 induction n with
 | zero=>exact ⟨fun _ _ _ _ h=>by omega,fun _ _ _ _ _ h=>by omega,fun _ h=>by omega⟩
 | succ n ih=>
   obtain ⟨hE,hT,hN⟩:=ih
   refine ⟨fun lvl ts h1 h4 hn=>?_,fun lvl a ts h1 h3 hn=>?_,fun ts hn=>?_⟩
   ·rw [Vn]
    refine Gd.ite (fun h=>hN ts (by omega)) (fun h=>?_)
    refine (hE (lvl+1) ts (by omega) (by omega) (by omega)).bind fun a us hu=>?_
    exact (hT lvl a us h1 (by omega) (by omega)).mono (by omega)
   ·rw [UQ]
    refine Gd.ite (fun h=>?_) (fun h=>by show _<_;omega)
    have ht:=Jc h
    refine (hE (lvl+1) ts.tail (by omega) (by omega) (by omega)).bind fun b us hu=>?_
    exact (hT lvl _ us h1 h3 (by omega)).mono (by omega)
   ·rw [cH]
    refine Gd.ite (fun h=>?_) fun _=>Gd.ite (fun h=>?_) fun _=>Gd.ite (fun h=>UO h.1 (by omega)) fun _=>qE (by omega)
    ·have ht:=Jc h
     exact (hN ts.tail (by omega)).bind fun a us hu=>by show _<_;omega
    ·have ht:=Jc h
     exact (hE 1 ts.tail (by omega) (by omega) (by omega)).bind fun a us hu=>want_gd.bind fun _ xs hx=>by show _<_;omega
def SF {n:Nat} {ts:List Tk} (h:8*ts.length+6≤n):Gd (Vn n 1 ts) ts.length:=(L4 n).1 1 ts (by omega) (by omega) (by omega)
def MW {one:List Tk→Rd Nd} {K:Nat} (h1:∀ts,ts.length<K→Gd (one ts) ts.length):∀(n:Nat) (l:List Nd) (ts:List Tk),ts.length<K→ts.length+1≤n→Gd (HJ one n l ts) (ts.length+1)
 | 0,_,_,_,h=>by omega
 | n+1,l,ts,hk,h=>by
   rw [HJ]
   refine Gd.ite (fun h=>?_) (fun h=>by show _<_;omega)
   have ht:=Jc h
   refine (h1 ts.tail (by omega)).bind fun a us hu=>(MW h1 n _ us (by omega) (by omega)).mono (by omega)
def w4 {one:List Tk→Rd Nd} {K:Nat} (h1:∀ts,ts.length<K→Gd (one ts) ts.length) {n:Nat} {ts:List Tk} (hk:ts.length<K) (h:ts.length≤n):Gd (UM one n ts) ts.length:=by
 unfold UM
 exact (h1 ts hk).bind fun a us hu=>(MW h1 n _ us (by omega) (by omega)).mono (by omega)
def w7:∀(n:Nat) (l:List Nd) (ts:List Tk),8*ts.length+1≤n→Gd (Hx n l ts) (ts.length+1)
 | 0,_,_,h=>by omega
 | n+1,l,ts,h=>by
   rw [Hx]
   refine Gd.ite (fun h=>?_) fun _=>Gd.ite (fun h=>?_) fun _=>Gd.ite (fun h=>?_) (fun h=>by show _<_;omega)
   ·have ht:=Jc h
    exact want_gd.bind fun _ us hu=>(w7 n _ us (by omega)).mono (by omega)
   ·have ht:=Jc h
    exact want_gd.bind fun _ us hu=>(w7 n _ us (by omega)).mono (by omega)
   ·have ht:=Jc h
    exact want_gd.bind fun _ us hu=>(gC (by omega)).bind fun e vs hv=>want_gd.bind fun _ xs hx=>want_gd.bind fun _ ys hy=>(w7 n _ ys (by omega)).mono (by omega)
def MN {n:Nat} {at_:Int} {mods:List Nd} {w:Tk} {ts:List Tk} (h:8*ts.length≤n):Gd (cD n at_ mods w ts) ts.length:=by
 unfold cD
 have h1 : Gd ((if Ja (bs "(") ts then (UM (Yf n 1) n ts.tail).bind fun l us => (JN (bs ")") us).bind fun _ us => .ok l us else .ok [] ts) : Rd (List Nd)) (ts.length + 1) := by
  refine Gd.ite (fun h=>?_) (fun h=>by show _<_;omega)
  have ht:=Jc h
  refine (w4 (K:=ts.length) (fun us hu=>gC (by omega)) (by omega) (by omega)).bind fun l us hu=>want_gd.bind fun _ vs hv=>by show _<_;omega
 refine h1.bind fun args us hu=>?_
 have h2:Gd ((if (Jy us).1=1 then UM (UA n) n us else .ok [] us):Rd (List Nd)) (us.length+1):=by
  refine Gd.ite (fun h=>?_) (fun h=>by show _<_;omega)
  exact (w4 (K:=us.length+1) (fun vs hv=>qE (by omega)) (by omega) (by omega)).mono (by omega)
 refine h2.bind fun refs vs hv=>want_gd.bind fun _ xs hx=>by show _<_;omega
def GZ:∀n:Nat,
 (∀ts,8*ts.length+1≤n→Gd (UD n ts) ts.length) ∧
 (∀l ts,8*ts.length+8≤n→Gd (lE n l ts) ts.length) ∧
 (∀ts,8*ts.length+7≤n→Gd (Ni n ts) ts.length):=by
 intro n
 induction n with
 | zero=>exact ⟨fun _ h=>by omega,fun _ _ h=>by omega,fun _ h=>by omega⟩
 | succ n ih=>
   obtain ⟨hB,hQ,hS⟩:=ih
   refine ⟨fun ts hn=>?_,fun l ts hn=>?_,fun ts hn=>?_⟩
   ·rw [UD]
    exact want_gd.bind fun t us hu=>(hQ [] us (by omega)).bind fun l vs hv=>by show _<_;omega
   ·rw [lE]
    exact Gd.ite (fun h=>Jc h) fun _=>(hS ts (by omega)).bind fun a us hu=>(hQ _ us (by omega)).mono (by omega)
   ·rw [Ni]
    refine Gd.ite (fun h=>?_) fun _=>Gd.ite (fun h=>?_) fun _=>Gd.ite (fun h=>?_) fun _=>Gd.ite (fun h=>?_) fun _=>Gd.ite (fun h=>?_) fun _=>Gd.ite (fun h=>?_) fun _=>Gd.ite (fun h=>?_) fun _=>?_
    ·have ht:=Jc h
     exact word_gd.bind fun w us hu=>want_gd.bind fun _ vs hv=>(gC (by omega)).bind fun lo xs hx=>want_gd.bind fun _ ys hy=>(gC (by omega)).bind fun hi zs hz=>(hB zs (by omega)).bind fun b us' hu'=>by show _<_;omega
    ·have ht:=Jc h
     exact (gC (by omega)).bind fun e us hu=>(hB us (by omega)).bind fun b vs hv=>by show _<_;omega
    ·have ht:=Jc h
     have h2 : (if Ja (bs "!") ts.tail = true then ts.tail.tail else ts.tail).length < ts.length := by
      split
      ·have:=Jc ‹_›;omega
      ·exact ht
     refine (qE (by omega)).bind fun r us hu=>(hB us (by omega)).bind fun b vs hv=>Gd.ite (fun h=>?_) (fun _=>by show _<_;omega)
     have ht:=Jc h
     exact (hB vs.tail (by omega)).bind fun c xs hx=>by show _<_;omega
    ·have ht:=Jc h
     exact (qE (by omega)).bind fun q us hu=>want_gd.bind fun _ vs hv=>(qE (by omega)).bind fun b xs hx=>want_gd.bind fun _ ys hy=>by show _<_;omega
    ·have ht:=Jc h
     exact (qE (by omega)).bind fun q us hu=>want_gd.bind fun _ vs hv=>by show _<_;omega
    ·have ht:=Jc h
     exact (hB ts.tail (by omega)).bind fun a us hu=>want_gd.bind fun _ vs hv=>(hB vs (by omega)).bind fun b xs hx=>by show _<_;omega
    ·exact (w7 n [] ts (by omega)).bind fun mods us hu=>word_gd.bind fun w vs hv=>(MN (by omega)).mono (by omega)
    ·refine word_gd.bind fun w us hu=>Gd.ite (fun h=>?_) fun _=>(MN (by omega)).mono (by omega)
     exact (M6 (by omega)).bind fun r vs hv=>want_gd.bind fun _ xs hx=>(SF (by omega)).bind fun e ys hy=>want_gd.bind fun _ zs hz=>by show _<_;omega
def RK {n:Nat} {ts:List Tk} (h:8*ts.length+1≤n):Gd (UD n ts) ts.length:=(GZ n).1 ts h
def R0 {n:Nat} {ts:List Tk} (h:8*ts.length+7≤n):Gd (Ni n ts) ts.length:=(GZ n).2.2 ts h
def RR {ts:List Tk}:Gd (fK ts) ts.length:=by unfold fK;exact word_gd.bind fun v us hu=>hu
def RU {ts:List Tk}:Gd (hG ts) ts.length:=by
 unfold hG
 refine word_gd.bind fun v us hu=>Gd.ite (fun h=>?_) fun _=>hu
 have ht:=Jc h
 exact want_gd.bind fun _ vs hv=>by show _<_;omega
def RN {n:Nat} {t:Tk} {ts:List Tk} (h:8*ts.length+8≤n):Gd (iT n t ts) ts.length:=by
 unfold iT
 refine word_gd.bind fun w us hu=>?_
 have h1 : Gd ((if Ja (bs "(") us then (UM fK n us.tail).bind fun l us => (JN (bs ")") us).bind fun _ us => .ok l us else .ok [] us) : Rd (List Nd)) (us.length + 1) := by
  refine Gd.ite (fun h=>?_) (fun h=>by show _<_;omega)
  have ht:=Jc h
  exact (w4 (K:=us.length) (fun us hu=>RR) (by omega) (by omega)).bind fun l us hu=>want_gd.bind fun _ vs hv=>by show _<_;omega
 refine h1.bind fun ints vs hv=>(w4 (K:=vs.length+1) (fun us hu=>RU) (by omega) (by omega)).bind fun wires xs hx=>(RK (by omega)).bind fun b ys hy=>by show _<_;omega
def RP {n:Nat} {ts:List Tk} (h:8*ts.length+8≤n):Gd (fZ n ts) ts.length:=by
 unfold fZ
 refine Gd.ite (fun h=>?_) fun _=>Gd.ite (fun h=>?_) fun _=>Gd.ite (fun h=>?_) fun _=>R0 (by omega)
 ·have ht:ts.tail.length<ts.length:=by
   rcases (Bool.or_eq_true _ _▸h:_∨_) with h | h<;>exact Jc h
  exact word_gd.bind fun w us hu=>want_gd.bind fun _ vs hv=>(gC (by omega)).bind fun e xs hx=>want_gd.bind fun _ ys hy=>want_gd.bind fun _ zs hz=>by show _<_;omega
 ·have ht:=Jc h
  exact word_gd.bind fun w us hu=>want_gd.bind fun _ vs hv=>(gC (by omega)).bind fun e xs hx=>want_gd.bind fun _ ys hy=>by show _<_;omega
 ·have ht:=Jc h
  exact (RN (by omega)).mono (by omega)
def M3:∀(n m:Nat) (l:List Nd) (ts:List Tk),8*ts.length+8≤n→ts.length+1≤m→Gd (cI n m l ts) (ts.length+1)
 | n,0,_,_,_,h=>by omega
 | n,m+1,l,ts,hn,h=>by
   rw [cI]
   exact Gd.ite (fun h=>by show _<_;omega) fun _=>(RP hn).bind fun a us hu=>(M3 n m _ us (by omega) (by omega)).mono (by omega)
end Go.Ql
end

section
namespace Go.Ql
def Lq {α:Type}:Rd α→Nat→Prop
 | .ok _ us,L=>us.length<L
 | _,_=>True
def Lq.bind {α β:Type} {r:Rd α} {f:α→List Tk→Rd β} {L M:Nat} (h:Lq r L) (hf:∀a us,us.length<L→Lq (f a us) M):Lq (r.bind f) M:=by
 cases r with
 | ok a us=>exact hf a us h
 | err e=>trivial
 | out=>trivial
def Lq.mono {α:Type} {r:Rd α} {L M:Nat} (h:Lq r L) (hm:L≤M):Lq r M:=by
 cases r with
 | ok a us=>exact Z2 h hm
 | err e=>trivial
 | out=>trivial
def Lq.ite {α:Type} {c:Prop} [Decidable c] {r s:Rd α} {M:Nat} (h1:c→Lq r M) (h2:¬c→Lq s M):Lq (if c then r else s) M:=by
 by_cases h:c
 ·rw [if_pos h];exact h1 h
 ·rw [if_neg h];exact h2 h
def want_lq {w:Za} {ts:List Tk}:Lq (JN w ts) ts.length:=by
 unfold JN;exact Lq.ite (fun h=>Jc h) (fun _=>trivial)
def word_lq {ts:List Tk}:Lq (Vl ts) ts.length:=by
 unfold Vl;exact Lq.ite (fun h=>UO h (by omega)) (fun _=>trivial)
def QT:∀n:Nat,
 (∀lvl ts,Lq (Yf n lvl ts) ts.length)∧(∀lvl a ts,Lq (Hb n lvl a ts) (ts.length+1))∧(∀ts,Lq (aL n ts) ts.length)∧(∀ts,Lq (d4 n ts) ts.length):=by
 intro n
 induction n with
 | zero=>exact ⟨fun _ _=>trivial,fun _ _ _=>trivial,fun _=>trivial,fun _=>trivial⟩
 | succ n ih=>
   obtain ⟨hE,hT,hS,hA⟩:=ih
   refine ⟨fun lvl ts=>?_,fun lvl a ts=>?_,fun ts=>?_,fun ts=>?_⟩
   ·rw [Yf]
    refine Lq.ite (fun h=>hS ts) (fun h=>?_)
    exact (hE (lvl+1) ts).bind fun a us hu=>(hT lvl a us).mono (by omega)
   ·rw [Hb]
    refine Lq.ite (fun h=>?_) (fun h=>by show _<_;omega)
    have ht:=UO h.1 (by omega)
    refine (hE (lvl+1) ts.tail).bind fun b us hu=>?_
    exact Lq.ite (fun h=>by show _<_;omega) (fun h=>(hT lvl _ us).mono (by omega))
   ·rw [aL]
    refine Lq.ite (fun h=>?_) (fun h=>?_)
    ·have ht:=Jc h
     exact (hS ts.tail).bind fun a us hu=>by show _<_;omega
    ·refine (hA ts).bind fun a us hu=>?_
     refine Lq.ite (fun h=>?_) (fun h=>hu)
     have ht:=Jc h
     exact (hS us.tail).bind fun b vs hv=>by show _<_;omega
   ·rw [d4]
    refine Lq.ite (fun h=>UO h (by omega)) fun _=>Lq.ite (fun h=>UO h (by omega)) fun _=>Lq.ite (fun h=>?_) fun _=>?_
    ·have ht:=Jc h
     exact want_lq.bind fun _ us hu=>word_lq.bind fun _ vs hv=>want_lq.bind fun _ xs hx=>by show _<_;omega
    ·exact want_lq.bind fun _ us hu=>(hE 1 us).bind fun a vs hv=>want_lq.bind fun _ xs hx=>by show _<_;omega
def ex_lq {n:Nat} {ts:List Tk}:Lq (Yf n 1 ts) ts.length:=(QT n).1 1 ts
def rf_lq {n:Nat} {w:Tk} {ts:List Tk}:Lq (fM n w ts) (ts.length+1):=by
 unfold fM
 refine Lq.ite (fun h=>?_) (fun h=>by show _<_;omega)
 have ht:=Jc h
 refine ex_lq.bind fun a us hu=>Lq.ite (fun h=>?_) (fun h=>?_)
 ·have ht:=Jc h
  exact ex_lq.bind fun b vs hv=>want_lq.bind fun _ xs hx=>by show _<_;omega
 ·exact want_lq.bind fun _ xs hx=>by show _<_;omega
def re_lq {n:Nat} {ts:List Tk}:Lq (UA n ts) ts.length:=by
 unfold UA
 exact word_lq.bind fun w us hu=>rf_lq.mono (by omega)
def L5:∀n:Nat,
 (∀lvl ts,Lq (Vn n lvl ts) ts.length)∧(∀lvl a ts,Lq (UQ n lvl a ts) (ts.length+1))∧(∀ts,Lq (cH n ts) ts.length):=by
 intro n
 induction n with
 | zero=>exact ⟨fun _ _=>trivial,fun _ _ _=>trivial,fun _=>trivial⟩
 | succ n ih=>
   obtain ⟨hE,hT,hN⟩:=ih
   refine ⟨fun lvl ts=>?_,fun lvl a ts=>?_,fun ts=>?_⟩
   ·rw [Vn]
    refine Lq.ite (fun h=>hN ts) (fun h=>?_)
    exact (hE (lvl+1) ts).bind fun a us hu=>(hT lvl a us).mono (by omega)
   ·rw [UQ]
    refine Lq.ite (fun h=>?_) (fun h=>by show _<_;omega)
    have ht:=Jc h
    exact (hE (lvl+1) ts.tail).bind fun b us hu=>(hT lvl _ us).mono (by omega)
   ·rw [cH]
    refine Lq.ite (fun h=>?_) fun _=>Lq.ite (fun h=>?_) fun _=>Lq.ite (fun h=>UO h.1 (by omega)) fun _=>re_lq
    ·have ht:=Jc h
     exact (hN ts.tail).bind fun a us hu=>by show _<_;omega
    ·have ht:=Jc h
     exact (hE 1 ts.tail).bind fun a us hu=>want_lq.bind fun _ xs hx=>by show _<_;omega
def tr_lq {n:Nat} {ts:List Tk}:Lq (Vn n 1 ts) ts.length:=(L5 n).1 1 ts
def MX {one:List Tk→Rd Nd} (h1:∀ts,Lq (one ts) ts.length):∀(n:Nat) (l:List Nd) (ts:List Tk),Lq (HJ one n l ts) (ts.length+1)
 | 0,_,_=>trivial
 | n+1,l,ts=>by
   rw [HJ]
   refine Lq.ite (fun h=>?_) (fun h=>by show _<_;omega)
   have ht:=Jc h
   exact (h1 ts.tail).bind fun a us hu=>(MX h1 n _ us).mono (by omega)
def w5 {one:List Tk→Rd Nd} (h1:∀ts,Lq (one ts) ts.length) {n:Nat} {ts:List Tk}:Lq (UM one n ts) ts.length:=by
 unfold UM
 exact (h1 ts).bind fun a us hu=>(MX h1 n _ us).mono (by omega)
def w8:∀(n:Nat) (l:List Nd) (ts:List Tk),Lq (Hx n l ts) (ts.length+1)
 | 0,_,_=>trivial
 | n+1,l,ts=>by
   rw [Hx]
   refine Lq.ite (fun h=>?_) fun _=>Lq.ite (fun h=>?_) fun _=>Lq.ite (fun h=>?_) (fun h=>by show _<_;omega)
   ·have ht:=Jc h
    exact want_lq.bind fun _ us hu=>(w8 n _ us).mono (by omega)
   ·have ht:=Jc h
    exact want_lq.bind fun _ us hu=>(w8 n _ us).mono (by omega)
   ·have ht:=Jc h
    exact want_lq.bind fun _ us hu=>ex_lq.bind fun e vs hv=>want_lq.bind fun _ xs hx=>want_lq.bind fun _ ys hy=>(w8 n _ ys).mono (by omega)
def DF {ts:List Tk}:Lq (fK ts) ts.length:=by unfold fK;exact word_lq.bind fun v us hu=>hu
def DG {ts:List Tk}:Lq (hG ts) ts.length:=by
 unfold hG
 refine word_lq.bind fun v us hu=>Lq.ite (fun h=>?_) fun _=>hu
 have ht:=Jc h
 exact want_lq.bind fun _ vs hv=>by show _<_;omega
def ap_lq {n:Nat} {at_:Int} {mods:List Nd} {w:Tk} {ts:List Tk}:Lq (cD n at_ mods w ts) ts.length:=by
 unfold cD
 have h1 : Lq ((if Ja (bs "(") ts then (UM (Yf n 1) n ts.tail).bind fun l us => (JN (bs ")") us).bind fun _ us => .ok l us else .ok [] ts) : Rd (List Nd)) (ts.length + 1) := by
  refine Lq.ite (fun h=>?_) (fun h=>by show _<_;omega)
  have ht:=Jc h
  exact (w5 fun us=>ex_lq).bind fun l us hu=>want_lq.bind fun _ vs hv=>by show _<_;omega
 refine h1.bind fun args us hu=>?_
 have h2:Lq ((if (Jy us).1=1 then UM (UA n) n us else .ok [] us):Rd (List Nd)) (us.length+1):=by
  refine Lq.ite (fun h=>?_) (fun h=>by show _<_;omega)
  exact (w5 fun vs=>re_lq).mono (by omega)
 exact h2.bind fun refs vs hv=>want_lq.bind fun _ xs hx=>by show _<_;omega
def G0:∀n:Nat,(∀ts,Lq (UD n ts) ts.length)∧(∀l ts,Lq (lE n l ts) ts.length)∧(∀ts,Lq (Ni n ts) ts.length):=by
 intro n
 induction n with
 | zero=>exact ⟨fun _=>trivial,fun _ _=>trivial,fun _=>trivial⟩
 | succ n ih=>
   obtain ⟨hB,hQ,hS⟩:=ih
   refine ⟨fun ts=>?_,fun l ts=>?_,fun ts=>?_⟩
   ·rw [UD]
    exact want_lq.bind fun t us hu=>(hQ [] us).bind fun l vs hv=>by show _<_;omega
   ·rw [lE]
    exact Lq.ite (fun h=>Jc h) fun _=>(hS ts).bind fun a us hu=>(hQ _ us).mono (by omega)
   ·rw [Ni]
    refine Lq.ite (fun h=>?_) fun _=>Lq.ite (fun h=>?_) fun _=>Lq.ite (fun h=>?_) fun _=>Lq.ite (fun h=>?_) fun _=>Lq.ite (fun h=>?_) fun _=>Lq.ite (fun h=>?_) fun _=>Lq.ite (fun h=>?_) fun _=>?_
    ·have ht:=Jc h
     exact word_lq.bind fun w us hu=>want_lq.bind fun _ vs hv=>ex_lq.bind fun lo xs hx=>want_lq.bind fun _ ys hy=>ex_lq.bind fun hi zs hz=>(hB zs).bind fun b us' hu'=>by show _<_;omega
    ·have ht:=Jc h
     exact ex_lq.bind fun e us hu=>(hB us).bind fun b vs hv=>by show _<_;omega
    ·have ht:=Jc h
     have h2 : (if Ja (bs "!") ts.tail = true then ts.tail.tail else ts.tail).length < ts.length := by
      split
      ·have:=Jc ‹_›;omega
      ·exact ht
     refine re_lq.bind fun r us hu=>(hB us).bind fun b vs hv=>Lq.ite (fun h=>?_) (fun _=>by show _<_;omega)
     have ht:=Jc h
     exact (hB vs.tail).bind fun c xs hx=>by show _<_;omega
    ·have ht:=Jc h
     exact re_lq.bind fun q us hu=>want_lq.bind fun _ vs hv=>re_lq.bind fun b xs hx=>want_lq.bind fun _ ys hy=>by show _<_;omega
    ·have ht:=Jc h
     exact re_lq.bind fun q us hu=>want_lq.bind fun _ vs hv=>by show _<_;omega
    ·have ht:=Jc h
     exact (hB ts.tail).bind fun a us hu=>want_lq.bind fun _ vs hv=>(hB vs).bind fun b xs hx=>by show _<_;omega
    ·exact (w8 n [] ts).bind fun mods us hu=>word_lq.bind fun w vs hv=>ap_lq.mono (by omega)
    ·refine word_lq.bind fun w us hu=>Lq.ite (fun h=>?_) fun _=>ap_lq.mono (by omega)
     exact rf_lq.bind fun r vs hv=>want_lq.bind fun _ xs hx=>tr_lq.bind fun e ys hy=>want_lq.bind fun _ zs hz=>by show _<_;omega
def D1 {n:Nat} {ts:List Tk}:Lq (Ni n ts) ts.length:=(G0 n).2.2 ts
def bl_lq {n:Nat} {ts:List Tk}:Lq (UD n ts) ts.length:=(G0 n).1 ts
def ga_lq {n:Nat} {t:Tk} {ts:List Tk}:Lq (iT n t ts) ts.length:=by
 unfold iT
 refine word_lq.bind fun w us hu=>?_
 have h1 : Lq ((if Ja (bs "(") us then (UM fK n us.tail).bind fun l us => (JN (bs ")") us).bind fun _ us => .ok l us else .ok [] us) : Rd (List Nd)) (us.length + 1) := by
  refine Lq.ite (fun h=>?_) (fun h=>by show _<_;omega)
  have ht:=Jc h
  exact (w5 fun us=>DF).bind fun l us hu=>want_lq.bind fun _ vs hv=>by show _<_;omega
 exact h1.bind fun ints vs hv=>(w5 fun us=>DG).bind fun wires xs hx=>bl_lq.bind fun b ys hy=>by show _<_;omega
def MV {n:Nat} {ts:List Tk}:Lq (fZ n ts) ts.length:=by
 unfold fZ
 refine Lq.ite (fun h=>?_) fun _=>Lq.ite (fun h=>?_) fun _=>Lq.ite (fun h=>?_) fun _=>D1
 ·have ht:ts.tail.length<ts.length:=by
   rcases (Bool.or_eq_true _ _▸h:_∨_) with h | h<;>exact Jc h
  exact word_lq.bind fun w us hu=>want_lq.bind fun _ vs hv=>ex_lq.bind fun e xs hx=>want_lq.bind fun _ ys hy=>want_lq.bind fun _ zs hz=>by show _<_;omega
 ·have ht:=Jc h
  exact word_lq.bind fun w us hu=>want_lq.bind fun _ vs hv=>ex_lq.bind fun e xs hx=>want_lq.bind fun _ ys hy=>by show _<_;omega
 ·have ht:=Jc h
  exact ga_lq.mono (by omega)
end Go.Ql
end

section
namespace Go.Ql
def yZ {c:UInt8} (h:YY c=true):Yn c=false:=by
 unfold YY at h;unfold Yn
 simp only [Bool.or_eq_true,ze,zn,beq_iff_eq] at h
 simp only [Bool.and_eq_false_iff,decide_eq_false_iff_not]
 rcases h with (h | h) | h
 ·omega
 ·omega
 ·subst h;decide
def fP {p:UInt8→Bool} {c:UInt8} {r:Za} (h:p c=true):1≤((c::r).takeWhile p).length:=by
 rw [List.takeWhile_cons,if_pos h];simp
def iG {p:UInt8→Bool} (l:Za):(l.takeWhile p).length≤l.length:=(List.takeWhile_sublist p).length_le
def Ns (c:UInt8) (r:Za):VH (c::r)=if YY c then (if keysT.elem ((c::r).takeWhile fun c=>YY c||Yn c) then 2 else 1,(c::r).takeWhile fun c=>YY c||Yn c)
 else if Yn c then (if ((c::r).takeWhile Yn).length>9∨(((c::r).takeWhile Yn).length>1∧c=48) then 4 else 3,(c::r).takeWhile Yn)
 else if twosT.elem ((c::r).take 2) then (2,(c::r).take 2)
 else if onesT.elem c then (2,[c]) else (4,[]):=rfl
def A1 (r:Za):0≤(VH r).1∧(VH r).1≤4:=by
 cases r with
 | nil=>exact ⟨by decide,by decide⟩
 | cons c r=>
   rw [Ns]
   split
   ·dsimp only;split<;>omega
   ·split
    ·dsimp only;split<;>omega
    ·split
     ·dsimp only;omega
     ·split<;>(dsimp only;omega)
def gL {r:Za} (h0:(VH r).1≠0) (h4:(VH r).1≠4):1≤(VH r).2.length∧(VH r).2.length≤r.length:=by
 cases r with
 | nil=>exact absurd rfl h0
 | cons c r=>
   rw [Ns] at h0 h4 ⊢
   split
   ·rename_i h
    exact ⟨fP (p:=fun c=>YY c||Yn c) (by simp [h]),iG _⟩
   ·rename_i h
    rw [if_neg h] at h0 h4
    split
    ·rename_i h'
     exact ⟨fP h',iG _⟩
    ·rename_i h'
     rw [if_neg h'] at h0 h4
     split
     ·rename_i h2
      refine ⟨?_,by simp [List.length_take];omega⟩
      simp only [List.length_take,zg];omega
     ·rename_i h2
      rw [if_neg h2] at h0 h4
      split
      ·simp
      ·rename_i h3
       rw [if_neg h3] at h4
       exact absurd rfl h4
def ED {r:Za}:(VH r).1=0↔r=[]:=by
 cases r with
 | nil=>exact ⟨fun _=>rfl,fun _=>rfl⟩
 | cons c r=>
   refine ⟨fun h=>?_,fun h=>by cases h⟩
   rw [Ns] at h
   split at h
   ·dsimp only at h;split at h<;>omega
   ·split at h
    ·dsimp only at h;split at h<;>omega
    ·split at h
     ·dsimp only at h;omega
     ·split at h<;>(dsimp only at h;omega)
def cZ:∀(b:Bool) (l:Za),Yq b l≤l.length
 | b,[]=>by cases b<;>simp [Yq]
 | true,c::r=>by
   rw [Yq,zg]
   have:=cZ (!(c==10)) r
   omega
 | false,c::r=>by
   rw [Yq,zg]
   have h1:=cZ false r
   have h2:=cZ true r
   split
   ·omega
   ·split<;>omega
def tR:∀(n m:Nat) (rest:Za) (i:Nat),rest.length<n→rest.length<m→lH n rest i=lH m rest i
 | 0,_,_,_,h,_=>by omega
 | _,0,_,_,_,h=>by omega
 | n+1,m+1,rest,i,hn,hm=>by
   rw [lH,lH]
   congr 1
   split
   ·rfl
   ·rename_i h
    have hl:=gL (r:=rest.drop (Yq false rest)) (by omega) (by omega)
    have hb:=cZ false rest
    simp only [zu] at hl
    exact tR n m _ _ (by simp only [zu];omega) (by simp only [zu];omega)
def Nk (text:Za) (i:Nat):List Tk:=lH (text.length+1) (text.drop i) i
def UJ (text:Za) (i:Nat):Nat:=i+Yq false (text.drop i)
def UK (text:Za) (i:Nat):Tk:=((VH (text.drop (UJ text i))).1,(VH (text.drop (UJ text i))).2,(UJ text i:Int))
def cT (text:Za) (i:Nat):Nat:=UJ text i+(VH (text.drop (UJ text i))).2.length
def bP (text:Za) (i:Nat):Nk text i=UK text i::if (UK text i).1=0∨(UK text i).1=4 then [] else Nk text (cT text i):=by
 unfold Nk
 rw [lH]
 unfold UK cT UJ
 simp only [List.drop_drop]
 congr 1
 split
 ·rfl
 ·rename_i h
  have hl:=gL (r:=text.drop (i+Yq false (text.drop i))) (by omega) (by omega)
  have hb:=cZ false (text.drop i)
  simp only [zu] at hl hb
  exact tR _ _ _ _ (by simp only [zu];omega) (by simp only [zu];omega)
def r8 (text:Za):UC text=Nk text 0:=rfl
def pK {text:Za} {i:Nat} (h:i≤text.length):i≤UJ text i∧UJ text i≤text.length:=by
 unfold UJ
 have hb:=cZ false (text.drop i)
 simp only [zu] at hb
 omega
def pM {text:Za} {i:Nat} (h:i≤text.length) (h0:(UK text i).1≠0) (h4:(UK text i).1≠4):UJ text i<cT text i∧cT text i≤text.length:=by
 have hb:=pK h
 have hl:=gL (r:=text.drop (UJ text i)) h0 h4
 simp only [zu] at hl
 unfold cT
 omega
def nV (t:Tk):Prop:=0≤t.1∧t.1≤4∧0≤t.2.2∧(t.1=3→1≤t.2.1.length∧t.2.1.length≤9 ∧ ∀c∈t.2.1,Yn c=true)
def wL {p:UInt8→Bool} (l:Za):∀c∈l.takeWhile p,p c=true:=by
 intro c hc
 have h:=List.all_takeWhile (p:=p) (l:=l)
 exact zy.1 h c hc
def B2 (text:Za) (i:Nat):nV (UK text i):=by
 have hs:=A1 (text.drop (UJ text i))
 refine ⟨hs.1,hs.2,by unfold UK;dsimp only;omega,fun h=>?_⟩
 unfold UK at h ⊢
 dsimp only at h ⊢
 generalize text.drop (UJ text i)=r at h ⊢
 cases r with
 | nil=>cases h
 | cons c r=>
   rw [Ns] at h ⊢
   split at h
   ·dsimp only at h;split at h<;>omega
   ·rename_i h1
    rw [if_neg h1]
    split at h
    ·rename_i h2
     rw [if_pos h2]
     dsimp only at h ⊢
     split at h
     ·omega
     ·rename_i h3
      exact ⟨fP h2,by omega,wL _⟩
    ·split at h
     ·dsimp only at h;omega
     ·split at h<;>(dsimp only at h;omega)
def TksOk:List Tk→Prop
 | []=>False
 | [t]=>nV t∧(t.1=0∨t.1=4)
 | t::l=>nV t∧t.1≠0∧t.1≠4∧TksOk l
def r7 (text:Za):∀(k i:Nat),text.length-i<k→i≤text.length→TksOk (Nk text i)∧(Nk text i).length+i≤text.length+1
 | 0,_,h,_=>by omega
 | k+1,i,h,hi=>by
   rw [bP]
   have hok:=B2 text i
   split
   ·rename_i hs
    exact ⟨⟨hok,hs⟩,by simp;omega⟩
   ·rename_i hs
    have he:=pM hi (by omega) (by omega)
    have hb:=pK hi
    obtain ⟨h1,h2⟩:=r7 text k (cT text i) (by omega) he.2
    refine ⟨?_,by rw [zg];omega⟩
    cases hq:Nk text (cT text i) with
    | nil=>rw [hq] at h1;exact absurd h1 id
    | cons a l=>rw [hq] at h1;exact ⟨hok,by omega,by omega,h1⟩
def nJ (text:Za):TksOk (UC text)∧(UC text).length≤text.length+1:=by
 have h:=r7 text (text.length+1) 0 (by omega) (by omega)
 rw [r8];exact ⟨h.1,by omega⟩
def tQ {text:Za} {i j:Nat} (h:UJ text i=UJ text j):Nk text i=Nk text j:=by
 have h1:UK text i=UK text j:=by unfold UK;rw [h]
 have h2:cT text i=cT text j:=by unfold cT;rw [h]
 rw [bP,bP text j,h1,h2]
end Go.Ql
end

section
set_option maxRecDepth 4000
namespace W
open Go Go.Ql
theorem HY {p:UInt8→Prop} (h:∀n,n<256→p (UInt8.ofNat n)) (c:UInt8):p c:=by
 have:=h c.toNat (UInt8.toNat_lt c)
 rwa [UInt8.ofNat_toNat] at this
theorem F6 (c:UInt8):Yc (c.toNat:Int)=some (YY c):=HY (p:=fun c=>Yc (c.toNat:Int)=some (YY c)) (by decide +kernel) c
theorem rM (c:UInt8):kX (c.toNat:Int)=some (Yn c):=HY (p:=fun c=>kX (c.toNat:Int)=some (Yn c)) (by decide +kernel) c
theorem y9 (c:UInt8):kj (c.toNat:Int)=some (YY c||Yn c):=HY (p:=fun c=>kj (c.toNat:Int)=some (YY c||Yn c)) (by decide +kernel) c
theorem xS (c:UInt8):jk.c2 (c.toNat:Int) some=some (fR c):=HY (p:=fun c=>jk.c2 (c.toNat:Int) some=some (fR c)) (by decide +kernel) c
theorem PG (c:UInt8):jH.cJ_ (c.toNat:Int) some=some (onesT.elem c):=HY (p:=fun c=>jH.cJ_ (c.toNat:Int) some=some (onesT.elem c)) (by decide +kernel) c
theorem fQ (c:UInt8) (n:Nat) (h:n<256):((c.toNat:Int)==(n:Int))=(c==UInt8.ofNat n):=by
 rw [Bool.eq_iff_iff,beq_iff_eq,beq_iff_eq]
 refine ⟨fun e=>?_,fun e=>?_⟩
 ·have:c.toNat=n:=by omega
  rw [←this,UInt8.ofNat_toNat]
 ·rw [e,UInt8.toNat_ofNat'];omega
theorem lV {b:Bool} {x:Option Bool}:br b (some b) x=br b (some true) x:=by cases b<;>rfl
theorem yB {w a:Za} {l:List Za}:(a::l).elem w=(w==a||l.elem w):=List.elem_cons
theorem yC {w:Za}:([]:List Za).elem w=false:=rfl
theorem AZ (w:Za):kE w=some (keysT.elem w):=by
 have h:keysT=[[113,117,98,105,116],[98,105,116],[99,111,110,115,116],[103,97,116,101],[102,111,114],[105,110],[119,104,101,110],[105,102],[101,108,115,101],[109,101,97,115,117,114,101],[114,101,115,101,116],[119,105,116,104,105,110],[97,112,112,108,121],[105,110,118],[99,116,114,108],[112,111,119],[115,105,122,101]]:=by decide
 have h1:kE.cH_ w some=some (keysT.elem w):=by
  unfold kE.cH_
  simp only [lV,mG,h,yB,yC,Bool.or_false]
 unfold kE
 rw [h1,je]
 cases keysT.elem w<;>rfl
theorem PY (w:Za):jH.cI_ w some=some (twosT.elem w):=by
 have h:twosT=[[46,46],[45,62],[94,61],[61,61],[33,61],[60,61],[62,61],[42,42]]:=by decide
 unfold jH.cI_
 simp only [lV,mG,h,yB,yC,Bool.or_false]
theorem VK {text:Za} {j:Nat} {c:UInt8} {r:Za} (h:text.drop j=c::r):idx text (j:Int)=some c∧j<text.length∧text.drop (j+1)=r:=by
 have hl:j<text.length:=by
  refine Nat.lt_of_not_le fun hh=>?_
  rw [List.drop_eq_nil_of_le hh] at h;cases h
 rw [List.drop_eq_getElem_cons hl] at h
 injection h with h1 h2
 exact ⟨by rw [HD hl,h1],hl,h2⟩
theorem bY {text:Za} {j:Nat} (ht:text.length≤40000) (h:j<text.length):IntKind.i64.wrap ((j:Int)+1)=((j+1:Nat):Int):=by
 rw [JS (by omega)];omega
theorem Na (text:Za) (j:Nat) (hj:j≤text.length):(j=text.length∧text.drop j=[]) ∨ ∃c r,text.drop j=c::r:=by
 cases h:text.drop j with
 | nil=>
   have:=List.drop_eq_nil_iff.1 h
   exact .inl ⟨by omega,rfl⟩
 | cons c r=>exact .inr ⟨c,r,rfl⟩
theorem gN {f:Int→Option (Int⊕Int)} {text:Za} {p:UInt8→Bool}
 (h1:∀(j:Nat) c r,text.drop j=c::r→p c=true→f (j:Int)=some (.inl ((j+1:Nat):Int)))
 (h2:∀(j:Nat) c r,text.drop j=c::r→p c=false→f (j:Int)=some (.inr (j:Int)))
 (h3:f (text.length:Int)=some (.inr (text.length:Int))) :
 ∀(k i:Nat),i≤text.length→text.length-i<k→iter f (i:Int)=some (((i+((text.drop i).takeWhile p).length:Nat)):Int)
 | 0,_,_,h=>by omega
 | k+1,i,hi,hk=>by
   rcases Na text i hi with ⟨e,h⟩ | ⟨c,r,h⟩
   ·rw [h,e];exact kD h3
   ·obtain ⟨_,hl,hr⟩:=VK h
    cases hp:p c with
    | true=>
      refine kr (h1 i c r h hp) ?_
      rw [gN h1 h2 h3 k (i+1) (by omega) (by omega),h,hr,List.takeWhile_cons,if_pos hp,zg]
      congr 2;omega
    | false=>
      rw [kD (h2 i c r h hp),h,List.takeWhile_cons,if_neg (by simp [hp])]
      rfl
section
variable {text:Za} (ht:text.length≤40000)
include ht
theorem EG {i:Nat} (hi:i≤text.length) {x2:Int} {x3:Za} {x4:Int} :
 jE text i x2 x3 x4=some ((text.drop i).takeWhile (fun c=>YY c||Yn c),text,((i+((text.drop i).takeWhile (fun c=>YY c||Yn c)).length:Nat):Int),x2,x3,x4,()):=by
 have hs:=gN (text:=text) (p:=fun c=>YY c||Yn c) (f:=fun s=>jE.ca_ text s some) (fun j c r h hp=>by
  obtain ⟨e,hl,_⟩:=VK h
  simp only [jE.ca_,jE.c2,JB (show (j:Int)<(text.length:Int) by omega),e,je,y9,hp,JD,bY ht hl]) (fun j c r h hp=>by
  obtain ⟨e,hl,_⟩:=VK h
  simp only [jE.ca_,jE.c2,JB (show (j:Int)<(text.length:Int) by omega),e,je,y9,hp,JA]) (by
  simp only [jE.ca_,jE.c2,JV (Int.lt_irrefl _),je,JA]) (text.length+1) i hi (by omega)
 have hle:=iG (p:=fun c=>YY c||Yn c) (text.drop i)
 simp only [zu] at hle
 unfold jE
 rw [hs,je]
 simp only [jE.c4]
 rw [jY (by simp;omega)]
 simp only [je,Int.toNat_natCast]
 congr 2
 rw [List.drop_take]
 rw [show i+((text.drop i).takeWhile (fun c=>YY c||Yn c)).length-i=((text.drop i).takeWhile (fun c=>YY c||Yn c)).length by omega]
 exact (List.prefix_iff_eq_take.1 (List.takeWhile_prefix _)).symm
theorem A3 {i:Nat} (hi:i≤text.length) {x2:Int} {x3:Za} {x4:Int} :
 jB text i x2 x3 x4=some ((text.drop i).takeWhile Yn,text,((i+((text.drop i).takeWhile Yn).length:Nat):Int),x2,x3,x4,()):=by
 have hs:=gN (text:=text) (p:=Yn) (f:=fun s=>jB.ca_ text s some) (fun j c r h hp=>by
  obtain ⟨e,hl,_⟩:=VK h
  simp only [jB.ca_,jB.c2,JB (show (j:Int)<(text.length:Int) by omega),e,je,rM,hp,JD,bY ht hl]) (fun j c r h hp=>by
  obtain ⟨e,hl,_⟩:=VK h
  simp only [jB.ca_,jB.c2,JB (show (j:Int)<(text.length:Int) by omega),e,je,rM,hp,JA]) (by
  simp only [jB.ca_,jB.c2,JV (Int.lt_irrefl _),je,JA]) (text.length+1) i hi (by omega)
 have hle:=iG (p:=Yn) (text.drop i)
 simp only [zu] at hle
 unfold jB
 rw [hs,je]
 simp only [jB.c4]
 rw [jY (by simp;omega)]
 simp only [je,Int.toNat_natCast]
 congr 2
 rw [List.drop_take]
 rw [show i+((text.drop i).takeWhile Yn).length-i=((text.drop i).takeWhile Yn).length by omega]
 exact (List.prefix_iff_eq_take.1 (List.takeWhile_prefix _)).symm
theorem PT {i:Nat} {c:UInt8} {r:Za} (h:text.drop i=c::r) {x2:Int} {x3:Za} {x4:Int} :
 jH text i x2 x3 x4=(if twosT.elem ((c::r).take 2) then some ((c::r).take 2,text,((i+2:Nat):Int),x2,x3,x4,())
  else if onesT.elem c then some ([c],text,((i+1:Nat):Int),x2,x3,x4,()) else some ([],text,(i:Int),x2,x3,x4,())):=by
 obtain ⟨_,hl,_⟩:=VK h
 unfold jH
 have e0:jH.c1 text (i:Int) some=some ():=by
  simp only [jH.c1]
  rw [jY (by simp;omega)];rfl
 have e1:List.drop (Int.toNat (i:Int)) (List.take (Int.toNat (text.length:Int)) text)=c::r:=by
  rw [Int.toNat_natCast,Int.toNat_natCast,List.take_length,h]
 have e2:idx (c::r) (0:Int)=some c:=rfl
 rw [e0,je,e1]
 have hlen:text.length=i+(c::r).length:=by
  have:=congrArg List.length h
  rw [zu] at this;omega
 have e3:jH.cY_ (c::r) some=some (if twosT.elem ((c::r).take 2) then .inl () else .inr ()):=by
  unfold jH.cY_
  cases r with
  | nil=>
    have:twosT.elem ([c].take 2)=false:=HY (p:=fun c=>twosT.elem ([c].take 2)=false) (by decide +kernel) c
    rw [this];rfl
  | cons d r=>
    rw [JB (by simp only [zg];omega),jY (zo (by simp only [zg];omega)),je,PY,je]
    cases twosT.elem ((c::d::r).take 2)<;>rfl
 rw [e3,je]
 cases h2:twosT.elem ((c::r).take 2) with
 | true=>
   have hr:2≤(c::r).length:=by
    cases r with
    | nil=>
      have:twosT.elem ([c].take 2)=false:=HY (p:=fun c=>twosT.elem ([c].take 2)=false) (by decide +kernel) c
      rw [this] at h2;cases h2
    | cons d r=>simp
   simp only [if_true,Ym]
   rw [JS (by omega)]
   rfl
 | false=>
   simp only [zi,if_false,Vg,e2,je,PG]
   cases h1:onesT.elem c with
   | true=>
     simp only [JD,if_true]
     rw [jY (zo (by simp only [zg];omega)),je,bY ht hl]
     rfl
   | false=>rfl
theorem IT {i:Nat} (hi:i≤text.length) {x2:Int} {x3:Za} {x4:Int} :
 jk text i x2 x3 x4=some (text,(UJ text i:Int),x2,x3,x4,()):=by
 have inner:∀(j:Nat) (c:UInt8) (r:Za),text.drop j=c::r→c≠10 → ∃k,iter (fun s=>jk.cd_ text s some) (j:Int)=some k ∧ ∃n:Nat,k=n∧j<n∧n≤text.length∧n+Yq false (text.drop n)=j+Yq true (text.drop j):=by
  intro j c r hj hc
  refine Uk (J:=fun s:Int=>∃n:Nat,s=n∧j≤n∧n≤text.length∧n+Yq true (text.drop n)=j+Yq true (text.drop j)) (fun s:Int=>text.length-s.toNat) ?_ ⟨j,rfl,zx _,by have:=(VK hj).2.1;omega,rfl⟩
  rintro s ⟨n,rfl,hn,hn',he⟩
  rcases Na text n hn' with ⟨e,h⟩ | ⟨d,q,h⟩
  ·refine .inl ⟨n,?_,n,rfl,?_,hn',?_⟩
   ·simp only [jk.cd_,jk.c5,JV (show ¬(n:Int)<(text.length:Int) by omega),je,JA]
   ·have:=(VK hj).2.1;omega
   ·rw [h] at he ⊢;exact he
  ·obtain ⟨e,hl,hq⟩:=VK h
   have e5:jk.c5 text (n:Int) some=some (!(d==10)):=by
    simp only [jk.c5,JB (show (n:Int)<(text.length:Int) by omega),e,je]
    exact congrArg some (congrArg not (fQ d 10 (by omega)))
   cases hd:d==10 with
   | true=>
     refine .inl ⟨n,?_,n,rfl,?_,hn',?_⟩
     ·simp only [jk.cd_,e5,hd,je,Bool.not_true,JA]
     ·refine Nat.lt_of_le_of_ne hn fun hh=>?_
      subst hh
      rw [hj] at h;injection h with h1 h2
      subst h1;exact hc (beq_iff_eq.1 hd)
     ·rw [h] at he ⊢
      rw [Yq] at he
      rw [show Yq false (d::q)=if fR d then 1+Yq false q else if d==47&&q.head? == some 47 then 1+Yq true q else 0 from by rw [Yq]]
      have hb:fR d=true:=by rw [beq_iff_eq.1 hd];rfl
      rw [hd] at he
      simp only [hb,if_true,Bool.not_true] at he ⊢
      exact he
   | false=>
     refine .inr ⟨((n+1:Nat):Int),?_,⟨n+1,rfl,by omega,by omega,?_⟩,by omega⟩
     ·simp only [jk.cd_,e5,hd,je,Bool.not_false,JD,bY ht hl]
     ·rw [h,Yq,hd,Bool.not_false] at he
      rw [hq];omega
 have outer:∃y,iter (fun s=>jk.cN_ text s some) (i:Int)=some y∧(y=.inl (UJ text i:Int)∨y=.inr (UJ text i:Int)):=by
  refine Uk (J:=fun s:Int=>∃n:Nat,s=n∧n≤text.length∧n+Yq false (text.drop n)=UJ text i) (fun s:Int=>text.length-s.toNat) ?_ ⟨i,rfl,hi,rfl⟩
  rintro s ⟨n,rfl,hn',he⟩
  rcases Na text n hn' with ⟨e,h⟩ | ⟨d,q,h⟩
  ·refine .inl ⟨.inr (n:Int),?_,.inr ?_⟩
   ·simp only [jk.cN_,jk.c0,je,JV (show ¬(n:Int)<(text.length:Int) by omega)]
   ·rw [h] at he;rw [←he];rfl
  ·obtain ⟨e,hl,hq⟩:=VK h
   have e1:jk.c1 text (n:Int) some=some ((d.toNat:Int)):=by simp only [jk.c1,e,je]
   have e4:jk.c4 (d.toNat:Int) text (n:Int) some=some (d==47&&q.head? == some 47):=by
    simp only [jk.c4]
    rw [show ((d.toNat:Int)==(47:Int))=(d==47) from fQ d 47 (by omega)]
    cases hd:d==47 with
    | false=>rfl
    | true=>
      rw [JD,bY ht hl]
      rcases Na text (n+1) (by omega) with ⟨e',h'⟩ | ⟨d',q',h'⟩
      ·rw [JV (by omega)]
       rw [hq] at h';rw [h'];rfl
      ·obtain ⟨e'',hl',_⟩:=VK h'
       rw [JB (by omega),e'',je]
       rw [hq] at h';rw [h']
       exact congrArg some ((fQ d' 47 (by omega)).trans (by cases hh:d'==47<;>simp_all))
   rw [h,Yq] at he
   cases hb:fR d with
   | true=>
     rw [hb] at he
     refine .inr ⟨((n+1:Nat):Int),?_,⟨n+1,rfl,by omega,?_⟩,by omega⟩
     ·simp only [jk.cN_,jk.c0,je,JB (show (n:Int)<(text.length:Int) by omega),e1,xS,hb,JD,bY ht hl]
     ·rw [hq];simp only [if_true] at he;omega
   | false=>
     rw [hb] at he
     simp only [zi,if_false] at he
     cases hr:(d==47&&q.head? == some 47) with
     | true=>
       rw [hr] at he
       simp only [if_true] at he
       have hd:d=47:=by
        have:=(ze _ _▸hr:_∧_).1
        exact beq_iff_eq.1 this
       obtain ⟨k,hk,m,rfl,hm,hm',hme⟩:=inner n d q h (by rw [hd];decide)
       refine .inr ⟨(m:Int),?_,⟨m,rfl,hm',?_⟩,by omega⟩
       ·simp only [jk.cN_,jk.c0,je,JB (show (n:Int)<(text.length:Int) by omega),e1,xS,hb,JA,e4,hr,JD,hk]
       ·rw [hme,h,Yq,hd]
        simpa using he
     | false=>
       rw [hr] at he
       simp only [zi,if_false] at he
       refine .inl ⟨.inl (n:Int),?_,.inl (by rw [←he];rfl)⟩
       simp only [jk.cN_,jk.c0,je,JB (show (n:Int)<(text.length:Int) by omega),e1,xS,hb,JA,e4,hr]
 obtain ⟨y,hy,hh⟩:=outer
 unfold jk
 rw [hy,je]
 rcases hh with rfl | rfl<;>rfl
end
end W
end

section
set_option maxRecDepth 4000
namespace W
open Go Go.Ql
abbrev PS:=Za×Int×Int×Za×Int×Unit
def rE (x:Int):Int:=if x=4 then 2 else if x=5 then 4 else x
structure At (text:Za) (ts:List Tk) (p:PS):Prop where
 txt:p.1=text
 len:text.length≤40000
 lo:0≤p.2.2.1
 hi:p.2.2.1≤5
 ok:TksOk ts
 cnt:ts.length≤text.length+1
 hd:Jy ts=(rE p.2.2.1,p.2.2.2.1,p.2.2.2.2.1)
 key:p.2.2.1=2→YT p.2.2.2.1=0
 rest:(Jy ts).1≠0→(Jy ts).1≠4 → ∃i:Nat,i≤text.length∧p.2.1=i∧ts.tail=Nk text i
def KN {w:Za} (h:keysT.elem w=true):YT w=0:=by
 have h1:∀w∈keysT,YT w=0:=by decide
 exact h1 w (List.elem_iff.1 h)
def G8 {text:Za} {i:Nat} (hi:i≤text.length):TksOk (Nk text i)∧(Nk text i).length+i≤text.length+1:=r7 text (text.length+1) i (by omega) hi
def PD {text:Za} (ht:text.length≤40000) {i:Nat} (hi:i≤text.length) {x2:Int} {x3:Za} {x4:Int} :
 ∃(s:Int) (k:Nat),jL text i x2 x3 x4=some ((s,(UK text i).2.1,(UK text i).2.2),text,(k:Int),x2,x3,x4,()) ∧
  0≤s∧s≤5∧rE s=(UK text i).1∧(s=2→YT (UK text i).2.1=0)∧((UK text i).1≠0→(UK text i).1≠4→k=cT text i):=by
 have hb:=pK hi
 unfold jL
 rw [IT ht hi,je]
 simp only [jL.c3,je]
 unfold cT UK
 dsimp only
 rcases Na text (UJ text i) hb.2 with ⟨e,h⟩ | ⟨c,r,h⟩
 ·refine ⟨0,UJ text i,?_,by omega,by omega,?_,by omega,?_⟩
  ·rw [YV (by rw [beq_iff_eq];omega),h]
   rfl
  ·rw [h];rfl
  ·rw [h];intro hh;exact absurd rfl hh
 ·obtain ⟨e,hl,hr⟩:=VK h
  rw [Ys (by rw [beq_eq_false_iff_ne];omega)]
  have e5:jL.c5 text (UJ text i:Int) some=some ((c.toNat:Int)):=by simp only [jL.c5,e,je]
  simp only [jL.caf_,e5,je,F6]
  rw [h,Ns]
  cases hc:YY c with
  | true=>
    simp only [JD,EG ht hb.2,je,AZ,h,if_true]
    cases hk:keysT.elem ((c::r).takeWhile fun c=>YY c||Yn c) with
    | true=>
      simp only [JD,je,if_true]
      exact ⟨2,_,rfl,by omega,by omega,rfl,fun _=>KN hk,fun _ _=>rfl⟩
    | false=>
      simp only [JA,je]
      exact ⟨1,_,rfl,by omega,by omega,rfl,fun h=>by omega,fun _ _=>rfl⟩
  | false=>
    simp only [JA,rM,je]
    cases hd:Yn c with
    | true=>
      simp only [JD,A3 ht hb.2,je,h,zi,if_false,if_true]
      have e15:jL.c15 (c.toNat:Int) ((c::r).takeWhile Yn) some=some (decide (((c::r).takeWhile Yn).length>9∨(((c::r).takeWhile Yn).length>1∧c=48))):=by
       unfold jL.c15
       rw [show ((c.toNat:Int)==(48:Int))=(c==48) from fQ c 48 (by omega)]
       generalize ((c::r).takeWhile Yn).length=n
       by_cases h1:n>9
       ·rw [JB (by omega)];simp [h1]
       ·rw [JV (by omega)]
        by_cases h2:n>1
        ·rw [JB (by omega)];simp [h1,h2];rfl
        ·rw [JV (by omega)];simp [h1,h2]
      rw [e15,je]
      by_cases hbad:((c::r).takeWhile Yn).length>9∨(((c::r).takeWhile Yn).length>1∧c=48)
      ·rw [JB hbad,if_pos hbad]
       exact ⟨5,_,rfl,by omega,by omega,rfl,fun h=>by omega,fun _ hh=>absurd rfl hh⟩
      ·rw [JV hbad,if_neg hbad]
       exact ⟨3,_,rfl,by omega,by omega,rfl,fun h=>by omega,fun _ _=>rfl⟩
    | false=>
      simp only [JA,PT ht h,zi,if_false]
      cases h2:twosT.elem ((c::r).take 2) with
      | true=>
        simp only [if_true,je]
        have hne:((c::r).take 2==([]:Za))=false:=by cases r<;>rfl
        have hlen:((c::r).take 2).length=2:=by
         cases r with
         | nil=>
           have:twosT.elem ([c].take 2)=false:=HY (p:=fun c=>twosT.elem ([c].take 2)=false) (by decide +kernel) c
           rw [this] at h2;cases h2
         | cons d r=>rfl
        simp only [hne,JA,je]
        exact ⟨4,_,rfl,by omega,by omega,rfl,fun h=>by omega,fun _ _=>by rw [hlen]⟩
      | false=>
        simp only [zi,if_false]
        cases h1:onesT.elem c with
        | true=>
          simp only [if_true,je]
          simp only [show ([c]==([]:Za))=false from rfl,JA,je]
          exact ⟨4,_,rfl,by omega,by omega,rfl,fun h=>by omega,fun _ _=>rfl⟩
        | false=>
          simp only [zi,if_false,je]
          simp only [show (([]:Za)==([]:Za))=true from rfl,JD,je]
          exact ⟨5,_,rfl,by omega,by omega,rfl,fun h=>by omega,fun _ hh=>absurd rfl hh⟩
def A7 {text:Za} (ht:text.length≤40000) {i:Nat} (hi:i≤text.length) {x2:Int} {x3:Za} {x4:Int} :
 ∃(t:Int×Za×Int) (k:Int),jL text i x2 x3 x4=some (t,text,k,x2,x3,x4,())∧At text (Nk text i) (text,k,t.1,t.2.1,t.2.2,()):=by
 obtain ⟨s,k,h1,h2,h3,h4,h5,h6⟩:=PD ht hi (x2:=x2) (x3:=x3) (x4:=x4)
 have ha:=G8 hi
 have he:Jy (Nk text i)=UK text i:=by rw [bP];rfl
 refine ⟨_,_,h1,⟨rfl,ht,h2,h3,ha.1,by omega,?_,h5,?_⟩⟩
 ·rw [he];exact Prod.ext h4.symm rfl
 ·rw [he];intro g0 g4
  refine ⟨k,?_,rfl,?_⟩
  ·rw [h6 g0 g4];exact (pM hi g0 g4).2
  ·rw [bP,if_neg (by omega),h6 g0 g4];rfl
def HG {text:Za} {ts:List Tk} {p:PS} (h:At text ts p) (h0:(Jy ts).1≠0) (h4:(Jy ts).1≠4) :
 ∃p',jR p.1 p.2.1 p.2.2.1 p.2.2.2.1 p.2.2.2.2.1=some ((p.2.2.1,p.2.2.2.1,p.2.2.2.2.1),p')∧At text ts.tail p':=by
 obtain ⟨i,hi,hp,ht⟩:=h.rest h0 h4
 obtain ⟨t,k,h1,h2⟩:=A7 h.len hi (x2:=p.2.2.1) (x3:=p.2.2.2.1) (x4:=p.2.2.2.2.1)
 refine ⟨_,?_,ht▸h2⟩
 unfold jR
 rw [h.txt,hp,h1,je]
def bW {text:Za} {ts:List Tk} {p:PS} (h:At text ts p) (w:Za) :
 jZ w p.1 p.2.1 p.2.2.1 p.2.2.2.1 p.2.2.2.2.1=some (Ja w ts,p):=by
 have h1:jZ.c1 w p.2.2.1 p.2.2.2.1 some=some (Ja w ts):=by
  unfold jZ.c1 Ja
  rw [h.hd]
  unfold rE
  dsimp only
  by_cases h4:p.2.2.1=4
  ·rw [YV (by simpa using h4)];simp [h4]
  ·rw [Ys (by simpa using h4)]
   by_cases h2:p.2.2.1=2
   ·rw [YV (by simpa using h2)];simp [h2]
   ·rw [Ys (by simpa using h2),if_neg h4]
    split
    ·simp
    ·simp [h2]
 unfold jZ
 rw [h1,je]
def Ve {text:Za} {ts:List Tk} {p:PS} (h:At text ts p) {w:Za} (hw:Ja w ts=true) :
 ∃p',jz w p.1 p.2.1 p.2.2.1 p.2.2.2.1 p.2.2.2.2.1=some (true,p')∧At text ts.tail p':=by
 have hs:=kM hw
 obtain ⟨p',h1,h2⟩:=HG h (by omega) (by omega)
 refine ⟨p',?_,h2⟩
 unfold jz
 rw [bW h,je,hw]
 simp only [JD,h1,je]
def Vd {text:Za} {ts:List Tk} {p:PS} (h:At text ts p) {w:Za} (hw:Ja w ts=false) :
 jz w p.1 p.2.1 p.2.2.1 p.2.2.2.1 p.2.2.2.2.1=some (false,p):=by
 unfold jz
 rw [bW h,je,hw]
 simp only [JA]
def Run {α:Type} (text:Za) (r:Option ((α×PS)⊕(Int×PS))):Rd α→Prop
 | .ok a us=>∃p,r=some (.inl (a,p))∧At text us p
 | .err e=>∃p,r=some (.inr (e,p))
 | .out=>True
def Run.bind {α β:Type} {text:Za} {r:Option ((α×PS)⊕(Int×PS))} {s:Rd α} {f:α→List Tk→Rd β} {k:(α×PS)→Option ((β×PS)⊕(Int×PS))} {g:Int×PS→Option ((β×PS)⊕(Int×PS))}
 (h:Run text r s) (hk:∀a us p,s=.ok a us→At text us p→Run text (k (a,p)) (f a us)) (hg:∀v,∃p,g v=some (.inr (v.1,p))):Run text (jc r fun y=>sel y k g) (s.bind f):=by
 cases s with
 | ok a us=>
   obtain ⟨p,rfl,hp⟩:=h
   exact hk a us p rfl hp
 | err e=>
   obtain ⟨p,rfl⟩:=h
   exact hg (e,p)
 | out=>trivial
def mD (x:Int×Za×Int):Tk:=(rE x.1,x.2.1,x.2.2)
def RunT (text:Za) (r:Option (((Int×Za×Int)×PS)⊕(Int×PS))):Rd Tk→Prop
 | .ok a us=>∃x p,r=some (.inl (x,p))∧mD x=a∧At text us p
 | .err e=>∃p,r=some (.inr (e,p))
 | .out=>True
def RunT.bind {β:Type} {text:Za} {r:Option (((Int×Za×Int)×PS)⊕(Int×PS))} {s:Rd Tk} {f:Tk→List Tk→Rd β} {k:((Int×Za×Int)×PS)→Option ((β×PS)⊕(Int×PS))} {g:Int×PS→Option ((β×PS)⊕(Int×PS))}
 (h:RunT text r s) (hk:∀x us p,s=.ok (mD x) us→At text us p→Run text (k (x,p)) (f (mD x) us)) (hg:∀v,∃p,g v=some (.inr (v.1,p))):Run text (jc r fun y=>sel y k g) (s.bind f):=by
 cases s with
 | ok a us=>
   obtain ⟨x,p,rfl,rfl,hp⟩:=h
   exact hk x us p rfl hp
 | err e=>
   obtain ⟨p,rfl⟩:=h
   exact hg (e,p)
 | out=>trivial
def At.tk {text:Za} {ts:List Tk} {p:PS} (h:At text ts p):mD (p.2.2.1,p.2.2.2.1,p.2.2.2.2.1)=Jy ts:=h.hd.symm
def At.word {text:Za} {ts:List Tk} {p:PS} (h:At text ts p):p.2.2.2.1=(Jy ts).2.1:=by rw [h.hd]
def At.place {text:Za} {ts:List Tk} {p:PS} (h:At text ts p):p.2.2.2.2.1=(Jy ts).2.2:=by rw [h.hd]
def aR {text:Za} {ts:List Tk} {p:PS} (h:At text ts p):RunT text (jS p.1 p.2.1 p.2.2.1 p.2.2.2.1 p.2.2.2.2.1) (Vl ts):=by
 unfold jS jS.cm_ Vl
 have hs:(p.2.2.1 !=(1:Int))=!decide ((Jy ts).1=1):=by
  rw [h.hd];unfold rE;dsimp only
  by_cases h1:p.2.2.1=1
  ·simp [h1]
  ·rw [show (p.2.2.1 !=(1:Int))=true by simpa using h1]
   split
   ·simp
   ·split
    ·simp
    ·simp [h1]
 rw [hs]
 by_cases h1:(Jy ts).1=1
 ·simp only [h1,decide_true,Bool.not_true,JA,je,Ym,if_true]
  obtain ⟨p',e,h'⟩:=HG h (by omega) (by omega)
  exact ⟨_,p',by rw [e,je],h.tk,h'⟩
 ·simp only [h1,decide_false,Bool.not_false,JD,km,je,Vg,if_false]
  exact ⟨_,by rw [h.place]⟩
def YC {text:Za} {ts:List Tk} {p:PS} (h:At text ts p) (w:Za):RunT text (jA w p.1 p.2.1 p.2.2.1 p.2.2.2.1 p.2.2.2.2.1) (JN w ts):=by
 unfold jA jA.cm_ JN
 rw [bW h,je]
 cases hw:Ja w ts with
 | true=>
   simp only [Bool.not_true,JA,je,Ym,if_true]
   have hs:=kM hw
   obtain ⟨p',e,h'⟩:=HG h (by omega) (by omega)
   exact ⟨_,p',by rw [e,je],h.tk,h'⟩
 | false=>
   simp only [Bool.not_false,JD,km,je,Vg,zi,if_false]
   exact ⟨_,by rw [h.place]⟩
def BQ (w:Za):Jz w=some (YT w):=by
 have e1:Jz.cC_ w some=some (w==[61,61]||(w==[33,61]||(w==[60]||(w==[60,61]||(w==[62]||w==[62,61]))))):=by
  simp only [Jz.cC_,lV,mG]
 have e2:Jz.cL_ w some=some (w==[43]||w==[45]):=by simp only [Jz.cL_,lV,mG]
 have e3:Jz.cT_ w some=some (w==[42]||(w==[47]||w==[37])):=by simp only [Jz.cT_,lV,mG]
 have b1 : bs "==" = [61,61] := by decide
 have b2 : bs "!=" = [33,61] := by decide
 have b3 : bs "<" = [60] := by decide
 have b4 : bs "<=" = [60,61] := by decide
 have b5 : bs ">" = [62] := by decide
 have b6 : bs ">=" = [62,61] := by decide
 have b7 : bs "+" = [43] := by decide
 have b8 : bs "-" = [45] := by decide
 have b9 : bs "*" = [42] := by decide
 have b10 : bs "/" = [47] := by decide
 have b11 : bs "%" = [37] := by decide
 have b12 : bs "**" = [42,42] := by decide
 unfold Jz YT
 rw [e1,je,b1,b2,b3,b4,b5,b6,b7,b8,b9,b10,b11,b12]
 simp only [e2,e3,je,MP,Bool.or_eq_true,beq_iff_eq]
 split
 ·rfl
 ·split
  ·rfl
  ·split
   ·rfl
   ·split<;>rfl
end W
end

section
set_option maxRecDepth 4000
namespace W
open Go Go.Ql
def Vv {α β γ:Type} {p:Option α} {f:α→Option β} {g:β→Option γ}:jc (jc p f) g=jc p fun x=>jc (f x) g:=by cases p<;>rfl
def UU {α β γ δ:Type} {y:α⊕β} {f:α→Option γ} {g:β→Option γ} {k:γ→Option δ}:jc (sel y f g) k=sel y (fun u=>jc (f u) k) (fun v=>jc (g v) k):=by cases y<;>rfl
def JG {r:Nd}:Rose.mk (r.hQ.1,r.hQ.2.1,r.hQ.2.2.1,r.hQ.2.2.2) r.kQ=r:=by cases r;rfl
def jK {l:Za}:Array.toList (ByteArray.data (ByteArray.mk l.toArray))=l:=rfl
def iL (t:Int×Za×Int) (a b:Nd):Yv t a b=some (Hf (mD t) a b):=by
 unfold Yv;simp only [JG];rfl
def HE (k:Int) (t:Int×Za×Int) (l:List Nd):kB k t l=some (Yh k t.2.2 l):=rfl
def Np (k:Int) (t w:Int×Za×Int) (l:List Nd):ku k t w l=some (VC k t.2.2 w.2.1 0 l):=rfl
def dA : bs "-" = [45] ∧ bs "**" = [42, 42] ∧ bs "size" = [115, 105, 122, 101] ∧ bs "(" = [40] ∧ bs ")" = [41] ∧ bs "[" = [91] ∧ bs "]" = [93] ∧ bs ".." = [46, 46] ∧ bs "," = [44] ∧ bs ";" = [59] := by decide
def Run.some {α:Type} {text:Za} {a:α} {us:List Tk} {p:PS} (h:At text us p):Run text (Option.some (.inl (a,p))) (.ok a us):=⟨p,rfl,h⟩
abbrev CS:=Int×Int×Za×Int×List Nd×Za×Int×Int×Za×Int
def HO (a:Nd) (p:PS):CS:=(a.hQ.1,a.hQ.2.1,a.hQ.2.2.1,a.hQ.2.2.2,a.kQ,p.1,p.2.1,p.2.2.1,p.2.2.2.1,p.2.2.2.2.1)
abbrev CE:=Int×Int×Za×Int×List Nd×Int×Za×Int×Int×Za×Int
def RunC (text:Za) (r:Option (CE⊕CS)):Rd Nd→Prop
 | .ok a us=>∃p,r=some (.inr (HO a p))∧At text us p
 | .err e=>∃y,r=some (.inl y)∧y.2.2.2.2.2.1=e
 | .out=>True
structure NumOk (text:Za) (n m:Nat):Prop where
 expr:∀ts p,At text ts p→Run text ((JC.fuel m).F_tongue_parser_expr_b p) (Yf n 1 ts)
 sum:∀ts p,At text ts p→Run text ((JC.fuel m).F_tongue_parser_sum_b p) (Yf n 2 ts)
 product:∀ts p,At text ts p→Run text ((JC.fuel m).F_tongue_parser_product_b p) (Yf n 3 ts)
 unary:∀ts p,At text ts p→Run text ((JC.fuel m).F_tongue_parser_unary_b p) (aL n ts)
 atom:∀ts p,At text ts p→Run text ((JC.fuel m).F_tongue_parser_atom_b p) (d4 n ts)
def oU {text:Za} {ts:List Tk} {p:PS} (h:At text ts p) {k:Int} (hk:k≠0) :
 br (p.2.2.1==(4:Int)) (jc (Jz p.2.2.2.1) fun y=>some (y==k)) (some false)=some (decide ((Jy ts).1=2∧YT (Jy ts).2.1=k)):=by
 rw [h.hd]
 dsimp only
 unfold rE
 by_cases h4:p.2.2.1=4
 ·rw [h4,YV (by rfl),BQ,je]
  congr 1
  rw [Bool.eq_iff_iff]
  simp
 ·rw [Ys (by simpa using h4),if_neg h4]
  by_cases h2:p.2.2.1=2
  ·have:=h.key h2
   rw [this]
   simp [Ne.symm hk]
  ·split
   ·simp
   ·simp [h2]
def R5 {k:Nat} {a:Nd} {ts:List Tk}:Hb (k+1) 2 a ts=if (Jy ts).1=2∧YT (Jy ts).2.1=2 then (Yf k 3 ts.tail).bind fun b us=>Hb k 2 (Hf (Jy ts) a b) us else .ok a ts:=by rw [Hb];rfl
def R6 {k:Nat} {a:Nd} {ts:List Tk}:Hb (k+1) 3 a ts=if (Jy ts).1=2∧YT (Jy ts).2.1=3 then (Yf k 4 ts.tail).bind fun b us=>Hb k 3 (Hf (Jy ts) a b) us else .ok a ts:=by rw [Hb];rfl
def R4 {k:Nat} {a:Nd} {ts:List Tk}:Hb (k+1) 1 a ts=if (Jy ts).1=2∧YT (Jy ts).2.1=1 then (Yf k 2 ts.tail).bind fun b us=>.ok (Hf (Jy ts) a b) us else .ok a ts:=by rw [Hb];rfl
def aY {α β γ:Type} {r:Option (α⊕β)} {x:α} {k:α→Option γ} {g:β→Option γ} {res:Option γ} (e:r=some (.inl x)) (h:k x=res):jc r (fun y=>sel y k g)=res:=by rw [e];exact h
def Nw {α β γ:Type} {r:Option (α⊕β)} {x:β} {k:α→Option γ} {g:β→Option γ} {res:Option γ} (e:r=some (.inr x)) (h:g x=res):jc r (fun y=>sel y k g)=res:=by rw [e];exact h
section
variable {text:Za}
def OE {n:Nat} {ts:List Tk}:Yf (n+1) 4 ts=aL n ts:=by rw [Yf];rfl
def SJ {n:Nat} {ts:List Tk}:Yf (n+1) 3 ts=(Yf n 4 ts).bind fun a us=>Hb n 3 a us:=by rw [Yf];rfl
def SI {n:Nat} {ts:List Tk}:Yf (n+1) 2 ts=(Yf n 3 ts).bind fun a us=>Hb n 2 a us:=by rw [Yf];rfl
def SH {n:Nat} {ts:List Tk}:Yf (n+1) 1 ts=(Yf n 2 ts).bind fun a us=>Hb n 1 a us:=by rw [Yf];rfl
def nR {n m:Nat} (hP:∀k,k≤n → ∀ts p,At text ts p→Run text ((JC.fuel m).F_tongue_parser_product_b p) (Yf k 3 ts)) :
 ∀k,k≤n+1 → ∀(a:Nd) ts p,At text ts p→RunC text (iter (fun s:CS=>@ji.ca_ (JC.fuel m) _ 2 s.1 s.2.1 s.2.2.1 s.2.2.2.1 s.2.2.2.2.1 s.2.2.2.2.2.1 s.2.2.2.2.2.2.1 s.2.2.2.2.2.2.2.1 s.2.2.2.2.2.2.2.2.1 s.2.2.2.2.2.2.2.2.2 some) (HO a p)) (Hb k 2 a ts)
 | 0,_,_,_,_,_=>trivial
 | k+1,hk,a,ts,p,h=>by
   rw [R5]
   have hc:=oU h (k:=2) (by omega)
   by_cases hs:(Jy ts).1=2∧YT (Jy ts).2.1=2
   ·rw [if_pos hs]
    obtain ⟨p',e,h'⟩:=HG h (by omega) (by omega)
    have hb:=hP k (by omega) ts.tail p' h'
    cases hx:Yf k 3 ts.tail with
    | out=>trivial
    | ok b us=>
      rw [hx] at hb
      obtain ⟨q,eq,hq⟩:=hb
      have e4:@ji.c4 (JC.fuel m) _ a.hQ.1 a.hQ.2.1 a.hQ.2.2.1 a.hQ.2.2.2 a.kQ p.2.2.1 p.2.2.2.1 p.2.2.2.2.1 p'.1 p'.2.1 p'.2.2.1 p'.2.2.2.1 p'.2.2.2.2.1 some=some (.inl (HO (Hf (Jy ts) a b) q)):=
       aY eq (by simp only [JG,iL,je,h.tk];rfl)
      have step:@ji.ca_ (JC.fuel m) _ 2 a.hQ.1 a.hQ.2.1 a.hQ.2.2.1 a.hQ.2.2.2 a.kQ p.1 p.2.1 p.2.2.1 p.2.2.2.1 p.2.2.2.2.1 some=some (.inl (HO (Hf (Jy ts) a b) q)):=by
       simp only [ji.ca_,ji.c2,hc,hs,and_self,decide_true,JD,je,e,e4,Ym]
      have:=nR hP k (by omega) (Hf (Jy ts) a b) us q hq
      simp only [Rd.bind]
      revert this
      cases Hb k 2 (Hf (Jy ts) a b) us with
      | ok c vs=>rintro ⟨p3,e3,h3⟩;exact ⟨p3,kr step e3,h3⟩
      | err c=>rintro ⟨p3,e3,h3⟩;exact ⟨p3,kr step e3,h3⟩
      | out=>exact id
    | err c=>
      rw [hx] at hb
      obtain ⟨q,eq⟩:=hb
      have e4:@ji.c4 (JC.fuel m) _ a.hQ.1 a.hQ.2.1 a.hQ.2.2.1 a.hQ.2.2.2 a.kQ p.2.2.1 p.2.2.2.1 p.2.2.2.2.1 p'.1 p'.2.1 p'.2.2.1 p'.2.2.2.1 p'.2.2.2.2.1 some=some (.inr (c,q.1,q.2.1,q.2.2.1,q.2.2.2.1,q.2.2.2.2.1)):=Nw eq rfl
      have step:∃y:CE,@ji.ca_ (JC.fuel m) _ 2 a.hQ.1 a.hQ.2.1 a.hQ.2.2.1 a.hQ.2.2.2 a.kQ p.1 p.2.1 p.2.2.1 p.2.2.2.1 p.2.2.2.2.1 some=some (.inr (.inl y))∧y.2.2.2.2.2.1=c:=by
       simp only [ji.ca_,ji.c2,hc,hs,and_self,decide_true,JD,je,e,e4,Vg]
       exact ⟨_,rfl,rfl⟩
      obtain ⟨y,e3,h3⟩:=step
      exact ⟨y,kD e3,h3⟩
   ·rw [if_neg hs]
    refine ⟨p,kD ?_,h⟩
    show @ji.ca_ (JC.fuel m) _ 2 a.hQ.1 a.hQ.2.1 a.hQ.2.2.1 a.hQ.2.2.2 a.kQ p.1 p.2.1 p.2.2.1 p.2.2.2.1 p.2.2.2.2.1 some=_
    simp only [ji.ca_,ji.c2,hc,hs,decide_false,JA,je]
    rfl
def qP {n m:Nat} (hP:∀k,k≤n → ∀ts p,At text ts p→Run text ((JC.fuel m).F_tongue_parser_unary_b p) (Yf k 4 ts)) :
 ∀k,k≤n+1 → ∀(a:Nd) ts p,At text ts p→RunC text (iter (fun s:CS=>@jj.ca_ (JC.fuel m) _ 3 s.1 s.2.1 s.2.2.1 s.2.2.2.1 s.2.2.2.2.1 s.2.2.2.2.2.1 s.2.2.2.2.2.2.1 s.2.2.2.2.2.2.2.1 s.2.2.2.2.2.2.2.2.1 s.2.2.2.2.2.2.2.2.2 some) (HO a p)) (Hb k 3 a ts)
 | 0,_,_,_,_,_=>trivial
 | k+1,hk,a,ts,p,h=>by
   rw [R6]
   have hc:=oU h (k:=3) (by omega)
   by_cases hs:(Jy ts).1=2∧YT (Jy ts).2.1=3
   ·rw [if_pos hs]
    obtain ⟨p',e,h'⟩:=HG h (by omega) (by omega)
    have hb:=hP k (by omega) ts.tail p' h'
    cases hx:Yf k 4 ts.tail with
    | out=>trivial
    | ok b us=>
      rw [hx] at hb
      obtain ⟨q,eq,hq⟩:=hb
      have e4:@jj.c4 (JC.fuel m) _ a.hQ.1 a.hQ.2.1 a.hQ.2.2.1 a.hQ.2.2.2 a.kQ p.2.2.1 p.2.2.2.1 p.2.2.2.2.1 p'.1 p'.2.1 p'.2.2.1 p'.2.2.2.1 p'.2.2.2.2.1 some=some (.inl (HO (Hf (Jy ts) a b) q)):=
       aY eq (by simp only [JG,iL,je,h.tk];rfl)
      have step:@jj.ca_ (JC.fuel m) _ 3 a.hQ.1 a.hQ.2.1 a.hQ.2.2.1 a.hQ.2.2.2 a.kQ p.1 p.2.1 p.2.2.1 p.2.2.2.1 p.2.2.2.2.1 some=some (.inl (HO (Hf (Jy ts) a b) q)):=by
       simp only [jj.ca_,jj.c2,hc,hs,and_self,decide_true,JD,je,e,e4,Ym]
      have:=qP hP k (by omega) (Hf (Jy ts) a b) us q hq
      simp only [Rd.bind]
      revert this
      cases Hb k 3 (Hf (Jy ts) a b) us with
      | ok c vs=>rintro ⟨p3,e3,h3⟩;exact ⟨p3,kr step e3,h3⟩
      | err c=>rintro ⟨p3,e3,h3⟩;exact ⟨p3,kr step e3,h3⟩
      | out=>exact id
    | err c=>
      rw [hx] at hb
      obtain ⟨q,eq⟩:=hb
      have e4:@jj.c4 (JC.fuel m) _ a.hQ.1 a.hQ.2.1 a.hQ.2.2.1 a.hQ.2.2.2 a.kQ p.2.2.1 p.2.2.2.1 p.2.2.2.2.1 p'.1 p'.2.1 p'.2.2.1 p'.2.2.2.1 p'.2.2.2.2.1 some=some (.inr (c,q.1,q.2.1,q.2.2.1,q.2.2.2.1,q.2.2.2.2.1)):=Nw eq rfl
      have step:∃y:CE,@jj.ca_ (JC.fuel m) _ 3 a.hQ.1 a.hQ.2.1 a.hQ.2.2.1 a.hQ.2.2.2 a.kQ p.1 p.2.1 p.2.2.1 p.2.2.2.1 p.2.2.2.2.1 some=some (.inr (.inl y))∧y.2.2.2.2.2.1=c:=by
       simp only [jj.ca_,jj.c2,hc,hs,and_self,decide_true,JD,je,e,e4,Vg]
       exact ⟨_,rfl,rfl⟩
      obtain ⟨y,e3,h3⟩:=step
      exact ⟨y,kD e3,h3⟩
   ·rw [if_neg hs]
    refine ⟨p,kD ?_,h⟩
    show @jj.ca_ (JC.fuel m) _ 3 a.hQ.1 a.hQ.2.1 a.hQ.2.2.1 a.hQ.2.2.2 a.kQ p.1 p.2.1 p.2.2.1 p.2.2.2.1 p.2.2.2.2.1 some=_
    simp only [jj.ca_,jj.c2,hc,hs,decide_false,JA,je]
    rfl
def RunC.fin {r:Option (CE⊕CS)} {s:Rd Nd} {g:CE→Option ((Nd×PS)⊕(Int×PS))} {k:CS→Option ((Nd×PS)⊕(Int×PS))} (h:RunC text r s)
 (hk:∀a p,k (HO a p)=some (.inl (a,p))) (hg:∀y,∃p,g y=some (.inr (y.2.2.2.2.2.1,p))):Run text (jc r fun y=>sel y g k) s:=by
 cases s with
 | ok a us=>
   obtain ⟨p,rfl,hp⟩:=h
   exact ⟨p,hk a p,hp⟩
 | err e=>
   obtain ⟨y,rfl,hy⟩:=h
   obtain ⟨p,hp⟩:=hg y
   exact ⟨p,by rw [←hy];exact hp⟩
 | out=>trivial
end
end W
end

section
set_option maxRecDepth 4000
namespace W
open Go Go.Ql
def v6:∀(l:Za) (acc b:Nat),(∀c∈l,Yn c=true)→acc<b→b*10^l.length≤1000000000 → ∃u:Nat,Go.Lib.parseUint10 acc l=.ok u∧(u:Int)=l.foldl (fun n c=>n*10+((c.toNat:Int)-48)) (acc:Int)∧u<1000000000
 | [],acc,b,_,hb,h=>⟨acc,rfl,rfl,by simp at h;omega⟩
 | c::r,acc,b,hd,hb,h=>by
   have hc:=hd c (by simp)
   have hc2:48≤c.toNat∧c.toNat≤57:=by
    unfold Yn at hc
    simpa using hc
   have hp:1≤10^r.length:=Nat.pow_pos (by omega)
   have h':b*10*10^r.length≤1000000000:=by
    rw [zg,Nat.pow_succ] at h
    rw [Nat.mul_assoc,Nat.mul_comm 10];exact h
   have hb1:b*10≤b*10*10^r.length:=Nat.le_mul_of_pos_right _ hp
   obtain ⟨u,h1,h2,h3⟩:=v6 r (acc*10+(c.toNat-48)) (b*10) (fun x hx=>hd x (by simp [hx])) (by omega) h'
   refine ⟨u,?_,?_,h3⟩
   ·rw [Go.Lib.parseUint10,if_pos hc2,if_neg (by omega),if_neg (by omega),h1]
   ·rw [List.foldl_cons,h2]
    congr 1
    omega
def xH {l:Za} (h1:1≤l.length) (h2:l.length≤9) (h3:∀c∈l,Yn c=true):Un l=some (aA l,false)∧0≤aA l∧aA l<1000000000:=by
 have hp:(10:Nat)^l.length≤10^9:=Nat.pow_le_pow_right (by omega) h2
 obtain ⟨u,e1,e2,e3⟩:=v6 l 0 1 h3 (by omega) (by omega)
 have e4:(u:Int)=aA l:=e2
 refine ⟨?_,by omega,by omega⟩
 unfold Un
 rw [zo (by omega),zj]
 cases l with
 | nil=>simp at h1
 | cons c r=>
   have hc:=h3 c (by simp)
   have hc2:48≤c.toNat∧c.toNat≤57:=by
    unfold Yn at hc
    simpa using hc
   unfold Go.Lib.atoiAll
   simp only
   rw [if_neg (by omega)]
   unfold Go.Lib.parseMag
   rw [if_neg (by simp),e1]
   have hneg:¬c.toNat=45:=by omega
   simp only [hneg,not_false_eq_true,true_and,false_and,if_false]
   rw [if_neg (by omega)]
   simp only [e4]
def TksOk.hd {ts:List Tk} (h:TksOk ts):nV (Jy ts):=by
 match ts,h with
 | [t],h=>exact h.1
 | t::u::l,h=>exact h.1
section
variable {text:Za}
def KZ {n m:Nat} (h:∀k,k≤n → ∀m,2*k≤m→NumOk text k m) (hm:2*(n+1)≤m+1):NumOk text (n+1) (m+1):=by
 have hN:=h n (zx _) m (by omega)
 refine ⟨fun ts p hp=>?_,fun ts p hp=>?_,fun ts p hp=>?_,fun ts p hp=>?_,fun ts p hp=>?_⟩
 ·show Run text (@jy (JC.fuel m) p.1 p.2.1 p.2.2.1 p.2.2.2.1 p.2.2.2.2.1) _
  rw [SH]
  unfold jy
  refine Run.bind (hN.sum ts p hp) (fun a us q _ hq=>?_) (fun v=>⟨_,rfl⟩)
  cases n with
  | zero=>trivial
  | succ n=>
    rw [R4]
    have hc:=oU hq (k:=1) (by omega)
    dsimp only
    simp only [jy.c2,hc,je]
    by_cases hs:(Jy us).1=2∧YT (Jy us).2.1=1
    ·obtain ⟨q',e,hq'⟩:=HG hq (by omega) (by omega)
     simp only [hs,and_self,decide_true,JD,if_true,e,je,jy.c4,Vv,UU,Ym,Vg]
     refine Run.bind ((h n (by omega) m (by omega)).sum us.tail q' hq') (fun b vs r _ hr=>?_) (fun v=>⟨_,rfl⟩)
     simp only [JG,iL,je,hq.tk]
     exact Run.some hr
    ·simp only [hs,decide_false,JA,if_false,JG]
     exact Run.some hq
 ·show Run text (@Jl (JC.fuel m) p.1 p.2.1 p.2.2.1 p.2.2.2.1 p.2.2.2.2.1) _
  rw [SI]
  obtain ⟨m,rfl⟩:∃m',m=m'+1:=⟨m-1,by omega⟩
  have hb:Run text (@ji (JC.fuel m) 2 p.1 p.2.1 p.2.2.1 p.2.2.2.1 p.2.2.2.2.1) ((Yf n 3 ts).bind fun a us=>Hb n 2 a us):=by
   unfold ji
   refine Run.bind ((h n (zx _) m (by omega)).product ts p hp) (fun a us q _ hq=>?_) (fun v=>⟨_,rfl⟩)
   refine RunC.fin (nR (n:=n) (fun k hk ts p hp=>(h k hk m (by omega)).product ts p hp) n (by omega) a us q hq) (fun a p=>?_) (fun y=>⟨_,rfl⟩)
   simp only [HO,JG]
  unfold Jl
  have:∀(r:Option ((Nd×PS)⊕(Int×PS))) s,Run text r s→Run text (jc r fun y=>sel y (fun u=>some (.inl (Rose.mk (u.1.hQ.1,u.1.hQ.2.1,u.1.hQ.2.2.1,u.1.hQ.2.2.2) u.1.kQ,u.2))) (fun v=>some (.inr v))) s:=by
   intro r s hr
   cases s with
   | ok a us=>obtain ⟨p,rfl,hp⟩:=hr;exact ⟨p,by simp only [je,Ym,JG],hp⟩
   | err e=>obtain ⟨p,rfl⟩:=hr;exact ⟨p,rfl⟩
   | out=>trivial
  exact this _ _ hb
 ·show Run text (@jU (JC.fuel m) p.1 p.2.1 p.2.2.1 p.2.2.2.1 p.2.2.2.2.1) _
  rw [SJ]
  obtain ⟨m,rfl⟩:∃m',m=m'+1:=⟨m-1,by omega⟩
  have hU:∀k,k≤n → ∀ts p,At text ts p→Run text ((JC.fuel m).F_tongue_parser_unary_b p) (Yf k 4 ts):=by
   intro k hk ts p hp
   cases k with
   | zero=>trivial
   | succ k=>rw [OE];exact (h k (by omega) m (by omega)).unary ts p hp
  have hb:Run text (@jj (JC.fuel m) 3 p.1 p.2.1 p.2.2.1 p.2.2.2.1 p.2.2.2.2.1) ((Yf n 4 ts).bind fun a us=>Hb n 3 a us):=by
   unfold jj
   refine Run.bind (hU n (zx _) ts p hp) (fun a us q _ hq=>?_) (fun v=>⟨_,rfl⟩)
   refine RunC.fin (qP (n:=n) (fun k hk ts p hp=>hU k hk ts p hp) n (by omega) a us q hq) (fun a p=>?_) (fun y=>⟨_,rfl⟩)
   simp only [HO,JG]
  unfold jU
  have:∀(r:Option ((Nd×PS)⊕(Int×PS))) s,Run text r s→Run text (jc r fun y=>sel y (fun u=>some (.inl (Rose.mk (u.1.hQ.1,u.1.hQ.2.1,u.1.hQ.2.2.1,u.1.hQ.2.2.2) u.1.kQ,u.2))) (fun v=>some (.inr v))) s:=by
   intro r s hr
   cases s with
   | ok a us=>obtain ⟨p,rfl,hp⟩:=hr;exact ⟨p,by simp only [je,Ym,JG],hp⟩
   | err e=>obtain ⟨p,rfl⟩:=hr;exact ⟨p,rfl⟩
   | out=>trivial
  exact this _ _ hb
 ·show Run text (@jv (JC.fuel m) p.1 p.2.1 p.2.2.1 p.2.2.2.1 p.2.2.2.2.1) _
  rw [aL]
  simp only [dA]
  unfold jv
  cases hs:Ja [45] ts with
  | true=>
    obtain ⟨q,e,hq⟩:=Ve hp hs
    simp only [jK,e,je,JD,jv.c3,Vv,UU,Ym,Vg,if_true]
    refine Run.bind (hN.unary ts.tail q hq) (fun a us r _ hr=>?_) (fun v=>⟨_,rfl⟩)
    simp only [JG,HE,je,hp.place]
    exact Run.some hr
  | false=>
    have e:=Vd hp hs
    simp only [jK,e,je,JA,zi,if_false]
    refine Run.bind (hN.atom ts p hp) (fun a us q _ hq=>?_) (fun v=>⟨_,rfl⟩)
    simp only [jK,bW hq,je]
    cases hs2:Ja [42,42] us with
    | true=>
      obtain ⟨q',e',hq'⟩:=HG hq (by have:=kM hs2;omega) (by have:=kM hs2;omega)
      simp only [JD,e',je,jv.c7,Vv,UU,Ym,Vg,if_true]
      refine Run.bind (hN.unary us.tail q' hq') (fun b vs r _ hr=>?_) (fun v=>⟨_,rfl⟩)
      simp only [JG,iL,je,hq.tk]
      exact Run.some hr
    | false=>
      simp only [JA,zi,if_false,JG]
      exact Run.some hq
 ·show Run text (@Jg (JC.fuel m) p.1 p.2.1 p.2.2.1 p.2.2.2.1 p.2.2.2.2.1) _
  rw [d4]
  simp only [dA]
  unfold Jg
  have hsort:∀k:Int,k=1∨k=3→(p.2.2.1==k)=decide ((Jy ts).1=k):=by
   intro k hk
   rw [hp.hd];unfold rE;dsimp only
   by_cases h1:p.2.2.1=k
   ·rw [h1,if_neg (by omega),if_neg (by omega)];simp
   ·rw [show (p.2.2.1==k)=false by simpa using h1]
    split
    ·simp;omega
    ·split
     ·simp;omega
     ·simp [h1]
  rw [hsort 3 (by omega),hsort 1 (by omega)]
  by_cases h3:(Jy ts).1=3
  ·obtain ⟨q,e,hq⟩:=HG hp (by omega) (by omega)
   have hok:=TksOk.hd hp.ok
   have ha:=xH (hok.2.2.2 h3).1 (hok.2.2.2 h3).2.1 (hok.2.2.2 h3).2.2
   rw [←hp.word] at ha
   rw [if_pos h3,JB h3]
   simp only [e,je,ha.1]
   simp only [hp.place,hp.word]
   exact Run.some hq
  ·rw [if_neg h3,JV h3]
   by_cases h1:(Jy ts).1=1
   ·obtain ⟨q,e,hq⟩:=HG hp (by omega) (by omega)
    rw [if_pos h1,JB h1]
    simp only [e,je,Np,JG]
    simp only [hp.place,hp.word]
    exact Run.some hq
   ·rw [if_neg h1,JV h1]
    cases hs:Ja [115,105,122,101] ts with
    | true=>
      obtain ⟨q,e,hq⟩:=Ve hp hs
      simp only [jK,e,je,JD,if_true]
      refine RunT.bind (YC hq [40]) (fun x us q _ hq=>?_) (fun v=>⟨_,rfl⟩)
      refine RunT.bind (aR hq) (fun w us q _ hq=>?_) (fun v=>⟨_,rfl⟩)
      refine RunT.bind (YC hq [41]) (fun x us q _ hq=>?_) (fun v=>⟨_,rfl⟩)
      simp only [Np,je,JG,hp.place]
      exact Run.some hq
    | false=>
      have e:=Vd hp hs
      simp only [jK,e,je,JA,zi,if_false]
      refine RunT.bind (YC hp [40]) (fun x us q _ hq=>?_) (fun v=>⟨_,rfl⟩)
      refine Run.bind (hN.expr us q hq) (fun a vs q _ hq=>?_) (fun v=>⟨_,rfl⟩)
      refine RunT.bind (YC hq [41]) (fun x us q _ hq=>?_) (fun v=>⟨_,rfl⟩)
      simp only [JG]
      exact Run.some hq
def PE:∀n m,2*n≤m→NumOk text n m:=by
 intro n
 induction n using Nat.strongRecOn with
 | _ n ih=>
   intro m hm
   cases n with
   | zero=>exact ⟨fun _ _ _=>trivial,fun _ _ _=>trivial,fun _ _ _=>trivial,fun _ _ _=>trivial,fun _ _ _=>trivial⟩
   | succ n=>
     obtain ⟨m,rfl⟩:∃m',m=m'+1:=⟨m-1,by omega⟩
     exact KZ (fun k hk m hm=>ih k (by omega) m hm) hm
def aN {ts:List Tk} {p:PS} (h:At text ts p) {n:Nat} (hn:n≤500000):Run text (kg p) (Yf n 1 ts):=(PE n 1000000 (by omega)).expr ts p h
end
end W
end

section
set_option maxRecDepth 4000
namespace W
open Go Go.Ql
abbrev LS:=List Nd×Za×Int×Int×Za×Int
abbrev LE:=List Nd×Int×Za×Int×Int×Za×Int
def HP (l:List Nd) (p:PS):LS:=(l,p.1,p.2.1,p.2.2.1,p.2.2.2.1,p.2.2.2.2.1)
def IF (text:Za) (r:Option (LE⊕LS)):Rd (List Nd)→Prop
 | .ok l us=>∃p,r=some (.inr (HP l p))∧At text us p
 | .err e=>∃y,r=some (.inl y)∧y.2.1=e
 | .out=>True
def RunR (text:Za) (l:List Nd) (r:Option (LS⊕(LE⊕LS))):Rd Nd→Prop
 | .ok a us=>∃q,r=some (.inl (HP (l++[a]) q))∧At text us q
 | .err e=>∃y,r=some (.inr (.inl y))∧y.2.1=e
 | .out=>True
def y4 {one:List Tk→Rd Nd} {k:Nat} {l:List Nd} {ts:List Tk}:HJ one (k+1) l ts=if Ja [44] ts then (one ts.tail).bind fun a us=>HJ one k (l++[a]) us else .ok l ts:=by
 rw [HJ,dA.2.2.2.2.2.2.2.2.1]
def fI {text:Za} {f:LS→Option (LS⊕(LE⊕LS))} {one:List Tk→Rd Nd} (hq:∀ts,Lq (one ts) ts.length)
 (h1:∀l ts p,At text ts p→l.length+ts.length≤100000→Ja [44] ts=true→RunR text l (f (HP l p)) (one ts.tail))
 (h2:∀l ts p,At text ts p→Ja [44] ts=false→f (HP l p)=some (.inr (.inr (HP l p)))) :
 ∀k l ts p,At text ts p→l.length+ts.length≤100000→IF text (iter f (HP l p)) (HJ one k l ts)
 | 0,_,_,_,_,_=>trivial
 | k+1,l,ts,p,h,hl=>by
   rw [y4]
   cases hs:Ja [44] ts with
   | true=>
     have hr:=h1 l ts p h hl hs
     have hlq:=hq ts.tail
     have htl:=Jc hs
     rw [if_pos rfl]
     cases ho:one ts.tail with
     | ok a us=>
       rw [ho] at hr hlq
       obtain ⟨q,e,hq'⟩:=hr
       have hus:us.length<ts.tail.length:=hlq
       have:=fI hq h1 h2 k (l++[a]) us q hq' (by simp only [zf,Z4];omega)
       simp only [Rd.bind]
       revert this
       cases HJ one k (l++[a]) us with
       | ok c vs=>rintro ⟨p3,e3,h3⟩;exact ⟨p3,kr e e3,h3⟩
       | err c=>rintro ⟨p3,e3,h3⟩;exact ⟨p3,kr e e3,h3⟩
       | out=>exact id
     | err c=>
       rw [ho] at hr
       obtain ⟨y,e,hy⟩:=hr
       exact ⟨y,kD e,hy⟩
     | out=>trivial
   | false=>exact ⟨p,kD (h2 l ts p h hs),h⟩
def nC {text:Za} {r:Option (LE⊕LS)} {s:Rd (List Nd)} {g:LE→Option ((List Nd×PS)⊕(Int×PS))} {k:LS→Option ((List Nd×PS)⊕(Int×PS))} (h:IF text r s)
 (hk:∀a p,k (HP a p)=some (.inl (a,p))) (hg:∀y,∃p,g y=some (.inr (y.2.1,p))):Run text (jc r fun y=>sel y g k) s:=by
 cases s with
 | ok a us=>
   obtain ⟨p,rfl,hp⟩:=h
   exact ⟨p,hk a p,hp⟩
 | err e=>
   obtain ⟨y,rfl,hy⟩:=h
   obtain ⟨p,hp⟩:=hg y
   exact ⟨p,by rw [←hy];exact hp⟩
 | out=>trivial
def g9 {n:Nat} (h:n≤200000):Je (decide (n*(64:Nat)≤(140737488355328:Nat))&&decide (n≤(140737488355328:Nat)))=some ():=mU ⟨by omega,by omega⟩
section
variable {text:Za}
def tH {ts:List Tk} {p:PS} (hp:At text ts p) (x:Int×Za×Int) {n:Nat} (hn:n≤500000) :
 Run text (jD x p.1 p.2.1 p.2.2.1 p.2.2.2.1 p.2.2.2.2.1) (fM n (mD x) ts):=by
 unfold fM jD
 simp only [dA,Np,je,jD.cw_]
 cases hs:Ja [91] ts with
 | true=>
   obtain ⟨q,e,hq⟩:=Ve hp hs
   simp only [jK,e,je,JD,if_true,Vv,UU,Ym,Vg]
   refine Run.bind (aN hq hn) (fun a us q _ hq=>?_) (fun v=>⟨_,rfl⟩)
   simp only [jD.cj_]
   cases hs2:Ja [46,46] us with
   | true=>
     obtain ⟨q,e,hq⟩:=Ve hq hs2
     simp only [jK,e,je,JD,if_true,Vv,UU,Ym,Vg,jD.c5]
     refine Run.bind (aN hq hn) (fun b us q _ hq=>?_) (fun v=>⟨_,rfl⟩)
     simp only [Z4,g9 (n:=1+1) (by omega),je,Ym]
     refine RunT.bind (YC hq [93]) (fun x us q _ hq=>?_) (fun v=>⟨_,rfl⟩)
     exact Run.some hq
   | false=>
     have e:=Vd hq hs2
     simp only [jK,e,je,JA,zi,if_false,Ym]
     refine RunT.bind (YC hq [93]) (fun x us q _ hq=>?_) (fun v=>⟨_,rfl⟩)
     exact Run.some hq
 | false=>
   have e:=Vd hp hs
   simp only [jK,e,je,JA,zi,if_false,Ym]
   exact Run.some hp
def iA {ts:List Tk} {p:PS} (hp:At text ts p) {n:Nat} (hn:n≤500000) :
 Run text (JT p.1 p.2.1 p.2.2.1 p.2.2.2.1 p.2.2.2.2.1) (UA n ts):=by
 unfold UA JT
 refine RunT.bind (aR hp) (fun x us q _ hq=>?_) (fun v=>⟨_,rfl⟩)
 have h:=tH hq x hn
 have:∀(r:Option ((Nd×PS)⊕(Int×PS))) s,Run text r s→Run text (jc r fun y=>sel y (fun u=>some (.inl (Rose.mk (u.1.hQ.1,u.1.hQ.2.1,u.1.hQ.2.2.1,u.1.hQ.2.2.2) u.1.kQ,u.2))) (fun v=>some (.inr v))) s:=by
  intro r s hr
  cases s with
  | ok a us=>obtain ⟨p,rfl,hp⟩:=hr;exact ⟨p,by simp only [je,Ym,JG],hp⟩
  | err e=>obtain ⟨p,rfl⟩:=hr;exact ⟨p,rfl⟩
  | out=>trivial
 exact this _ _ h
def F8 {ts:List Tk} {p:PS} (hp:At text ts p) {n k:Nat} (hn:n≤500000) :
 Run text (JE p.1 p.2.1 p.2.2.1 p.2.2.2.1 p.2.2.2.2.1) (UM (Yf n 1) k ts):=by
 unfold UM JE
 refine Run.bind (aN hp hn) (fun a us q hs hq=>?_) (fun v=>⟨_,rfl⟩)
 have hc:=hq.cnt
 have hl:=hq.len
 refine nC (fI (fun _=>ex_lq) (fun l ts p hp hl hs=>?_) (fun l ts p hp hs=>?_) k [a] us q hq (by simp only [Z4];omega)) (fun a p=>rfl) (fun y=>⟨_,rfl⟩)
 ·obtain ⟨q,e,hq⟩:=Ve hp hs
  have hr:=aN hq hn
  simp only [HP,JE.ca_,jK,e,je,JD]
  cases ho:Yf n 1 ts.tail with
  | ok a us=>
    rw [ho] at hr
    obtain ⟨r,e',hr'⟩:=hr
    exact ⟨r,aY e' (jf (g9 (n:=l.length+1) (by omega)) rfl),hr'⟩
  | err c=>
    rw [ho] at hr
    obtain ⟨r,e'⟩:=hr
    exact ⟨_,Nw e' rfl,rfl⟩
  | out=>trivial
 ·have e:=Vd hp hs
  simp only [HP,JE.ca_,jK,e,je,JA]
def KV {ts:List Tk} {p:PS} (hp:At text ts p) {n k:Nat} (hn:n≤500000) :
 Run text (JR p.1 p.2.1 p.2.2.1 p.2.2.2.1 p.2.2.2.2.1) (UM (UA n) k ts):=by
 unfold UM JR
 refine Run.bind (iA hp hn) (fun a us q hs hq=>?_) (fun v=>⟨_,rfl⟩)
 have hc:=hq.cnt
 have hl:=hq.len
 refine nC (fI (fun _=>re_lq) (fun l ts p hp hl hs=>?_) (fun l ts p hp hs=>?_) k [a] us q hq (by simp only [Z4];omega)) (fun a p=>rfl) (fun y=>⟨_,rfl⟩)
 ·obtain ⟨q,e,hq⟩:=Ve hp hs
  have hr:=iA hq hn
  simp only [HP,JR.ca_,jK,e,je,JD]
  cases ho:UA n ts.tail with
  | ok a us=>
    rw [ho] at hr
    obtain ⟨r,e',hr'⟩:=hr
    exact ⟨r,aY e' (jf (g9 (n:=l.length+1) (by omega)) rfl),hr'⟩
  | err c=>
    rw [ho] at hr
    obtain ⟨r,e'⟩:=hr
    exact ⟨_,Nw e' rfl,rfl⟩
  | out=>trivial
 ·have e:=Vd hp hs
  simp only [HP,JR.ca_,jK,e,je,JA]
def yL {ts:List Tk} {p:PS} (hp:At text ts p):Run text (ky p.1 p.2.1 p.2.2.1 p.2.2.2.1 p.2.2.2.2.1) (fK ts):=by
 unfold fK ky
 refine RunT.bind (aR hp) (fun x us q _ hq=>?_) (fun v=>⟨_,rfl⟩)
 simp only [Np,je,JG]
 exact Run.some hq
def PA {ts:List Tk} {p:PS} (hp:At text ts p) {k:Nat} :
 Run text (JZ p.1 p.2.1 p.2.2.1 p.2.2.2.1 p.2.2.2.2.1) (UM fK k ts):=by
 unfold UM JZ
 refine Run.bind (yL hp) (fun a us q hs hq=>?_) (fun v=>⟨_,rfl⟩)
 have hc:=hq.cnt
 have hl:=hq.len
 refine nC (fI (fun _=>DF) (fun l ts p hp hl hs=>?_) (fun l ts p hp hs=>?_) k [a] us q hq (by simp only [Z4];omega)) (fun a p=>rfl) (fun y=>⟨_,rfl⟩)
 ·obtain ⟨q,e,hq⟩:=Ve hp hs
  have hr:=yL hq
  simp only [HP,JZ.ca_,jK,e,je,JD]
  cases ho:fK ts.tail with
  | ok a us=>
    rw [ho] at hr
    obtain ⟨r,e',hr'⟩:=hr
    exact ⟨r,aY e' (jf (g9 (n:=l.length+1) (by omega)) rfl),hr'⟩
  | err c=>
    rw [ho] at hr
    obtain ⟨r,e'⟩:=hr
    exact ⟨_,Nw e' rfl,rfl⟩
  | out=>trivial
 ·have e:=Vd hp hs
  simp only [HP,JZ.ca_,jK,e,je,JA]
def yN (l:List Nd):Vm l=some (gr l):=rfl
end
end W
end

section
set_option maxRecDepth 4000
namespace W
open Go Go.Ql
def aB {l:List (Rose (Int×(Int×(Za×Int))))} (h:l.length≤100000):Je (decide ((List.length l+(1:Nat))*(64:Nat)≤(140737488355328:Nat))&&decide (List.length l+(1:Nat)≤(140737488355328:Nat)))=some ():=g9 (by omega)
def xC {α ρ σ:Type} (text:Za) (I:α→PS→ρ) (E:σ→Int) (r:Option (ρ⊕σ)):Rd α→Prop
 | .ok a us=>∃p,r=some (.inl (I a p))∧At text us p
 | .err e=>∃y,r=some (.inr y)∧E y=e
 | .out=>True
section
variable {text:Za}
def zW {α β ρ σ:Type} {I:β→PS→ρ} {E:σ→Int} {r:Option ((α×PS)⊕(Int×PS))} {s:Rd α} {f:α→List Tk→Rd β} {k:(α×PS)→Option (ρ⊕σ)} {g:Int×PS→Option (ρ⊕σ)}
 (h:Run text r s) (hk:∀a us p,s=.ok a us→At text us p→xC text I E (k (a,p)) (f a us)) (hg:∀v,∃y,g v=some (.inr y)∧E y=v.1):xC text I E (jc r fun y=>sel y k g) (s.bind f):=by
 cases s with
 | ok a us=>
   obtain ⟨p,rfl,hp⟩:=h
   exact hk a us p rfl hp
 | err e=>
   obtain ⟨p,rfl⟩:=h
   exact hg (e,p)
 | out=>trivial
def zX {β ρ σ:Type} {I:β→PS→ρ} {E:σ→Int} {r:Option (((Int×Za×Int)×PS)⊕(Int×PS))} {s:Rd Tk} {f:Tk→List Tk→Rd β} {k:((Int×Za×Int)×PS)→Option (ρ⊕σ)} {g:Int×PS→Option (ρ⊕σ)}
 (h:RunT text r s) (hk:∀x us p,s=.ok (mD x) us→At text us p→xC text I E (k (x,p)) (f (mD x) us)) (hg:∀v,∃y,g v=some (.inr y)∧E y=v.1):xC text I E (jc r fun y=>sel y k g) (s.bind f):=by
 cases s with
 | ok a us=>
   obtain ⟨x,p,rfl,rfl,hp⟩:=h
   exact hk x us p rfl hp
 | err e=>
   obtain ⟨p,rfl⟩:=h
   exact hg (e,p)
 | out=>trivial
def DX {α β ρ σ:Type} {I:α→PS→ρ} {E:σ→Int} {r:Option (ρ⊕σ)} {s:Rd α} {f:α→List Tk→Rd β} {k:ρ→Option ((β×PS)⊕(Int×PS))} {g:σ→Option ((β×PS)⊕(Int×PS))}
 (h:xC text I E r s) (hk:∀a us p,s=.ok a us→At text us p→Run text (k (I a p)) (f a us)) (hg:∀y,∃p,g y=some (.inr (E y,p))):Run text (jc r fun y=>sel y k g) (s.bind f):=by
 cases s with
 | ok a us=>
   obtain ⟨p,rfl,hp⟩:=h
   exact hk a us p rfl hp
 | err e=>
   obtain ⟨y,rfl,hy⟩:=h
   obtain ⟨p,hp⟩:=hg y
   exact ⟨p,by rw [←hy];exact hp⟩
 | out=>trivial
def MQ : bs ";" = [59] ∧ bs "@" = [64] ∧ bs "inv" = [105, 110, 118] ∧ bs "ctrl" = [99, 116, 114, 108] ∧ bs "pow" = [112, 111, 119] := by decide
def sF {ts:List Tk} {p:PS} (hp:At text ts p) (t w:Int×Za×Int) (mods:List Nd) {n:Nat} (hn:n≤500000) :
 Run text (jN t mods w p.1 p.2.1 p.2.2.1 p.2.2.2.1 p.2.2.2.2.1) (cD n t.2.2 mods (mD w) ts):=by
 unfold cD jN
 simp only [dA]
 refine DX (I:=fun (a:List Nd) (p:PS)=>(a,p.1,p.2.1,p.2.2.1,p.2.2.2.1,p.2.2.2.2.1)) (E:=fun y=>y.2.1) ?_ (fun args us q _ hq=>?_) (fun y=>⟨_,rfl⟩)
 ·unfold jN.ct_
  cases hs:Ja [40] ts with
  | true=>
    obtain ⟨q,e,hq⟩:=Ve hp hs
    simp only [jK,e,je,JD,if_true]
    refine zW (F8 hq hn) (fun l us q _ hq=>?_) (fun v=>by exact ⟨_,rfl,rfl⟩)
    refine zX (YC hq [41]) (fun x us q _ hq=>?_) (fun v=>by exact ⟨_,rfl,rfl⟩)
    exact ⟨q,rfl,hq⟩
  | false=>
    have e:=Vd hp hs
    simp only [jK,e,je,JA,zi,if_false]
    exact ⟨p,rfl,hp⟩
 ·refine DX (I:=fun (a:List Nd) (p:PS)=>(a,p.1,p.2.1,p.2.2.1,p.2.2.2.1,p.2.2.2.2.1)) (E:=fun y=>y.1) ?_ (fun refs us q _ hq=>?_) (fun y=>⟨_,rfl⟩)
  ·unfold jN.ch_
   have hsort:(q.2.2.1==(1:Int))=decide ((Jy us).1=1):=by
    rw [hq.hd];unfold rE;dsimp only
    by_cases h1:q.2.2.1=1
    ·rw [h1];simp
    ·rw [show (q.2.2.1==(1:Int))=false by simpa using h1]
     split
     ·simp
     ·split
      ·simp
      ·simp [h1]
   dsimp only
   rw [hsort]
   by_cases h1:(Jy us).1=1
   ·rw [if_pos h1,JB h1]
    have hr:=KV hq (n:=n) (k:=n) hn
    revert hr
    cases UM (UA n) n us with
    | ok a us=>rintro ⟨p,e,hp⟩;exact ⟨p,aY e rfl,hp⟩
    | err c=>rintro ⟨p,e⟩;exact ⟨_,Nw e rfl,rfl⟩
    | out=>exact id
   ·rw [if_neg h1,JV h1]
    exact ⟨q,rfl,hq⟩
  ·refine RunT.bind (YC hq [59]) (fun x us q _ hq=>?_) (fun v=>⟨_,rfl⟩)
   simp only [jN.c8,yN,je,Np,JG]
   exact Run.some hq
abbrev ME:=LE⊕((List Nd×Int×Int×Za×Int×List Nd×Za×Int×Int×Za×Int)⊕((Int×Za×Int×Int×Za×Int)⊕LE))
def B6 (text:Za) (r:Option ME):Rd Nd→Prop
 | .ok a us=>∃l p,r=some (.inr (.inl (l,a.hQ.1,a.hQ.2.1,a.hQ.2.2.1,a.hQ.2.2.2,a.kQ,p.1,p.2.1,p.2.2.1,p.2.2.2.1,p.2.2.2.2.1)))∧At text us p
 | .err e=>(∃y,r=some (.inl y)∧y.2.1=e)∨(∃y,r=some (.inr (.inr (.inl y)))∧y.1=e)∨(∃y,r=some (.inr (.inr (.inr y)))∧y.2.1=e)
 | .out=>True
def RunN (text:Za) (r:Option (LS⊕ME)):Rd (List Nd)→Prop
 | .ok l us=>∃q,r=some (.inl (HP l q))∧At text us q
 | .err e=>∃y,r=some (.inr (.inl y))∧y.2.1=e
 | .out=>True
def RunN.loop {f:LS→Option (LS⊕ME)} {s0:LS} {s:Rd (List Nd)} {g:List Nd→List Tk→Rd Nd} (h:RunN text (f s0) s) (hg:∀l us q,s=.ok l us→At text us q→B6 text (iter f (HP l q)) (g l us)):B6 text (iter f s0) (s.bind g):=by
 cases s with
 | ok l us=>
   obtain ⟨q,e,hq⟩:=h
   have:=hg l us q rfl hq
   simp only [Rd.bind]
   revert this
   cases g l us with
   | ok a vs=>rintro ⟨l,p,e2,hp⟩;exact ⟨l,p,kr e e2,hp⟩
   | err c=>
     rintro (⟨y,e2,hy⟩ | ⟨y,e2,hy⟩ | ⟨y,e2,hy⟩)
     ·exact .inl ⟨y,kr e e2,hy⟩
     ·exact .inr (.inl ⟨y,kr e e2,hy⟩)
     ·exact .inr (.inr ⟨y,kr e e2,hy⟩)
   | out=>exact id
 | err c=>
   obtain ⟨y,e,hy⟩:=h
   exact .inl ⟨y,kD e,hy⟩
 | out=>trivial
def LL {α:Type} {r:Option ((α×PS)⊕(Int×PS))} {s:Rd α} {f:α→List Tk→Rd (List Nd)} {k:(α×PS)→Option (LS⊕ME)} {g:Int×PS→Option (LS⊕ME)}
 (h:Run text r s) (hk:∀a us p,s=.ok a us→At text us p→RunN text (k (a,p)) (f a us)) (hg:∀v,∃y,g v=some (.inr (.inl y))∧y.2.1=v.1):RunN text (jc r fun y=>sel y k g) (s.bind f):=by
 cases s with
 | ok a us=>obtain ⟨p,rfl,hp⟩:=h;exact hk a us p rfl hp
 | err e=>obtain ⟨p,rfl⟩:=h;exact hg (e,p)
 | out=>trivial
def iD {r:Option (((Int×Za×Int)×PS)⊕(Int×PS))} {s:Rd Tk} {f:Tk→List Tk→Rd (List Nd)} {k:((Int×Za×Int)×PS)→Option (LS⊕ME)} {g:Int×PS→Option (LS⊕ME)}
 (h:RunT text r s) (hk:∀x us p,s=.ok (mD x) us→At text us p→RunN text (k (x,p)) (f (mD x) us)) (hg:∀v,∃y,g v=some (.inr (.inl y))∧y.2.1=v.1):RunN text (jc r fun y=>sel y k g) (s.bind f):=by
 cases s with
 | ok a us=>obtain ⟨x,p,rfl,rfl,hp⟩:=h;exact hk x us p rfl hp
 | err e=>obtain ⟨p,rfl⟩:=h;exact hg (e,p)
 | out=>trivial
def NM {α β γ:Type} {r:Rd α} {f:α→List Tk→Rd β} {g:β→List Tk→Rd γ}:(r.bind f).bind g=r.bind fun a us=>(f a us).bind g:=by cases r<;>rfl
def l8 {n:Nat} {l:List Nd} {ts:List Tk}:Hx (n+1) l ts =
 if Ja [105,110,118] ts then ((JN [64] ts.tail).bind fun _ us=>.ok (l++[Yh 9 (Jy ts).2.2 []]) us).bind fun l us=>Hx n l us
 else if Ja [99,116,114,108] ts then ((JN [64] ts.tail).bind fun _ us=>.ok (l++[Yh 10 (Jy ts).2.2 []]) us).bind fun l us=>Hx n l us
 else if Ja [112,111,119] ts then ((JN [40] ts.tail).bind fun _ us=>(Yf n 1 us).bind fun e us=>(JN [41] us).bind fun _ us=>(JN [64] us).bind fun _ us=>.ok (l++[Yh 11 (Jy ts).2.2 [e]]) us).bind fun l us=>Hx n l us
 else .ok l ts:=by
 rw [Hx]
 simp only [dA,MQ,NM]
 rfl
def pZ (t:Int×Za×Int) {n:Nat} (hn:n≤500000):∀k l ts p,k≤500000→At text ts p→l.length+ts.length≤100000 →
 B6 text (iter (fun s:LS=>jr.ca_ t.1 t.2.1 t.2.2 s.1 s.2.1 s.2.2.1 s.2.2.2.1 s.2.2.2.2.1 s.2.2.2.2.2 some) (HP l p)) ((Hx k l ts).bind fun mods us=>(Vl us).bind fun w us=>cD n t.2.2 mods w us)
 | 0,_,_,_,_,_,_=>trivial
 | k+1,l,ts,p,hk,hp,hl=>by
   rw [l8]
   have ok1:=aB (l:=l) (by omega)
   cases h1:Ja [105,110,118] ts with
   | true=>
     obtain ⟨q,e,hq⟩:=Ve hp h1
     have htl:=Jc h1
     rw [if_pos rfl,NM]
     refine RunN.loop ?_ fun l' us q hs hq=>pZ t hn k l' us q (by omega) hq ?_
     ·show RunN text (jr.ca_ t.1 t.2.1 t.2.2 l p.1 p.2.1 p.2.2.1 p.2.2.2.1 p.2.2.2.2.1 some) _
      simp only [jr.ca_,jr.cx_,jK,e,je,JD,HE,ok1,Ym]
      refine iD (YC hq [64]) (fun x us q _ hq=>?_) (fun v=>by exact ⟨_,rfl,rfl⟩)
      exact ⟨q,by rw [hp.place];rfl,hq⟩
     ·have:=Lq.bind (M:=ts.length) (want_lq (w:=[64]) (ts:=ts.tail)) (f:=fun _ us=>.ok (l++[Yh 9 (Jy ts).2.2 []]) us) (fun _ us h=>by show _<_;omega)
      rw [hs] at this
      have hus:us.length<ts.length:=this
      have hl':l'.length=l.length+1:=by
       revert hs
       cases JN [64] ts.tail with
       | ok a vs=>intro hs;injection hs with hs1 hs2;rw [←hs1];simp
       | err c=>intro hs;cases hs
       | out=>intro hs;cases hs
      omega
   | false=>
     have e:=Vd hp h1
     rw [if_neg (by simp)]
     cases h2:Ja [99,116,114,108] ts with
     | true=>
       obtain ⟨q,e2,hq⟩:=Ve hp h2
       have htl:=Jc h2
       rw [if_pos rfl,NM]
       refine RunN.loop ?_ fun l' us q hs hq=>pZ t hn k l' us q (by omega) hq ?_
       ·show RunN text (jr.ca_ t.1 t.2.1 t.2.2 l p.1 p.2.1 p.2.2.1 p.2.2.2.1 p.2.2.2.2.1 some) _
        simp only [jr.ca_,jr.cx_,jK,e,e2,je,JD,JA,HE,ok1,Ym]
        refine iD (YC hq [64]) (fun x us q _ hq=>?_) (fun v=>by exact ⟨_,rfl,rfl⟩)
        exact ⟨q,by rw [hp.place];rfl,hq⟩
       ·have:=Lq.bind (M:=ts.length) (want_lq (w:=[64]) (ts:=ts.tail)) (f:=fun _ us=>.ok (l++[Yh 10 (Jy ts).2.2 []]) us) (fun _ us h=>by show _<_;omega)
        rw [hs] at this
        have hus:us.length<ts.length:=this
        have hl':l'.length=l.length+1:=by
         revert hs
         cases JN [64] ts.tail with
         | ok a vs=>intro hs;injection hs with hs1 hs2;rw [←hs1];simp
         | err c=>intro hs;cases hs
         | out=>intro hs;cases hs
        omega
     | false=>
       have e2:=Vd hp h2
       rw [if_neg (by simp)]
       cases h3:Ja [112,111,119] ts with
       | true=>
         obtain ⟨q,e3,hq⟩:=Ve hp h3
         have htl:=Jc h3
         rw [if_pos rfl,NM]
         refine RunN.loop ?_ fun l' us q hs hq=>pZ t hn k l' us q (by omega) hq ?_
         ·show RunN text (jr.ca_ t.1 t.2.1 t.2.2 l p.1 p.2.1 p.2.2.1 p.2.2.2.1 p.2.2.2.2.1 some) _
          simp only [jr.ca_,jr.cx_,jK,e,e2,e3,je,JD,JA,Vv,UU,Ym,Vg]
          refine iD (YC hq [40]) (fun x us q _ hq=>?_) (fun v=>by exact ⟨_,rfl,rfl⟩)
          refine LL (aN hq (n:=k) (by omega)) (fun a us q _ hq=>?_) (fun v=>by exact ⟨_,rfl,rfl⟩)
          refine iD (YC hq [41]) (fun x us q _ hq=>?_) (fun v=>by exact ⟨_,rfl,rfl⟩)
          simp only [HE,je,JG,ok1,Ym]
          refine iD (YC hq [64]) (fun x us q _ hq=>?_) (fun v=>by exact ⟨_,rfl,rfl⟩)
          exact ⟨q,by rw [hp.place];rfl,hq⟩
         ·have:=Lq.bind (M:=ts.length) (want_lq (w:=[40]) (ts:=ts.tail)) (f:=fun _ us=>(Yf k 1 us).bind fun e us=>(JN [41] us).bind fun _ us=>(JN [64] us).bind fun _ us=>.ok (l++[Yh 11 (Jy ts).2.2 [e]]) us) (fun _ us h=>ex_lq.bind fun e vs hv=>want_lq.bind fun _ xs hx=>want_lq.bind fun _ ys hy=>by show _<_;omega)
          rw [hs] at this
          have hus:us.length<ts.length:=this
          have hl':l'.length=l.length+1:=by
           revert hs
           cases JN [40] ts.tail with
           | ok a vs=>
             simp only [Rd.bind]
             cases Yf k 1 vs with
             | ok b xs=>
               simp only [Rd.bind]
               cases JN [41] xs with
               | ok c ys=>
                 simp only [Rd.bind]
                 cases JN [64] ys with
                 | ok d zs=>intro hs;injection hs with hs1 hs2;rw [←hs1];simp
                 | err c=>intro hs;cases hs
                 | out=>intro hs;cases hs
               | err c=>intro hs;cases hs
               | out=>intro hs;cases hs
             | err c=>intro hs;cases hs
             | out=>intro hs;cases hs
           | err c=>intro hs;cases hs
           | out=>intro hs;cases hs
          omega
       | false=>
         have e3:=Vd hp h3
         rw [if_neg (by simp)]
         show B6 text _ ((Vl ts).bind fun w us=>cD n t.2.2 l w us)
         have hw:=aR hp
         have key:∀r,jr.ca_ t.1 t.2.1 t.2.2 l p.1 p.2.1 p.2.2.1 p.2.2.2.1 p.2.2.2.2.1 some=some (.inr r)→iter (fun s:LS=>jr.ca_ t.1 t.2.1 t.2.2 s.1 s.2.1 s.2.2.1 s.2.2.2.1 s.2.2.2.2.1 s.2.2.2.2.2 some) (HP l p)=some r:=fun r h=>kD h
         revert hw
         cases Vl ts with
         | ok w us=>
           rintro ⟨x,q,ew,rfl,hq⟩
           have ha:=sF hq t x l hn
           simp only [Rd.bind]
           revert ha
           cases cD n t.2.2 l (mD x) us with
           | ok a vs=>
             rintro ⟨r,ea,hr⟩
             refine ⟨l,r,key _ ?_,hr⟩
             simp only [jr.ca_,jr.cx_,jK,e,e2,e3,je,JA,jr.c3,ew,Ym,ea,Vg]
           | err c=>
             rintro ⟨r,ea⟩
             refine .inr (.inl ⟨(c,r.1,r.2.1,r.2.2.1,r.2.2.2.1,r.2.2.2.2.1),key _ ?_,rfl⟩)
             simp only [jr.ca_,jr.cx_,jK,e,e2,e3,je,JA,jr.c3,ew,Ym,ea,Vg]
           | out=>exact id
         | err c=>
           rintro ⟨r,ew⟩
           refine .inr (.inr ⟨(l,c,r.1,r.2.1,r.2.2.1,r.2.2.2.1,r.2.2.2.2.1),key _ ?_,rfl⟩)
           simp only [jr.ca_,jr.cx_,jK,e,e2,e3,je,JA,jr.c3,ew,Vg]
         | out=>exact id
def IJ {ts:List Tk} {p:PS} (hp:At text ts p) (t:Int×Za×Int) {n:Nat} (hn:n≤500000) :
 Run text (jr t p.1 p.2.1 p.2.2.1 p.2.2.2.1 p.2.2.2.2.1) ((Hx n [] ts).bind fun mods us=>(Vl us).bind fun w us=>cD n t.2.2 mods w us):=by
 have h:=pZ t hn n [] ts p hn hp (by have:=hp.cnt;have:=hp.len;simp only [zh];omega)
 unfold jr
 revert h
 cases ((Hx n [] ts).bind fun mods us=>(Vl us).bind fun w us=>cD n t.2.2 mods w us) with
 | ok a us=>
   rintro ⟨l,q,e,hq⟩
   refine ⟨q,?_,hq⟩
   refine Nw e ?_
   simp only [Ym,JG]
 | err c=>
   rintro (⟨y,e,hy⟩ | ⟨y,e,hy⟩ | ⟨y,e,hy⟩)
   ·exact ⟨(y.2.2.1,y.2.2.2.1,y.2.2.2.2.1,y.2.2.2.2.2.1,y.2.2.2.2.2.2,()),aY e (by rw [←hy])⟩
   ·exact ⟨(y.2.1,y.2.2.1,y.2.2.2.1,y.2.2.2.2.1,y.2.2.2.2.2,()),Nw e (by rw [←hy];rfl)⟩
   ·exact ⟨(y.2.2.1,y.2.2.2.1,y.2.2.2.2.1,y.2.2.2.2.2.1,y.2.2.2.2.2.2,()),Nw e (by rw [←hy];rfl)⟩
 | out=>exact id
end
end W
end

section
set_option maxRecDepth 4000
namespace W
open Go Go.Ql
section
variable {text:Za}
def m5 (r:Option ((Nd×PS)⊕(Int×PS))) (s:Rd Nd) (hr:Run text r s):Run text (jc r fun y=>sel y (fun u=>some (.inl (Rose.mk (u.1.hQ.1,u.1.hQ.2.1,u.1.hQ.2.2.1,u.1.hQ.2.2.2) u.1.kQ,u.2))) (fun v=>some (.inr v))) s:=by
 cases s with
 | ok a us=>obtain ⟨p,rfl,hp⟩:=hr;exact ⟨p,by simp only [je,Ym,JG],hp⟩
 | err e=>obtain ⟨p,rfl⟩:=hr;exact ⟨p,rfl⟩
 | out=>trivial
def M8 {k:Nat} {a:Nd} {ts:List Tk}:UQ (k+1) 1 a ts=if Ja [124] ts then (Vn k 2 ts.tail).bind fun b us=>UQ k 1 (Yh 29 (Jy ts).2.2 [a,b]) us else .ok a ts:=by
 rw [UQ,show (gW 1).1=[124] from by decide,show (gW 1).2=29 from rfl]
def yU {n m:Nat} (hP:∀k,k≤n → ∀ts p,At text ts p→Run text ((Jo.fuel m).F_tongue_parser_odd_b p) (Vn k 2 ts)) :
 ∀k,k≤n+1 → ∀(a:Nd) ts p,At text ts p→RunC text (iter (fun s:CS=>@jo.ca_ (Jo.fuel m) _ [124] 29 s.1 s.2.1 s.2.2.1 s.2.2.2.1 s.2.2.2.2.1 s.2.2.2.2.2.1 s.2.2.2.2.2.2.1 s.2.2.2.2.2.2.2.1 s.2.2.2.2.2.2.2.2.1 s.2.2.2.2.2.2.2.2.2 some) (HO a p)) (UQ k 1 a ts)
 | 0,_,_,_,_,_=>trivial
 | k+1,hk,a,ts,p,h=>by
   rw [M8]
   have hc:=bW h [124]
   cases hs:Ja [124] ts with
   | true=>
     rw [if_pos rfl]
     rw [hs] at hc
     have hso:=kM hs
     obtain ⟨p',e,h'⟩:=HG h (by omega) (by omega)
     have hb:=hP k (by omega) ts.tail p' h'
     cases hx:Vn k 2 ts.tail with
     | out=>trivial
     | ok b us=>
       rw [hx] at hb
       obtain ⟨q,eq,hq⟩:=hb
       have e4:@jo.c4 (Jo.fuel m) _ 29 a.hQ.1 a.hQ.2.1 a.hQ.2.2.1 a.hQ.2.2.2 a.kQ p.2.2.1 p.2.2.2.1 p.2.2.2.2.1 p'.1 p'.2.1 p'.2.2.1 p'.2.2.2.1 p'.2.2.2.2.1 some=some (.inl (HO (Yh 29 (Jy ts).2.2 [a,b]) q)):=
        aY eq (by simp only [JG,HE,je,h.place];rfl)
       have step:@jo.ca_ (Jo.fuel m) _ [124] 29 a.hQ.1 a.hQ.2.1 a.hQ.2.2.1 a.hQ.2.2.2 a.kQ p.1 p.2.1 p.2.2.1 p.2.2.2.1 p.2.2.2.2.1 some=some (.inl (HO (Yh 29 (Jy ts).2.2 [a,b]) q)):=by
        simp only [jo.ca_,hc,JD,je,e,e4,Ym]
       have:=yU hP k (by omega) (Yh 29 (Jy ts).2.2 [a,b]) us q hq
       simp only [Rd.bind]
       revert this
       cases UQ k 1 (Yh 29 (Jy ts).2.2 [a,b]) us with
       | ok c vs=>rintro ⟨p3,e3,h3⟩;exact ⟨p3,kr step e3,h3⟩
       | err c=>rintro ⟨p3,e3,h3⟩;exact ⟨p3,kr step e3,h3⟩
       | out=>exact id
     | err c=>
       rw [hx] at hb
       obtain ⟨q,eq⟩:=hb
       have e4:@jo.c4 (Jo.fuel m) _ 29 a.hQ.1 a.hQ.2.1 a.hQ.2.2.1 a.hQ.2.2.2 a.kQ p.2.2.1 p.2.2.2.1 p.2.2.2.2.1 p'.1 p'.2.1 p'.2.2.1 p'.2.2.2.1 p'.2.2.2.2.1 some=some (.inr (c,q.1,q.2.1,q.2.2.1,q.2.2.2.1,q.2.2.2.2.1)):=Nw eq rfl
       have step:∃y:CE,@jo.ca_ (Jo.fuel m) _ [124] 29 a.hQ.1 a.hQ.2.1 a.hQ.2.2.1 a.hQ.2.2.2 a.kQ p.1 p.2.1 p.2.2.1 p.2.2.2.1 p.2.2.2.2.1 some=some (.inr (.inl y))∧y.2.2.2.2.2.1=c:=by
        simp only [jo.ca_,hc,JD,je,e,e4,Vg]
        exact ⟨_,rfl,rfl⟩
       obtain ⟨y,e3,h3⟩:=step
       exact ⟨y,kD e3,h3⟩
   | false=>
     rw [if_neg (by simp)]
     rw [hs] at hc
     refine ⟨p,kD ?_,h⟩
     show @jo.ca_ (Jo.fuel m) _ [124] 29 a.hQ.1 a.hQ.2.1 a.hQ.2.2.1 a.hQ.2.2.2 a.kQ p.1 p.2.1 p.2.2.1 p.2.2.2.1 p.2.2.2.2.1 some=_
     simp only [jo.ca_,hc,JA,je]
     rfl
def M9 {k:Nat} {a:Nd} {ts:List Tk}:UQ (k+1) 2 a ts=if Ja [94] ts then (Vn k 3 ts.tail).bind fun b us=>UQ k 2 (Yh 30 (Jy ts).2.2 [a,b]) us else .ok a ts:=by
 rw [UQ,show (gW 2).1=[94] from by decide,show (gW 2).2=30 from rfl]
def vT {n m:Nat} (hP:∀k,k≤n → ∀ts p,At text ts p→Run text ((Jo.fuel m).F_tongue_parser_both_b p) (Vn k 3 ts)) :
 ∀k,k≤n+1 → ∀(a:Nd) ts p,At text ts p→RunC text (iter (fun s:CS=>@jm.ca_ (Jo.fuel m) _ [94] 30 s.1 s.2.1 s.2.2.1 s.2.2.2.1 s.2.2.2.2.1 s.2.2.2.2.2.1 s.2.2.2.2.2.2.1 s.2.2.2.2.2.2.2.1 s.2.2.2.2.2.2.2.2.1 s.2.2.2.2.2.2.2.2.2 some) (HO a p)) (UQ k 2 a ts)
 | 0,_,_,_,_,_=>trivial
 | k+1,hk,a,ts,p,h=>by
   rw [M9]
   have hc:=bW h [94]
   cases hs:Ja [94] ts with
   | true=>
     rw [if_pos rfl]
     rw [hs] at hc
     have hso:=kM hs
     obtain ⟨p',e,h'⟩:=HG h (by omega) (by omega)
     have hb:=hP k (by omega) ts.tail p' h'
     cases hx:Vn k 3 ts.tail with
     | out=>trivial
     | ok b us=>
       rw [hx] at hb
       obtain ⟨q,eq,hq⟩:=hb
       have e4:@jm.c4 (Jo.fuel m) _ 30 a.hQ.1 a.hQ.2.1 a.hQ.2.2.1 a.hQ.2.2.2 a.kQ p.2.2.1 p.2.2.2.1 p.2.2.2.2.1 p'.1 p'.2.1 p'.2.2.1 p'.2.2.2.1 p'.2.2.2.2.1 some=some (.inl (HO (Yh 30 (Jy ts).2.2 [a,b]) q)):=
        aY eq (by simp only [JG,HE,je,h.place];rfl)
       have step:@jm.ca_ (Jo.fuel m) _ [94] 30 a.hQ.1 a.hQ.2.1 a.hQ.2.2.1 a.hQ.2.2.2 a.kQ p.1 p.2.1 p.2.2.1 p.2.2.2.1 p.2.2.2.2.1 some=some (.inl (HO (Yh 30 (Jy ts).2.2 [a,b]) q)):=by
        simp only [jm.ca_,hc,JD,je,e,e4,Ym]
       have:=vT hP k (by omega) (Yh 30 (Jy ts).2.2 [a,b]) us q hq
       simp only [Rd.bind]
       revert this
       cases UQ k 2 (Yh 30 (Jy ts).2.2 [a,b]) us with
       | ok c vs=>rintro ⟨p3,e3,h3⟩;exact ⟨p3,kr step e3,h3⟩
       | err c=>rintro ⟨p3,e3,h3⟩;exact ⟨p3,kr step e3,h3⟩
       | out=>exact id
     | err c=>
       rw [hx] at hb
       obtain ⟨q,eq⟩:=hb
       have e4:@jm.c4 (Jo.fuel m) _ 30 a.hQ.1 a.hQ.2.1 a.hQ.2.2.1 a.hQ.2.2.2 a.kQ p.2.2.1 p.2.2.2.1 p.2.2.2.2.1 p'.1 p'.2.1 p'.2.2.1 p'.2.2.2.1 p'.2.2.2.2.1 some=some (.inr (c,q.1,q.2.1,q.2.2.1,q.2.2.2.1,q.2.2.2.2.1)):=Nw eq rfl
       have step:∃y:CE,@jm.ca_ (Jo.fuel m) _ [94] 30 a.hQ.1 a.hQ.2.1 a.hQ.2.2.1 a.hQ.2.2.2 a.kQ p.1 p.2.1 p.2.2.1 p.2.2.2.1 p.2.2.2.2.1 some=some (.inr (.inl y))∧y.2.2.2.2.2.1=c:=by
        simp only [jm.ca_,hc,JD,je,e,e4,Vg]
        exact ⟨_,rfl,rfl⟩
       obtain ⟨y,e3,h3⟩:=step
       exact ⟨y,kD e3,h3⟩
   | false=>
     rw [if_neg (by simp)]
     rw [hs] at hc
     refine ⟨p,kD ?_,h⟩
     show @jm.ca_ (Jo.fuel m) _ [94] 30 a.hQ.1 a.hQ.2.1 a.hQ.2.2.1 a.hQ.2.2.2 a.kQ p.1 p.2.1 p.2.2.1 p.2.2.2.1 p.2.2.2.2.1 some=_
     simp only [jm.ca_,hc,JA,je]
     rfl
def OA {k:Nat} {a:Nd} {ts:List Tk}:UQ (k+1) 3 a ts=if Ja [38] ts then (Vn k 4 ts.tail).bind fun b us=>UQ k 3 (Yh 28 (Jy ts).2.2 [a,b]) us else .ok a ts:=by
 rw [UQ,show (gW 3).1=[38] from by decide,show (gW 3).2=28 from rfl]
def yT {n m:Nat} (hP:∀k,k≤n → ∀ts p,At text ts p→Run text ((Jo.fuel m).F_tongue_parser_not_b p) (Vn k 4 ts)) :
 ∀k,k≤n+1 → ∀(a:Nd) ts p,At text ts p→RunC text (iter (fun s:CS=>@jn.ca_ (Jo.fuel m) _ [38] 28 s.1 s.2.1 s.2.2.1 s.2.2.2.1 s.2.2.2.2.1 s.2.2.2.2.2.1 s.2.2.2.2.2.2.1 s.2.2.2.2.2.2.2.1 s.2.2.2.2.2.2.2.2.1 s.2.2.2.2.2.2.2.2.2 some) (HO a p)) (UQ k 3 a ts)
 | 0,_,_,_,_,_=>trivial
 | k+1,hk,a,ts,p,h=>by
   rw [OA]
   have hc:=bW h [38]
   cases hs:Ja [38] ts with
   | true=>
     rw [if_pos rfl]
     rw [hs] at hc
     have hso:=kM hs
     obtain ⟨p',e,h'⟩:=HG h (by omega) (by omega)
     have hb:=hP k (by omega) ts.tail p' h'
     cases hx:Vn k 4 ts.tail with
     | out=>trivial
     | ok b us=>
       rw [hx] at hb
       obtain ⟨q,eq,hq⟩:=hb
       have e4:@jn.c4 (Jo.fuel m) _ 28 a.hQ.1 a.hQ.2.1 a.hQ.2.2.1 a.hQ.2.2.2 a.kQ p.2.2.1 p.2.2.2.1 p.2.2.2.2.1 p'.1 p'.2.1 p'.2.2.1 p'.2.2.2.1 p'.2.2.2.2.1 some=some (.inl (HO (Yh 28 (Jy ts).2.2 [a,b]) q)):=
        aY eq (by simp only [JG,HE,je,h.place];rfl)
       have step:@jn.ca_ (Jo.fuel m) _ [38] 28 a.hQ.1 a.hQ.2.1 a.hQ.2.2.1 a.hQ.2.2.2 a.kQ p.1 p.2.1 p.2.2.1 p.2.2.2.1 p.2.2.2.2.1 some=some (.inl (HO (Yh 28 (Jy ts).2.2 [a,b]) q)):=by
        simp only [jn.ca_,hc,JD,je,e,e4,Ym]
       have:=yT hP k (by omega) (Yh 28 (Jy ts).2.2 [a,b]) us q hq
       simp only [Rd.bind]
       revert this
       cases UQ k 3 (Yh 28 (Jy ts).2.2 [a,b]) us with
       | ok c vs=>rintro ⟨p3,e3,h3⟩;exact ⟨p3,kr step e3,h3⟩
       | err c=>rintro ⟨p3,e3,h3⟩;exact ⟨p3,kr step e3,h3⟩
       | out=>exact id
     | err c=>
       rw [hx] at hb
       obtain ⟨q,eq⟩:=hb
       have e4:@jn.c4 (Jo.fuel m) _ 28 a.hQ.1 a.hQ.2.1 a.hQ.2.2.1 a.hQ.2.2.2 a.kQ p.2.2.1 p.2.2.2.1 p.2.2.2.2.1 p'.1 p'.2.1 p'.2.2.1 p'.2.2.2.1 p'.2.2.2.2.1 some=some (.inr (c,q.1,q.2.1,q.2.2.1,q.2.2.2.1,q.2.2.2.2.1)):=Nw eq rfl
       have step:∃y:CE,@jn.ca_ (Jo.fuel m) _ [38] 28 a.hQ.1 a.hQ.2.1 a.hQ.2.2.1 a.hQ.2.2.2 a.kQ p.1 p.2.1 p.2.2.1 p.2.2.2.1 p.2.2.2.2.1 some=some (.inr (.inl y))∧y.2.2.2.2.2.1=c:=by
        simp only [jn.ca_,hc,JD,je,e,e4,Vg]
        exact ⟨_,rfl,rfl⟩
       obtain ⟨y,e3,h3⟩:=step
       exact ⟨y,kD e3,h3⟩
   | false=>
     rw [if_neg (by simp)]
     rw [hs] at hc
     refine ⟨p,kD ?_,h⟩
     show @jn.ca_ (Jo.fuel m) _ [38] 28 a.hQ.1 a.hQ.2.1 a.hQ.2.2.1 a.hQ.2.2.2 a.kQ p.1 p.2.1 p.2.2.1 p.2.2.2.1 p.2.2.2.2.1 some=_
     simp only [jn.ca_,hc,JA,je]
     rfl
def OC {n:Nat} {ts:List Tk}:Vn (n+1) 4 ts=cH n ts:=by rw [Vn];rfl
def SC {n:Nat} {ts:List Tk}:Vn (n+1) 3 ts=(Vn n 4 ts).bind fun a us=>UQ n 3 a us:=by rw [Vn];rfl
def SB {n:Nat} {ts:List Tk}:Vn (n+1) 2 ts=(Vn n 3 ts).bind fun a us=>UQ n 2 a us:=by rw [Vn];rfl
def R9 {n:Nat} {ts:List Tk}:Vn (n+1) 1 ts=(Vn n 2 ts).bind fun a us=>UQ n 1 a us:=by rw [Vn];rfl
structure BoolOk (text:Za) (n m:Nat):Prop where
 either:∀ts p,At text ts p→Run text ((Jo.fuel m).F_tongue_parser_either_b p) (Vn n 1 ts)
 odd:∀ts p,At text ts p→Run text ((Jo.fuel m).F_tongue_parser_odd_b p) (Vn n 2 ts)
 both:∀ts p,At text ts p→Run text ((Jo.fuel m).F_tongue_parser_both_b p) (Vn n 3 ts)
 not:∀ts p,At text ts p→Run text ((Jo.fuel m).F_tongue_parser_not_b p) (cH n ts)
def EU {n m:Nat} (hn:n≤400000) (h:∀k,k≤n → ∀m,2*k≤m→BoolOk text k m) (hm:2*(n+1)≤m+1):BoolOk text (n+1) (m+1):=by
 have hN:=h n (zx _) m (by omega)
 refine ⟨fun ts p hp=>?_,fun ts p hp=>?_,fun ts p hp=>?_,fun ts p hp=>?_⟩
 ·show Run text (@jQ (Jo.fuel m) p.1 p.2.1 p.2.2.1 p.2.2.2.1 p.2.2.2.2.1) _
  rw [R9]
  obtain ⟨m,rfl⟩:∃m',m=m'+1:=⟨m-1,by omega⟩
  have hU:∀k,k≤n → ∀ts p,At text ts p→Run text ((Jo.fuel m).F_tongue_parser_odd_b p) (Vn k 2 ts):=by
   intro k hk ts p hp
   exact (h k hk m (by omega)).odd ts p hp
  have hb:Run text (@jo (Jo.fuel m) [124] 29 p.1 p.2.1 p.2.2.1 p.2.2.2.1 p.2.2.2.2.1) ((Vn n 2 ts).bind fun a us=>UQ n 1 a us):=by
   unfold jo
   refine Run.bind (hU n (zx _) ts p hp) (fun a us q _ hq=>?_) (fun v=>⟨_,rfl⟩)
   refine RunC.fin (yU (n:=n) (fun k hk ts p hp=>hU k hk ts p hp) n (by omega) a us q hq) (fun a p=>?_) (fun y=>⟨_,rfl⟩)
   simp only [HO,JG]
  unfold jQ
  exact m5 _ _ hb
 ·show Run text (@Jk (Jo.fuel m) p.1 p.2.1 p.2.2.1 p.2.2.2.1 p.2.2.2.2.1) _
  rw [SB]
  obtain ⟨m,rfl⟩:∃m',m=m'+1:=⟨m-1,by omega⟩
  have hU:∀k,k≤n → ∀ts p,At text ts p→Run text ((Jo.fuel m).F_tongue_parser_both_b p) (Vn k 3 ts):=by
   intro k hk ts p hp
   exact (h k hk m (by omega)).both ts p hp
  have hb:Run text (@jm (Jo.fuel m) [94] 30 p.1 p.2.1 p.2.2.1 p.2.2.2.1 p.2.2.2.2.1) ((Vn n 3 ts).bind fun a us=>UQ n 2 a us):=by
   unfold jm
   refine Run.bind (hU n (zx _) ts p hp) (fun a us q _ hq=>?_) (fun v=>⟨_,rfl⟩)
   refine RunC.fin (vT (n:=n) (fun k hk ts p hp=>hU k hk ts p hp) n (by omega) a us q hq) (fun a p=>?_) (fun y=>⟨_,rfl⟩)
   simp only [HO,JG]
  unfold Jk
  exact m5 _ _ hb
 ·show Run text (@Jf (Jo.fuel m) p.1 p.2.1 p.2.2.1 p.2.2.2.1 p.2.2.2.2.1) _
  rw [SC]
  obtain ⟨m,rfl⟩:∃m',m=m'+1:=⟨m-1,by omega⟩
  have hU:∀k,k≤n → ∀ts p,At text ts p→Run text ((Jo.fuel m).F_tongue_parser_not_b p) (Vn k 4 ts):=by
   intro k hk ts p hp
   cases k with
   | zero=>trivial
   | succ k=>rw [OC];exact (h k (by omega) m (by omega)).not ts p hp
  have hb:Run text (@jn (Jo.fuel m) [38] 28 p.1 p.2.1 p.2.2.1 p.2.2.2.1 p.2.2.2.2.1) ((Vn n 4 ts).bind fun a us=>UQ n 3 a us):=by
   unfold jn
   refine Run.bind (hU n (zx _) ts p hp) (fun a us q _ hq=>?_) (fun v=>⟨_,rfl⟩)
   refine RunC.fin (yT (n:=n) (fun k hk ts p hp=>hU k hk ts p hp) n (by omega) a us q hq) (fun a p=>?_) (fun y=>⟨_,rfl⟩)
   simp only [HO,JG]
  unfold Jf
  exact m5 _ _ hb
 ·show Run text (@jw (Jo.fuel m) p.1 p.2.1 p.2.2.1 p.2.2.2.1 p.2.2.2.2.1) _
  rw [cH]
  simp only [dA, show bs "!" = [33] from by decide, show bs "0" = [48] from by decide, show bs "1" = [49] from by decide]
  unfold jw
  cases hs:Ja [33] ts with
  | true=>
    obtain ⟨q,e,hq⟩:=Ve hp hs
    simp only [jK,e,je,JD,jw.c3,Vv,UU,Ym,Vg,if_true]
    refine Run.bind (hN.not ts.tail q hq) (fun a us r _ hr=>?_) (fun v=>⟨_,rfl⟩)
    simp only [JG,HE,je,hp.place]
    exact Run.some hr
  | false=>
    have e:=Vd hp hs
    simp only [jK,e,je,JA,zi,if_false]
    cases hs2:Ja [40] ts with
    | true=>
      obtain ⟨q,e,hq⟩:=Ve hp hs2
      simp only [e,je,JD,if_true]
      refine Run.bind (hN.either ts.tail q hq) (fun a us r _ hr=>?_) (fun v=>⟨_,rfl⟩)
      refine RunT.bind (YC hr [41]) (fun x us q _ hq=>?_) (fun v=>⟨_,rfl⟩)
      simp only [JG]
      exact Run.some hq
    | false=>
      have e:=Vd hp hs2
      simp only [e,je,JA,zi,if_false]
      have hsort:(p.2.2.1==(3:Int))=decide ((Jy ts).1=3):=by
       rw [hp.hd];unfold rE;dsimp only
       by_cases h1:p.2.2.1=3
       ·rw [h1];simp
       ·rw [show (p.2.2.1==(3:Int))=false by simpa using h1]
        split
        ·simp
        ·split
         ·simp
         ·simp [h1]
      have e8:jw.c8 p.2.2.1 p.2.2.2.1 some=some (decide ((Jy ts).1=3∧((Jy ts).2.1=[48]∨(Jy ts).2.1=[49]))):=by
       unfold jw.c8
       rw [hsort,hp.word]
       by_cases h3:(Jy ts).1=3
       ·rw [JB h3]
        by_cases h0:(Jy ts).2.1=[48]
        ·rw [YV (by rw [h0];rfl)];simp [h3,h0]
        ·rw [Ys (by simpa using h0)]
         simp only [h3,h0,true_and,false_or]
         exact congrArg some (by rw [Bool.eq_iff_iff];simp)
       ·rw [JV h3];simp [h3]
      rw [e8,je]
      by_cases hc:(Jy ts).1=3∧((Jy ts).2.1=[48]∨(Jy ts).2.1=[49])
      ·obtain ⟨q,e,hq⟩:=HG hp (by omega) (by omega)
       rw [if_pos hc,JB hc,e,je]
       have e10:jw.c10 p.2.2.2.1 some=some (if (Jy ts).2.1=[48] then 0 else 1):=by
        unfold jw.c10
        rw [hp.word]
        rcases hc.2 with h0 | h0<;>(rw [h0];decide +kernel)
       rw [e10,je]
       simp only [hp.place]
       exact Run.some hq
      ·rw [if_neg hc,JV hc]
       exact m5 _ _ (iA hp (by omega))
def IV:∀n m,n≤400000→2*n≤m→BoolOk text n m:=by
 intro n
 induction n using Nat.strongRecOn with
 | _ n ih=>
   intro m hn hm
   cases n with
   | zero=>exact ⟨fun _ _ _=>trivial,fun _ _ _=>trivial,fun _ _ _=>trivial,fun _ _ _=>trivial⟩
   | succ n=>
     obtain ⟨m,rfl⟩:∃m',m=m'+1:=⟨m-1,by omega⟩
     exact EU (by omega) (fun k hk m hm=>ih k (by omega) m (by omega) hm) hm
def FI {ts:List Tk} {p:PS} (h:At text ts p) {n:Nat} (hn:n≤400000):Run text (VJ p) (Vn n 1 ts):=(IV n 1000000 hn (by omega)).either ts p h
end
end W
end

section
set_option maxRecDepth 4000
namespace W
open Go Go.Ql
section
variable {text:Za}
def bsG : bs "for" = [102, 111, 114] ∧ bs "in" = [105, 110] ∧ bs "when" = [119, 104, 101, 110] ∧ bs "if" = [105, 102] ∧ bs "!" = [33] ∧ bs "else" = [101, 108, 115, 101] ∧ bs "measure" = [109, 101, 97, 115, 117, 114, 101] ∧ bs "->" = [45, 62] ∧ bs "reset" = [114, 101, 115, 101, 116] ∧ bs "within" = [119, 105, 116, 104, 105, 110] ∧ bs "apply" = [97, 112, 112, 108, 121] ∧ bs "^=" = [94, 61] := by decide
structure StmOk (text:Za) (n m:Nat):Prop where
 block:∀ts p,At text ts p→Run text ((kQ.fuel m).F_tongue_parser_block_b p) (UD n ts)
 stm:∀ts p,At text ts p→Run text ((kQ.fuel m).F_tongue_parser_statement_b p) (Ni n ts)
def zA (k:Int) (t:Int×Za×Int):Yg k t=some (k,t.2.2,[],0,()):=rfl
def sM {n m:Nat} (hS:∀k,k≤n → ∀ts p,At text ts p→Run text ((kQ.fuel m).F_tongue_parser_statement_b p) (Ni k ts)) :
 ∀k,k≤n+1 → ∀(l:List Nd) ts p,At text ts p→l.length+ts.length≤100000→IF text (iter (fun s:LS=>@js.ca_ (kQ.fuel m) _ s.1 s.2.1 s.2.2.1 s.2.2.2.1 s.2.2.2.2.1 s.2.2.2.2.2 some) (HP l p)) (lE k l ts)
 | 0,_,_,_,_,_,_=>trivial
 | k+1,hk,l,ts,p,h,hl=>by
   rw [lE]
   cases hs:Ja [125] ts with
   | true=>
     rw [if_pos rfl]
     obtain ⟨q,e,hq⟩:=Ve h hs
     refine ⟨q,kD ?_,hq⟩
     show @js.ca_ (kQ.fuel m) _ l p.1 p.2.1 p.2.2.1 p.2.2.2.1 p.2.2.2.2.1 some=_
     simp only [js.ca_,jK,e,je,Bool.not_true,JA]
     rfl
   | false=>
     rw [if_neg (by simp)]
     have e:=Vd h hs
     have hb:=hS k (by omega) ts p h
     have hlq:=D1 (n:=k) (ts:=ts)
     cases hx:Ni k ts with
     | out=>trivial
     | ok b us=>
       rw [hx] at hb hlq
       have hus:us.length<ts.length:=hlq
       obtain ⟨q,eq,hq⟩:=hb
       have e3:@js.c3 (kQ.fuel m) _ l p.1 p.2.1 p.2.2.1 p.2.2.2.1 p.2.2.2.2.1 some=some (.inl (HP (l++[b]) q)):=
        aY eq (jf (g9 (n:=l.length+1) (by omega)) rfl)
       have step:@js.ca_ (kQ.fuel m) _ l p.1 p.2.1 p.2.2.1 p.2.2.2.1 p.2.2.2.2.1 some=some (.inl (HP (l++[b]) q)):=by
        simp only [js.ca_,jK,e,je,Bool.not_false,JD,e3,Ym]
       have:=sM hS k (by omega) (l++[b]) us q hq (by simp only [zf,Z4];omega)
       simp only [Rd.bind]
       revert this
       cases lE k (l++[b]) us with
       | ok c vs=>rintro ⟨p3,e3,h3⟩;exact ⟨p3,kr step e3,h3⟩
       | err c=>rintro ⟨p3,e3,h3⟩;exact ⟨p3,kr step e3,h3⟩
       | out=>exact id
     | err c=>
       rw [hx] at hb
       obtain ⟨q,eq⟩:=hb
       have e3:@js.c3 (kQ.fuel m) _ l p.1 p.2.1 p.2.2.1 p.2.2.2.1 p.2.2.2.2.1 some=some (.inr (c,q.1,q.2.1,q.2.2.1,q.2.2.2.1,q.2.2.2.2.1)):=Nw eq rfl
       have step:∃y:LE,@js.ca_ (kQ.fuel m) _ l p.1 p.2.1 p.2.2.1 p.2.2.2.1 p.2.2.2.2.1 some=some (.inr (.inl y))∧y.2.1=c:=by
        simp only [js.ca_,jK,e,je,Bool.not_false,JD,e3,Vg]
        exact ⟨_,rfl,rfl⟩
       obtain ⟨y,e4,h4⟩:=step
       exact ⟨y,kD e4,h4⟩
def chT (n:Nat) (at_:Int) (ts:List Tk):Rd Nd:=
 (UA n (if Ja [33] ts then ts.tail else ts)).bind fun r us=>(UD n us).bind fun b us=>
  if Ja [101,108,115,101] us then (UD n us.tail).bind fun c us=>.ok (VC 14 at_ [] (if Ja [33] ts then 1 else 0) [r,b,c]) us
  else .ok (VC 14 at_ [] (if Ja [33] ts then 1 else 0) [r,b]) us
def E1 {n m:Nat} (hn:n≤400000) (hB:∀ts p,At text ts p→Run text ((kQ.fuel m).F_tongue_parser_block_b p) (UD n ts)) {ts:List Tk} {p:PS} (hp:At text ts p) (t:Int×Za×Int) :
 Run text (@jp (kQ.fuel m) t p.1 p.2.1 p.2.2.1 p.2.2.2.1 p.2.2.2.2.1) (chT n t.2.2 ts):=by
 unfold jp chT
 simp only [zA,je]
 have e1:∃q,jp.cc_ 0 p.1 p.2.1 p.2.2.1 p.2.2.2.1 p.2.2.2.2.1 some=some (if Ja [33] ts then 1 else 0,q.1,q.2.1,q.2.2.1,q.2.2.2.1,q.2.2.2.2.1)∧At text (if Ja [33] ts then ts.tail else ts) q:=by
  unfold jp.cc_
  cases hs:Ja [33] ts with
  | true=>
    obtain ⟨q,e,hq⟩:=Ve hp hs
    exact ⟨q,by simp only [jK,e,je,JD];rfl,hq⟩
  | false=>
    have e:=Vd hp hs
    exact ⟨p,by simp only [jK,e,je,JA];rfl,hp⟩
 obtain ⟨q,e,hq⟩:=e1
 rw [e,je]
 simp only [jp.c4,Vv,UU,Ym,Vg]
 refine Run.bind (iA hq (by omega)) (fun r us q _ hq=>?_) (fun v=>⟨_,rfl⟩)
 simp only [Vv,UU,Ym,Vg,je]
 refine Run.bind (hB us q hq) (fun b us q _ hq=>?_) (fun v=>⟨_,rfl⟩)
 rw [show Je (decide ((List.length ([]:List (Rose (Int×(Int×(Za×Int)))))+(2:Nat))*(64:Nat)≤(140737488355328:Nat))&&decide (List.length ([]:List (Rose (Int×(Int×(Za×Int)))))+(2:Nat)≤(140737488355328:Nat)))=some () from g9 (by simp)]
 simp only [je,Ym,List.nil_append,jp.ch_]
 cases hs:Ja [101,108,115,101] us with
 | true=>
   obtain ⟨q,e,hq⟩:=Ve hq hs
   simp only [jK,e,je,JD,if_true,jp.c6,Vv,UU,Ym,Vg]
   refine Run.bind (hB us.tail q hq) (fun c us q _ hq=>?_) (fun v=>⟨_,rfl⟩)
   rw [aB (l:=[r,b]) (by simp)]
   exact Run.some hq
 | false=>
   have e:=Vd hq hs
   simp only [jK,e,je,JA,zi,if_false,Ym]
   exact Run.some hq
def LP {n m:Nat} (hn:n≤400000) (h:∀k,k≤n → ∀m,2*k≤m→StmOk text k m) (hm:2*(n+1)≤m+1):StmOk text (n+1) (m+1):=by
 have hN:=h n (zx _) m (by omega)
 refine ⟨fun ts p hp=>?_,fun ts p hp=>?_⟩
 ·show Run text (@js (kQ.fuel m) p.1 p.2.1 p.2.2.1 p.2.2.2.1 p.2.2.2.2.1) _
  rw [UD]
  unfold js
  refine RunT.bind (YC hp [123]) (fun x us q _ hq=>?_) (fun v=>⟨_,rfl⟩)
  simp only [zA,je]
  have hc:=hq.cnt
  have hl:=hq.len
  have hL:=sM (n:=n) (fun k hk ts p hp=>(h k hk m (by omega)).stm ts p hp) n (by omega) [] us q hq (by simp only [zh];omega)
  revert hL
  cases lE n [] us with
  | ok l vs=>rintro ⟨r,e,hr⟩;exact ⟨r,Nw e rfl,hr⟩
  | err c=>
    rintro ⟨y,e,hy⟩
    exact ⟨(y.2.2.1,y.2.2.2.1,y.2.2.2.2.1,y.2.2.2.2.2.1,y.2.2.2.2.2.2,()),aY e (by rw [←hy])⟩
  | out=>exact id
 ·show Run text (@jg (kQ.fuel m) p.1 p.2.1 p.2.2.1 p.2.2.2.1 p.2.2.2.2.1) _
  obtain ⟨m,rfl⟩:∃m',m=m'+1:=⟨m-1,by omega⟩
  rw [Ni]
  simp only [dA,MQ,bsG]
  unfold jg
  cases h1:Ja [102,111,114] ts with
  | true=>
    obtain ⟨q,e,hq⟩:=Ve hp h1
    simp only [jK,e,je,JD,if_true]
    refine RunT.bind (aR hq) (fun w us q _ hq=>?_) (fun v=>⟨_,rfl⟩)
    refine RunT.bind (YC hq [105,110]) (fun x us q _ hq=>?_) (fun v=>⟨_,rfl⟩)
    refine Run.bind (aN hq (by omega)) (fun lo us q _ hq=>?_) (fun v=>⟨_,rfl⟩)
    refine RunT.bind (YC hq [46,46]) (fun x us q _ hq=>?_) (fun v=>⟨_,rfl⟩)
    refine Run.bind (aN hq (by omega)) (fun hi us q _ hq=>?_) (fun v=>⟨_,rfl⟩)
    simp only [jg.c8,Vv,UU,Ym,Vg,je]
    refine Run.bind (hN.block us q hq) (fun b us q _ hq=>?_) (fun v=>⟨_,rfl⟩)
    simp only [Np,je,JG,hp.place]
    exact Run.some hq
  | false=>
    have e:=Vd hp h1
    simp only [jK,e,je,JA,zi,if_false]
    cases h2:Ja [119,104,101,110] ts with
    | true=>
      obtain ⟨q,e,hq⟩:=Ve hp h2
      simp only [e,je,JD,if_true]
      refine Run.bind (aN hq (by omega)) (fun a us q _ hq=>?_) (fun v=>⟨_,rfl⟩)
      simp only [jg.c11,Vv,UU,Ym,Vg,je]
      refine Run.bind (hN.block us q hq) (fun b us q _ hq=>?_) (fun v=>⟨_,rfl⟩)
      simp only [HE,je,JG,hp.place]
      exact Run.some hq
    | false=>
      have e:=Vd hp h2
      simp only [e,je,JA,zi,if_false]
      cases h3:Ja [105,102] ts with
      | true=>
        obtain ⟨q,e,hq⟩:=Ve hp h3
        simp only [e,je,JD,if_true]
        have hb:=E1 (by omega) (h n (zx _) m (by omega)).block hq (p.2.2.1,p.2.2.2.1,p.2.2.2.2.1)
        rw [←hp.place]
        exact m5 _ _ hb
      | false=>
        have e:=Vd hp h3
        simp only [e,je,JA,zi,if_false]
        cases h4:Ja [109,101,97,115,117,114,101] ts with
        | true=>
          obtain ⟨q,e,hq⟩:=Ve hp h4
          simp only [e,je,JD,if_true]
          refine Run.bind (iA hq (by omega)) (fun a us q _ hq=>?_) (fun v=>⟨_,rfl⟩)
          refine RunT.bind (YC hq [45,62]) (fun x us q _ hq=>?_) (fun v=>⟨_,rfl⟩)
          refine Run.bind (iA hq (by omega)) (fun b us q _ hq=>?_) (fun v=>⟨_,rfl⟩)
          refine RunT.bind (YC hq [59]) (fun x us q _ hq=>?_) (fun v=>⟨_,rfl⟩)
          simp only [HE,je,JG,hp.place]
          exact Run.some hq
        | false=>
          have e:=Vd hp h4
          simp only [e,je,JA,zi,if_false]
          cases h5:Ja [114,101,115,101,116] ts with
          | true=>
            obtain ⟨q,e,hq⟩:=Ve hp h5
            simp only [e,je,JD,if_true]
            refine Run.bind (iA hq (by omega)) (fun a us q _ hq=>?_) (fun v=>⟨_,rfl⟩)
            refine RunT.bind (YC hq [59]) (fun x us q _ hq=>?_) (fun v=>⟨_,rfl⟩)
            simp only [HE,je,JG,hp.place]
            exact Run.some hq
          | false=>
            have e:=Vd hp h5
            simp only [e,je,JA,zi,if_false]
            cases h6:Ja [119,105,116,104,105,110] ts with
            | true=>
              obtain ⟨q,e,hq⟩:=Ve hp h6
              simp only [e,je,JD,if_true]
              refine Run.bind (hN.block ts.tail q hq) (fun a us q _ hq=>?_) (fun v=>⟨_,rfl⟩)
              refine RunT.bind (YC hq [97,112,112,108,121]) (fun x us q _ hq=>?_) (fun v=>⟨_,rfl⟩)
              simp only [jg.c27,Vv,UU,Ym,Vg,je]
              refine Run.bind (hN.block us q hq) (fun b us q _ hq=>?_) (fun v=>⟨_,rfl⟩)
              simp only [HE,je,JG,hp.place]
              exact Run.some hq
            | false=>
              have e:=Vd hp h6
              simp only [e,je,JA,zi,if_false]
              have e7:jg.cF_ p.1 p.2.1 p.2.2.1 p.2.2.2.1 p.2.2.2.2.1 some=some (Ja [105,110,118] ts||Ja [99,116,114,108] ts||Ja [112,111,119] ts,p.1,p.2.1,p.2.2.1,p.2.2.2.1,p.2.2.2.2.1):=by
               unfold jg.cF_
               simp only [jK,bW hp,je]
               cases Ja [105,110,118] ts
               ·cases Ja [99,116,114,108] ts<;>simp [JD,JA]
               ·simp [JD]
              rw [e7,je]
              cases h7:(Ja [105,110,118] ts||Ja [99,116,114,108] ts||Ja [112,111,119] ts) with
              | true=>
                simp only [JD,if_true]
                have hb:=IJ hp (p.2.2.1,p.2.2.2.1,p.2.2.2.2.1) (n:=n) (by omega)
                rw [←hp.place]
                exact m5 _ _ hb
              | false=>
                simp only [JA,zi,if_false]
                refine RunT.bind (aR hp) (fun w us q _ hq=>?_) (fun v=>⟨_,rfl⟩)
                have e8:jg.c33 q.1 q.2.1 q.2.2.1 q.2.2.2.1 q.2.2.2.2.1 some=some (Ja [91] us||Ja [94,61] us,q.1,q.2.1,q.2.2.1,q.2.2.2.1,q.2.2.2.2.1):=by
                 unfold jg.c33
                 simp only [jK,bW hq,je]
                 cases Ja [91] us<;>simp [JD,JA]
                dsimp only
                rw [e8,je]
                cases h8:(Ja [91] us||Ja [94,61] us) with
                | true=>
                  simp only [JD,if_true]
                  refine Run.bind (tH hq w (by omega)) (fun r us q _ hq=>?_) (fun v=>⟨_,rfl⟩)
                  refine RunT.bind (YC hq [94,61]) (fun x us q _ hq=>?_) (fun v=>⟨_,rfl⟩)
                  refine Run.bind (FI hq (by omega)) (fun a us q _ hq=>?_) (fun v=>⟨_,rfl⟩)
                  refine RunT.bind (YC hq [59]) (fun x us q _ hq=>?_) (fun v=>⟨_,rfl⟩)
                  simp only [HE,je,JG,hp.place]
                  exact Run.some hq
                | false=>
                  simp only [JA,zi,if_false]
                  have hb:=sF hq (p.2.2.1,p.2.2.2.1,p.2.2.2.2.1) w [] (n:=n) (by omega)
                  rw [←hp.place]
                  exact m5 _ _ hb
def BX:∀n m,n≤400000→2*n≤m→StmOk text n m:=by
 intro n
 induction n using Nat.strongRecOn with
 | _ n ih=>
   intro m hn hm
   cases n with
   | zero=>exact ⟨fun _ _ _=>trivial,fun _ _ _=>trivial⟩
   | succ n=>
     obtain ⟨m,rfl⟩:∃m',m=m'+1:=⟨m-1,by omega⟩
     exact LP (by omega) (fun k hk m hm=>ih k (by omega) m (by omega) hm) hm
def IU {ts:List Tk} {p:PS} (h:At text ts p) {n:Nat} (hn:n≤400000):Run text (VN p) (UD n ts):=(BX n 1000000 hn (by omega)).block ts p h
def z8 {ts:List Tk} {p:PS} (h:At text ts p) {n:Nat} (hn:n≤400000):Run text (Vk p) (Ni n ts):=(BX n 1000000 hn (by omega)).stm ts p h
end
end W
end

section
set_option maxRecDepth 4000
namespace W
open Go Go.Ql
section
variable {text:Za}
def bsH : bs "qubit" = [113, 117, 98, 105, 116] ∧ bs "bit" = [98, 105, 116] ∧ bs "const" = [99, 111, 110, 115, 116] ∧ bs "=" = [61] ∧ bs "gate" = [103, 97, 116, 101] := by decide
def yM {ts:List Tk} {p:PS} (hp:At text ts p):Run text (Jv p.1 p.2.1 p.2.2.1 p.2.2.2.1 p.2.2.2.2.1) (hG ts):=by
 unfold hG Jv
 refine RunT.bind (aR hp) (fun x us q _ hq=>?_) (fun v=>⟨_,rfl⟩)
 simp only [Np,je,Jv.ck_,dA]
 cases hs:Ja [91] us with
 | true=>
   obtain ⟨q,e,hq⟩:=Ve hq hs
   simp only [jK,e,je,JD,if_true,Vv,UU,Ym,Vg]
   refine RunT.bind (YC hq [93]) (fun x us q _ hq=>?_) (fun v=>⟨_,rfl⟩)
   exact Run.some hq
 | false=>
   have e:=Vd hq hs
   simp only [jK,e,je,JA,zi,if_false,Ym]
   exact Run.some hq
def PB {ts:List Tk} {p:PS} (hp:At text ts p) {k:Nat} :
 Run text (ka p.1 p.2.1 p.2.2.1 p.2.2.2.1 p.2.2.2.2.1) (UM hG k ts):=by
 unfold UM ka
 refine Run.bind (yM hp) (fun a us q hs hq=>?_) (fun v=>⟨_,rfl⟩)
 have hc:=hq.cnt
 have hl:=hq.len
 refine nC (fI (fun _=>DG) (fun l ts p hp hl hs=>?_) (fun l ts p hp hs=>?_) k [a] us q hq (by simp only [Z4];omega)) (fun a p=>rfl) (fun y=>⟨_,rfl⟩)
 ·obtain ⟨q,e,hq⟩:=Ve hp hs
  have hr:=yM hq
  simp only [HP,ka.ca_,jK,e,je,JD]
  cases ho:hG ts.tail with
  | ok a us=>
    rw [ho] at hr
    obtain ⟨r,e',hr'⟩:=hr
    exact ⟨r,aY e' (jf (g9 (n:=l.length+1) (by omega)) rfl),hr'⟩
  | err c=>
    rw [ho] at hr
    obtain ⟨r,e'⟩:=hr
    exact ⟨_,Nw e' rfl,rfl⟩
  | out=>trivial
 ·have e:=Vd hp hs
  simp only [HP,ka.ca_,jK,e,je,JA]
def O4 {ts:List Tk} {p:PS} (hp:At text ts p) (t:Int×Za×Int) {n:Nat} (hn:n≤400000) :
 Run text (Jd t p.1 p.2.1 p.2.2.1 p.2.2.2.1 p.2.2.2.2.1) (iT n (mD t) ts):=by
 unfold iT Jd
 refine RunT.bind (aR hp) (fun w us q _ hq=>?_) (fun v=>⟨_,rfl⟩)
 simp only [dA]
 refine DX (I:=fun (a:List Nd) (p:PS)=>(a,p.1,p.2.1,p.2.2.1,p.2.2.2.1,p.2.2.2.2.1)) (E:=fun y=>y.2.1) ?_ (fun ints us q _ hq=>?_) (fun y=>⟨_,rfl⟩)
 ·unfold Jd.ck_
  cases hs:Ja [40] us with
  | true=>
    obtain ⟨q,e,hq⟩:=Ve hq hs
    simp only [jK,e,je,JD,if_true]
    refine zW (PA hq) (fun l us q _ hq=>?_) (fun v=>⟨_,rfl,rfl⟩)
    refine zX (YC hq [41]) (fun x us q _ hq=>?_) (fun v=>⟨_,rfl,rfl⟩)
    exact ⟨q,rfl,hq⟩
  | false=>
    have e:=Vd hq hs
    simp only [jK,e,je,JA,zi,if_false]
    exact ⟨q,rfl,hq⟩
 ·refine Run.bind (PB hq) (fun wires us q _ hq=>?_) (fun v=>⟨_,rfl⟩)
  simp only [Jd.c7,yN,je,Vv,UU,Ym,Vg]
  refine Run.bind (IU hq (n:=n) (by omega)) (fun b us q _ hq=>?_) (fun v=>⟨_,rfl⟩)
  simp only [Np,je,JG]
  exact Run.some hq
def O7 {ts:List Tk} {p:PS} (hp:At text ts p) {n:Nat} (hn:n≤400000) :
 Run text (Ji p.1 p.2.1 p.2.2.1 p.2.2.2.1 p.2.2.2.2.1) (fZ n ts):=by
 unfold fZ Ji
 simp only [dA,bsH]
 have e1:∃q,Ji.cc_ p.1 p.2.1 p.2.2.1 p.2.2.2.1 p.2.2.2.2.1 some=some (Ja [113,117,98,105,116] ts||Ja [98,105,116] ts,q.1,q.2.1,q.2.2.1,q.2.2.2.1,q.2.2.2.2.1)∧At text (if Ja [113,117,98,105,116] ts||Ja [98,105,116] ts then ts.tail else ts) q∧((Ja [113,117,98,105,116] ts||Ja [98,105,116] ts)=false→q=p):=by
  unfold Ji.cc_
  cases hs:Ja [113,117,98,105,116] ts with
  | true=>
    obtain ⟨q,e,hq⟩:=Ve hp hs
    exact ⟨q,by simp only [jK,e,je,JD];rfl,hq,fun h=>by cases h⟩
  | false=>
    have e:=Vd hp hs
    cases hs2:Ja [98,105,116] ts with
    | true=>
      obtain ⟨q,e2,hq⟩:=Ve hp hs2
      exact ⟨q,by simp only [jK,e,e2,je,JA];rfl,hq,fun h=>by cases h⟩
    | false=>
      have e2:=Vd hp hs2
      exact ⟨p,by simp only [jK,e,e2,je,JA];rfl,hp,fun h=>rfl⟩
 obtain ⟨q,e,hq,hqp⟩:=e1
 rw [e,je]
 cases h1:(Ja [113,117,98,105,116] ts||Ja [98,105,116] ts) with
 | true=>
   rw [h1] at hq
   simp only [JD,if_true] at hq ⊢
   have e2:Ji.ch_ 2 p.2.2.2.1 some=some (if Ja [98,105,116] ts then 3 else 2):=by
    unfold Ji.ch_
    have hsort:(Jy ts).1=2:=by
     rcases (Bool.or_eq_true _ _▸h1:_∨_) with h | h<;>exact kM h
    have:(p.2.2.2.1==[98,105,116])=Ja [98,105,116] ts:=by
     unfold Ja;rw [hsort,hp.word];simp
    simp only [jK,this]
    cases Ja [98,105,116] ts<;>rfl
   rw [e2,je]
   refine RunT.bind (aR hq) (fun w us q _ hq=>?_) (fun v=>⟨_,rfl⟩)
   refine RunT.bind (YC hq [91]) (fun x us q _ hq=>?_) (fun v=>⟨_,rfl⟩)
   refine Run.bind (aN hq (by omega)) (fun a us q _ hq=>?_) (fun v=>⟨_,rfl⟩)
   refine RunT.bind (YC hq [93]) (fun x us q _ hq=>?_) (fun v=>⟨_,rfl⟩)
   refine RunT.bind (YC hq [59]) (fun x us q _ hq=>?_) (fun v=>⟨_,rfl⟩)
   simp only [Np,je,JG,hp.place]
   exact Run.some hq
 | false=>
   obtain rfl:=hqp h1
   simp only [JA,zi,if_false]
   cases h2:Ja [99,111,110,115,116] ts with
   | true=>
     obtain ⟨q,e,hq⟩:=Ve hp h2
     simp only [jK,e,je,JD,if_true]
     refine RunT.bind (aR hq) (fun w us q _ hq=>?_) (fun v=>⟨_,rfl⟩)
     refine RunT.bind (YC hq [61]) (fun x us q _ hq=>?_) (fun v=>⟨_,rfl⟩)
     refine Run.bind (aN hq (by omega)) (fun a us q _ hq=>?_) (fun v=>⟨_,rfl⟩)
     refine RunT.bind (YC hq [59]) (fun x us q _ hq=>?_) (fun v=>⟨_,rfl⟩)
     simp only [Np,je,JG,hp.place]
     exact Run.some hq
   | false=>
     have e:=Vd hp h2
     simp only [jK,e,je,JA,zi,if_false]
     cases h3:Ja [103,97,116,101] ts with
     | true=>
       obtain ⟨r,e,hr⟩:=Ve hp h3
       simp only [e,je,JD,if_true]
       have hb:=O4 hr (q.2.2.1,q.2.2.2.1,q.2.2.2.2.1) hn
       rw [hp.tk] at hb
       exact m5 _ _ hb
     | false=>
       have e:=Vd hp h3
       simp only [e,je,JA,zi,if_false]
       exact m5 _ _ (z8 hp hn)
end
end W
end

section
set_option maxRecDepth 4000
namespace W
open Go Go.Ql
def aZ (text:Za):Nd×(Int×Int):=
 if 40000<text.length then (.mk (0,0,[],0) [],(2,0))
 else match cI 400000 100000 [] (UC text) with
  | .ok l _=>(.mk (1,0,[],0) l,(0,0))
  | .err e=>(.mk (0,0,[],0) [],(1,e))
  | .out=>(.mk (0,0,[],0) [],(0,0))
def oT {text:Za} (ht:text.length≤40000):cI 400000 100000 [] (UC text) ≠ .out:=by
 have h:=(nJ text).2
 exact (M3 400000 100000 [] (UC text) (by omega) (by omega)).ne_out
abbrev QS:=Za×Int×Int×Za×Int×List Nd
def DL (l:List Nd) (p:PS):QS:=(p.1,p.2.1,p.2.2.1,p.2.2.2.1,p.2.2.2.2.1,l)
abbrev QE:=Za×Int×Int×Za×Int×Int×List Nd
def RunQ (text:Za) (r:Option (QE⊕QS)):Rd (List Nd)→Prop
 | .ok l us=>∃p,r=some (.inr (DL l p))
 | .err e=>∃y,r=some (.inl y)∧y.2.2.2.2.2.1=e
 | .out=>True
def LN {l:List Nd} {z a:Nd}:List.set (l++[z]) l.length a=l++[a]:=by
 induction l with
 | nil=>rfl
 | cons b l ih=>simp only [List.cons_append,zg,List.set_cons_succ,ih]
section
variable {text:Za}
def BP {n:Nat} (hn:n≤400000):∀k l ts p,At text ts p→l.length+ts.length≤100000 →
 RunQ text (iter (fun s:QS=>jG.cg_ s.1 s.2.1 s.2.2.1 s.2.2.2.1 s.2.2.2.2.1 s.2.2.2.2.2 some) (DL l p)) (cI n k l ts)
 | 0,_,_,_,_,_=>trivial
 | k+1,l,ts,p,h,hl=>by
   rw [cI]
   have hs:(p.2.2.1 !=(0:Int))=!decide ((Jy ts).1=0):=by
    rw [h.hd];unfold rE;dsimp only
    by_cases h1:p.2.2.1=0
    ·rw [h1];simp
    ·rw [show (p.2.2.1 !=(0:Int))=true by simpa using h1]
     split
     ·simp
     ·split
      ·simp
      ·simp [h1]
   by_cases h0:(Jy ts).1=0
   ·rw [if_pos h0]
    refine ⟨p,kD ?_⟩
    show jG.cg_ p.1 p.2.1 p.2.2.1 p.2.2.2.1 p.2.2.2.2.1 l some=_
    unfold jG.cg_
    rw [hs,zo h0,Bool.not_true,JA]
    rfl
   ·rw [if_neg h0]
    have hb:=O7 h hn
    have hlq:=MV (n:=n) (ts:=ts)
    cases hx:fZ n ts with
    | out=>trivial
    | ok a us=>
      rw [hx] at hb hlq
      have hus:us.length<ts.length:=hlq
      obtain ⟨q,eq,hq⟩:=hb
      have e8:jG.c8 p.1 p.2.1 p.2.2.1 p.2.2.2.1 p.2.2.2.2.1 l some=some (.inl (DL (l++[a]) q)):=by
       refine aY eq (jf (g9 (n:=l.length+1) (by omega)) (jf (QL (by simp)) (jf (HD (by simp)) ?_)))
       show some (Sum.inl (q.1,q.2.1,q.2.2.1,q.2.2.2.1,q.2.2.2.2.1,List.set (l++[_]) (Int.toNat (l.length:Int)) a))=_
       rw [Int.toNat_natCast,LN]
       rfl
      have step:jG.cg_ p.1 p.2.1 p.2.2.1 p.2.2.2.1 p.2.2.2.2.1 l some=some (.inl (DL (l++[a]) q)):=by
       unfold jG.cg_
       rw [hs,zp h0,Bool.not_false,JD,e8,je,Ym]
      have:=BP hn k (l++[a]) us q hq (by simp only [zf,Z4];omega)
      simp only [Rd.bind]
      revert this
      cases cI n k (l++[a]) us with
      | ok c vs=>rintro ⟨p3,e3⟩;exact ⟨p3,kr step e3⟩
      | err c=>rintro ⟨p3,e3,h3⟩;exact ⟨p3,kr step e3,h3⟩
      | out=>exact id
    | err c=>
      rw [hx] at hb
      obtain ⟨q,eq⟩:=hb
      have e8:jG.c8 p.1 p.2.1 p.2.2.1 p.2.2.2.1 p.2.2.2.2.1 l some=some (.inr (q.1,q.2.1,q.2.2.1,q.2.2.2.1,q.2.2.2.2.1,c)):=Nw eq rfl
      refine ⟨_,kD (show jG.cg_ p.1 p.2.1 p.2.2.1 p.2.2.2.1 p.2.2.2.2.1 l some=some (.inr (.inl (q.1,q.2.1,q.2.2.1,q.2.2.2.1,q.2.2.2.2.1,c,l))) from ?_),rfl⟩
      unfold jG.cg_
      rw [hs,zp h0,Bool.not_false,JD,e8,je,Vg]
end
def v8 (text:Za):VI text=some (aZ text):=by
 unfold VI aZ
 by_cases ht:40000<text.length
 ·rw [JB (show (text.length:Int)>40000 by omega),if_pos ht]
 ·rw [JV (show ¬(text.length:Int)>40000 by omega),if_neg ht]
  unfold jG
  obtain ⟨t,k,e,hat⟩:=A7 (show text.length≤40000 by omega) (Nat.zero_le text.length) (x2:=0) (x3:=[]) (x4:=0)
  have e0:jR text 0 0 [] 0=some ((0,[],0),text,k,t.1,t.2.1,t.2.2,()):=by
   unfold jR
   have e':jL text 0 0 [] 0=some (t,text,k,0,[],0,()):=e
   rw [e',je]
  rw [e0,je]
  have hc:=hat.cnt
  have hl:=hat.len
  have h:=BP (n:=400000) (by omega) 100000 [] (Nk text 0) _ hat (by simp only [zh];omega)
  rw [←r8] at h
  have hno:=oT (show text.length≤40000 by omega)
  revert h hno
  cases cI 400000 100000 [] (UC text) with
  | ok l us=>
    rintro ⟨p,e⟩ _
    exact jf (jf e rfl) rfl
  | err c=>
    rintro ⟨y,e,hy⟩ _
    subst hy
    exact jf (jf e rfl) rfl
  | out=>intro _ h;exact absurd rfl h
end W
end
