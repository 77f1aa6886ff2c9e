/- Plain laws: tokens and programs as the document means them; the program's scanner and its readers. -/
import Derived.Test.YtdocfkidnnalnaaGreatDoorLfB
import Derived.IntWalk
import Derived.Test.YtdocfkidnnalnaaGreatDoorLaB
import Derived.Test.YtdocfkidnnalnaaGreatDoorWbB
import Derived.Test.YtdocfkidnnalnaaGreatDoorWdB
set_option linter.all false
section
namespace Go.Ql
section
variable {S R:Type} {f:S→Option (S⊕R)}
theorem kf {s:S} {r:R} (h:f s=some (.inr r)):iter f s=some r:=iter_of (n:=1) (by simp [iterN,h])
theorem ke {s s':S} {r:R} (h:f s=some (.inl s')) (h':iter f s'=some r):iter f s=some r:=by
 obtain ⟨n,hn⟩:=Uj h'
 exact iter_of (n:=n+1) (by simp [iterN,h,hn])
theorem iter_loop {J:S→Prop} {Q:R→Prop} (m:S→Nat) (hstep:∀s,J s→(∃r,f s=some (.inr r)∧Q r) ∨ ∃s',f s=some (.inl s')∧J s'∧m s'<m s) {s:S} (h:J s):∃r,iter f s=some r∧Q r:=by
 have key:∀(k:Nat) (s:S),m s≤k→J s → ∃r,iter f s=some r∧Q r:=by
  intro k
  induction k with
  | zero=>
    intro s hk hj
    rcases hstep s hj with ⟨r,h1,h2⟩ | ⟨s',h1,h2,h3⟩
    ·exact ⟨r,kf h1,h2⟩
    ·omega
  | succ k ih=>
    intro s hk hj
    rcases hstep s hj with ⟨r,h1,h2⟩ | ⟨s',h1,h2,h3⟩
    ·exact ⟨r,kf h1,h2⟩
    ·obtain ⟨r,h4,h5⟩:=ih s' (by omega) h2
     exact ⟨r,ke h1 h4,h5⟩
 exact key (m s) s (zt _) h
end
theorem jw {α β:Type} {p:Option α} {x:α} {k:α→Option β} {r:Option β} (h:p=some x) (h':k x=r):bnd p k=r:=by rw [h];exact h'
theorem jx {α β:Type} {x:α} {k:α→Option β}:bnd (some x) k=k x:=rfl
theorem Hd {α:Type} {x y:α} {b:Bool} (h:b=true):br b x y=x:=by rw [h];rfl
theorem UH {α:Type} {x y:α} {b:Bool} (h:b=false):br b x y=y:=by rw [h];rfl
theorem kn {α:Type} {x y:α} {p:Prop} [Decidable p] (h:p):br (decide p) x y=x:=Hd (zj h)
theorem kM {α:Type} {x y:α} {p:Prop} [Decidable p] (h:¬p):br (decide p) x y=y:=UH (zk h)
theorem kC {b:Bool} (h:b=true):okIf b=some ():=by rw [h];rfl
theorem inR_of {n:Nat} {i:Int} (h0:0≤i) (h:i<(n:Int)):inR n i=some ():=by
 unfold inR
 simp [h0,h]
theorem Yn {x:Int} (h:-9223372036854775808≤x∧x≤9223372036854775807):IntKind.i64.wrap x=x:=IntWalk.i64_in _ (by omega)
def val (B:Int):List Int→Int
 | []=>0
 | d::l=>d+B*val B l
def Dig (B:Int) (l:List Int):Prop:=∀d∈l,0≤d∧d<B
theorem Dig.nil {B:Int}:Dig B []:=fun _ h=>by cases h
theorem Dig.cons {B d:Int} {l:List Int} (h:0≤d∧d<B) (hl:Dig B l):Dig B (d::l):=fun x hx=>by
 rcases zz.1 hx with rfl | hx
 ·exact h
 ·exact hl x hx
theorem Dig.append {B:Int} {l m:List Int} (hl:Dig B l) (hm:Dig B m):Dig B (l++m):=fun x hx=>by
 rcases List.mem_append.1 hx with hx | hx
 ·exact hl x hx
 ·exact hm x hx
theorem Dig.head {B d:Int} {l:List Int} (h:Dig B (d::l)):0≤d∧d<B:=h d (List.mem_cons_self ..)
theorem Dig.tail {B d:Int} {l:List Int} (h:Dig B (d::l)):Dig B l:=fun x hx=>h x (zv _ hx)
theorem Dig.take {B:Int} {l:List Int} (h:Dig B l) (n:Nat):Dig B (l.take n):=fun x hx=>h x (List.mem_of_mem_take hx)
theorem Dig.drop {B:Int} {l:List Int} (h:Dig B l) (n:Nat):Dig B (l.drop n):=fun x hx=>h x (List.mem_of_mem_drop hx)
theorem Dig.getD {B:Int} {l:List Int} (hB:0<B) (h:Dig B l) (i:Nat):0≤l.getD i 0∧l.getD i 0<B:=by
 by_cases hi:i<l.length
 ·simp only [List.getD,Z3 hi,Option.getD_some]
  exact h _ (List.getElem_mem hi)
 ·rw [List.getD,List.getElem?_eq_none (by omega:l.length≤i),Option.getD_none]
  omega
theorem Dig.set {B x:Int} {l:List Int} (h:Dig B l) (hx:0≤x∧x<B) (i:Nat):Dig B (l.set i x):=fun y hy=>by
 rcases List.mem_or_eq_of_mem_set hy with hy | rfl
 ·exact h y hy
 ·exact hx
theorem Dig.replicate {B:Int} (hB:0<B) (n:Nat):Dig B (List.replicate n 0):=fun x hx=>by
 rw [(List.mem_replicate.1 hx).2];omega
theorem pow_pos {B:Int} (hB:0<B) (n:Nat):0<B^n:=Int.pow_pos hB
end Go.Ql
end

section
namespace Go.Ql
theorem br_if {α:Type} {x y:α} {b:Bool}:br b x y=if b=true then x else y:=by cases b<;>rfl
theorem JQ {α β γ:Type} {x:α} {f:α→γ} {g:β→γ}:sel (.inl x) f g=f x:=rfl
theorem kz {α β γ:Type} {x:β} {f:α→γ} {g:β→γ}:sel (.inr x) f g=g x:=rfl
theorem idx_at {α:Type} {l:List α} {i:Nat}:idx l (i:Int)=l[i]?:=by
 unfold idx
 simp
theorem Ui {α:Type} {l:List α} {i:Nat} (h:i<l.length):idx l (i:Int)=some l[i]:=by
 rw [idx_at,Z3 h]
theorem inR_at {n:Nat} {i:Nat} (h:i<n):inR n (i:Int)=some ():=inR_of (by omega) (by omega)
theorem br_or {b c:Bool}:br b (some true) (some c)=some (b||c):=by cases b<;>rfl
theorem br_tt {α:Type} {x y:α}:br true x y=x:=rfl
theorem br_ff {α:Type} {x y:α}:br false x y=y:=rfl
theorem okIf_len {n k:Nat} (h:n*k≤140737488355328∧n≤140737488355328):okIf (decide (n*k≤(140737488355328:Nat))&&decide (n≤(140737488355328:Nat)))=some ():=
 kC (by simp [h])
end Go.Ql
end

section
namespace Go.Ql
abbrev Tk:=Int×Z6×Int
abbrev NdT:=Int×(Int×(Z6×Int))
abbrev Nd:=Rose NdT
def bs (s:String):Z6:=s.toList.map fun c=>UInt8.ofNat c.toNat
def ndK (kind at_:Int) (kids:List Nd):Nd:=.mk (kind,at_,[],0) kids
def ndN (kind at_:Int) (name:Z6) (n:Int) (kids:List Nd):Nd:=.mk (kind,at_,name,n) kids
inductive Rd (α:Type) where
 | ok (a:α) (ts:List Tk) | err (at_:Int) | out
def Rd.bind {α β:Type}:Rd α→(α→List Tk→Rd β)→Rd β
 | .ok a ts,f=>f a ts
 | .err p,_=>.err p
 | .out,_=>.out
def hdT (ts:List Tk):Tk:=ts.headD (0,[],0)
def seesT (w:Z6) (ts:List Tk):Bool:=decide ((hdT ts).1=2)&&(hdT ts).2.1==w
def wantT (w:Z6) (ts:List Tk):Rd Tk:=if seesT w ts then .ok (hdT ts) ts.tail else .err (hdT ts).2.2
def wordT (ts:List Tk):Rd Tk:=if (hdT ts).1=1 then .ok (hdT ts) ts.tail else .err (hdT ts).2.2
def rankT (w:Z6):Int:=
 if w = bs "==" ∨ w = bs "!=" ∨ w = bs "<" ∨ w = bs "<=" ∨ w = bs ">" ∨ w = bs ">=" then 1
 else if w = bs "+" ∨ w = bs "-" then 2
 else if w = bs "*" ∨ w = bs "/" ∨ w = bs "%" then 3
 else if w = bs "**" then 5 else 0
def binT (t:Tk) (a b:Nd):Nd:=ndN 24 t.2.2 t.2.1 0 [a,b]
def numT' (l:Z6):Int:=l.foldl (fun n c=>n*10+((c.toNat:Int)-48)) 0
mutual
def xpT:Nat→Nat→List Tk→Rd Nd
 | 0,_,_=>.out
 | n+1,lvl,ts=>if lvl=4 then siT n ts else (xpT n (lvl+1) ts).bind fun a ts=>taT n lvl a ts
def taT:Nat→Nat→Nd→List Tk→Rd Nd
 | 0,_,_,_=>.out
 | n+1,lvl,a,ts=>
   if (hdT ts).1=2∧rankT (hdT ts).2.1=lvl then
    (xpT n (lvl+1) ts.tail).bind fun b us=>if lvl=1 then .ok (binT (hdT ts) a b) us else taT n lvl (binT (hdT ts) a b) us
   else .ok a ts
def siT:Nat→List Tk→Rd Nd
 | 0,_=>.out
 | n+1,ts=>
   if seesT (bs "-") ts then (siT n ts.tail).bind fun a us => .ok (ndK 23 (hdT ts).2.2 [a]) us
   else (atT n ts).bind fun a us=>
    if seesT (bs "**") us then (siT n us.tail).bind fun b vs => .ok (binT (hdT us) a b) vs else .ok a us
def atT:Nat→List Tk→Rd Nd
 | 0,_=>.out
 | n+1,ts=>
   if (hdT ts).1=3 then .ok (ndN 20 (hdT ts).2.2 [] (numT' (hdT ts).2.1) []) ts.tail
   else if (hdT ts).1=1 then .ok (ndN 21 (hdT ts).2.2 (hdT ts).2.1 0 []) ts.tail
   else if seesT (bs "size") ts then (wantT (bs "(") ts.tail).bind fun _ us => (wordT us).bind fun w us => (wantT (bs ")") us).bind fun _ us => .ok (ndN 22 (hdT ts).2.2 w.2.1 0 []) us
   else (wantT (bs "(") ts).bind fun _ us => (xpT n 1 us).bind fun a us => (wantT (bs ")") us).bind fun _ us => .ok a us
end
def rfT (n:Nat) (w:Tk) (ts:List Tk):Rd Nd:=
 if seesT (bs "[") ts then (xpT n 1 ts.tail).bind fun a us =>
  if seesT (bs "..") us then (xpT n 1 us.tail).bind fun b us => (wantT (bs "]") us).bind fun _ us => .ok (ndN 19 w.2.2 w.2.1 2 [a, b]) us
  else (wantT (bs "]") us).bind fun _ us => .ok (ndN 19 w.2.2 w.2.1 1 [a]) us
 else .ok (ndN 19 w.2.2 w.2.1 0 []) ts
def reT (n:Nat) (ts:List Tk):Rd Nd:=(wordT ts).bind fun w us=>rfT n w us
def bopT:Nat→Z6×Int
 | 1 => (bs "|", 29)
 | 2 => (bs "^", 30)
 | _ => (bs "&", 28)
mutual
def trT:Nat→Nat→List Tk→Rd Nd
 | 0,_,_=>.out
 | n+1,lvl,ts=>if lvl=4 then noT n ts else (trT n (lvl+1) ts).bind fun a ts=>tbT n lvl a ts
def tbT:Nat→Nat→Nd→List Tk→Rd Nd
 | 0,_,_,_=>.out
 | n+1,lvl,a,ts=>
   if seesT (bopT lvl).1 ts then (trT n (lvl+1) ts.tail).bind fun b us=>tbT n lvl (ndK (bopT lvl).2 (hdT ts).2.2 [a,b]) us
   else .ok a ts
def noT:Nat→List Tk→Rd Nd
 | 0,_=>.out
 | n+1,ts=>
   if seesT (bs "!") ts then (noT n ts.tail).bind fun a us => .ok (ndK 27 (hdT ts).2.2 [a]) us
   else if seesT (bs "(") ts then (trT n 1 ts.tail).bind fun a us => (wantT (bs ")") us).bind fun _ us => .ok a us
   else if (hdT ts).1 = 3 ∧ ((hdT ts).2.1 = bs "0" ∨ (hdT ts).2.1 = bs "1") then .ok (ndN 26 (hdT ts).2.2 [] (if (hdT ts).2.1 = bs "0" then 0 else 1) []) ts.tail
   else reT n ts
end
def liT (one:List Tk→Rd Nd):Nat→List Nd→List Tk→Rd (List Nd)
 | 0,_,_=>.out
 | n + 1, l, ts => if seesT (bs ",") ts then (one ts.tail).bind fun a us => liT one n (l ++ [a]) us else .ok l ts
def lsT (one:List Tk→Rd Nd) (n:Nat) (ts:List Tk):Rd (List Nd):=(one ts).bind fun a us=>liT one n [a] us
def gr (l:List Nd):Nd:=ndK 25 0 l
def moT:Nat→List Nd→List Tk→Rd (List Nd)
 | 0,_,_=>.out
 | n+1,l,ts=>
   if seesT (bs "inv") ts then (wantT (bs "@") ts.tail).bind fun _ us => moT n (l ++ [ndK 9 (hdT ts).2.2 []]) us
   else if seesT (bs "ctrl") ts then (wantT (bs "@") ts.tail).bind fun _ us => moT n (l ++ [ndK 10 (hdT ts).2.2 []]) us
   else if seesT (bs "pow") ts then (wantT (bs "(") ts.tail).bind fun _ us => (xpT n 1 us).bind fun e us => (wantT (bs ")") us).bind fun _ us => (wantT (bs "@") us).bind fun _ us => moT n (l ++ [ndK 11 (hdT ts).2.2 [e]]) us
   else .ok l ts
def apT (n:Nat) (at_:Int) (mods:List Nd) (w:Tk) (ts:List Tk):Rd Nd:=
 ((if seesT (bs "(") ts then (lsT (xpT n 1) n ts.tail).bind fun l us => (wantT (bs ")") us).bind fun _ us => .ok l us else .ok [] ts) : Rd (List Nd)).bind fun args us =>
 ((if (hdT us).1=1 then lsT (reT n) n us else .ok [] us):Rd (List Nd)).bind fun refs us=>
 (wantT (bs ";") us).bind fun _ us => .ok (ndN 8 at_ w.2.1 0 [gr mods, gr args, gr refs]) us
mutual
def blT:Nat→List Tk→Rd Nd
 | 0,_=>.out
 | n+1,ts=>(wantT ([123]) ts).bind fun t us=>(sqT n [] us).bind fun l us=>.ok (ndK 7 t.2.2 l) us
def sqT:Nat→List Nd→List Tk→Rd (List Nd)
 | 0,_,_=>.out
 | n+1,l,ts=>if seesT ([125]) ts then .ok l ts.tail else (stT n ts).bind fun a us=>sqT n (l++[a]) us
def stT:Nat→List Tk→Rd Nd
 | 0,_=>.out
 | n+1,ts=>
   let t:=hdT ts
   if seesT (bs "for") ts then (wordT ts.tail).bind fun w us => (wantT (bs "in") us).bind fun _ us => (xpT n 1 us).bind fun lo us => (wantT (bs "..") us).bind fun _ us => (xpT n 1 us).bind fun hi us =>
    (blT n us).bind fun b us=>.ok (ndN 12 t.2.2 w.2.1 0 [lo,hi,b]) us
   else if seesT (bs "when") ts then (xpT n 1 ts.tail).bind fun e us => (blT n us).bind fun b us => .ok (ndK 13 t.2.2 [e, b]) us
   else if seesT (bs "if") ts then
    let no := seesT (bs "!") ts.tail
    (reT n (if no then ts.tail.tail else ts.tail)).bind fun r us=>(blT n us).bind fun b us=>
     if seesT (bs "else") us then (blT n us.tail).bind fun c us => .ok (ndN 14 t.2.2 [] (if no then 1 else 0) [r, b, c]) us
     else .ok (ndN 14 t.2.2 [] (if no then 1 else 0) [r,b]) us
   else if seesT (bs "measure") ts then (reT n ts.tail).bind fun q us => (wantT (bs "->") us).bind fun _ us => (reT n us).bind fun b us => (wantT (bs ";") us).bind fun _ us => .ok (ndK 15 t.2.2 [q, b]) us
   else if seesT (bs "reset") ts then (reT n ts.tail).bind fun q us => (wantT (bs ";") us).bind fun _ us => .ok (ndK 16 t.2.2 [q]) us
   else if seesT (bs "within") ts then (blT n ts.tail).bind fun a us => (wantT (bs "apply") us).bind fun _ us => (blT n us).bind fun b us => .ok (ndK 17 t.2.2 [a, b]) us
   else if seesT (bs "inv") ts || seesT (bs "ctrl") ts || seesT (bs "pow") ts then (moT n [] ts).bind fun mods us => (wordT us).bind fun w us => apT n t.2.2 mods w us
   else (wordT ts).bind fun w us=>
    if seesT (bs "[") us || seesT (bs "^=") us then (rfT n w us).bind fun r us => (wantT (bs "^=") us).bind fun _ us => (trT n 1 us).bind fun e us => (wantT (bs ";") us).bind fun _ us => .ok (ndK 18 t.2.2 [r, e]) us
    else apT n t.2.2 [] w us
end
def p1T (ts:List Tk):Rd Nd:=(wordT ts).bind fun v us=>.ok (ndN 6 v.2.2 v.2.1 0 []) us
def p2T (ts : List Tk) : Rd Nd := (wordT ts).bind fun v us => if seesT (bs "[") us then (wantT (bs "]") us.tail).bind fun _ us => .ok (ndN 6 v.2.2 v.2.1 1 []) us else .ok (ndN 6 v.2.2 v.2.1 0 []) us
def gaT (n:Nat) (t:Tk) (ts:List Tk):Rd Nd:=
 (wordT ts).bind fun w us=>
 ((if seesT (bs "(") us then (lsT p1T n us.tail).bind fun l us => (wantT (bs ")") us).bind fun _ us => .ok l us else .ok [] us) : Rd (List Nd)).bind fun ints us =>
 (lsT p2T n us).bind fun wires us=>(blT n us).bind fun b us=>.ok (ndN 5 t.2.2 w.2.1 0 [gr ints,gr wires,b]) us
def itT (n:Nat) (ts:List Tk):Rd Nd:=
 let t:=hdT ts
 if seesT (bs "qubit") ts || seesT (bs "bit") ts then
  (wordT ts.tail).bind fun w us => (wantT (bs "[") us).bind fun _ us => (xpT n 1 us).bind fun e us => (wantT (bs "]") us).bind fun _ us => (wantT (bs ";") us).bind fun _ us => .ok (ndN (if seesT (bs "bit") ts then 3 else 2) t.2.2 w.2.1 0 [e]) us
 else if seesT (bs "const") ts then (wordT ts.tail).bind fun w us => (wantT (bs "=") us).bind fun _ us => (xpT n 1 us).bind fun e us => (wantT (bs ";") us).bind fun _ us => .ok (ndN 4 t.2.2 w.2.1 0 [e]) us
 else if seesT (bs "gate") ts then gaT n t ts.tail
 else stT n ts
def prT (n:Nat):Nat→List Nd→List Tk→Rd (List Nd)
 | 0,_,_=>.out
 | m+1,l,ts=>if (hdT ts).1=0 then .ok l ts else (itT n ts).bind fun a us=>prT n m (l++[a]) us
end Go.Ql
end

section
namespace Go.Ql
def lettr (c:UInt8):Bool:=(decide (97≤c.toNat)&&decide (c.toNat≤122))||(decide (65≤c.toNat)&&decide (c.toNat≤90))||c==95
def digt (c:UInt8):Bool:=decide (48≤c.toNat)&&decide (c.toNat≤57)
def blk1 (c:UInt8):Bool:=c==32||c==9||c==10||c==13
def JX:Bool→Z6→Nat
 | _,[]=>0
 | true,c::r=>1+JX (!(c==10)) r
 | false,c::r=>if blk1 c then 1+JX false r else if c==47&&r.head? == some 47 then 1+JX true r else 0
def keysT : List Z6 := [bs "qubit", bs "bit", bs "const", bs "gate", bs "for", bs "in", bs "when", bs "if", bs "else", bs "measure", bs "reset", bs "within", bs "apply", bs "inv", bs "ctrl", bs "pow", bs "size"]
def twosT : List Z6 := [bs "..", bs "->", bs "^=", bs "==", bs "!=", bs "<=", bs ">=", bs "**"]
def onesT:Z6:=[123,125,40,41,91,93,59,44,64,61,60,62,43,45,42,47,37,33,38,124,94]
def Yb:Z6→Int×Z6
 | []=>(0,[])
 | c::r=>
   if lettr c then (if keysT.elem ((c::r).takeWhile fun c=>lettr c||digt c) then 2 else 1,(c::r).takeWhile fun c=>lettr c||digt c)
   else if digt c then (if ((c::r).takeWhile digt).length>9∨(((c::r).takeWhile digt).length>1∧c=48) then 4 else 3,(c::r).takeWhile digt)
   else if twosT.elem ((c::r).take 2) then (2,(c::r).take 2)
   else if onesT.elem c then (2,[c]) else (4,[])
def toksN:Nat→Z6→Nat→List Tk
 | 0,_,_=>[]
 | n+1,rest,i=>
   ((Yb (rest.drop (JX false rest))).1,(Yb (rest.drop (JX false rest))).2,((i+JX false rest:Nat):Int)) ::
     if (Yb (rest.drop (JX false rest))).1=0∨(Yb (rest.drop (JX false rest))).1=4 then []
     else toksN n ((rest.drop (JX false rest)).drop (Yb (rest.drop (JX false rest))).2.length) (i+JX false rest+(Yb (rest.drop (JX false rest))).2.length)
def toksT (text:Z6):List Tk:=toksN (text.length+1) text 0
end Go.Ql
end

section
namespace Go.Ql
def Gd {α:Type}:Rd α→Nat→Prop
 | .ok _ us,L=>us.length<L
 | .err _,_=>True
 | .out,_=>False
theorem Gd.bind {α β:Type} {r:Rd α} {f:α→List Tk→Rd β} {L M:Nat} (h:Gd r L) (hf:∀a us,us.length<L→Gd (f a us) M):Gd (r.bind f) M:=by
 cases r with
 | ok a us=>exact hf a us h
 | err e=>trivial
 | out=>exact h
theorem Gd.mono {α:Type} {r:Rd α} {L M:Nat} (h:Gd r L) (hm:L≤M):Gd r M:=by
 cases r with
 | ok a us=>exact zw h hm
 | err e=>trivial
 | out=>exact h
theorem Gd.ite {α:Type} {c:Prop} [Decidable c] {r s:Rd α} {M:Nat} (h1:c→Gd r M) (h2:¬c→Gd s M):Gd (if c then r else s) M:=by
 by_cases h:c
 ·rw [if_pos h];exact h1 h
 ·rw [if_neg h];exact h2 h
theorem Gd.ne_out {α:Type} {r:Rd α} {L:Nat} (h:Gd r L):r ≠ .out:=by intro e;rw [e] at h;exact h
theorem tail_lt {ts:List Tk} (h:(hdT ts).1≠0):ts.tail.length<ts.length:=by
 cases ts with
 | nil=>exact absurd rfl h
 | cons a l=>simp
theorem Yo {ts:List Tk} {k:Int} (h:(hdT ts).1=k) (hk:k≠0):ts.tail.length<ts.length:=tail_lt (by omega)
theorem YW {w:Z6} {ts:List Tk} (h:seesT w ts=true):(hdT ts).1=2:=by
 unfold seesT at h;simp only [z7,zi] at h;exact h.1
theorem sees_word {w:Z6} {ts:List Tk} (h:seesT w ts=true):(hdT ts).2.1=w:=by
 unfold seesT at h;simp only [z7,zi] at h;exact eq_of_beq h.2
theorem jT {w:Z6} {ts:List Tk} (h:seesT w ts=true):ts.tail.length<ts.length:=Yo (YW h) (by omega)
theorem want_gd {w:Z6} {ts:List Tk}:Gd (wantT w ts) ts.length:=by
 unfold wantT;exact Gd.ite (fun h=>jT h) (fun _=>trivial)
theorem word_gd {ts:List Tk}:Gd (wordT ts) ts.length:=by
 unfold wordT;exact Gd.ite (fun h=>Yo h (by omega)) (fun _=>trivial)
theorem num_gd:∀n:Nat,
 (∀lvl ts,1≤lvl→lvl≤4→8*ts.length+7≤n+lvl→Gd (xpT n lvl ts) ts.length) ∧
 (∀lvl a ts,1≤lvl→lvl≤3→8*ts.length+1≤n→Gd (taT n lvl a ts) (ts.length+1)) ∧
 (∀ts,8*ts.length+2≤n→Gd (siT n ts) ts.length) ∧
 (∀ts,8*ts.length+1≤n→Gd (atT n ts) ts.length):=by
 intro n
 induction n with
 | zero=>exact ⟨fun _ _ _ _ h=>by omega,fun _ _ _ _ _ h=>by omega,fun _ h=>by omega,fun _ h=>by omega⟩
 | succ n ih=>
   obtain ⟨hE,hT,hS,hA⟩:=ih
   refine ⟨fun lvl ts h1 h4 hn=>?_,fun lvl a ts h1 h3 hn=>?_,fun ts hn=>?_,fun ts hn=>?_⟩
   ·rw [xpT]
    refine Gd.ite (fun h=>hS ts (by omega)) (fun h=>?_)
    refine (hE (lvl+1) ts (by omega) (by omega) (by omega)).bind fun a us hu=>?_
    exact (hT lvl a us h1 (by omega) (by omega)).mono (by omega)
   ·rw [taT]
    refine Gd.ite (fun h=>?_) (fun h=>by show _<_;omega)
    have ht:=Yo h.1 (by omega)
    refine (hE (lvl+1) ts.tail (by omega) (by omega) (by omega)).bind fun b us hu=>?_
    refine Gd.ite (fun h=>by show _<_;omega) (fun h=>?_)
    exact (hT lvl _ us h1 h3 (by omega)).mono (by omega)
   ·rw [siT]
    refine Gd.ite (fun h=>?_) (fun h=>?_)
    ·have ht:=jT h
     exact (hS ts.tail (by omega)).bind fun a us hu=>by show _<_;omega
    ·refine (hA ts (by omega)).bind fun a us hu=>?_
     refine Gd.ite (fun h=>?_) (fun h=>hu)
     have ht:=jT h
     exact (hS us.tail (by omega)).bind fun b vs hv=>by show _<_;omega
   ·rw [atT]
    refine Gd.ite (fun h=>Yo h (by omega)) fun _=>Gd.ite (fun h=>Yo h (by omega)) fun _=>Gd.ite (fun h=>?_) fun _=>?_
    ·have ht:=jT h
     refine want_gd.bind fun _ us hu=>word_gd.bind fun _ vs hv=>want_gd.bind fun _ xs hx=>by show _<_;omega
    ·refine want_gd.bind fun _ us hu=>(hE 1 us (by omega) (by omega) (by omega)).bind fun a vs hv=>want_gd.bind fun _ xs hx=>by show _<_;omega
theorem ex_gd {n:Nat} {ts:List Tk} (h:8*ts.length+6≤n):Gd (xpT n 1 ts) ts.length:=(num_gd n).1 1 ts (by omega) (by omega) (by omega)
theorem rf_gd {n:Nat} {w:Tk} {ts:List Tk} (h:8*ts.length≤n):Gd (rfT n w ts) (ts.length+1):=by
 unfold rfT
 refine Gd.ite (fun h=>?_) (fun h=>by show _<_;omega)
 have ht:=jT h
 refine (ex_gd (by omega)).bind fun a us hu=>Gd.ite (fun h=>?_) (fun h=>?_)
 ·have ht:=jT h
  exact (ex_gd (by omega)).bind fun b vs hv=>want_gd.bind fun _ xs hx=>by show _<_;omega
 ·exact want_gd.bind fun _ xs hx=>by show _<_;omega
theorem re_gd {n:Nat} {ts:List Tk} (h:8*ts.length≤n):Gd (reT n ts) ts.length:=by
 unfold reT
 exact word_gd.bind fun w us hu=>(rf_gd (by omega)).mono (by omega)
theorem truth_gd:∀n:Nat,
 (∀lvl ts,1≤lvl→lvl≤4→8*ts.length+7≤n+lvl→Gd (trT n lvl ts) ts.length) ∧
 (∀lvl a ts,1≤lvl→lvl≤3→8*ts.length+1≤n→Gd (tbT n lvl a ts) (ts.length+1)) ∧
 (∀ts,8*ts.length+1≤n→Gd (noT n ts) ts.length):=by
 intro n
 induction n with
 | zero=>exact ⟨fun _ _ _ _ h=>by omega,fun _ _ _ _ _ h=>by omega,fun _ h=>by omega⟩
 | succ n ih=>
   obtain ⟨hE,hT,hN⟩:=ih
   refine ⟨fun lvl ts h1 h4 hn=>?_,fun lvl a ts h1 h3 hn=>?_,fun ts hn=>?_⟩
   ·rw [trT]
    refine Gd.ite (fun h=>hN ts (by omega)) (fun h=>?_)
    refine (hE (lvl+1) ts (by omega) (by omega) (by omega)).bind fun a us hu=>?_
    exact (hT lvl a us h1 (by omega) (by omega)).mono (by omega)
   ·rw [tbT]
    refine Gd.ite (fun h=>?_) (fun h=>by show _<_;omega)
    have ht:=jT h
    refine (hE (lvl+1) ts.tail (by omega) (by omega) (by omega)).bind fun b us hu=>?_
    exact (hT lvl _ us h1 h3 (by omega)).mono (by omega)
   ·rw [noT]
    refine Gd.ite (fun h=>?_) fun _=>Gd.ite (fun h=>?_) fun _=>Gd.ite (fun h=>Yo h.1 (by omega)) fun _=>re_gd (by omega)
    ·have ht:=jT h
     exact (hN ts.tail (by omega)).bind fun a us hu=>by show _<_;omega
    ·have ht:=jT h
     exact (hE 1 ts.tail (by omega) (by omega) (by omega)).bind fun a us hu=>want_gd.bind fun _ xs hx=>by show _<_;omega
theorem tr_gd {n:Nat} {ts:List Tk} (h:8*ts.length+6≤n):Gd (trT n 1 ts) ts.length:=(truth_gd n).1 1 ts (by omega) (by omega) (by omega)
theorem li_gd {one:List Tk→Rd Nd} {K:Nat} (h1:∀ts,ts.length<K→Gd (one ts) ts.length):∀(n:Nat) (l:List Nd) (ts:List Tk),ts.length<K→ts.length+1≤n→Gd (liT one n l ts) (ts.length+1)
 | 0,_,_,_,h=>by omega
 | n+1,l,ts,hk,h=>by
   rw [liT]
   refine Gd.ite (fun h=>?_) (fun h=>by show _<_;omega)
   have ht:=jT h
   refine (h1 ts.tail (by omega)).bind fun a us hu=>(li_gd h1 n _ us (by omega) (by omega)).mono (by omega)
theorem ls_gd {one:List Tk→Rd Nd} {K:Nat} (h1:∀ts,ts.length<K→Gd (one ts) ts.length) {n:Nat} {ts:List Tk} (hk:ts.length<K) (h:ts.length≤n):Gd (lsT one n ts) ts.length:=by
 unfold lsT
 exact (h1 ts hk).bind fun a us hu=>(li_gd h1 n _ us (by omega) (by omega)).mono (by omega)
theorem mo_gd:∀(n:Nat) (l:List Nd) (ts:List Tk),8*ts.length+1≤n→Gd (moT n l ts) (ts.length+1)
 | 0,_,_,h=>by omega
 | n+1,l,ts,h=>by
   rw [moT]
   refine Gd.ite (fun h=>?_) fun _=>Gd.ite (fun h=>?_) fun _=>Gd.ite (fun h=>?_) (fun h=>by show _<_;omega)
   ·have ht:=jT h
    exact want_gd.bind fun _ us hu=>(mo_gd n _ us (by omega)).mono (by omega)
   ·have ht:=jT h
    exact want_gd.bind fun _ us hu=>(mo_gd n _ us (by omega)).mono (by omega)
   ·have ht:=jT h
    exact want_gd.bind fun _ us hu=>(ex_gd (by omega)).bind fun e vs hv=>want_gd.bind fun _ xs hx=>want_gd.bind fun _ ys hy=>(mo_gd n _ ys (by omega)).mono (by omega)
theorem ap_gd {n:Nat} {at_:Int} {mods:List Nd} {w:Tk} {ts:List Tk} (h:8*ts.length≤n):Gd (apT n at_ mods w ts) ts.length:=by
 unfold apT
 have h1 : Gd ((if seesT (bs "(") ts then (lsT (xpT n 1) n ts.tail).bind fun l us => (wantT (bs ")") us).bind fun _ us => .ok l us else .ok [] ts) : Rd (List Nd)) (ts.length + 1) := by
  refine Gd.ite (fun h=>?_) (fun h=>by show _<_;omega)
  have ht:=jT h
  refine (ls_gd (K:=ts.length) (fun us hu=>ex_gd (by omega)) (by omega) (by omega)).bind fun l us hu=>want_gd.bind fun _ vs hv=>by show _<_;omega
 refine h1.bind fun args us hu=>?_
 have h2:Gd ((if (hdT us).1=1 then lsT (reT n) n us else .ok [] us):Rd (List Nd)) (us.length+1):=by
  refine Gd.ite (fun h=>?_) (fun h=>by show _<_;omega)
  exact (ls_gd (K:=us.length+1) (fun vs hv=>re_gd (by omega)) (by omega) (by omega)).mono (by omega)
 refine h2.bind fun refs vs hv=>want_gd.bind fun _ xs hx=>by show _<_;omega
theorem stm_gd:∀n:Nat,
 (∀ts,8*ts.length+1≤n→Gd (blT n ts) ts.length) ∧
 (∀l ts,8*ts.length+8≤n→Gd (sqT n l ts) ts.length) ∧
 (∀ts,8*ts.length+7≤n→Gd (stT n ts) ts.length):=by
 intro n
 induction n with
 | zero=>exact ⟨fun _ h=>by omega,fun _ _ h=>by omega,fun _ h=>by omega⟩
 | succ n ih=>
   obtain ⟨hB,hQ,hS⟩:=ih
   refine ⟨fun ts hn=>?_,fun l ts hn=>?_,fun ts hn=>?_⟩
   ·rw [blT]
    exact want_gd.bind fun t us hu=>(hQ [] us (by omega)).bind fun l vs hv=>by show _<_;omega
   ·rw [sqT]
    exact Gd.ite (fun h=>jT h) fun _=>(hS ts (by omega)).bind fun a us hu=>(hQ _ us (by omega)).mono (by omega)
   ·rw [stT]
    refine Gd.ite (fun h=>?_) fun _=>Gd.ite (fun h=>?_) fun _=>Gd.ite (fun h=>?_) fun _=>Gd.ite (fun h=>?_) fun _=>Gd.ite (fun h=>?_) fun _=>Gd.ite (fun h=>?_) fun _=>Gd.ite (fun h=>?_) fun _=>?_
    ·have ht:=jT h
     exact word_gd.bind fun w us hu=>want_gd.bind fun _ vs hv=>(ex_gd (by omega)).bind fun lo xs hx=>want_gd.bind fun _ ys hy=>(ex_gd (by omega)).bind fun hi zs hz=>(hB zs (by omega)).bind fun b us' hu'=>by show _<_;omega
    ·have ht:=jT h
     exact (ex_gd (by omega)).bind fun e us hu=>(hB us (by omega)).bind fun b vs hv=>by show _<_;omega
    ·have ht:=jT h
     have h2 : (if seesT (bs "!") ts.tail = true then ts.tail.tail else ts.tail).length < ts.length := by
      split
      ·have:=jT ‹_›;omega
      ·exact ht
     refine (re_gd (by omega)).bind fun r us hu=>(hB us (by omega)).bind fun b vs hv=>Gd.ite (fun h=>?_) (fun _=>by show _<_;omega)
     have ht:=jT h
     exact (hB vs.tail (by omega)).bind fun c xs hx=>by show _<_;omega
    ·have ht:=jT h
     exact (re_gd (by omega)).bind fun q us hu=>want_gd.bind fun _ vs hv=>(re_gd (by omega)).bind fun b xs hx=>want_gd.bind fun _ ys hy=>by show _<_;omega
    ·have ht:=jT h
     exact (re_gd (by omega)).bind fun q us hu=>want_gd.bind fun _ vs hv=>by show _<_;omega
    ·have ht:=jT h
     exact (hB ts.tail (by omega)).bind fun a us hu=>want_gd.bind fun _ vs hv=>(hB vs (by omega)).bind fun b xs hx=>by show _<_;omega
    ·exact (mo_gd n [] ts (by omega)).bind fun mods us hu=>word_gd.bind fun w vs hv=>(ap_gd (by omega)).mono (by omega)
    ·refine word_gd.bind fun w us hu=>Gd.ite (fun h=>?_) fun _=>(ap_gd (by omega)).mono (by omega)
     exact (rf_gd (by omega)).bind fun r vs hv=>want_gd.bind fun _ xs hx=>(tr_gd (by omega)).bind fun e ys hy=>want_gd.bind fun _ zs hz=>by show _<_;omega
theorem bl_gd {n:Nat} {ts:List Tk} (h:8*ts.length+1≤n):Gd (blT n ts) ts.length:=(stm_gd n).1 ts h
theorem st_gd {n:Nat} {ts:List Tk} (h:8*ts.length+7≤n):Gd (stT n ts) ts.length:=(stm_gd n).2.2 ts h
theorem p1_gd {ts:List Tk}:Gd (p1T ts) ts.length:=by unfold p1T;exact word_gd.bind fun v us hu=>hu
theorem p2_gd {ts:List Tk}:Gd (p2T ts) ts.length:=by
 unfold p2T
 refine word_gd.bind fun v us hu=>Gd.ite (fun h=>?_) fun _=>hu
 have ht:=jT h
 exact want_gd.bind fun _ vs hv=>by show _<_;omega
theorem ga_gd {n:Nat} {t:Tk} {ts:List Tk} (h:8*ts.length+8≤n):Gd (gaT n t ts) ts.length:=by
 unfold gaT
 refine word_gd.bind fun w us hu=>?_
 have h1 : Gd ((if seesT (bs "(") us then (lsT p1T n us.tail).bind fun l us => (wantT (bs ")") us).bind fun _ us => .ok l us else .ok [] us) : Rd (List Nd)) (us.length + 1) := by
  refine Gd.ite (fun h=>?_) (fun h=>by show _<_;omega)
  have ht:=jT h
  exact (ls_gd (K:=us.length) (fun us hu=>p1_gd) (by omega) (by omega)).bind fun l us hu=>want_gd.bind fun _ vs hv=>by show _<_;omega
 refine h1.bind fun ints vs hv=>(ls_gd (K:=vs.length+1) (fun us hu=>p2_gd) (by omega) (by omega)).bind fun wires xs hx=>(bl_gd (by omega)).bind fun b ys hy=>by show _<_;omega
theorem it_gd {n:Nat} {ts:List Tk} (h:8*ts.length+8≤n):Gd (itT n ts) ts.length:=by
 unfold itT
 refine Gd.ite (fun h=>?_) fun _=>Gd.ite (fun h=>?_) fun _=>Gd.ite (fun h=>?_) fun _=>st_gd (by omega)
 ·have ht:ts.tail.length<ts.length:=by
   rcases (Bool.or_eq_true _ _▸h:_∨_) with h | h<;>exact jT h
  exact word_gd.bind fun w us hu=>want_gd.bind fun _ vs hv=>(ex_gd (by omega)).bind fun e xs hx=>want_gd.bind fun _ ys hy=>want_gd.bind fun _ zs hz=>by show _<_;omega
 ·have ht:=jT h
  exact word_gd.bind fun w us hu=>want_gd.bind fun _ vs hv=>(ex_gd (by omega)).bind fun e xs hx=>want_gd.bind fun _ ys hy=>by show _<_;omega
 ·have ht:=jT h
  exact (ga_gd (by omega)).mono (by omega)
theorem pr_gd:∀(n m:Nat) (l:List Nd) (ts:List Tk),8*ts.length+8≤n→ts.length+1≤m→Gd (prT n m l ts) (ts.length+1)
 | n,0,_,_,_,h=>by omega
 | n,m+1,l,ts,hn,h=>by
   rw [prT]
   exact Gd.ite (fun h=>by show _<_;omega) fun _=>(it_gd hn).bind fun a us hu=>(pr_gd n m _ us (by omega) (by omega)).mono (by omega)
end Go.Ql
end

section
namespace Go.Ql
def Lq {α:Type}:Rd α→Nat→Prop
 | .ok _ us,L=>us.length<L
 | _,_=>True
theorem Lq.bind {α β:Type} {r:Rd α} {f:α→List Tk→Rd β} {L M:Nat} (h:Lq r L) (hf:∀a us,us.length<L→Lq (f a us) M):Lq (r.bind f) M:=by
 cases r with
 | ok a us=>exact hf a us h
 | err e=>trivial
 | out=>trivial
theorem Lq.mono {α:Type} {r:Rd α} {L M:Nat} (h:Lq r L) (hm:L≤M):Lq r M:=by
 cases r with
 | ok a us=>exact zw h hm
 | err e=>trivial
 | out=>trivial
theorem Lq.ite {α:Type} {c:Prop} [Decidable c] {r s:Rd α} {M:Nat} (h1:c→Lq r M) (h2:¬c→Lq s M):Lq (if c then r else s) M:=by
 by_cases h:c
 ·rw [if_pos h];exact h1 h
 ·rw [if_neg h];exact h2 h
theorem want_lq {w:Z6} {ts:List Tk}:Lq (wantT w ts) ts.length:=by
 unfold wantT;exact Lq.ite (fun h=>jT h) (fun _=>trivial)
theorem word_lq {ts:List Tk}:Lq (wordT ts) ts.length:=by
 unfold wordT;exact Lq.ite (fun h=>Yo h (by omega)) (fun _=>trivial)
theorem num_lq:∀n:Nat,
 (∀lvl ts,Lq (xpT n lvl ts) ts.length)∧(∀lvl a ts,Lq (taT n lvl a ts) (ts.length+1))∧(∀ts,Lq (siT n ts) ts.length)∧(∀ts,Lq (atT n ts) ts.length):=by
 intro n
 induction n with
 | zero=>exact ⟨fun _ _=>trivial,fun _ _ _=>trivial,fun _=>trivial,fun _=>trivial⟩
 | succ n ih=>
   obtain ⟨hE,hT,hS,hA⟩:=ih
   refine ⟨fun lvl ts=>?_,fun lvl a ts=>?_,fun ts=>?_,fun ts=>?_⟩
   ·rw [xpT]
    refine Lq.ite (fun h=>hS ts) (fun h=>?_)
    exact (hE (lvl+1) ts).bind fun a us hu=>(hT lvl a us).mono (by omega)
   ·rw [taT]
    refine Lq.ite (fun h=>?_) (fun h=>by show _<_;omega)
    have ht:=Yo h.1 (by omega)
    refine (hE (lvl+1) ts.tail).bind fun b us hu=>?_
    exact Lq.ite (fun h=>by show _<_;omega) (fun h=>(hT lvl _ us).mono (by omega))
   ·rw [siT]
    refine Lq.ite (fun h=>?_) (fun h=>?_)
    ·have ht:=jT h
     exact (hS ts.tail).bind fun a us hu=>by show _<_;omega
    ·refine (hA ts).bind fun a us hu=>?_
     refine Lq.ite (fun h=>?_) (fun h=>hu)
     have ht:=jT h
     exact (hS us.tail).bind fun b vs hv=>by show _<_;omega
   ·rw [atT]
    refine Lq.ite (fun h=>Yo h (by omega)) fun _=>Lq.ite (fun h=>Yo h (by omega)) fun _=>Lq.ite (fun h=>?_) fun _=>?_
    ·have ht:=jT h
     exact want_lq.bind fun _ us hu=>word_lq.bind fun _ vs hv=>want_lq.bind fun _ xs hx=>by show _<_;omega
    ·exact want_lq.bind fun _ us hu=>(hE 1 us).bind fun a vs hv=>want_lq.bind fun _ xs hx=>by show _<_;omega
theorem ex_lq {n:Nat} {ts:List Tk}:Lq (xpT n 1 ts) ts.length:=(num_lq n).1 1 ts
theorem rf_lq {n:Nat} {w:Tk} {ts:List Tk}:Lq (rfT n w ts) (ts.length+1):=by
 unfold rfT
 refine Lq.ite (fun h=>?_) (fun h=>by show _<_;omega)
 have ht:=jT h
 refine ex_lq.bind fun a us hu=>Lq.ite (fun h=>?_) (fun h=>?_)
 ·have ht:=jT h
  exact ex_lq.bind fun b vs hv=>want_lq.bind fun _ xs hx=>by show _<_;omega
 ·exact want_lq.bind fun _ xs hx=>by show _<_;omega
theorem re_lq {n:Nat} {ts:List Tk}:Lq (reT n ts) ts.length:=by
 unfold reT
 exact word_lq.bind fun w us hu=>rf_lq.mono (by omega)
theorem truth_lq:∀n:Nat,
 (∀lvl ts,Lq (trT n lvl ts) ts.length)∧(∀lvl a ts,Lq (tbT n lvl a ts) (ts.length+1))∧(∀ts,Lq (noT n ts) ts.length):=by
 intro n
 induction n with
 | zero=>exact ⟨fun _ _=>trivial,fun _ _ _=>trivial,fun _=>trivial⟩
 | succ n ih=>
   obtain ⟨hE,hT,hN⟩:=ih
   refine ⟨fun lvl ts=>?_,fun lvl a ts=>?_,fun ts=>?_⟩
   ·rw [trT]
    refine Lq.ite (fun h=>hN ts) (fun h=>?_)
    exact (hE (lvl+1) ts).bind fun a us hu=>(hT lvl a us).mono (by omega)
   ·rw [tbT]
    refine Lq.ite (fun h=>?_) (fun h=>by show _<_;omega)
    have ht:=jT h
    exact (hE (lvl+1) ts.tail).bind fun b us hu=>(hT lvl _ us).mono (by omega)
   ·rw [noT]
    refine Lq.ite (fun h=>?_) fun _=>Lq.ite (fun h=>?_) fun _=>Lq.ite (fun h=>Yo h.1 (by omega)) fun _=>re_lq
    ·have ht:=jT h
     exact (hN ts.tail).bind fun a us hu=>by show _<_;omega
    ·have ht:=jT h
     exact (hE 1 ts.tail).bind fun a us hu=>want_lq.bind fun _ xs hx=>by show _<_;omega
theorem tr_lq {n:Nat} {ts:List Tk}:Lq (trT n 1 ts) ts.length:=(truth_lq n).1 1 ts
theorem li_lq {one:List Tk→Rd Nd} (h1:∀ts,Lq (one ts) ts.length):∀(n:Nat) (l:List Nd) (ts:List Tk),Lq (liT one n l ts) (ts.length+1)
 | 0,_,_=>trivial
 | n+1,l,ts=>by
   rw [liT]
   refine Lq.ite (fun h=>?_) (fun h=>by show _<_;omega)
   have ht:=jT h
   exact (h1 ts.tail).bind fun a us hu=>(li_lq h1 n _ us).mono (by omega)
theorem ls_lq {one:List Tk→Rd Nd} (h1:∀ts,Lq (one ts) ts.length) {n:Nat} {ts:List Tk}:Lq (lsT one n ts) ts.length:=by
 unfold lsT
 exact (h1 ts).bind fun a us hu=>(li_lq h1 n _ us).mono (by omega)
theorem mo_lq:∀(n:Nat) (l:List Nd) (ts:List Tk),Lq (moT n l ts) (ts.length+1)
 | 0,_,_=>trivial
 | n+1,l,ts=>by
   rw [moT]
   refine Lq.ite (fun h=>?_) fun _=>Lq.ite (fun h=>?_) fun _=>Lq.ite (fun h=>?_) (fun h=>by show _<_;omega)
   ·have ht:=jT h
    exact want_lq.bind fun _ us hu=>(mo_lq n _ us).mono (by omega)
   ·have ht:=jT h
    exact want_lq.bind fun _ us hu=>(mo_lq n _ us).mono (by omega)
   ·have ht:=jT h
    exact want_lq.bind fun _ us hu=>ex_lq.bind fun e vs hv=>want_lq.bind fun _ xs hx=>want_lq.bind fun _ ys hy=>(mo_lq n _ ys).mono (by omega)
theorem p1_lq {ts:List Tk}:Lq (p1T ts) ts.length:=by unfold p1T;exact word_lq.bind fun v us hu=>hu
theorem p2_lq {ts:List Tk}:Lq (p2T ts) ts.length:=by
 unfold p2T
 refine word_lq.bind fun v us hu=>Lq.ite (fun h=>?_) fun _=>hu
 have ht:=jT h
 exact want_lq.bind fun _ vs hv=>by show _<_;omega
theorem ap_lq {n:Nat} {at_:Int} {mods:List Nd} {w:Tk} {ts:List Tk}:Lq (apT n at_ mods w ts) ts.length:=by
 unfold apT
 have h1 : Lq ((if seesT (bs "(") ts then (lsT (xpT n 1) n ts.tail).bind fun l us => (wantT (bs ")") us).bind fun _ us => .ok l us else .ok [] ts) : Rd (List Nd)) (ts.length + 1) := by
  refine Lq.ite (fun h=>?_) (fun h=>by show _<_;omega)
  have ht:=jT h
  exact (ls_lq fun us=>ex_lq).bind fun l us hu=>want_lq.bind fun _ vs hv=>by show _<_;omega
 refine h1.bind fun args us hu=>?_
 have h2:Lq ((if (hdT us).1=1 then lsT (reT n) n us else .ok [] us):Rd (List Nd)) (us.length+1):=by
  refine Lq.ite (fun h=>?_) (fun h=>by show _<_;omega)
  exact (ls_lq fun vs=>re_lq).mono (by omega)
 exact h2.bind fun refs vs hv=>want_lq.bind fun _ xs hx=>by show _<_;omega
theorem stm_lq:∀n:Nat,(∀ts,Lq (blT n ts) ts.length)∧(∀l ts,Lq (sqT n l ts) ts.length)∧(∀ts,Lq (stT n ts) ts.length):=by
 intro n
 induction n with
 | zero=>exact ⟨fun _=>trivial,fun _ _=>trivial,fun _=>trivial⟩
 | succ n ih=>
   obtain ⟨hB,hQ,hS⟩:=ih
   refine ⟨fun ts=>?_,fun l ts=>?_,fun ts=>?_⟩
   ·rw [blT]
    exact want_lq.bind fun t us hu=>(hQ [] us).bind fun l vs hv=>by show _<_;omega
   ·rw [sqT]
    exact Lq.ite (fun h=>jT h) fun _=>(hS ts).bind fun a us hu=>(hQ _ us).mono (by omega)
   ·rw [stT]
    refine Lq.ite (fun h=>?_) fun _=>Lq.ite (fun h=>?_) fun _=>Lq.ite (fun h=>?_) fun _=>Lq.ite (fun h=>?_) fun _=>Lq.ite (fun h=>?_) fun _=>Lq.ite (fun h=>?_) fun _=>Lq.ite (fun h=>?_) fun _=>?_
    ·have ht:=jT h
     exact word_lq.bind fun w us hu=>want_lq.bind fun _ vs hv=>ex_lq.bind fun lo xs hx=>want_lq.bind fun _ ys hy=>ex_lq.bind fun hi zs hz=>(hB zs).bind fun b us' hu'=>by show _<_;omega
    ·have ht:=jT h
     exact ex_lq.bind fun e us hu=>(hB us).bind fun b vs hv=>by show _<_;omega
    ·have ht:=jT h
     have h2 : (if seesT (bs "!") ts.tail = true then ts.tail.tail else ts.tail).length < ts.length := by
      split
      ·have:=jT ‹_›;omega
      ·exact ht
     refine re_lq.bind fun r us hu=>(hB us).bind fun b vs hv=>Lq.ite (fun h=>?_) (fun _=>by show _<_;omega)
     have ht:=jT h
     exact (hB vs.tail).bind fun c xs hx=>by show _<_;omega
    ·have ht:=jT h
     exact re_lq.bind fun q us hu=>want_lq.bind fun _ vs hv=>re_lq.bind fun b xs hx=>want_lq.bind fun _ ys hy=>by show _<_;omega
    ·have ht:=jT h
     exact re_lq.bind fun q us hu=>want_lq.bind fun _ vs hv=>by show _<_;omega
    ·have ht:=jT h
     exact (hB ts.tail).bind fun a us hu=>want_lq.bind fun _ vs hv=>(hB vs).bind fun b xs hx=>by show _<_;omega
    ·exact (mo_lq n [] ts).bind fun mods us hu=>word_lq.bind fun w vs hv=>ap_lq.mono (by omega)
    ·refine word_lq.bind fun w us hu=>Lq.ite (fun h=>?_) fun _=>ap_lq.mono (by omega)
     exact rf_lq.bind fun r vs hv=>want_lq.bind fun _ xs hx=>tr_lq.bind fun e ys hy=>want_lq.bind fun _ zs hz=>by show _<_;omega
theorem st_lq {n:Nat} {ts:List Tk}:Lq (stT n ts) ts.length:=(stm_lq n).2.2 ts
theorem bl_lq {n:Nat} {ts:List Tk}:Lq (blT n ts) ts.length:=(stm_lq n).1 ts
theorem ga_lq {n:Nat} {t:Tk} {ts:List Tk}:Lq (gaT n t ts) ts.length:=by
 unfold gaT
 refine word_lq.bind fun w us hu=>?_
 have h1 : Lq ((if seesT (bs "(") us then (lsT p1T n us.tail).bind fun l us => (wantT (bs ")") us).bind fun _ us => .ok l us else .ok [] us) : Rd (List Nd)) (us.length + 1) := by
  refine Lq.ite (fun h=>?_) (fun h=>by show _<_;omega)
  have ht:=jT h
  exact (ls_lq fun us=>p1_lq).bind fun l us hu=>want_lq.bind fun _ vs hv=>by show _<_;omega
 exact h1.bind fun ints vs hv=>(ls_lq fun us=>p2_lq).bind fun wires xs hx=>bl_lq.bind fun b ys hy=>by show _<_;omega
theorem it_lq {n:Nat} {ts:List Tk}:Lq (itT n ts) ts.length:=by
 unfold itT
 refine Lq.ite (fun h=>?_) fun _=>Lq.ite (fun h=>?_) fun _=>Lq.ite (fun h=>?_) fun _=>st_lq
 ·have ht:ts.tail.length<ts.length:=by
   rcases (Bool.or_eq_true _ _▸h:_∨_) with h | h<;>exact jT h
  exact word_lq.bind fun w us hu=>want_lq.bind fun _ vs hv=>ex_lq.bind fun e xs hx=>want_lq.bind fun _ ys hy=>want_lq.bind fun _ zs hz=>by show _<_;omega
 ·have ht:=jT h
  exact word_lq.bind fun w us hu=>want_lq.bind fun _ vs hv=>ex_lq.bind fun e xs hx=>want_lq.bind fun _ ys hy=>by show _<_;omega
 ·have ht:=jT h
  exact ga_lq.mono (by omega)
end Go.Ql
end

section
namespace Go.Ql
theorem takeW_pos {p:UInt8→Bool} {c:UInt8} {r:Z6} (h:p c=true):1≤((c::r).takeWhile p).length:=by
 rw [List.takeWhile_cons,if_pos h];simp
theorem takeW_le {p:UInt8→Bool} (l:Z6):(l.takeWhile p).length≤l.length:=(List.takeWhile_sublist p).length_le
theorem Ud (c:UInt8) (r:Z6):Yb (c::r)=if lettr c then (if keysT.elem ((c::r).takeWhile fun c=>lettr c||digt c) then 2 else 1,(c::r).takeWhile fun c=>lettr c||digt c)
 else if digt c then (if ((c::r).takeWhile digt).length>9∨(((c::r).takeWhile digt).length>1∧c=48) then 4 else 3,(c::r).takeWhile digt)
 else if twosT.elem ((c::r).take 2) then (2,(c::r).take 2)
 else if onesT.elem c then (2,[c]) else (4,[]):=rfl
theorem tokenL_sort (r:Z6):0≤(Yb r).1∧(Yb r).1≤4:=by
 cases r with
 | nil=>exact ⟨by decide,by decide⟩
 | cons c r=>
   rw [Ud]
   split
   ·dsimp only;split<;>omega
   ·split
    ·dsimp only;split<;>omega
    ·split
     ·dsimp only;omega
     ·split<;>(dsimp only;omega)
theorem tokenL_len {r:Z6} (h0:(Yb r).1≠0) (h4:(Yb r).1≠4):1≤(Yb r).2.length∧(Yb r).2.length≤r.length:=by
 cases r with
 | nil=>exact absurd rfl h0
 | cons c r=>
   rw [Ud] at h0 h4 ⊢
   split
   ·rename_i h
    exact ⟨takeW_pos (p:=fun c=>lettr c||digt c) (by simp [h]),takeW_le _⟩
   ·rename_i h
    rw [if_neg h] at h0 h4
    split
    ·rename_i h'
     exact ⟨takeW_pos h',takeW_le _⟩
    ·rename_i h'
     rw [if_neg h'] at h0 h4
     split
     ·rename_i h2
      refine ⟨?_,by simp [List.length_take];omega⟩
      simp only [List.length_take,za];omega
     ·rename_i h2
      rw [if_neg h2] at h0 h4
      split
      ·simp
      ·rename_i h3
       rw [if_neg h3] at h4
       exact absurd rfl h4
theorem Ug:∀(b:Bool) (l:Z6),JX b l≤l.length
 | b,[]=>by cases b<;>simp [JX]
 | true,c::r=>by
   rw [JX,za]
   have:=Ug (!(c==10)) r
   omega
 | false,c::r=>by
   rw [JX,za]
   have h1:=Ug false r
   have h2:=Ug true r
   split
   ·omega
   ·split<;>omega
theorem toksN_fuel:∀(n m:Nat) (rest:Z6) (i:Nat),rest.length<n→rest.length<m→toksN n rest i=toksN m rest i
 | 0,_,_,_,h,_=>by omega
 | _,0,_,_,_,h=>by omega
 | n+1,m+1,rest,i,hn,hm=>by
   rw [toksN,toksN]
   congr 1
   split
   ·rfl
   ·rename_i h
    have hl:=tokenL_len (r:=rest.drop (JX false rest)) (by omega) (by omega)
    have hb:=Ug false rest
    simp only [zo] at hl
    exact toksN_fuel n m _ _ (by simp only [zo];omega) (by simp only [zo];omega)
def toksF (text:Z6) (i:Nat):List Tk:=toksN (text.length+1) (text.drop i) i
def begT (text:Z6) (i:Nat):Nat:=i+JX false (text.drop i)
def tokF (text:Z6) (i:Nat):Tk:=((Yb (text.drop (begT text i))).1,(Yb (text.drop (begT text i))).2,(begT text i:Int))
def endF (text:Z6) (i:Nat):Nat:=begT text i+(Yb (text.drop (begT text i))).2.length
theorem toksF_eq (text:Z6) (i:Nat):toksF text i=tokF text i::if (tokF text i).1=0∨(tokF text i).1=4 then [] else toksF text (endF text i):=by
 unfold toksF
 rw [toksN]
 unfold tokF endF begT
 simp only [List.drop_drop]
 congr 1
 split
 ·rfl
 ·rename_i h
  have hl:=tokenL_len (r:=text.drop (i+JX false (text.drop i))) (by omega) (by omega)
  have hb:=Ug false (text.drop i)
  simp only [zo] at hl hb
  exact toksN_fuel _ _ _ _ (by simp only [zo];omega) (by simp only [zo];omega)
theorem toksT_eq (text:Z6):toksT text=toksF text 0:=rfl
theorem begT_le {text:Z6} {i:Nat} (h:i≤text.length):i≤begT text i∧begT text i≤text.length:=by
 unfold begT
 have hb:=Ug false (text.drop i)
 simp only [zo] at hb
 omega
theorem endF_le {text:Z6} {i:Nat} (h:i≤text.length) (h0:(tokF text i).1≠0) (h4:(tokF text i).1≠4):begT text i<endF text i∧endF text i≤text.length:=by
 have hb:=begT_le h
 have hl:=tokenL_len (r:=text.drop (begT text i)) h0 h4
 simp only [zo] at hl
 unfold endF
 omega
def TkOk (t:Tk):Prop:=0≤t.1∧t.1≤4∧0≤t.2.2∧(t.1=3→1≤t.2.1.length∧t.2.1.length≤9 ∧ ∀c∈t.2.1,digt c=true)
theorem takeW_all {p:UInt8→Bool} (l:Z6):∀c∈l.takeWhile p,p c=true:=by
 intro c hc
 have h:=List.all_takeWhile (p:=p) (l:=l)
 exact zu.1 h c hc
theorem tokF_ok (text:Z6) (i:Nat):TkOk (tokF text i):=by
 have hs:=tokenL_sort (text.drop (begT text i))
 refine ⟨hs.1,hs.2,by unfold tokF;dsimp only;omega,fun h=>?_⟩
 unfold tokF at h ⊢
 dsimp only at h ⊢
 generalize text.drop (begT text i)=r at h ⊢
 cases r with
 | nil=>cases h
 | cons c r=>
   rw [Ud] at h ⊢
   split at h
   ·dsimp only at h;split at h<;>omega
   ·rename_i h1
    rw [if_neg h1]
    split at h
    ·rename_i h2
     rw [if_pos h2]
     dsimp only at h ⊢
     split at h
     ·omega
     ·rename_i h3
      exact ⟨takeW_pos h2,by omega,takeW_all _⟩
    ·split at h
     ·dsimp only at h;omega
     ·split at h<;>(dsimp only at h;omega)
def TksOk:List Tk→Prop
 | []=>False
 | [t]=>TkOk t∧(t.1=0∨t.1=4)
 | t::l=>TkOk t∧t.1≠0∧t.1≠4∧TksOk l
theorem toksF_ok (text:Z6):∀(k i:Nat),text.length-i<k→i≤text.length→TksOk (toksF text i)∧(toksF text i).length+i≤text.length+1
 | 0,_,h,_=>by omega
 | k+1,i,h,hi=>by
   rw [toksF_eq]
   have hok:=tokF_ok text i
   split
   ·rename_i hs
    exact ⟨⟨hok,hs⟩,by simp;omega⟩
   ·rename_i hs
    have he:=endF_le hi (by omega) (by omega)
    have hb:=begT_le hi
    obtain ⟨h1,h2⟩:=toksF_ok text k (endF text i) (by omega) he.2
    refine ⟨?_,by rw [za];omega⟩
    cases hq:toksF text (endF text i) with
    | nil=>rw [hq] at h1;exact absurd h1 id
    | cons a l=>rw [hq] at h1;exact ⟨hok,by omega,by omega,h1⟩
theorem toksT_ok (text:Z6):TksOk (toksT text)∧(toksT text).length≤text.length+1:=by
 have h:=toksF_ok text (text.length+1) 0 (by omega) (by omega)
 rw [toksT_eq];exact ⟨h.1,by omega⟩
end Go.Ql
end

section
set_option maxRecDepth 4000
namespace W
open Go Go.Ql
theorem UQ {p:UInt8→Prop} (h:∀n,n<256→p (UInt8.ofNat n)) (c:UInt8):p c:=by
 have:=h c.toNat (UInt8.toNat_lt c)
 rwa [UInt8.ofNat_toNat] at this
theorem letter_ok (c:UInt8):JN (c.toNat:Int)=some (lettr c):=UQ (p:=fun c=>JN (c.toNat:Int)=some (lettr c)) (by decide +kernel) c
theorem digit_ok (c:UInt8):JL (c.toNat:Int)=some (digt c):=UQ (p:=fun c=>JL (c.toNat:Int)=some (digt c)) (by decide +kernel) c
theorem next1_ok (c:UInt8):Js (c.toNat:Int)=some (lettr c||digt c):=UQ (p:=fun c=>Js (c.toNat:Int)=some (lettr c||digt c)) (by decide +kernel) c
theorem blk_ok (c:UInt8):jf.c2 (c.toNat:Int) some=some (blk1 c):=UQ (p:=fun c=>jf.c2 (c.toNat:Int) some=some (blk1 c)) (by decide +kernel) c
theorem ones_ok (c:UInt8):jA.cs_ (c.toNat:Int) some=some (onesT.elem c):=UQ (p:=fun c=>jA.cs_ (c.toNat:Int) some=some (onesT.elem c)) (by decide +kernel) c
theorem u8_int (c:UInt8) (n:Nat) (h:n<256):((c.toNat:Int)==(n:Int))=(c==UInt8.ofNat n):=by
 rw [Bool.eq_iff_iff,beq_iff_eq,beq_iff_eq]
 refine ⟨fun e=>?_,fun e=>?_⟩
 ·have:c.toNat=n:=by omega
  rw [←this,UInt8.ofNat_toNat]
 ·rw [e,UInt8.toNat_ofNat'];omega
theorem Hz {b:Bool} {x:Option Bool}:br b (some b) x=br b (some true) x:=by cases b<;>rfl
theorem elem_c {w a:Z6} {l:List Z6}:(a::l).elem w=(w==a||l.elem w):=List.elem_cons
theorem elem_n {w:Z6}:([]:List Z6).elem w=false:=rfl
theorem reserved_ok (w:Z6):Jz w=some (keysT.elem w):=by
 have h:keysT=[[113,117,98,105,116],[98,105,116],[99,111,110,115,116],[103,97,116,101],[102,111,114],[105,110],[119,104,101,110],[105,102],[101,108,115,101],[109,101,97,115,117,114,101],[114,101,115,101,116],[119,105,116,104,105,110],[97,112,112,108,121],[105,110,118],[99,116,114,108],[112,111,119],[115,105,122,101]]:=by decide
 have h1:Jz.cq_ w some=some (keysT.elem w):=by
  unfold Jz.cq_
  simp only [Hz,br_or,h,elem_c,elem_n,Bool.or_false]
 unfold Jz
 rw [h1,jx]
 cases keysT.elem w<;>rfl
theorem twos_ok (w:Z6):jA.cr_ w some=some (twosT.elem w):=by
 have h:twosT=[[46,46],[45,62],[94,61],[61,61],[33,61],[60,61],[62,61],[42,42]]:=by decide
 unfold jA.cr_
 simp only [Hz,br_or,h,elem_c,elem_n,Bool.or_false]
theorem YC {text:Z6} {j:Nat} {c:UInt8} {r:Z6} (h:text.drop j=c::r):idx text (j:Int)=some c∧j<text.length∧text.drop (j+1)=r:=by
 have hl:j<text.length:=by
  refine Nat.lt_of_not_le fun hh=>?_
  rw [List.drop_eq_nil_of_le hh] at h;cases h
 rw [List.drop_eq_getElem_cons hl] at h
 injection h with h1 h2
 exact ⟨by rw [Ui hl,h1],hl,h2⟩
theorem w64_1 {text:Z6} {j:Nat} (ht:text.length≤40000) (h:j<text.length):IntKind.i64.wrap ((j:Int)+1)=((j+1:Nat):Int):=by
 rw [Yn (by omega)];omega
theorem Ux (text:Z6) (j:Nat) (hj:j≤text.length):(j=text.length∧text.drop j=[]) ∨ ∃c r,text.drop j=c::r:=by
 cases h:text.drop j with
 | nil=>
   have:=List.drop_eq_nil_iff.1 h
   exact .inl ⟨by omega,rfl⟩
 | cons c r=>exact .inr ⟨c,r,rfl⟩
theorem while_iter {f:Int→Option (Int⊕Int)} {text:Z6} {p:UInt8→Bool}
 (h1:∀(j:Nat) c r,text.drop j=c::r→p c=true→f (j:Int)=some (.inl ((j+1:Nat):Int)))
 (h2:∀(j:Nat) c r,text.drop j=c::r→p c=false→f (j:Int)=some (.inr (j:Int)))
 (h3:f (text.length:Int)=some (.inr (text.length:Int))) :
 ∀(k i:Nat),i≤text.length→text.length-i<k→iter f (i:Int)=some (((i+((text.drop i).takeWhile p).length:Nat)):Int)
 | 0,_,_,h=>by omega
 | k+1,i,hi,hk=>by
   rcases Ux text i hi with ⟨e,h⟩ | ⟨c,r,h⟩
   ·rw [h,e];exact kf h3
   ·obtain ⟨_,hl,hr⟩:=YC h
    cases hp:p c with
    | true=>
      refine ke (h1 i c r h hp) ?_
      rw [while_iter h1 h2 h3 k (i+1) (by omega) (by omega),h,hr,List.takeWhile_cons,if_pos hp,za]
      congr 2;omega
    | false=>
      rw [kf (h2 i c r h hp),h,List.takeWhile_cons,if_neg (by simp [hp])]
      rfl
section
variable {text:Z6} (ht:text.length≤40000)
include ht
theorem while_name {i:Nat} (hi:i≤text.length) {x2:Int} {x3:Z6} {x4:Int} :
 jv text i x2 x3 x4=some ((text.drop i).takeWhile (fun c=>lettr c||digt c),text,((i+((text.drop i).takeWhile (fun c=>lettr c||digt c)).length:Nat):Int),x2,x3,x4,()):=by
 have hs:=while_iter (text:=text) (p:=fun c=>lettr c||digt c) (f:=fun s=>jv.ca_ text s some) (fun j c r h hp=>by
  obtain ⟨e,hl,_⟩:=YC h
  simp only [jv.ca_,jv.c2,kn (show (j:Int)<(text.length:Int) by omega),e,jx,next1_ok,hp,br_tt,w64_1 ht hl]) (fun j c r h hp=>by
  obtain ⟨e,hl,_⟩:=YC h
  simp only [jv.ca_,jv.c2,kn (show (j:Int)<(text.length:Int) by omega),e,jx,next1_ok,hp,br_ff]) (by
  simp only [jv.ca_,jv.c2,kM (Int.lt_irrefl _),jx,br_ff]) (text.length+1) i hi (by omega)
 have hle:=takeW_le (p:=fun c=>lettr c||digt c) (text.drop i)
 simp only [zo] at hle
 unfold jv
 rw [hs,jx]
 simp only [jv.c4]
 rw [kC (by simp;omega)]
 simp only [jx,Int.toNat_natCast]
 congr 2
 rw [List.drop_take]
 rw [show i+((text.drop i).takeWhile (fun c=>lettr c||digt c)).length-i=((text.drop i).takeWhile (fun c=>lettr c||digt c)).length by omega]
 exact (List.prefix_iff_eq_take.1 (List.takeWhile_prefix _)).symm
theorem while_digit {i:Nat} (hi:i≤text.length) {x2:Int} {x3:Z6} {x4:Int} :
 js text i x2 x3 x4=some ((text.drop i).takeWhile digt,text,((i+((text.drop i).takeWhile digt).length:Nat):Int),x2,x3,x4,()):=by
 have hs:=while_iter (text:=text) (p:=digt) (f:=fun s=>js.ca_ text s some) (fun j c r h hp=>by
  obtain ⟨e,hl,_⟩:=YC h
  simp only [js.ca_,js.c2,kn (show (j:Int)<(text.length:Int) by omega),e,jx,digit_ok,hp,br_tt,w64_1 ht hl]) (fun j c r h hp=>by
  obtain ⟨e,hl,_⟩:=YC h
  simp only [js.ca_,js.c2,kn (show (j:Int)<(text.length:Int) by omega),e,jx,digit_ok,hp,br_ff]) (by
  simp only [js.ca_,js.c2,kM (Int.lt_irrefl _),jx,br_ff]) (text.length+1) i hi (by omega)
 have hle:=takeW_le (p:=digt) (text.drop i)
 simp only [zo] at hle
 unfold js
 rw [hs,jx]
 simp only [js.c4]
 rw [kC (by simp;omega)]
 simp only [jx,Int.toNat_natCast]
 congr 2
 rw [List.drop_take]
 rw [show i+((text.drop i).takeWhile digt).length-i=((text.drop i).takeWhile digt).length by omega]
 exact (List.prefix_iff_eq_take.1 (List.takeWhile_prefix _)).symm
theorem sign_ok {i:Nat} {c:UInt8} {r:Z6} (h:text.drop i=c::r) {x2:Int} {x3:Z6} {x4:Int} :
 jA text i x2 x3 x4=(if twosT.elem ((c::r).take 2) then some ((c::r).take 2,text,((i+2:Nat):Int),x2,x3,x4,())
  else if onesT.elem c then some ([c],text,((i+1:Nat):Int),x2,x3,x4,()) else some ([],text,(i:Int),x2,x3,x4,())):=by
 obtain ⟨_,hl,_⟩:=YC h
 unfold jA
 have e0:jA.c1 text (i:Int) some=some ():=by
  simp only [jA.c1]
  rw [kC (by simp;omega)];rfl
 have e1:List.drop (Int.toNat (i:Int)) (List.take (Int.toNat (text.length:Int)) text)=c::r:=by
  rw [Int.toNat_natCast,Int.toNat_natCast,List.take_length,h]
 have e2:idx (c::r) (0:Int)=some c:=rfl
 rw [e0,jx,e1]
 have hlen:text.length=i+(c::r).length:=by
  have:=congrArg List.length h
  rw [zo] at this;omega
 have e3:jA.cz_ (c::r) some=some (if twosT.elem ((c::r).take 2) then .inl () else .inr ()):=by
  unfold jA.cz_
  cases r with
  | nil=>
    have:twosT.elem ([c].take 2)=false:=UQ (p:=fun c=>twosT.elem ([c].take 2)=false) (by decide +kernel) c
    rw [this];rfl
  | cons d r=>
    rw [kn (by simp only [za];omega),kC (zj (by simp only [za];omega)),jx,twos_ok,jx]
    cases twosT.elem ((c::d::r).take 2)<;>rfl
 rw [e3,jx]
 cases h2:twosT.elem ((c::r).take 2) with
 | true=>
   have hr:2≤(c::r).length:=by
    cases r with
    | nil=>
      have:twosT.elem ([c].take 2)=false:=UQ (p:=fun c=>twosT.elem ([c].take 2)=false) (by decide +kernel) c
      rw [this] at h2;cases h2
    | cons d r=>simp
   simp only [if_true,JQ]
   rw [Yn (by omega)]
   rfl
 | false=>
   simp only [zd,if_false,kz,e2,jx,ones_ok]
   cases h1:onesT.elem c with
   | true=>
     simp only [br_tt,if_true]
     rw [kC (zj (by simp only [za];omega)),jx,w64_1 ht hl]
     rfl
   | false=>rfl
theorem blank_ok {i:Nat} (hi:i≤text.length) {x2:Int} {x3:Z6} {x4:Int} :
 jf text i x2 x3 x4=some (text,(begT text i:Int),x2,x3,x4,()):=by
 have inner:∀(j:Nat) (c:UInt8) (r:Z6),text.drop j=c::r→c≠10 → ∃k,iter (fun s=>jf.cx_ text s some) (j:Int)=some k ∧ ∃n:Nat,k=n∧j<n∧n≤text.length∧n+JX false (text.drop n)=j+JX true (text.drop j):=by
  intro j c r hj hc
  refine iter_loop (J:=fun s:Int=>∃n:Nat,s=n∧j≤n∧n≤text.length∧n+JX true (text.drop n)=j+JX true (text.drop j)) (fun s:Int=>text.length-s.toNat) ?_ ⟨j,rfl,zt _,by have:=(YC hj).2.1;omega,rfl⟩
  rintro s ⟨n,rfl,hn,hn',he⟩
  rcases Ux text n hn' with ⟨e,h⟩ | ⟨d,q,h⟩
  ·refine .inl ⟨n,?_,n,rfl,?_,hn',?_⟩
   ·simp only [jf.cx_,jf.c5,kM (show ¬(n:Int)<(text.length:Int) by omega),jx,br_ff]
   ·have:=(YC hj).2.1;omega
   ·rw [h] at he ⊢;exact he
  ·obtain ⟨e,hl,hq⟩:=YC h
   have e5:jf.c5 text (n:Int) some=some (!(d==10)):=by
    simp only [jf.c5,kn (show (n:Int)<(text.length:Int) by omega),e,jx]
    exact congrArg some (congrArg not (u8_int d 10 (by omega)))
   cases hd:d==10 with
   | true=>
     refine .inl ⟨n,?_,n,rfl,?_,hn',?_⟩
     ·simp only [jf.cx_,e5,hd,jx,Bool.not_true,br_ff]
     ·refine Nat.lt_of_le_of_ne hn fun hh=>?_
      subst hh
      rw [hj] at h;injection h with h1 h2
      subst h1;exact hc (beq_iff_eq.1 hd)
     ·rw [h] at he ⊢
      rw [JX] at he
      rw [show JX false (d::q)=if blk1 d then 1+JX false q else if d==47&&q.head? == some 47 then 1+JX true q else 0 from by rw [JX]]
      have hb:blk1 d=true:=by rw [beq_iff_eq.1 hd];rfl
      rw [hd] at he
      simp only [hb,if_true,Bool.not_true] at he ⊢
      exact he
   | false=>
     refine .inr ⟨((n+1:Nat):Int),?_,⟨n+1,rfl,by omega,by omega,?_⟩,by omega⟩
     ·simp only [jf.cx_,e5,hd,jx,Bool.not_false,br_tt,w64_1 ht hl]
     ·rw [h,JX,hd,Bool.not_false] at he
      rw [hq];omega
 have outer:∃y,iter (fun s=>jf.cv_ text s some) (i:Int)=some y∧(y=.inl (begT text i:Int)∨y=.inr (begT text i:Int)):=by
  refine iter_loop (J:=fun s:Int=>∃n:Nat,s=n∧n≤text.length∧n+JX false (text.drop n)=begT text i) (fun s:Int=>text.length-s.toNat) ?_ ⟨i,rfl,hi,rfl⟩
  rintro s ⟨n,rfl,hn',he⟩
  rcases Ux text n hn' with ⟨e,h⟩ | ⟨d,q,h⟩
  ·refine .inl ⟨.inr (n:Int),?_,.inr ?_⟩
   ·simp only [jf.cv_,jf.c0,jx,kM (show ¬(n:Int)<(text.length:Int) by omega)]
   ·rw [h] at he;rw [←he];rfl
  ·obtain ⟨e,hl,hq⟩:=YC h
   have e1:jf.c1 text (n:Int) some=some ((d.toNat:Int)):=by simp only [jf.c1,e,jx]
   have e4:jf.c4 (d.toNat:Int) text (n:Int) some=some (d==47&&q.head? == some 47):=by
    simp only [jf.c4]
    rw [show ((d.toNat:Int)==(47:Int))=(d==47) from u8_int d 47 (by omega)]
    cases hd:d==47 with
    | false=>rfl
    | true=>
      rw [br_tt,w64_1 ht hl]
      rcases Ux text (n+1) (by omega) with ⟨e',h'⟩ | ⟨d',q',h'⟩
      ·rw [kM (by omega)]
       rw [hq] at h';rw [h'];rfl
      ·obtain ⟨e'',hl',_⟩:=YC h'
       rw [kn (by omega),e'',jx]
       rw [hq] at h';rw [h']
       exact congrArg some ((u8_int d' 47 (by omega)).trans (by cases hh:d'==47<;>simp_all))
   rw [h,JX] at he
   cases hb:blk1 d with
   | true=>
     rw [hb] at he
     refine .inr ⟨((n+1:Nat):Int),?_,⟨n+1,rfl,by omega,?_⟩,by omega⟩
     ·simp only [jf.cv_,jf.c0,jx,kn (show (n:Int)<(text.length:Int) by omega),e1,blk_ok,hb,br_tt,w64_1 ht hl]
     ·rw [hq];simp only [if_true] at he;omega
   | false=>
     rw [hb] at he
     simp only [zd,if_false] at he
     cases hr:(d==47&&q.head? == some 47) with
     | true=>
       rw [hr] at he
       simp only [if_true] at he
       have hd:d=47:=by
        have:=(z7 _ _▸hr:_∧_).1
        exact beq_iff_eq.1 this
       obtain ⟨k,hk,m,rfl,hm,hm',hme⟩:=inner n d q h (by rw [hd];decide)
       refine .inr ⟨(m:Int),?_,⟨m,rfl,hm',?_⟩,by omega⟩
       ·simp only [jf.cv_,jf.c0,jx,kn (show (n:Int)<(text.length:Int) by omega),e1,blk_ok,hb,br_ff,e4,hr,br_tt,hk]
       ·rw [hme,h,JX,hd]
        simpa using he
     | false=>
       rw [hr] at he
       simp only [zd,if_false] at he
       refine .inl ⟨.inl (n:Int),?_,.inl (by rw [←he];rfl)⟩
       simp only [jf.cv_,jf.c0,jx,kn (show (n:Int)<(text.length:Int) by omega),e1,blk_ok,hb,br_ff,e4,hr]
 obtain ⟨y,hy,hh⟩:=outer
 unfold jf
 rw [hy,jx]
 rcases hh with rfl | rfl<;>rfl
end
end W
end

section
set_option maxRecDepth 4000
namespace W
open Go Go.Ql
abbrev PS:=Z6×Int×Int×Z6×Int×Unit
def srt (x:Int):Int:=if x=4 then 2 else if x=5 then 4 else x
structure At (text:Z6) (ts:List Tk) (p:PS):Prop where
 txt:p.1=text
 len:text.length≤40000
 lo:0≤p.2.2.1
 hi:p.2.2.1≤5
 ok:TksOk ts
 cnt:ts.length≤text.length+1
 hd:hdT ts=(srt p.2.2.1,p.2.2.2.1,p.2.2.2.2.1)
 key:p.2.2.1=2→rankT p.2.2.2.1=0
 rest:(hdT ts).1≠0→(hdT ts).1≠4 → ∃i:Nat,i≤text.length∧p.2.1=i∧ts.tail=toksF text i
theorem key_rank {w:Z6} (h:keysT.elem w=true):rankT w=0:=by
 have h1:∀w∈keysT,rankT w=0:=by decide
 exact h1 w (List.elem_iff.1 h)
theorem toksF_all {text:Z6} {i:Nat} (hi:i≤text.length):TksOk (toksF text i)∧(toksF text i).length+i≤text.length+1:=toksF_ok text (text.length+1) i (by omega) hi
theorem next_ok {text:Z6} (ht:text.length≤40000) {i:Nat} (hi:i≤text.length) {x2:Int} {x3:Z6} {x4:Int} :
 ∃(s:Int) (k:Nat),jD text i x2 x3 x4=some ((s,(tokF text i).2.1,(tokF text i).2.2),text,(k:Int),x2,x3,x4,()) ∧
  0≤s∧s≤5∧srt s=(tokF text i).1∧(s=2→rankT (tokF text i).2.1=0)∧((tokF text i).1≠0→(tokF text i).1≠4→k=endF text i):=by
 have hb:=begT_le hi
 unfold jD
 rw [blank_ok ht hi,jx]
 simp only [jD.c3,jx]
 unfold endF tokF
 dsimp only
 rcases Ux text (begT text i) hb.2 with ⟨e,h⟩ | ⟨c,r,h⟩
 ·refine ⟨0,begT text i,?_,by omega,by omega,?_,by omega,?_⟩
  ·rw [Hd (by rw [beq_iff_eq];omega),h]
   rfl
  ·rw [h];rfl
  ·rw [h];intro hh;exact absurd rfl hh
 ·obtain ⟨e,hl,hr⟩:=YC h
  rw [UH (by rw [beq_eq_false_iff_ne];omega)]
  have e5:jD.c5 text (begT text i:Int) some=some ((c.toNat:Int)):=by simp only [jD.c5,e,jx]
  simp only [jD.cD_,e5,jx,letter_ok]
  rw [h,Ud]
  cases hc:lettr c with
  | true=>
    simp only [br_tt,while_name ht hb.2,jx,reserved_ok,h,if_true]
    cases hk:keysT.elem ((c::r).takeWhile fun c=>lettr c||digt c) with
    | true=>
      simp only [br_tt,jx,if_true]
      exact ⟨2,_,rfl,by omega,by omega,rfl,fun _=>key_rank hk,fun _ _=>rfl⟩
    | false=>
      simp only [br_ff,jx]
      exact ⟨1,_,rfl,by omega,by omega,rfl,fun h=>by omega,fun _ _=>rfl⟩
  | false=>
    simp only [br_ff,digit_ok,jx]
    cases hd:digt c with
    | true=>
      simp only [br_tt,while_digit ht hb.2,jx,h,zd,if_false,if_true]
      have e15:jD.c15 (c.toNat:Int) ((c::r).takeWhile digt) some=some (decide (((c::r).takeWhile digt).length>9∨(((c::r).takeWhile digt).length>1∧c=48))):=by
       unfold jD.c15
       rw [show ((c.toNat:Int)==(48:Int))=(c==48) from u8_int c 48 (by omega)]
       generalize ((c::r).takeWhile digt).length=n
       by_cases h1:n>9
       ·rw [kn (by omega)];simp [h1]
       ·rw [kM (by omega)]
        by_cases h2:n>1
        ·rw [kn (by omega)];simp [h1,h2];rfl
        ·rw [kM (by omega)];simp [h1,h2]
      rw [e15,jx]
      by_cases hbad:((c::r).takeWhile digt).length>9∨(((c::r).takeWhile digt).length>1∧c=48)
      ·rw [kn hbad,if_pos hbad]
       exact ⟨5,_,rfl,by omega,by omega,rfl,fun h=>by omega,fun _ hh=>absurd rfl hh⟩
      ·rw [kM hbad,if_neg hbad]
       exact ⟨3,_,rfl,by omega,by omega,rfl,fun h=>by omega,fun _ _=>rfl⟩
    | false=>
      simp only [br_ff,sign_ok ht h,zd,if_false]
      cases h2:twosT.elem ((c::r).take 2) with
      | true=>
        simp only [if_true,jx]
        have hne:((c::r).take 2==([]:Z6))=false:=by cases r<;>rfl
        have hlen:((c::r).take 2).length=2:=by
         cases r with
         | nil=>
           have:twosT.elem ([c].take 2)=false:=UQ (p:=fun c=>twosT.elem ([c].take 2)=false) (by decide +kernel) c
           rw [this] at h2;cases h2
         | cons d r=>rfl
        simp only [hne,br_ff,jx]
        exact ⟨4,_,rfl,by omega,by omega,rfl,fun h=>by omega,fun _ _=>by rw [hlen]⟩
      | false=>
        simp only [zd,if_false]
        cases h1:onesT.elem c with
        | true=>
          simp only [if_true,jx]
          simp only [show ([c]==([]:Z6))=false from rfl,br_ff,jx]
          exact ⟨4,_,rfl,by omega,by omega,rfl,fun h=>by omega,fun _ _=>rfl⟩
        | false=>
          simp only [zd,if_false,jx]
          simp only [show (([]:Z6)==([]:Z6))=true from rfl,br_tt,jx]
          exact ⟨5,_,rfl,by omega,by omega,rfl,fun h=>by omega,fun _ hh=>absurd rfl hh⟩
theorem at_next {text:Z6} (ht:text.length≤40000) {i:Nat} (hi:i≤text.length) {x2:Int} {x3:Z6} {x4:Int} :
 ∃(t:Int×Z6×Int) (k:Int),jD text i x2 x3 x4=some (t,text,k,x2,x3,x4,())∧At text (toksF text i) (text,k,t.1,t.2.1,t.2.2,()):=by
 obtain ⟨s,k,h1,h2,h3,h4,h5,h6⟩:=next_ok ht hi (x2:=x2) (x3:=x3) (x4:=x4)
 have ha:=toksF_all hi
 have he:hdT (toksF text i)=tokF text i:=by rw [toksF_eq];rfl
 refine ⟨_,_,h1,⟨rfl,ht,h2,h3,ha.1,by omega,?_,h5,?_⟩⟩
 ·rw [he];exact Prod.ext h4.symm rfl
 ·rw [he];intro g0 g4
  refine ⟨k,?_,rfl,?_⟩
  ·rw [h6 g0 g4];exact (endF_le hi g0 g4).2
  ·rw [toksF_eq,if_neg (by omega),h6 g0 g4];rfl
theorem YZ {text:Z6} {ts:List Tk} {p:PS} (h:At text ts p) (h0:(hdT ts).1≠0) (h4:(hdT ts).1≠4) :
 ∃p',jI p.1 p.2.1 p.2.2.1 p.2.2.2.1 p.2.2.2.2.1=some ((p.2.2.1,p.2.2.2.1,p.2.2.2.2.1),p')∧At text ts.tail p':=by
 obtain ⟨i,hi,hp,ht⟩:=h.rest h0 h4
 obtain ⟨t,k,h1,h2⟩:=at_next h.len hi (x2:=p.2.2.1) (x3:=p.2.2.2.1) (x4:=p.2.2.2.2.1)
 refine ⟨_,?_,ht▸h2⟩
 unfold jI
 rw [h.txt,hp,h1,jx]
theorem VU {text:Z6} {ts:List Tk} {p:PS} (h:At text ts p) (w:Z6) :
 jM w p.1 p.2.1 p.2.2.1 p.2.2.2.1 p.2.2.2.2.1=some (seesT w ts,p):=by
 have h1:jM.c1 w p.2.2.1 p.2.2.2.1 some=some (seesT w ts):=by
  unfold jM.c1 seesT
  rw [h.hd]
  unfold srt
  dsimp only
  by_cases h4:p.2.2.1=4
  ·rw [Hd (by simpa using h4)];simp [h4]
  ·rw [UH (by simpa using h4)]
   by_cases h2:p.2.2.1=2
   ·rw [Hd (by simpa using h2)];simp [h2]
   ·rw [UH (by simpa using h2),if_neg h4]
    split
    ·simp
    ·simp [h2]
 unfold jM
 rw [h1,jx]
theorem kq {text:Z6} {ts:List Tk} {p:PS} (h:At text ts p) {w:Z6} (hw:seesT w ts=true) :
 ∃p',jq w p.1 p.2.1 p.2.2.1 p.2.2.2.1 p.2.2.2.2.1=some (true,p')∧At text ts.tail p':=by
 have hs:=YW hw
 obtain ⟨p',h1,h2⟩:=YZ h (by omega) (by omega)
 refine ⟨p',?_,h2⟩
 unfold jq
 rw [VU h,jx,hw]
 simp only [br_tt,h1,jx]
theorem ko {text:Z6} {ts:List Tk} {p:PS} (h:At text ts p) {w:Z6} (hw:seesT w ts=false) :
 jq w p.1 p.2.1 p.2.2.1 p.2.2.2.1 p.2.2.2.2.1=some (false,p):=by
 unfold jq
 rw [VU h,jx,hw]
 simp only [br_ff]
def Run {α:Type} (text:Z6) (r:Option ((α×PS)⊕(Int×PS))):Rd α→Prop
 | .ok a us=>∃p,r=some (.inl (a,p))∧At text us p
 | .err e=>∃p,r=some (.inr (e,p))
 | .out=>True
theorem Run.bind {α β:Type} {text:Z6} {r:Option ((α×PS)⊕(Int×PS))} {s:Rd α} {f:α→List Tk→Rd β} {k:(α×PS)→Option ((β×PS)⊕(Int×PS))} {g:Int×PS→Option ((β×PS)⊕(Int×PS))}
 (h:Run text r s) (hk:∀a us p,s=.ok a us→At text us p→Run text (k (a,p)) (f a us)) (hg:∀v,∃p,g v=some (.inr (v.1,p))):Run text (bnd r fun y=>sel y k g) (s.bind f):=by
 cases s with
 | ok a us=>
   obtain ⟨p,rfl,hp⟩:=h
   exact hk a us p rfl hp
 | err e=>
   obtain ⟨p,rfl⟩:=h
   exact hg (e,p)
 | out=>trivial
def tkE (x:Int×Z6×Int):Tk:=(srt x.1,x.2.1,x.2.2)
def RunT (text:Z6) (r:Option (((Int×Z6×Int)×PS)⊕(Int×PS))):Rd Tk→Prop
 | .ok a us=>∃x p,r=some (.inl (x,p))∧tkE x=a∧At text us p
 | .err e=>∃p,r=some (.inr (e,p))
 | .out=>True
theorem RunT.bind {β:Type} {text:Z6} {r:Option (((Int×Z6×Int)×PS)⊕(Int×PS))} {s:Rd Tk} {f:Tk→List Tk→Rd β} {k:((Int×Z6×Int)×PS)→Option ((β×PS)⊕(Int×PS))} {g:Int×PS→Option ((β×PS)⊕(Int×PS))}
 (h:RunT text r s) (hk:∀x us p,s=.ok (tkE x) us→At text us p→Run text (k (x,p)) (f (tkE x) us)) (hg:∀v,∃p,g v=some (.inr (v.1,p))):Run text (bnd r fun y=>sel y k g) (s.bind f):=by
 cases s with
 | ok a us=>
   obtain ⟨x,p,rfl,rfl,hp⟩:=h
   exact hk x us p rfl hp
 | err e=>
   obtain ⟨p,rfl⟩:=h
   exact hg (e,p)
 | out=>trivial
theorem At.tk {text:Z6} {ts:List Tk} {p:PS} (h:At text ts p):tkE (p.2.2.1,p.2.2.2.1,p.2.2.2.2.1)=hdT ts:=h.hd.symm
theorem At.word {text:Z6} {ts:List Tk} {p:PS} (h:At text ts p):p.2.2.2.1=(hdT ts).2.1:=by rw [h.hd]
theorem At.place {text:Z6} {ts:List Tk} {p:PS} (h:At text ts p):p.2.2.2.2.1=(hdT ts).2.2:=by rw [h.hd]
theorem VE {text:Z6} {ts:List Tk} {p:PS} (h:At text ts p):RunT text (jJ p.1 p.2.1 p.2.2.1 p.2.2.2.1 p.2.2.2.2.1) (wordT ts):=by
 unfold jJ jJ.ce_ wordT
 have hs:(p.2.2.1 !=(1:Int))=!decide ((hdT ts).1=1):=by
  rw [h.hd];unfold srt;dsimp only
  by_cases h1:p.2.2.1=1
  ·simp [h1]
  ·rw [show (p.2.2.1 !=(1:Int))=true by simpa using h1]
   split
   ·simp
   ·split
    ·simp
    ·simp [h1]
 rw [hs]
 by_cases h1:(hdT ts).1=1
 ·simp only [h1,decide_true,Bool.not_true,br_ff,jx,JQ,if_true]
  obtain ⟨p',e,h'⟩:=YZ h (by omega) (by omega)
  exact ⟨_,p',by rw [e,jx],h.tk,h'⟩
 ·simp only [h1,decide_false,Bool.not_false,br_tt,Jt,jx,kz,if_false]
  exact ⟨_,by rw [h.place]⟩
theorem kb {text:Z6} {ts:List Tk} {p:PS} (h:At text ts p) (w:Z6):RunT text (jr w p.1 p.2.1 p.2.2.1 p.2.2.2.1 p.2.2.2.2.1) (wantT w ts):=by
 unfold jr jr.ce_ wantT
 rw [VU h,jx]
 cases hw:seesT w ts with
 | true=>
   simp only [Bool.not_true,br_ff,jx,JQ,if_true]
   have hs:=YW hw
   obtain ⟨p',e,h'⟩:=YZ h (by omega) (by omega)
   exact ⟨_,p',by rw [e,jx],h.tk,h'⟩
 | false=>
   simp only [Bool.not_false,br_tt,Jt,jx,kz,zd,if_false]
   exact ⟨_,by rw [h.place]⟩
theorem rank_ok (w:Z6):Jb w=some (rankT w):=by
 have e1:Jb.cn_ w some=some (w==[61,61]||(w==[33,61]||(w==[60]||(w==[60,61]||(w==[62]||w==[62,61]))))):=by
  simp only [Jb.cn_,Hz,br_or]
 have e2:Jb.ct_ w some=some (w==[43]||w==[45]):=by simp only [Jb.ct_,Hz,br_or]
 have e3:Jb.cy_ w some=some (w==[42]||(w==[47]||w==[37])):=by simp only [Jb.cy_,Hz,br_or]
 have b1 : bs "==" = [61,61] := by decide
 have b2 : bs "!=" = [33,61] := by decide
 have b3 : bs "<" = [60] := by decide
 have b4 : bs "<=" = [60,61] := by decide
 have b5 : bs ">" = [62] := by decide
 have b6 : bs ">=" = [62,61] := by decide
 have b7 : bs "+" = [43] := by decide
 have b8 : bs "-" = [45] := by decide
 have b9 : bs "*" = [42] := by decide
 have b10 : bs "/" = [47] := by decide
 have b11 : bs "%" = [37] := by decide
 have b12 : bs "**" = [42,42] := by decide
 unfold Jb rankT
 rw [e1,jx,b1,b2,b3,b4,b5,b6,b7,b8,b9,b10,b11,b12]
 simp only [e2,e3,jx,br_if,Bool.or_eq_true,beq_iff_eq]
 split
 ·rfl
 ·split
  ·rfl
  ·split
   ·rfl
   ·split<;>rfl
end W
end

section
set_option maxRecDepth 4000
namespace W
open Go Go.Ql
theorem Yr {α β γ:Type} {p:Option α} {f:α→Option β} {g:β→Option γ}:bnd (bnd p f) g=bnd p fun x=>bnd (f x) g:=by cases p<;>rfl
theorem Ys {α β γ δ:Type} {y:α⊕β} {f:α→Option γ} {g:β→Option γ} {k:γ→Option δ}:bnd (sel y f g) k=sel y (fun u=>bnd (f u) k) (fun v=>bnd (g v) k):=by cases y<;>rfl
theorem JM {r:Nd}:Rose.mk (r.head.1,r.head.2.1,r.head.2.2.1,r.head.2.2.2) r.kids=r:=by cases r;rfl
theorem Jc {l:Z6}:Array.toList (ByteArray.data (ByteArray.mk l.toArray))=l:=rfl
theorem binary_ok (t:Int×Z6×Int) (a b:Nd):JV t a b=some (binT (tkE t) a b):=by
 unfold JV;simp only [JM];rfl
theorem YX (k:Int) (t:Int×Z6×Int) (l:List Nd):Jy k t l=some (ndK k t.2.2 l):=rfl
theorem Vn (k:Int) (t w:Int×Z6×Int) (l:List Nd):Jv k t w l=some (ndN k t.2.2 w.2.1 0 l):=rfl
theorem bsE : bs "-" = [45] ∧ bs "**" = [42, 42] ∧ bs "size" = [115, 105, 122, 101] ∧ bs "(" = [40] ∧ bs ")" = [41] ∧ bs "[" = [91] ∧ bs "]" = [93] ∧ bs ".." = [46, 46] ∧ bs "," = [44] ∧ bs ";" = [59] := by decide
theorem Run.some {α:Type} {text:Z6} {a:α} {us:List Tk} {p:PS} (h:At text us p):Run text (Option.some (.inl (a,p))) (.ok a us):=⟨p,rfl,h⟩
abbrev CS:=Int×Int×Z6×Int×List Nd×Z6×Int×Int×Z6×Int
def csOf (a:Nd) (p:PS):CS:=(a.head.1,a.head.2.1,a.head.2.2.1,a.head.2.2.2,a.kids,p.1,p.2.1,p.2.2.1,p.2.2.2.1,p.2.2.2.2.1)
abbrev CE:=Int×Int×Z6×Int×List Nd×Int×Z6×Int×Int×Z6×Int
def RunC (text:Z6) (r:Option (CE⊕CS)):Rd Nd→Prop
 | .ok a us=>∃p,r=some (.inr (csOf a p))∧At text us p
 | .err e=>∃y,r=some (.inl y)∧y.2.2.2.2.2.1=e
 | .out=>True
structure NumOk (text:Z6) (n m:Nat):Prop where
 expr:∀ts p,At text ts p→Run text ((Jd.fuel m).F_tongue_parser_expr_b p) (xpT n 1 ts)
 sum:∀ts p,At text ts p→Run text ((Jd.fuel m).F_tongue_parser_sum_b p) (xpT n 2 ts)
 product:∀ts p,At text ts p→Run text ((Jd.fuel m).F_tongue_parser_product_b p) (xpT n 3 ts)
 unary:∀ts p,At text ts p→Run text ((Jd.fuel m).F_tongue_parser_unary_b p) (siT n ts)
 atom:∀ts p,At text ts p→Run text ((Jd.fuel m).F_tongue_parser_atom_b p) (atT n ts)
theorem rank_sees {text:Z6} {ts:List Tk} {p:PS} (h:At text ts p) {k:Int} (hk:k≠0) :
 br (p.2.2.1==(4:Int)) (bnd (Jb p.2.2.2.1) fun y=>some (y==k)) (some false)=some (decide ((hdT ts).1=2∧rankT (hdT ts).2.1=k)):=by
 rw [h.hd]
 dsimp only
 unfold srt
 by_cases h4:p.2.2.1=4
 ·rw [h4,Hd (by rfl),rank_ok,jx]
  congr 1
  rw [Bool.eq_iff_iff]
  simp
 ·rw [UH (by simpa using h4),if_neg h4]
  by_cases h2:p.2.2.1=2
  ·have:=h.key h2
   rw [this]
   simp [Ne.symm hk]
  ·split
   ·simp
   ·simp [h2]
theorem taT_2 {k:Nat} {a:Nd} {ts:List Tk}:taT (k+1) 2 a ts=if (hdT ts).1=2∧rankT (hdT ts).2.1=2 then (xpT k 3 ts.tail).bind fun b us=>taT k 2 (binT (hdT ts) a b) us else .ok a ts:=by rw [taT];rfl
theorem taT_3 {k:Nat} {a:Nd} {ts:List Tk}:taT (k+1) 3 a ts=if (hdT ts).1=2∧rankT (hdT ts).2.1=3 then (xpT k 4 ts.tail).bind fun b us=>taT k 3 (binT (hdT ts) a b) us else .ok a ts:=by rw [taT];rfl
theorem taT_1 {k:Nat} {a:Nd} {ts:List Tk}:taT (k+1) 1 a ts=if (hdT ts).1=2∧rankT (hdT ts).2.1=1 then (xpT k 2 ts.tail).bind fun b us=>.ok (binT (hdT ts) a b) us else .ok a ts:=by rw [taT];rfl
theorem run_l {α β γ:Type} {r:Option (α⊕β)} {x:α} {k:α→Option γ} {g:β→Option γ} {res:Option γ} (e:r=some (.inl x)) (h:k x=res):bnd r (fun y=>sel y k g)=res:=by rw [e];exact h
theorem run_r {α β γ:Type} {r:Option (α⊕β)} {x:β} {k:α→Option γ} {g:β→Option γ} {res:Option γ} (e:r=some (.inr x)) (h:g x=res):bnd r (fun y=>sel y k g)=res:=by rw [e];exact h
section
variable {text:Z6}
theorem xpT_4 {n:Nat} {ts:List Tk}:xpT (n+1) 4 ts=siT n ts:=by rw [xpT];rfl
theorem xpT_3 {n:Nat} {ts:List Tk}:xpT (n+1) 3 ts=(xpT n 4 ts).bind fun a us=>taT n 3 a us:=by rw [xpT];rfl
theorem xpT_2 {n:Nat} {ts:List Tk}:xpT (n+1) 2 ts=(xpT n 3 ts).bind fun a us=>taT n 2 a us:=by rw [xpT];rfl
theorem xpT_1 {n:Nat} {ts:List Tk}:xpT (n+1) 1 ts=(xpT n 2 ts).bind fun a us=>taT n 1 a us:=by rw [xpT];rfl
theorem chain_product {n m:Nat} (hP:∀k,k≤n → ∀ts p,At text ts p→Run text ((Jd.fuel m).F_tongue_parser_product_b p) (xpT k 3 ts)) :
 ∀k,k≤n+1 → ∀(a:Nd) ts p,At text ts p→RunC text (iter (fun s:CS=>@jc.ca_ (Jd.fuel m) _ 2 s.1 s.2.1 s.2.2.1 s.2.2.2.1 s.2.2.2.2.1 s.2.2.2.2.2.1 s.2.2.2.2.2.2.1 s.2.2.2.2.2.2.2.1 s.2.2.2.2.2.2.2.2.1 s.2.2.2.2.2.2.2.2.2 some) (csOf a p)) (taT k 2 a ts)
 | 0,_,_,_,_,_=>trivial
 | k+1,hk,a,ts,p,h=>by
   rw [taT_2]
   have hc:=rank_sees h (k:=2) (by omega)
   by_cases hs:(hdT ts).1=2∧rankT (hdT ts).2.1=2
   ·rw [if_pos hs]
    obtain ⟨p',e,h'⟩:=YZ h (by omega) (by omega)
    have hb:=hP k (by omega) ts.tail p' h'
    cases hx:xpT k 3 ts.tail with
    | out=>trivial
    | ok b us=>
      rw [hx] at hb
      obtain ⟨q,eq,hq⟩:=hb
      have e4:@jc.c4 (Jd.fuel m) _ a.head.1 a.head.2.1 a.head.2.2.1 a.head.2.2.2 a.kids p.2.2.1 p.2.2.2.1 p.2.2.2.2.1 p'.1 p'.2.1 p'.2.2.1 p'.2.2.2.1 p'.2.2.2.2.1 some=some (.inl (csOf (binT (hdT ts) a b) q)):=
       run_l eq (by simp only [JM,binary_ok,jx,h.tk];rfl)
      have step:@jc.ca_ (Jd.fuel m) _ 2 a.head.1 a.head.2.1 a.head.2.2.1 a.head.2.2.2 a.kids p.1 p.2.1 p.2.2.1 p.2.2.2.1 p.2.2.2.2.1 some=some (.inl (csOf (binT (hdT ts) a b) q)):=by
       simp only [jc.ca_,jc.c2,hc,hs,and_self,decide_true,br_tt,jx,e,e4,JQ]
      have:=chain_product hP k (by omega) (binT (hdT ts) a b) us q hq
      simp only [Rd.bind]
      revert this
      cases taT k 2 (binT (hdT ts) a b) us with
      | ok c vs=>rintro ⟨p3,e3,h3⟩;exact ⟨p3,ke step e3,h3⟩
      | err c=>rintro ⟨p3,e3,h3⟩;exact ⟨p3,ke step e3,h3⟩
      | out=>exact id
    | err c=>
      rw [hx] at hb
      obtain ⟨q,eq⟩:=hb
      have e4:@jc.c4 (Jd.fuel m) _ a.head.1 a.head.2.1 a.head.2.2.1 a.head.2.2.2 a.kids p.2.2.1 p.2.2.2.1 p.2.2.2.2.1 p'.1 p'.2.1 p'.2.2.1 p'.2.2.2.1 p'.2.2.2.2.1 some=some (.inr (c,q.1,q.2.1,q.2.2.1,q.2.2.2.1,q.2.2.2.2.1)):=run_r eq rfl
      have step:∃y:CE,@jc.ca_ (Jd.fuel m) _ 2 a.head.1 a.head.2.1 a.head.2.2.1 a.head.2.2.2 a.kids p.1 p.2.1 p.2.2.1 p.2.2.2.1 p.2.2.2.2.1 some=some (.inr (.inl y))∧y.2.2.2.2.2.1=c:=by
       simp only [jc.ca_,jc.c2,hc,hs,and_self,decide_true,br_tt,jx,e,e4,kz]
       exact ⟨_,rfl,rfl⟩
      obtain ⟨y,e3,h3⟩:=step
      exact ⟨y,kf e3,h3⟩
   ·rw [if_neg hs]
    refine ⟨p,kf ?_,h⟩
    show @jc.ca_ (Jd.fuel m) _ 2 a.head.1 a.head.2.1 a.head.2.2.1 a.head.2.2.2 a.kids p.1 p.2.1 p.2.2.1 p.2.2.2.1 p.2.2.2.2.1 some=_
    simp only [jc.ca_,jc.c2,hc,hs,decide_false,br_ff,jx]
    rfl
theorem chain_unary {n m:Nat} (hP:∀k,k≤n → ∀ts p,At text ts p→Run text ((Jd.fuel m).F_tongue_parser_unary_b p) (xpT k 4 ts)) :
 ∀k,k≤n+1 → ∀(a:Nd) ts p,At text ts p→RunC text (iter (fun s:CS=>@je.ca_ (Jd.fuel m) _ 3 s.1 s.2.1 s.2.2.1 s.2.2.2.1 s.2.2.2.2.1 s.2.2.2.2.2.1 s.2.2.2.2.2.2.1 s.2.2.2.2.2.2.2.1 s.2.2.2.2.2.2.2.2.1 s.2.2.2.2.2.2.2.2.2 some) (csOf a p)) (taT k 3 a ts)
 | 0,_,_,_,_,_=>trivial
 | k+1,hk,a,ts,p,h=>by
   rw [taT_3]
   have hc:=rank_sees h (k:=3) (by omega)
   by_cases hs:(hdT ts).1=2∧rankT (hdT ts).2.1=3
   ·rw [if_pos hs]
    obtain ⟨p',e,h'⟩:=YZ h (by omega) (by omega)
    have hb:=hP k (by omega) ts.tail p' h'
    cases hx:xpT k 4 ts.tail with
    | out=>trivial
    | ok b us=>
      rw [hx] at hb
      obtain ⟨q,eq,hq⟩:=hb
      have e4:@je.c4 (Jd.fuel m) _ a.head.1 a.head.2.1 a.head.2.2.1 a.head.2.2.2 a.kids p.2.2.1 p.2.2.2.1 p.2.2.2.2.1 p'.1 p'.2.1 p'.2.2.1 p'.2.2.2.1 p'.2.2.2.2.1 some=some (.inl (csOf (binT (hdT ts) a b) q)):=
       run_l eq (by simp only [JM,binary_ok,jx,h.tk];rfl)
      have step:@je.ca_ (Jd.fuel m) _ 3 a.head.1 a.head.2.1 a.head.2.2.1 a.head.2.2.2 a.kids p.1 p.2.1 p.2.2.1 p.2.2.2.1 p.2.2.2.2.1 some=some (.inl (csOf (binT (hdT ts) a b) q)):=by
       simp only [je.ca_,je.c2,hc,hs,and_self,decide_true,br_tt,jx,e,e4,JQ]
      have:=chain_unary hP k (by omega) (binT (hdT ts) a b) us q hq
      simp only [Rd.bind]
      revert this
      cases taT k 3 (binT (hdT ts) a b) us with
      | ok c vs=>rintro ⟨p3,e3,h3⟩;exact ⟨p3,ke step e3,h3⟩
      | err c=>rintro ⟨p3,e3,h3⟩;exact ⟨p3,ke step e3,h3⟩
      | out=>exact id
    | err c=>
      rw [hx] at hb
      obtain ⟨q,eq⟩:=hb
      have e4:@je.c4 (Jd.fuel m) _ a.head.1 a.head.2.1 a.head.2.2.1 a.head.2.2.2 a.kids p.2.2.1 p.2.2.2.1 p.2.2.2.2.1 p'.1 p'.2.1 p'.2.2.1 p'.2.2.2.1 p'.2.2.2.2.1 some=some (.inr (c,q.1,q.2.1,q.2.2.1,q.2.2.2.1,q.2.2.2.2.1)):=run_r eq rfl
      have step:∃y:CE,@je.ca_ (Jd.fuel m) _ 3 a.head.1 a.head.2.1 a.head.2.2.1 a.head.2.2.2 a.kids p.1 p.2.1 p.2.2.1 p.2.2.2.1 p.2.2.2.2.1 some=some (.inr (.inl y))∧y.2.2.2.2.2.1=c:=by
       simp only [je.ca_,je.c2,hc,hs,and_self,decide_true,br_tt,jx,e,e4,kz]
       exact ⟨_,rfl,rfl⟩
      obtain ⟨y,e3,h3⟩:=step
      exact ⟨y,kf e3,h3⟩
   ·rw [if_neg hs]
    refine ⟨p,kf ?_,h⟩
    show @je.ca_ (Jd.fuel m) _ 3 a.head.1 a.head.2.1 a.head.2.2.1 a.head.2.2.2 a.kids p.1 p.2.1 p.2.2.1 p.2.2.2.1 p.2.2.2.2.1 some=_
    simp only [je.ca_,je.c2,hc,hs,decide_false,br_ff,jx]
    rfl
theorem RunC.fin {r:Option (CE⊕CS)} {s:Rd Nd} {g:CE→Option ((Nd×PS)⊕(Int×PS))} {k:CS→Option ((Nd×PS)⊕(Int×PS))} (h:RunC text r s)
 (hk:∀a p,k (csOf a p)=some (.inl (a,p))) (hg:∀y,∃p,g y=some (.inr (y.2.2.2.2.2.1,p))):Run text (bnd r fun y=>sel y g k) s:=by
 cases s with
 | ok a us=>
   obtain ⟨p,rfl,hp⟩:=h
   exact ⟨p,hk a p,hp⟩
 | err e=>
   obtain ⟨y,rfl,hy⟩:=h
   obtain ⟨p,hp⟩:=hg y
   exact ⟨p,by rw [←hy];exact hp⟩
 | out=>trivial
end
end W
end

section
set_option maxRecDepth 4000
namespace W
open Go Go.Ql
theorem numT_uint:∀(l:Z6) (acc b:Nat),(∀c∈l,digt c=true)→acc<b→b*10^l.length≤1000000000 → ∃u:Nat,Go.Lib.parseUint10 acc l=.ok u∧(u:Int)=l.foldl (fun n c=>n*10+((c.toNat:Int)-48)) (acc:Int)∧u<1000000000
 | [],acc,b,_,hb,h=>⟨acc,rfl,rfl,by simp at h;omega⟩
 | c::r,acc,b,hd,hb,h=>by
   have hc:=hd c (by simp)
   have hc2:48≤c.toNat∧c.toNat≤57:=by
    unfold digt at hc
    simpa using hc
   have hp:1≤10^r.length:=Nat.pow_pos (by omega)
   have h':b*10*10^r.length≤1000000000:=by
    rw [za,Nat.pow_succ] at h
    rw [Nat.mul_assoc,Nat.mul_comm 10];exact h
   have hb1:b*10≤b*10*10^r.length:=Nat.le_mul_of_pos_right _ hp
   obtain ⟨u,h1,h2,h3⟩:=numT_uint r (acc*10+(c.toNat-48)) (b*10) (fun x hx=>hd x (by simp [hx])) (by omega) h'
   refine ⟨u,?_,?_,h3⟩
   ·rw [Go.Lib.parseUint10,if_pos hc2,if_neg (by omega),if_neg (by omega),h1]
   ·rw [List.foldl_cons,h2]
    congr 1
    omega
theorem atoi_tok {l:Z6} (h1:1≤l.length) (h2:l.length≤9) (h3:∀c∈l,digt c=true):Ya l=some (numT' l,false)∧0≤numT' l∧numT' l<1000000000:=by
 have hp:(10:Nat)^l.length≤10^9:=Nat.pow_le_pow_right (by omega) h2
 obtain ⟨u,e1,e2,e3⟩:=numT_uint l 0 1 h3 (by omega) (by omega)
 have e4:(u:Int)=numT' l:=e2
 refine ⟨?_,by omega,by omega⟩
 unfold Ya
 rw [zj (by omega),ze]
 cases l with
 | nil=>simp at h1
 | cons c r=>
   have hc:=h3 c (by simp)
   have hc2:48≤c.toNat∧c.toNat≤57:=by
    unfold digt at hc
    simpa using hc
   unfold Go.Lib.atoiAll
   simp only
   rw [if_neg (by omega)]
   unfold Go.Lib.parseMag
   rw [if_neg (by simp),e1]
   have hneg:¬c.toNat=45:=by omega
   simp only [hneg,not_false_eq_true,true_and,false_and,if_false]
   rw [if_neg (by omega)]
   simp only [e4]
theorem TksOk.hd {ts:List Tk} (h:TksOk ts):TkOk (hdT ts):=by
 match ts,h with
 | [t],h=>exact h.1
 | t::u::l,h=>exact h.1
section
variable {text:Z6}
theorem num_step {n m:Nat} (h:∀k,k≤n → ∀m,2*k≤m→NumOk text k m) (hm:2*(n+1)≤m+1):NumOk text (n+1) (m+1):=by
 have hN:=h n (zt _) m (by omega)
 refine ⟨fun ts p hp=>?_,fun ts p hp=>?_,fun ts p hp=>?_,fun ts p hp=>?_,fun ts p hp=>?_⟩
 ·show Run text (@jp (Jd.fuel m) p.1 p.2.1 p.2.2.1 p.2.2.2.1 p.2.2.2.2.1) _
  rw [xpT_1]
  unfold jp
  refine Run.bind (hN.sum ts p hp) (fun a us q _ hq=>?_) (fun v=>⟨_,rfl⟩)
  cases n with
  | zero=>trivial
  | succ n=>
    rw [taT_1]
    have hc:=rank_sees hq (k:=1) (by omega)
    dsimp only
    simp only [jp.c2,hc,jx]
    by_cases hs:(hdT us).1=2∧rankT (hdT us).2.1=1
    ·obtain ⟨q',e,hq'⟩:=YZ hq (by omega) (by omega)
     simp only [hs,and_self,decide_true,br_tt,if_true,e,jx,jp.c4,Yr,Ys,JQ,kz]
     refine Run.bind ((h n (by omega) m (by omega)).sum us.tail q' hq') (fun b vs r _ hr=>?_) (fun v=>⟨_,rfl⟩)
     simp only [JM,binary_ok,jx,hq.tk]
     exact Run.some hr
    ·simp only [hs,decide_false,br_ff,if_false,JM]
     exact Run.some hq
 ·show Run text (@jV (Jd.fuel m) p.1 p.2.1 p.2.2.1 p.2.2.2.1 p.2.2.2.2.1) _
  rw [xpT_2]
  obtain ⟨m,rfl⟩:∃m',m=m'+1:=⟨m-1,by omega⟩
  have hb:Run text (@jc (Jd.fuel m) 2 p.1 p.2.1 p.2.2.1 p.2.2.2.1 p.2.2.2.2.1) ((xpT n 3 ts).bind fun a us=>taT n 2 a us):=by
   unfold jc
   refine Run.bind ((h n (zt _) m (by omega)).product ts p hp) (fun a us q _ hq=>?_) (fun v=>⟨_,rfl⟩)
   refine RunC.fin (chain_product (n:=n) (fun k hk ts p hp=>(h k hk m (by omega)).product ts p hp) n (by omega) a us q hq) (fun a p=>?_) (fun y=>⟨_,rfl⟩)
   simp only [csOf,JM]
  unfold jV
  have:∀(r:Option ((Nd×PS)⊕(Int×PS))) s,Run text r s→Run text (bnd r fun y=>sel y (fun u=>some (.inl (Rose.mk (u.1.head.1,u.1.head.2.1,u.1.head.2.2.1,u.1.head.2.2.2) u.1.kids,u.2))) (fun v=>some (.inr v))) s:=by
   intro r s hr
   cases s with
   | ok a us=>obtain ⟨p,rfl,hp⟩:=hr;exact ⟨p,by simp only [jx,JQ,JM],hp⟩
   | err e=>obtain ⟨p,rfl⟩:=hr;exact ⟨p,rfl⟩
   | out=>trivial
  exact this _ _ hb
 ·show Run text (@jK (Jd.fuel m) p.1 p.2.1 p.2.2.1 p.2.2.2.1 p.2.2.2.2.1) _
  rw [xpT_3]
  obtain ⟨m,rfl⟩:∃m',m=m'+1:=⟨m-1,by omega⟩
  have hU:∀k,k≤n → ∀ts p,At text ts p→Run text ((Jd.fuel m).F_tongue_parser_unary_b p) (xpT k 4 ts):=by
   intro k hk ts p hp
   cases k with
   | zero=>trivial
   | succ k=>rw [xpT_4];exact (h k (by omega) m (by omega)).unary ts p hp
  have hb:Run text (@je (Jd.fuel m) 3 p.1 p.2.1 p.2.2.1 p.2.2.2.1 p.2.2.2.2.1) ((xpT n 4 ts).bind fun a us=>taT n 3 a us):=by
   unfold je
   refine Run.bind (hU n (zt _) ts p hp) (fun a us q _ hq=>?_) (fun v=>⟨_,rfl⟩)
   refine RunC.fin (chain_unary (n:=n) (fun k hk ts p hp=>hU k hk ts p hp) n (by omega) a us q hq) (fun a p=>?_) (fun y=>⟨_,rfl⟩)
   simp only [csOf,JM]
  unfold jK
  have:∀(r:Option ((Nd×PS)⊕(Int×PS))) s,Run text r s→Run text (bnd r fun y=>sel y (fun u=>some (.inl (Rose.mk (u.1.head.1,u.1.head.2.1,u.1.head.2.2.1,u.1.head.2.2.2) u.1.kids,u.2))) (fun v=>some (.inr v))) s:=by
   intro r s hr
   cases s with
   | ok a us=>obtain ⟨p,rfl,hp⟩:=hr;exact ⟨p,by simp only [jx,JQ,JM],hp⟩
   | err e=>obtain ⟨p,rfl⟩:=hr;exact ⟨p,rfl⟩
   | out=>trivial
  exact this _ _ hb
 ·show Run text (@jn (Jd.fuel m) p.1 p.2.1 p.2.2.1 p.2.2.2.1 p.2.2.2.2.1) _
  rw [siT]
  simp only [bsE]
  unfold jn
  cases hs:seesT [45] ts with
  | true=>
    obtain ⟨q,e,hq⟩:=kq hp hs
    simp only [Jc,e,jx,br_tt,jn.c3,Yr,Ys,JQ,kz,if_true]
    refine Run.bind (hN.unary ts.tail q hq) (fun a us r _ hr=>?_) (fun v=>⟨_,rfl⟩)
    simp only [JM,YX,jx,hp.place]
    exact Run.some hr
  | false=>
    have e:=ko hp hs
    simp only [Jc,e,jx,br_ff,zd,if_false]
    refine Run.bind (hN.atom ts p hp) (fun a us q _ hq=>?_) (fun v=>⟨_,rfl⟩)
    simp only [Jc,VU hq,jx]
    cases hs2:seesT [42,42] us with
    | true=>
      obtain ⟨q',e',hq'⟩:=YZ hq (by have:=YW hs2;omega) (by have:=YW hs2;omega)
      simp only [br_tt,e',jx,jn.c7,Yr,Ys,JQ,kz,if_true]
      refine Run.bind (hN.unary us.tail q' hq') (fun b vs r _ hr=>?_) (fun v=>⟨_,rfl⟩)
      simp only [JM,binary_ok,jx,hq.tk]
      exact Run.some hr
    | false=>
      simp only [br_ff,zd,if_false,JM]
      exact Run.some hq
 ·show Run text (@jR (Jd.fuel m) p.1 p.2.1 p.2.2.1 p.2.2.2.1 p.2.2.2.2.1) _
  rw [atT]
  simp only [bsE]
  unfold jR
  have hsort:∀k:Int,k=1∨k=3→(p.2.2.1==k)=decide ((hdT ts).1=k):=by
   intro k hk
   rw [hp.hd];unfold srt;dsimp only
   by_cases h1:p.2.2.1=k
   ·rw [h1,if_neg (by omega),if_neg (by omega)];simp
   ·rw [show (p.2.2.1==k)=false by simpa using h1]
    split
    ·simp;omega
    ·split
     ·simp;omega
     ·simp [h1]
  rw [hsort 3 (by omega),hsort 1 (by omega)]
  by_cases h3:(hdT ts).1=3
  ·obtain ⟨q,e,hq⟩:=YZ hp (by omega) (by omega)
   have hok:=TksOk.hd hp.ok
   have ha:=atoi_tok (hok.2.2.2 h3).1 (hok.2.2.2 h3).2.1 (hok.2.2.2 h3).2.2
   rw [←hp.word] at ha
   rw [if_pos h3,kn h3]
   simp only [e,jx,ha.1]
   simp only [hp.place,hp.word]
   exact Run.some hq
  ·rw [if_neg h3,kM h3]
   by_cases h1:(hdT ts).1=1
   ·obtain ⟨q,e,hq⟩:=YZ hp (by omega) (by omega)
    rw [if_pos h1,kn h1]
    simp only [e,jx,Vn,JM]
    simp only [hp.place,hp.word]
    exact Run.some hq
   ·rw [if_neg h1,kM h1]
    cases hs:seesT [115,105,122,101] ts with
    | true=>
      obtain ⟨q,e,hq⟩:=kq hp hs
      simp only [Jc,e,jx,br_tt,if_true]
      refine RunT.bind (kb hq [40]) (fun x us q _ hq=>?_) (fun v=>⟨_,rfl⟩)
      refine RunT.bind (VE hq) (fun w us q _ hq=>?_) (fun v=>⟨_,rfl⟩)
      refine RunT.bind (kb hq [41]) (fun x us q _ hq=>?_) (fun v=>⟨_,rfl⟩)
      simp only [Vn,jx,JM,hp.place]
      exact Run.some hq
    | false=>
      have e:=ko hp hs
      simp only [Jc,e,jx,br_ff,zd,if_false]
      refine RunT.bind (kb hp [40]) (fun x us q _ hq=>?_) (fun v=>⟨_,rfl⟩)
      refine Run.bind (hN.expr us q hq) (fun a vs q _ hq=>?_) (fun v=>⟨_,rfl⟩)
      refine RunT.bind (kb hq [41]) (fun x us q _ hq=>?_) (fun v=>⟨_,rfl⟩)
      simp only [JM]
      exact Run.some hq
theorem num_all:∀n m,2*n≤m→NumOk text n m:=by
 intro n
 induction n using Nat.strongRecOn with
 | _ n ih=>
   intro m hm
   cases n with
   | zero=>exact ⟨fun _ _ _=>trivial,fun _ _ _=>trivial,fun _ _ _=>trivial,fun _ _ _=>trivial,fun _ _ _=>trivial⟩
   | succ n=>
     obtain ⟨m,rfl⟩:∃m',m=m'+1:=⟨m-1,by omega⟩
     exact num_step (fun k hk m hm=>ih k (by omega) m hm) hm
theorem VC {ts:List Tk} {p:PS} (h:At text ts p) {n:Nat} (hn:n≤500000):Run text (Jq p) (xpT n 1 ts):=(num_all n 1000000 (by omega)).expr ts p h
end
end W
end

section
set_option maxRecDepth 4000
namespace W
open Go Go.Ql
abbrev LS:=List Nd×Z6×Int×Int×Z6×Int
abbrev LE:=List Nd×Int×Z6×Int×Int×Z6×Int
def lsOf (l:List Nd) (p:PS):LS:=(l,p.1,p.2.1,p.2.2.1,p.2.2.2.1,p.2.2.2.2.1)
def RunL (text:Z6) (r:Option (LE⊕LS)):Rd (List Nd)→Prop
 | .ok l us=>∃p,r=some (.inr (lsOf l p))∧At text us p
 | .err e=>∃y,r=some (.inl y)∧y.2.1=e
 | .out=>True
def RunR (text:Z6) (l:List Nd) (r:Option (LS⊕(LE⊕LS))):Rd Nd→Prop
 | .ok a us=>∃q,r=some (.inl (lsOf (l++[a]) q))∧At text us q
 | .err e=>∃y,r=some (.inr (.inl y))∧y.2.1=e
 | .out=>True
theorem liT_eq {one:List Tk→Rd Nd} {k:Nat} {l:List Nd} {ts:List Tk}:liT one (k+1) l ts=if seesT [44] ts then (one ts.tail).bind fun a us=>liT one k (l++[a]) us else .ok l ts:=by
 rw [liT,bsE.2.2.2.2.2.2.2.2.1]
theorem UZ {text:Z6} {f:LS→Option (LS⊕(LE⊕LS))} {one:List Tk→Rd Nd} (hq:∀ts,Lq (one ts) ts.length)
 (h1:∀l ts p,At text ts p→l.length+ts.length≤100000→seesT [44] ts=true→RunR text l (f (lsOf l p)) (one ts.tail))
 (h2:∀l ts p,At text ts p→seesT [44] ts=false→f (lsOf l p)=some (.inr (.inr (lsOf l p)))) :
 ∀k l ts p,At text ts p→l.length+ts.length≤100000→RunL text (iter f (lsOf l p)) (liT one k l ts)
 | 0,_,_,_,_,_=>trivial
 | k+1,l,ts,p,h,hl=>by
   rw [liT_eq]
   cases hs:seesT [44] ts with
   | true=>
     have hr:=h1 l ts p h hl hs
     have hlq:=hq ts.tail
     have htl:=jT hs
     rw [if_pos rfl]
     cases ho:one ts.tail with
     | ok a us=>
       rw [ho] at hr hlq
       obtain ⟨q,e,hq'⟩:=hr
       have hus:us.length<ts.tail.length:=hlq
       have:=UZ hq h1 h2 k (l++[a]) us q hq' (by simp only [z8,zy];omega)
       simp only [Rd.bind]
       revert this
       cases liT one k (l++[a]) us with
       | ok c vs=>rintro ⟨p3,e3,h3⟩;exact ⟨p3,ke e e3,h3⟩
       | err c=>rintro ⟨p3,e3,h3⟩;exact ⟨p3,ke e e3,h3⟩
       | out=>exact id
     | err c=>
       rw [ho] at hr
       obtain ⟨y,e,hy⟩:=hr
       exact ⟨y,kf e,hy⟩
     | out=>trivial
   | false=>exact ⟨p,kf (h2 l ts p h hs),h⟩
theorem run_list {text:Z6} {r:Option (LE⊕LS)} {s:Rd (List Nd)} {g:LE→Option ((List Nd×PS)⊕(Int×PS))} {k:LS→Option ((List Nd×PS)⊕(Int×PS))} (h:RunL text r s)
 (hk:∀a p,k (lsOf a p)=some (.inl (a,p))) (hg:∀y,∃p,g y=some (.inr (y.2.1,p))):Run text (bnd r fun y=>sel y g k) s:=by
 cases s with
 | ok a us=>
   obtain ⟨p,rfl,hp⟩:=h
   exact ⟨p,hk a p,hp⟩
 | err e=>
   obtain ⟨y,rfl,hy⟩:=h
   obtain ⟨p,hp⟩:=hg y
   exact ⟨p,by rw [←hy];exact hp⟩
 | out=>trivial
theorem ok64 {n:Nat} (h:n≤200000):okIf (decide (n*(64:Nat)≤(140737488355328:Nat))&&decide (n≤(140737488355328:Nat)))=some ():=okIf_len ⟨by omega,by omega⟩
section
variable {text:Z6}
theorem refFrom_ok {ts:List Tk} {p:PS} (hp:At text ts p) (x:Int×Z6×Int) {n:Nat} (hn:n≤500000) :
 Run text (ju x p.1 p.2.1 p.2.2.1 p.2.2.2.1 p.2.2.2.2.1) (rfT n (tkE x) ts):=by
 unfold rfT ju
 simp only [bsE,Vn,jx,ju.cl_]
 cases hs:seesT [91] ts with
 | true=>
   obtain ⟨q,e,hq⟩:=kq hp hs
   simp only [Jc,e,jx,br_tt,if_true,Yr,Ys,JQ,kz]
   refine Run.bind (VC hq hn) (fun a us q _ hq=>?_) (fun v=>⟨_,rfl⟩)
   simp only [ju.cC_]
   cases hs2:seesT [46,46] us with
   | true=>
     obtain ⟨q,e,hq⟩:=kq hq hs2
     simp only [Jc,e,jx,br_tt,if_true,Yr,Ys,JQ,kz,ju.c5]
     refine Run.bind (VC hq hn) (fun b us q _ hq=>?_) (fun v=>⟨_,rfl⟩)
     simp only [zy,ok64 (n:=1+1) (by omega),jx,JQ]
     refine RunT.bind (kb hq [93]) (fun x us q _ hq=>?_) (fun v=>⟨_,rfl⟩)
     exact Run.some hq
   | false=>
     have e:=ko hq hs2
     simp only [Jc,e,jx,br_ff,zd,if_false,JQ]
     refine RunT.bind (kb hq [93]) (fun x us q _ hq=>?_) (fun v=>⟨_,rfl⟩)
     exact Run.some hq
 | false=>
   have e:=ko hp hs
   simp only [Jc,e,jx,br_ff,zd,if_false,JQ]
   exact Run.some hp
theorem Hv {ts:List Tk} {p:PS} (hp:At text ts p) {n:Nat} (hn:n≤500000) :
 Run text (Jl p.1 p.2.1 p.2.2.1 p.2.2.2.1 p.2.2.2.2.1) (reT n ts):=by
 unfold reT Jl
 refine RunT.bind (VE hp) (fun x us q _ hq=>?_) (fun v=>⟨_,rfl⟩)
 have h:=refFrom_ok hq x hn
 have:∀(r:Option ((Nd×PS)⊕(Int×PS))) s,Run text r s→Run text (bnd r fun y=>sel y (fun u=>some (.inl (Rose.mk (u.1.head.1,u.1.head.2.1,u.1.head.2.2.1,u.1.head.2.2.2) u.1.kids,u.2))) (fun v=>some (.inr v))) s:=by
  intro r s hr
  cases s with
  | ok a us=>obtain ⟨p,rfl,hp⟩:=hr;exact ⟨p,by simp only [jx,JQ,JM],hp⟩
  | err e=>obtain ⟨p,rfl⟩:=hr;exact ⟨p,rfl⟩
  | out=>trivial
 exact this _ _ h
theorem list_expr {ts:List Tk} {p:PS} (hp:At text ts p) {n k:Nat} (hn:n≤500000) :
 Run text (Je p.1 p.2.1 p.2.2.1 p.2.2.2.1 p.2.2.2.2.1) (lsT (xpT n 1) k ts):=by
 unfold lsT Je
 refine Run.bind (VC hp hn) (fun a us q hs hq=>?_) (fun v=>⟨_,rfl⟩)
 have hc:=hq.cnt
 have hl:=hq.len
 refine run_list (UZ (fun _=>ex_lq) (fun l ts p hp hl hs=>?_) (fun l ts p hp hs=>?_) k [a] us q hq (by simp only [zy];omega)) (fun a p=>rfl) (fun y=>⟨_,rfl⟩)
 ·obtain ⟨q,e,hq⟩:=kq hp hs
  have hr:=VC hq hn
  simp only [lsOf,Je.ca_,Jc,e,jx,br_tt]
  cases ho:xpT n 1 ts.tail with
  | ok a us=>
    rw [ho] at hr
    obtain ⟨r,e',hr'⟩:=hr
    exact ⟨r,run_l e' (jw (ok64 (n:=l.length+1) (by omega)) rfl),hr'⟩
  | err c=>
    rw [ho] at hr
    obtain ⟨r,e'⟩:=hr
    exact ⟨_,run_r e' rfl,rfl⟩
  | out=>trivial
 ·have e:=ko hp hs
  simp only [lsOf,Je.ca_,Jc,e,jx,br_ff]
theorem list_ref {ts:List Tk} {p:PS} (hp:At text ts p) {n k:Nat} (hn:n≤500000) :
 Run text (Jk p.1 p.2.1 p.2.2.1 p.2.2.2.1 p.2.2.2.2.1) (lsT (reT n) k ts):=by
 unfold lsT Jk
 refine Run.bind (Hv hp hn) (fun a us q hs hq=>?_) (fun v=>⟨_,rfl⟩)
 have hc:=hq.cnt
 have hl:=hq.len
 refine run_list (UZ (fun _=>re_lq) (fun l ts p hp hl hs=>?_) (fun l ts p hp hs=>?_) k [a] us q hq (by simp only [zy];omega)) (fun a p=>rfl) (fun y=>⟨_,rfl⟩)
 ·obtain ⟨q,e,hq⟩:=kq hp hs
  have hr:=Hv hq hn
  simp only [lsOf,Jk.ca_,Jc,e,jx,br_tt]
  cases ho:reT n ts.tail with
  | ok a us=>
    rw [ho] at hr
    obtain ⟨r,e',hr'⟩:=hr
    exact ⟨r,run_l e' (jw (ok64 (n:=l.length+1) (by omega)) rfl),hr'⟩
  | err c=>
    rw [ho] at hr
    obtain ⟨r,e'⟩:=hr
    exact ⟨_,run_r e' rfl,rfl⟩
  | out=>trivial
 ·have e:=ko hp hs
  simp only [lsOf,Jk.ca_,Jc,e,jx,br_ff]
theorem gate1_ok {ts:List Tk} {p:PS} (hp:At text ts p):Run text (Jx p.1 p.2.1 p.2.2.1 p.2.2.2.1 p.2.2.2.2.1) (p1T ts):=by
 unfold p1T Jx
 refine RunT.bind (VE hp) (fun x us q _ hq=>?_) (fun v=>⟨_,rfl⟩)
 simp only [Vn,jx,JM]
 exact Run.some hq
theorem list_p1 {ts:List Tk} {p:PS} (hp:At text ts p) {k:Nat} :
 Run text (Jn p.1 p.2.1 p.2.2.1 p.2.2.2.1 p.2.2.2.2.1) (lsT p1T k ts):=by
 unfold lsT Jn
 refine Run.bind (gate1_ok hp) (fun a us q hs hq=>?_) (fun v=>⟨_,rfl⟩)
 have hc:=hq.cnt
 have hl:=hq.len
 refine run_list (UZ (fun _=>p1_lq) (fun l ts p hp hl hs=>?_) (fun l ts p hp hs=>?_) k [a] us q hq (by simp only [zy];omega)) (fun a p=>rfl) (fun y=>⟨_,rfl⟩)
 ·obtain ⟨q,e,hq⟩:=kq hp hs
  have hr:=gate1_ok hq
  simp only [lsOf,Jn.ca_,Jc,e,jx,br_tt]
  cases ho:p1T ts.tail with
  | ok a us=>
    rw [ho] at hr
    obtain ⟨r,e',hr'⟩:=hr
    exact ⟨r,run_l e' (jw (ok64 (n:=l.length+1) (by omega)) rfl),hr'⟩
  | err c=>
    rw [ho] at hr
    obtain ⟨r,e'⟩:=hr
    exact ⟨_,run_r e' rfl,rfl⟩
  | out=>trivial
 ·have e:=ko hp hs
  simp only [lsOf,Jn.ca_,Jc,e,jx,br_ff]
theorem group_ok (l:List Nd):ky l=some (gr l):=rfl
end
end W
end

section
set_option maxRecDepth 4000
namespace W
open Go Go.Ql
theorem ok64L {l:List (Rose (Int×(Int×(Z6×Int))))} (h:l.length≤100000):okIf (decide ((List.length l+(1:Nat))*(64:Nat)≤(140737488355328:Nat))&&decide (List.length l+(1:Nat)≤(140737488355328:Nat)))=some ():=ok64 (by omega)
def RunG {α ρ σ:Type} (text:Z6) (I:α→PS→ρ) (E:σ→Int) (r:Option (ρ⊕σ)):Rd α→Prop
 | .ok a us=>∃p,r=some (.inl (I a p))∧At text us p
 | .err e=>∃y,r=some (.inr y)∧E y=e
 | .out=>True
section
variable {text:Z6}
theorem runG_run {α β ρ σ:Type} {I:β→PS→ρ} {E:σ→Int} {r:Option ((α×PS)⊕(Int×PS))} {s:Rd α} {f:α→List Tk→Rd β} {k:(α×PS)→Option (ρ⊕σ)} {g:Int×PS→Option (ρ⊕σ)}
 (h:Run text r s) (hk:∀a us p,s=.ok a us→At text us p→RunG text I E (k (a,p)) (f a us)) (hg:∀v,∃y,g v=some (.inr y)∧E y=v.1):RunG text I E (bnd r fun y=>sel y k g) (s.bind f):=by
 cases s with
 | ok a us=>
   obtain ⟨p,rfl,hp⟩:=h
   exact hk a us p rfl hp
 | err e=>
   obtain ⟨p,rfl⟩:=h
   exact hg (e,p)
 | out=>trivial
theorem runG_tok {β ρ σ:Type} {I:β→PS→ρ} {E:σ→Int} {r:Option (((Int×Z6×Int)×PS)⊕(Int×PS))} {s:Rd Tk} {f:Tk→List Tk→Rd β} {k:((Int×Z6×Int)×PS)→Option (ρ⊕σ)} {g:Int×PS→Option (ρ⊕σ)}
 (h:RunT text r s) (hk:∀x us p,s=.ok (tkE x) us→At text us p→RunG text I E (k (x,p)) (f (tkE x) us)) (hg:∀v,∃y,g v=some (.inr y)∧E y=v.1):RunG text I E (bnd r fun y=>sel y k g) (s.bind f):=by
 cases s with
 | ok a us=>
   obtain ⟨x,p,rfl,rfl,hp⟩:=h
   exact hk x us p rfl hp
 | err e=>
   obtain ⟨p,rfl⟩:=h
   exact hg (e,p)
 | out=>trivial
theorem run_G {α β ρ σ:Type} {I:α→PS→ρ} {E:σ→Int} {r:Option (ρ⊕σ)} {s:Rd α} {f:α→List Tk→Rd β} {k:ρ→Option ((β×PS)⊕(Int×PS))} {g:σ→Option ((β×PS)⊕(Int×PS))}
 (h:RunG text I E r s) (hk:∀a us p,s=.ok a us→At text us p→Run text (k (I a p)) (f a us)) (hg:∀y,∃p,g y=some (.inr (E y,p))):Run text (bnd r fun y=>sel y k g) (s.bind f):=by
 cases s with
 | ok a us=>
   obtain ⟨p,rfl,hp⟩:=h
   exact hk a us p rfl hp
 | err e=>
   obtain ⟨y,rfl,hy⟩:=h
   obtain ⟨p,hp⟩:=hg y
   exact ⟨p,by rw [←hy];exact hp⟩
 | out=>trivial
theorem bsF : bs ";" = [59] ∧ bs "@" = [64] ∧ bs "inv" = [105, 110, 118] ∧ bs "ctrl" = [99, 116, 114, 108] ∧ bs "pow" = [112, 111, 119] := by decide
theorem applied_ok {ts:List Tk} {p:PS} (hp:At text ts p) (t w:Int×Z6×Int) (mods:List Nd) {n:Nat} (hn:n≤500000) :
 Run text (jE t mods w p.1 p.2.1 p.2.2.1 p.2.2.2.1 p.2.2.2.2.1) (apT n t.2.2 mods (tkE w) ts):=by
 unfold apT jE
 simp only [bsE]
 refine run_G (I:=fun (a:List Nd) (p:PS)=>(a,p.1,p.2.1,p.2.2.1,p.2.2.2.1,p.2.2.2.2.1)) (E:=fun y=>y.2.1) ?_ (fun args us q _ hq=>?_) (fun y=>⟨_,rfl⟩)
 ·unfold jE.ck_
  cases hs:seesT [40] ts with
  | true=>
    obtain ⟨q,e,hq⟩:=kq hp hs
    simp only [Jc,e,jx,br_tt,if_true]
    refine runG_run (list_expr hq hn) (fun l us q _ hq=>?_) (fun v=>by exact ⟨_,rfl,rfl⟩)
    refine runG_tok (kb hq [41]) (fun x us q _ hq=>?_) (fun v=>by exact ⟨_,rfl,rfl⟩)
    exact ⟨q,rfl,hq⟩
  | false=>
    have e:=ko hp hs
    simp only [Jc,e,jx,br_ff,zd,if_false]
    exact ⟨p,rfl,hp⟩
 ·refine run_G (I:=fun (a:List Nd) (p:PS)=>(a,p.1,p.2.1,p.2.2.1,p.2.2.2.1,p.2.2.2.2.1)) (E:=fun y=>y.1) ?_ (fun refs us q _ hq=>?_) (fun y=>⟨_,rfl⟩)
  ·unfold jE.cg_
   have hsort:(q.2.2.1==(1:Int))=decide ((hdT us).1=1):=by
    rw [hq.hd];unfold srt;dsimp only
    by_cases h1:q.2.2.1=1
    ·rw [h1];simp
    ·rw [show (q.2.2.1==(1:Int))=false by simpa using h1]
     split
     ·simp
     ·split
      ·simp
      ·simp [h1]
   dsimp only
   rw [hsort]
   by_cases h1:(hdT us).1=1
   ·rw [if_pos h1,kn h1]
    have hr:=list_ref hq (n:=n) (k:=n) hn
    revert hr
    cases lsT (reT n) n us with
    | ok a us=>rintro ⟨p,e,hp⟩;exact ⟨p,run_l e rfl,hp⟩
    | err c=>rintro ⟨p,e⟩;exact ⟨_,run_r e rfl,rfl⟩
    | out=>exact id
   ·rw [if_neg h1,kM h1]
    exact ⟨q,rfl,hq⟩
  ·refine RunT.bind (kb hq [59]) (fun x us q _ hq=>?_) (fun v=>⟨_,rfl⟩)
   simp only [jE.c8,group_ok,jx,Vn,JM]
   exact Run.some hq
abbrev ME:=LE⊕((List Nd×Int×Int×Z6×Int×List Nd×Z6×Int×Int×Z6×Int)⊕((Int×Z6×Int×Int×Z6×Int)⊕LE))
def RunM (text:Z6) (r:Option ME):Rd Nd→Prop
 | .ok a us=>∃l p,r=some (.inr (.inl (l,a.head.1,a.head.2.1,a.head.2.2.1,a.head.2.2.2,a.kids,p.1,p.2.1,p.2.2.1,p.2.2.2.1,p.2.2.2.2.1)))∧At text us p
 | .err e=>(∃y,r=some (.inl y)∧y.2.1=e)∨(∃y,r=some (.inr (.inr (.inl y)))∧y.1=e)∨(∃y,r=some (.inr (.inr (.inr y)))∧y.2.1=e)
 | .out=>True
def RunN (text:Z6) (r:Option (LS⊕ME)):Rd (List Nd)→Prop
 | .ok l us=>∃q,r=some (.inl (lsOf l q))∧At text us q
 | .err e=>∃y,r=some (.inr (.inl y))∧y.2.1=e
 | .out=>True
theorem RunN.loop {f:LS→Option (LS⊕ME)} {s0:LS} {s:Rd (List Nd)} {g:List Nd→List Tk→Rd Nd} (h:RunN text (f s0) s) (hg:∀l us q,s=.ok l us→At text us q→RunM text (iter f (lsOf l q)) (g l us)):RunM text (iter f s0) (s.bind g):=by
 cases s with
 | ok l us=>
   obtain ⟨q,e,hq⟩:=h
   have:=hg l us q rfl hq
   simp only [Rd.bind]
   revert this
   cases g l us with
   | ok a vs=>rintro ⟨l,p,e2,hp⟩;exact ⟨l,p,ke e e2,hp⟩
   | err c=>
     rintro (⟨y,e2,hy⟩ | ⟨y,e2,hy⟩ | ⟨y,e2,hy⟩)
     ·exact .inl ⟨y,ke e e2,hy⟩
     ·exact .inr (.inl ⟨y,ke e e2,hy⟩)
     ·exact .inr (.inr ⟨y,ke e e2,hy⟩)
   | out=>exact id
 | err c=>
   obtain ⟨y,e,hy⟩:=h
   exact .inl ⟨y,kf e,hy⟩
 | out=>trivial
theorem runN_run {α:Type} {r:Option ((α×PS)⊕(Int×PS))} {s:Rd α} {f:α→List Tk→Rd (List Nd)} {k:(α×PS)→Option (LS⊕ME)} {g:Int×PS→Option (LS⊕ME)}
 (h:Run text r s) (hk:∀a us p,s=.ok a us→At text us p→RunN text (k (a,p)) (f a us)) (hg:∀v,∃y,g v=some (.inr (.inl y))∧y.2.1=v.1):RunN text (bnd r fun y=>sel y k g) (s.bind f):=by
 cases s with
 | ok a us=>obtain ⟨p,rfl,hp⟩:=h;exact hk a us p rfl hp
 | err e=>obtain ⟨p,rfl⟩:=h;exact hg (e,p)
 | out=>trivial
theorem Hw {r:Option (((Int×Z6×Int)×PS)⊕(Int×PS))} {s:Rd Tk} {f:Tk→List Tk→Rd (List Nd)} {k:((Int×Z6×Int)×PS)→Option (LS⊕ME)} {g:Int×PS→Option (LS⊕ME)}
 (h:RunT text r s) (hk:∀x us p,s=.ok (tkE x) us→At text us p→RunN text (k (x,p)) (f (tkE x) us)) (hg:∀v,∃y,g v=some (.inr (.inl y))∧y.2.1=v.1):RunN text (bnd r fun y=>sel y k g) (s.bind f):=by
 cases s with
 | ok a us=>obtain ⟨x,p,rfl,rfl,hp⟩:=h;exact hk x us p rfl hp
 | err e=>obtain ⟨p,rfl⟩:=h;exact hg (e,p)
 | out=>trivial
theorem bind_bind {α β γ:Type} {r:Rd α} {f:α→List Tk→Rd β} {g:β→List Tk→Rd γ}:(r.bind f).bind g=r.bind fun a us=>(f a us).bind g:=by cases r<;>rfl
theorem moT_eq {n:Nat} {l:List Nd} {ts:List Tk}:moT (n+1) l ts =
 if seesT [105,110,118] ts then ((wantT [64] ts.tail).bind fun _ us=>.ok (l++[ndK 9 (hdT ts).2.2 []]) us).bind fun l us=>moT n l us
 else if seesT [99,116,114,108] ts then ((wantT [64] ts.tail).bind fun _ us=>.ok (l++[ndK 10 (hdT ts).2.2 []]) us).bind fun l us=>moT n l us
 else if seesT [112,111,119] ts then ((wantT [40] ts.tail).bind fun _ us=>(xpT n 1 us).bind fun e us=>(wantT [41] us).bind fun _ us=>(wantT [64] us).bind fun _ us=>.ok (l++[ndK 11 (hdT ts).2.2 [e]]) us).bind fun l us=>moT n l us
 else .ok l ts:=by
 rw [moT]
 simp only [bsE,bsF,bind_bind]
 rfl
theorem mods_ok (t:Int×Z6×Int) {n:Nat} (hn:n≤500000):∀k l ts p,k≤500000→At text ts p→l.length+ts.length≤100000 →
 RunM text (iter (fun s:LS=>jk.ca_ t.1 t.2.1 t.2.2 s.1 s.2.1 s.2.2.1 s.2.2.2.1 s.2.2.2.2.1 s.2.2.2.2.2 some) (lsOf l p)) ((moT k l ts).bind fun mods us=>(wordT us).bind fun w us=>apT n t.2.2 mods w us)
 | 0,_,_,_,_,_,_=>trivial
 | k+1,l,ts,p,hk,hp,hl=>by
   rw [moT_eq]
   have ok1:=ok64L (l:=l) (by omega)
   cases h1:seesT [105,110,118] ts with
   | true=>
     obtain ⟨q,e,hq⟩:=kq hp h1
     have htl:=jT h1
     rw [if_pos rfl,bind_bind]
     refine RunN.loop ?_ fun l' us q hs hq=>mods_ok t hn k l' us q (by omega) hq ?_
     ·show RunN text (jk.ca_ t.1 t.2.1 t.2.2 l p.1 p.2.1 p.2.2.1 p.2.2.2.1 p.2.2.2.2.1 some) _
      simp only [jk.ca_,jk.cm_,Jc,e,jx,br_tt,YX,ok1,JQ]
      refine Hw (kb hq [64]) (fun x us q _ hq=>?_) (fun v=>by exact ⟨_,rfl,rfl⟩)
      exact ⟨q,by rw [hp.place];rfl,hq⟩
     ·have:=Lq.bind (M:=ts.length) (want_lq (w:=[64]) (ts:=ts.tail)) (f:=fun _ us=>.ok (l++[ndK 9 (hdT ts).2.2 []]) us) (fun _ us h=>by show _<_;omega)
      rw [hs] at this
      have hus:us.length<ts.length:=this
      have hl':l'.length=l.length+1:=by
       revert hs
       cases wantT [64] ts.tail with
       | ok a vs=>intro hs;injection hs with hs1 hs2;rw [←hs1];simp
       | err c=>intro hs;cases hs
       | out=>intro hs;cases hs
      omega
   | false=>
     have e:=ko hp h1
     rw [if_neg (by simp)]
     cases h2:seesT [99,116,114,108] ts with
     | true=>
       obtain ⟨q,e2,hq⟩:=kq hp h2
       have htl:=jT h2
       rw [if_pos rfl,bind_bind]
       refine RunN.loop ?_ fun l' us q hs hq=>mods_ok t hn k l' us q (by omega) hq ?_
       ·show RunN text (jk.ca_ t.1 t.2.1 t.2.2 l p.1 p.2.1 p.2.2.1 p.2.2.2.1 p.2.2.2.2.1 some) _
        simp only [jk.ca_,jk.cm_,Jc,e,e2,jx,br_tt,br_ff,YX,ok1,JQ]
        refine Hw (kb hq [64]) (fun x us q _ hq=>?_) (fun v=>by exact ⟨_,rfl,rfl⟩)
        exact ⟨q,by rw [hp.place];rfl,hq⟩
       ·have:=Lq.bind (M:=ts.length) (want_lq (w:=[64]) (ts:=ts.tail)) (f:=fun _ us=>.ok (l++[ndK 10 (hdT ts).2.2 []]) us) (fun _ us h=>by show _<_;omega)
        rw [hs] at this
        have hus:us.length<ts.length:=this
        have hl':l'.length=l.length+1:=by
         revert hs
         cases wantT [64] ts.tail with
         | ok a vs=>intro hs;injection hs with hs1 hs2;rw [←hs1];simp
         | err c=>intro hs;cases hs
         | out=>intro hs;cases hs
        omega
     | false=>
       have e2:=ko hp h2
       rw [if_neg (by simp)]
       cases h3:seesT [112,111,119] ts with
       | true=>
         obtain ⟨q,e3,hq⟩:=kq hp h3
         have htl:=jT h3
         rw [if_pos rfl,bind_bind]
         refine RunN.loop ?_ fun l' us q hs hq=>mods_ok t hn k l' us q (by omega) hq ?_
         ·show RunN text (jk.ca_ t.1 t.2.1 t.2.2 l p.1 p.2.1 p.2.2.1 p.2.2.2.1 p.2.2.2.2.1 some) _
          simp only [jk.ca_,jk.cm_,Jc,e,e2,e3,jx,br_tt,br_ff,Yr,Ys,JQ,kz]
          refine Hw (kb hq [40]) (fun x us q _ hq=>?_) (fun v=>by exact ⟨_,rfl,rfl⟩)
          refine runN_run (VC hq (n:=k) (by omega)) (fun a us q _ hq=>?_) (fun v=>by exact ⟨_,rfl,rfl⟩)
          refine Hw (kb hq [41]) (fun x us q _ hq=>?_) (fun v=>by exact ⟨_,rfl,rfl⟩)
          simp only [YX,jx,JM,ok1,JQ]
          refine Hw (kb hq [64]) (fun x us q _ hq=>?_) (fun v=>by exact ⟨_,rfl,rfl⟩)
          exact ⟨q,by rw [hp.place];rfl,hq⟩
         ·have:=Lq.bind (M:=ts.length) (want_lq (w:=[40]) (ts:=ts.tail)) (f:=fun _ us=>(xpT k 1 us).bind fun e us=>(wantT [41] us).bind fun _ us=>(wantT [64] us).bind fun _ us=>.ok (l++[ndK 11 (hdT ts).2.2 [e]]) us) (fun _ us h=>ex_lq.bind fun e vs hv=>want_lq.bind fun _ xs hx=>want_lq.bind fun _ ys hy=>by show _<_;omega)
          rw [hs] at this
          have hus:us.length<ts.length:=this
          have hl':l'.length=l.length+1:=by
           revert hs
           cases wantT [40] ts.tail with
           | ok a vs=>
             simp only [Rd.bind]
             cases xpT k 1 vs with
             | ok b xs=>
               simp only [Rd.bind]
               cases wantT [41] xs with
               | ok c ys=>
                 simp only [Rd.bind]
                 cases wantT [64] ys with
                 | ok d zs=>intro hs;injection hs with hs1 hs2;rw [←hs1];simp
                 | err c=>intro hs;cases hs
                 | out=>intro hs;cases hs
               | err c=>intro hs;cases hs
               | out=>intro hs;cases hs
             | err c=>intro hs;cases hs
             | out=>intro hs;cases hs
           | err c=>intro hs;cases hs
           | out=>intro hs;cases hs
          omega
       | false=>
         have e3:=ko hp h3
         rw [if_neg (by simp)]
         show RunM text _ ((wordT ts).bind fun w us=>apT n t.2.2 l w us)
         have hw:=VE hp
         have key:∀r,jk.ca_ t.1 t.2.1 t.2.2 l p.1 p.2.1 p.2.2.1 p.2.2.2.1 p.2.2.2.2.1 some=some (.inr r)→iter (fun s:LS=>jk.ca_ t.1 t.2.1 t.2.2 s.1 s.2.1 s.2.2.1 s.2.2.2.1 s.2.2.2.2.1 s.2.2.2.2.2 some) (lsOf l p)=some r:=fun r h=>kf h
         revert hw
         cases wordT ts with
         | ok w us=>
           rintro ⟨x,q,ew,rfl,hq⟩
           have ha:=applied_ok hq t x l hn
           simp only [Rd.bind]
           revert ha
           cases apT n t.2.2 l (tkE x) us with
           | ok a vs=>
             rintro ⟨r,ea,hr⟩
             refine ⟨l,r,key _ ?_,hr⟩
             simp only [jk.ca_,jk.cm_,Jc,e,e2,e3,jx,br_ff,jk.c3,ew,JQ,ea,kz]
           | err c=>
             rintro ⟨r,ea⟩
             refine .inr (.inl ⟨(c,r.1,r.2.1,r.2.2.1,r.2.2.2.1,r.2.2.2.2.1),key _ ?_,rfl⟩)
             simp only [jk.ca_,jk.cm_,Jc,e,e2,e3,jx,br_ff,jk.c3,ew,JQ,ea,kz]
           | out=>exact id
         | err c=>
           rintro ⟨r,ew⟩
           refine .inr (.inr ⟨(l,c,r.1,r.2.1,r.2.2.1,r.2.2.2.1,r.2.2.2.2.1),key _ ?_,rfl⟩)
           simp only [jk.ca_,jk.cm_,Jc,e,e2,e3,jx,br_ff,jk.c3,ew,kz]
         | out=>exact id
theorem apply_ok {ts:List Tk} {p:PS} (hp:At text ts p) (t:Int×Z6×Int) {n:Nat} (hn:n≤500000) :
 Run text (jk t p.1 p.2.1 p.2.2.1 p.2.2.2.1 p.2.2.2.2.1) ((moT n [] ts).bind fun mods us=>(wordT us).bind fun w us=>apT n t.2.2 mods w us):=by
 have h:=mods_ok t hn n [] ts p hn hp (by have:=hp.cnt;have:=hp.len;simp only [zb];omega)
 unfold jk
 revert h
 cases ((moT n [] ts).bind fun mods us=>(wordT us).bind fun w us=>apT n t.2.2 mods w us) with
 | ok a us=>
   rintro ⟨l,q,e,hq⟩
   refine ⟨q,?_,hq⟩
   refine run_r e ?_
   simp only [JQ,JM]
 | err c=>
   rintro (⟨y,e,hy⟩ | ⟨y,e,hy⟩ | ⟨y,e,hy⟩)
   ·exact ⟨(y.2.2.1,y.2.2.2.1,y.2.2.2.2.1,y.2.2.2.2.2.1,y.2.2.2.2.2.2,()),run_l e (by rw [←hy])⟩
   ·exact ⟨(y.2.1,y.2.2.1,y.2.2.2.1,y.2.2.2.2.1,y.2.2.2.2.2,()),run_r e (by rw [←hy];rfl)⟩
   ·exact ⟨(y.2.2.1,y.2.2.2.1,y.2.2.2.2.1,y.2.2.2.2.2.1,y.2.2.2.2.2.2,()),run_r e (by rw [←hy];rfl)⟩
 | out=>exact id
end
end W
end

section
set_option maxRecDepth 4000
namespace W
open Go Go.Ql
section
variable {text:Z6}
theorem pass (r:Option ((Nd×PS)⊕(Int×PS))) (s:Rd Nd) (hr:Run text r s):Run text (bnd r fun y=>sel y (fun u=>some (.inl (Rose.mk (u.1.head.1,u.1.head.2.1,u.1.head.2.2.1,u.1.head.2.2.2) u.1.kids,u.2))) (fun v=>some (.inr v))) s:=by
 cases s with
 | ok a us=>obtain ⟨p,rfl,hp⟩:=hr;exact ⟨p,by simp only [jx,JQ,JM],hp⟩
 | err e=>obtain ⟨p,rfl⟩:=hr;exact ⟨p,rfl⟩
 | out=>trivial
theorem tbT_1 {k:Nat} {a:Nd} {ts:List Tk}:tbT (k+1) 1 a ts=if seesT [124] ts then (trT k 2 ts.tail).bind fun b us=>tbT k 1 (ndK 29 (hdT ts).2.2 [a,b]) us else .ok a ts:=by
 rw [tbT,show (bopT 1).1=[124] from by decide,show (bopT 1).2=29 from rfl]
theorem join_odd {n m:Nat} (hP:∀k,k≤n → ∀ts p,At text ts p→Run text ((jX.fuel m).F_tongue_parser_odd_b p) (trT k 2 ts)) :
 ∀k,k≤n+1 → ∀(a:Nd) ts p,At text ts p→RunC text (iter (fun s:CS=>@ji.ca_ (jX.fuel m) _ [124] 29 s.1 s.2.1 s.2.2.1 s.2.2.2.1 s.2.2.2.2.1 s.2.2.2.2.2.1 s.2.2.2.2.2.2.1 s.2.2.2.2.2.2.2.1 s.2.2.2.2.2.2.2.2.1 s.2.2.2.2.2.2.2.2.2 some) (csOf a p)) (tbT k 1 a ts)
 | 0,_,_,_,_,_=>trivial
 | k+1,hk,a,ts,p,h=>by
   rw [tbT_1]
   have hc:=VU h [124]
   cases hs:seesT [124] ts with
   | true=>
     rw [if_pos rfl]
     rw [hs] at hc
     have hso:=YW hs
     obtain ⟨p',e,h'⟩:=YZ h (by omega) (by omega)
     have hb:=hP k (by omega) ts.tail p' h'
     cases hx:trT k 2 ts.tail with
     | out=>trivial
     | ok b us=>
       rw [hx] at hb
       obtain ⟨q,eq,hq⟩:=hb
       have e4:@ji.c4 (jX.fuel m) _ 29 a.head.1 a.head.2.1 a.head.2.2.1 a.head.2.2.2 a.kids p.2.2.1 p.2.2.2.1 p.2.2.2.2.1 p'.1 p'.2.1 p'.2.2.1 p'.2.2.2.1 p'.2.2.2.2.1 some=some (.inl (csOf (ndK 29 (hdT ts).2.2 [a,b]) q)):=
        run_l eq (by simp only [JM,YX,jx,h.place];rfl)
       have step:@ji.ca_ (jX.fuel m) _ [124] 29 a.head.1 a.head.2.1 a.head.2.2.1 a.head.2.2.2 a.kids p.1 p.2.1 p.2.2.1 p.2.2.2.1 p.2.2.2.2.1 some=some (.inl (csOf (ndK 29 (hdT ts).2.2 [a,b]) q)):=by
        simp only [ji.ca_,hc,br_tt,jx,e,e4,JQ]
       have:=join_odd hP k (by omega) (ndK 29 (hdT ts).2.2 [a,b]) us q hq
       simp only [Rd.bind]
       revert this
       cases tbT k 1 (ndK 29 (hdT ts).2.2 [a,b]) us with
       | ok c vs=>rintro ⟨p3,e3,h3⟩;exact ⟨p3,ke step e3,h3⟩
       | err c=>rintro ⟨p3,e3,h3⟩;exact ⟨p3,ke step e3,h3⟩
       | out=>exact id
     | err c=>
       rw [hx] at hb
       obtain ⟨q,eq⟩:=hb
       have e4:@ji.c4 (jX.fuel m) _ 29 a.head.1 a.head.2.1 a.head.2.2.1 a.head.2.2.2 a.kids p.2.2.1 p.2.2.2.1 p.2.2.2.2.1 p'.1 p'.2.1 p'.2.2.1 p'.2.2.2.1 p'.2.2.2.2.1 some=some (.inr (c,q.1,q.2.1,q.2.2.1,q.2.2.2.1,q.2.2.2.2.1)):=run_r eq rfl
       have step:∃y:CE,@ji.ca_ (jX.fuel m) _ [124] 29 a.head.1 a.head.2.1 a.head.2.2.1 a.head.2.2.2 a.kids p.1 p.2.1 p.2.2.1 p.2.2.2.1 p.2.2.2.2.1 some=some (.inr (.inl y))∧y.2.2.2.2.2.1=c:=by
        simp only [ji.ca_,hc,br_tt,jx,e,e4,kz]
        exact ⟨_,rfl,rfl⟩
       obtain ⟨y,e3,h3⟩:=step
       exact ⟨y,kf e3,h3⟩
   | false=>
     rw [if_neg (by simp)]
     rw [hs] at hc
     refine ⟨p,kf ?_,h⟩
     show @ji.ca_ (jX.fuel m) _ [124] 29 a.head.1 a.head.2.1 a.head.2.2.1 a.head.2.2.2 a.kids p.1 p.2.1 p.2.2.1 p.2.2.2.1 p.2.2.2.2.1 some=_
     simp only [ji.ca_,hc,br_ff,jx]
     rfl
theorem tbT_2 {k:Nat} {a:Nd} {ts:List Tk}:tbT (k+1) 2 a ts=if seesT [94] ts then (trT k 3 ts.tail).bind fun b us=>tbT k 2 (ndK 30 (hdT ts).2.2 [a,b]) us else .ok a ts:=by
 rw [tbT,show (bopT 2).1=[94] from by decide,show (bopT 2).2=30 from rfl]
theorem join_both {n m:Nat} (hP:∀k,k≤n → ∀ts p,At text ts p→Run text ((jX.fuel m).F_tongue_parser_both_b p) (trT k 3 ts)) :
 ∀k,k≤n+1 → ∀(a:Nd) ts p,At text ts p→RunC text (iter (fun s:CS=>@jg.ca_ (jX.fuel m) _ [94] 30 s.1 s.2.1 s.2.2.1 s.2.2.2.1 s.2.2.2.2.1 s.2.2.2.2.2.1 s.2.2.2.2.2.2.1 s.2.2.2.2.2.2.2.1 s.2.2.2.2.2.2.2.2.1 s.2.2.2.2.2.2.2.2.2 some) (csOf a p)) (tbT k 2 a ts)
 | 0,_,_,_,_,_=>trivial
 | k+1,hk,a,ts,p,h=>by
   rw [tbT_2]
   have hc:=VU h [94]
   cases hs:seesT [94] ts with
   | true=>
     rw [if_pos rfl]
     rw [hs] at hc
     have hso:=YW hs
     obtain ⟨p',e,h'⟩:=YZ h (by omega) (by omega)
     have hb:=hP k (by omega) ts.tail p' h'
     cases hx:trT k 3 ts.tail with
     | out=>trivial
     | ok b us=>
       rw [hx] at hb
       obtain ⟨q,eq,hq⟩:=hb
       have e4:@jg.c4 (jX.fuel m) _ 30 a.head.1 a.head.2.1 a.head.2.2.1 a.head.2.2.2 a.kids p.2.2.1 p.2.2.2.1 p.2.2.2.2.1 p'.1 p'.2.1 p'.2.2.1 p'.2.2.2.1 p'.2.2.2.2.1 some=some (.inl (csOf (ndK 30 (hdT ts).2.2 [a,b]) q)):=
        run_l eq (by simp only [JM,YX,jx,h.place];rfl)
       have step:@jg.ca_ (jX.fuel m) _ [94] 30 a.head.1 a.head.2.1 a.head.2.2.1 a.head.2.2.2 a.kids p.1 p.2.1 p.2.2.1 p.2.2.2.1 p.2.2.2.2.1 some=some (.inl (csOf (ndK 30 (hdT ts).2.2 [a,b]) q)):=by
        simp only [jg.ca_,hc,br_tt,jx,e,e4,JQ]
       have:=join_both hP k (by omega) (ndK 30 (hdT ts).2.2 [a,b]) us q hq
       simp only [Rd.bind]
       revert this
       cases tbT k 2 (ndK 30 (hdT ts).2.2 [a,b]) us with
       | ok c vs=>rintro ⟨p3,e3,h3⟩;exact ⟨p3,ke step e3,h3⟩
       | err c=>rintro ⟨p3,e3,h3⟩;exact ⟨p3,ke step e3,h3⟩
       | out=>exact id
     | err c=>
       rw [hx] at hb
       obtain ⟨q,eq⟩:=hb
       have e4:@jg.c4 (jX.fuel m) _ 30 a.head.1 a.head.2.1 a.head.2.2.1 a.head.2.2.2 a.kids p.2.2.1 p.2.2.2.1 p.2.2.2.2.1 p'.1 p'.2.1 p'.2.2.1 p'.2.2.2.1 p'.2.2.2.2.1 some=some (.inr (c,q.1,q.2.1,q.2.2.1,q.2.2.2.1,q.2.2.2.2.1)):=run_r eq rfl
       have step:∃y:CE,@jg.ca_ (jX.fuel m) _ [94] 30 a.head.1 a.head.2.1 a.head.2.2.1 a.head.2.2.2 a.kids p.1 p.2.1 p.2.2.1 p.2.2.2.1 p.2.2.2.2.1 some=some (.inr (.inl y))∧y.2.2.2.2.2.1=c:=by
        simp only [jg.ca_,hc,br_tt,jx,e,e4,kz]
        exact ⟨_,rfl,rfl⟩
       obtain ⟨y,e3,h3⟩:=step
       exact ⟨y,kf e3,h3⟩
   | false=>
     rw [if_neg (by simp)]
     rw [hs] at hc
     refine ⟨p,kf ?_,h⟩
     show @jg.ca_ (jX.fuel m) _ [94] 30 a.head.1 a.head.2.1 a.head.2.2.1 a.head.2.2.2 a.kids p.1 p.2.1 p.2.2.1 p.2.2.2.1 p.2.2.2.2.1 some=_
     simp only [jg.ca_,hc,br_ff,jx]
     rfl
theorem tbT_3 {k:Nat} {a:Nd} {ts:List Tk}:tbT (k+1) 3 a ts=if seesT [38] ts then (trT k 4 ts.tail).bind fun b us=>tbT k 3 (ndK 28 (hdT ts).2.2 [a,b]) us else .ok a ts:=by
 rw [tbT,show (bopT 3).1=[38] from by decide,show (bopT 3).2=28 from rfl]
theorem join_not {n m:Nat} (hP:∀k,k≤n → ∀ts p,At text ts p→Run text ((jX.fuel m).F_tongue_parser_not_b p) (trT k 4 ts)) :
 ∀k,k≤n+1 → ∀(a:Nd) ts p,At text ts p→RunC text (iter (fun s:CS=>@jh.ca_ (jX.fuel m) _ [38] 28 s.1 s.2.1 s.2.2.1 s.2.2.2.1 s.2.2.2.2.1 s.2.2.2.2.2.1 s.2.2.2.2.2.2.1 s.2.2.2.2.2.2.2.1 s.2.2.2.2.2.2.2.2.1 s.2.2.2.2.2.2.2.2.2 some) (csOf a p)) (tbT k 3 a ts)
 | 0,_,_,_,_,_=>trivial
 | k+1,hk,a,ts,p,h=>by
   rw [tbT_3]
   have hc:=VU h [38]
   cases hs:seesT [38] ts with
   | true=>
     rw [if_pos rfl]
     rw [hs] at hc
     have hso:=YW hs
     obtain ⟨p',e,h'⟩:=YZ h (by omega) (by omega)
     have hb:=hP k (by omega) ts.tail p' h'
     cases hx:trT k 4 ts.tail with
     | out=>trivial
     | ok b us=>
       rw [hx] at hb
       obtain ⟨q,eq,hq⟩:=hb
       have e4:@jh.c4 (jX.fuel m) _ 28 a.head.1 a.head.2.1 a.head.2.2.1 a.head.2.2.2 a.kids p.2.2.1 p.2.2.2.1 p.2.2.2.2.1 p'.1 p'.2.1 p'.2.2.1 p'.2.2.2.1 p'.2.2.2.2.1 some=some (.inl (csOf (ndK 28 (hdT ts).2.2 [a,b]) q)):=
        run_l eq (by simp only [JM,YX,jx,h.place];rfl)
       have step:@jh.ca_ (jX.fuel m) _ [38] 28 a.head.1 a.head.2.1 a.head.2.2.1 a.head.2.2.2 a.kids p.1 p.2.1 p.2.2.1 p.2.2.2.1 p.2.2.2.2.1 some=some (.inl (csOf (ndK 28 (hdT ts).2.2 [a,b]) q)):=by
        simp only [jh.ca_,hc,br_tt,jx,e,e4,JQ]
       have:=join_not hP k (by omega) (ndK 28 (hdT ts).2.2 [a,b]) us q hq
       simp only [Rd.bind]
       revert this
       cases tbT k 3 (ndK 28 (hdT ts).2.2 [a,b]) us with
       | ok c vs=>rintro ⟨p3,e3,h3⟩;exact ⟨p3,ke step e3,h3⟩
       | err c=>rintro ⟨p3,e3,h3⟩;exact ⟨p3,ke step e3,h3⟩
       | out=>exact id
     | err c=>
       rw [hx] at hb
       obtain ⟨q,eq⟩:=hb
       have e4:@jh.c4 (jX.fuel m) _ 28 a.head.1 a.head.2.1 a.head.2.2.1 a.head.2.2.2 a.kids p.2.2.1 p.2.2.2.1 p.2.2.2.2.1 p'.1 p'.2.1 p'.2.2.1 p'.2.2.2.1 p'.2.2.2.2.1 some=some (.inr (c,q.1,q.2.1,q.2.2.1,q.2.2.2.1,q.2.2.2.2.1)):=run_r eq rfl
       have step:∃y:CE,@jh.ca_ (jX.fuel m) _ [38] 28 a.head.1 a.head.2.1 a.head.2.2.1 a.head.2.2.2 a.kids p.1 p.2.1 p.2.2.1 p.2.2.2.1 p.2.2.2.2.1 some=some (.inr (.inl y))∧y.2.2.2.2.2.1=c:=by
        simp only [jh.ca_,hc,br_tt,jx,e,e4,kz]
        exact ⟨_,rfl,rfl⟩
       obtain ⟨y,e3,h3⟩:=step
       exact ⟨y,kf e3,h3⟩
   | false=>
     rw [if_neg (by simp)]
     rw [hs] at hc
     refine ⟨p,kf ?_,h⟩
     show @jh.ca_ (jX.fuel m) _ [38] 28 a.head.1 a.head.2.1 a.head.2.2.1 a.head.2.2.2 a.kids p.1 p.2.1 p.2.2.1 p.2.2.2.1 p.2.2.2.2.1 some=_
     simp only [jh.ca_,hc,br_ff,jx]
     rfl
theorem trT_4 {n:Nat} {ts:List Tk}:trT (n+1) 4 ts=noT n ts:=by rw [trT];rfl
theorem trT_3 {n:Nat} {ts:List Tk}:trT (n+1) 3 ts=(trT n 4 ts).bind fun a us=>tbT n 3 a us:=by rw [trT];rfl
theorem trT_2 {n:Nat} {ts:List Tk}:trT (n+1) 2 ts=(trT n 3 ts).bind fun a us=>tbT n 2 a us:=by rw [trT];rfl
theorem trT_1 {n:Nat} {ts:List Tk}:trT (n+1) 1 ts=(trT n 2 ts).bind fun a us=>tbT n 1 a us:=by rw [trT];rfl
structure BoolOk (text:Z6) (n m:Nat):Prop where
 either:∀ts p,At text ts p→Run text ((jX.fuel m).F_tongue_parser_either_b p) (trT n 1 ts)
 odd:∀ts p,At text ts p→Run text ((jX.fuel m).F_tongue_parser_odd_b p) (trT n 2 ts)
 both:∀ts p,At text ts p→Run text ((jX.fuel m).F_tongue_parser_both_b p) (trT n 3 ts)
 not:∀ts p,At text ts p→Run text ((jX.fuel m).F_tongue_parser_not_b p) (noT n ts)
theorem bool_step {n m:Nat} (hn:n≤400000) (h:∀k,k≤n → ∀m,2*k≤m→BoolOk text k m) (hm:2*(n+1)≤m+1):BoolOk text (n+1) (m+1):=by
 have hN:=h n (zt _) m (by omega)
 refine ⟨fun ts p hp=>?_,fun ts p hp=>?_,fun ts p hp=>?_,fun ts p hp=>?_⟩
 ·show Run text (@jH (jX.fuel m) p.1 p.2.1 p.2.2.1 p.2.2.2.1 p.2.2.2.2.1) _
  rw [trT_1]
  obtain ⟨m,rfl⟩:∃m',m=m'+1:=⟨m-1,by omega⟩
  have hU:∀k,k≤n → ∀ts p,At text ts p→Run text ((jX.fuel m).F_tongue_parser_odd_b p) (trT k 2 ts):=by
   intro k hk ts p hp
   exact (h k hk m (by omega)).odd ts p hp
  have hb:Run text (@ji (jX.fuel m) [124] 29 p.1 p.2.1 p.2.2.1 p.2.2.2.1 p.2.2.2.2.1) ((trT n 2 ts).bind fun a us=>tbT n 1 a us):=by
   unfold ji
   refine Run.bind (hU n (zt _) ts p hp) (fun a us q _ hq=>?_) (fun v=>⟨_,rfl⟩)
   refine RunC.fin (join_odd (n:=n) (fun k hk ts p hp=>hU k hk ts p hp) n (by omega) a us q hq) (fun a p=>?_) (fun y=>⟨_,rfl⟩)
   simp only [csOf,JM]
  unfold jH
  exact pass _ _ hb
 ·show Run text (@jU (jX.fuel m) p.1 p.2.1 p.2.2.1 p.2.2.2.1 p.2.2.2.2.1) _
  rw [trT_2]
  obtain ⟨m,rfl⟩:∃m',m=m'+1:=⟨m-1,by omega⟩
  have hU:∀k,k≤n → ∀ts p,At text ts p→Run text ((jX.fuel m).F_tongue_parser_both_b p) (trT k 3 ts):=by
   intro k hk ts p hp
   exact (h k hk m (by omega)).both ts p hp
  have hb:Run text (@jg (jX.fuel m) [94] 30 p.1 p.2.1 p.2.2.1 p.2.2.2.1 p.2.2.2.2.1) ((trT n 3 ts).bind fun a us=>tbT n 2 a us):=by
   unfold jg
   refine Run.bind (hU n (zt _) ts p hp) (fun a us q _ hq=>?_) (fun v=>⟨_,rfl⟩)
   refine RunC.fin (join_both (n:=n) (fun k hk ts p hp=>hU k hk ts p hp) n (by omega) a us q hq) (fun a p=>?_) (fun y=>⟨_,rfl⟩)
   simp only [csOf,JM]
  unfold jU
  exact pass _ _ hb
 ·show Run text (@jP (jX.fuel m) p.1 p.2.1 p.2.2.1 p.2.2.2.1 p.2.2.2.2.1) _
  rw [trT_3]
  obtain ⟨m,rfl⟩:∃m',m=m'+1:=⟨m-1,by omega⟩
  have hU:∀k,k≤n → ∀ts p,At text ts p→Run text ((jX.fuel m).F_tongue_parser_not_b p) (trT k 4 ts):=by
   intro k hk ts p hp
   cases k with
   | zero=>trivial
   | succ k=>rw [trT_4];exact (h k (by omega) m (by omega)).not ts p hp
  have hb:Run text (@jh (jX.fuel m) [38] 28 p.1 p.2.1 p.2.2.1 p.2.2.2.1 p.2.2.2.2.1) ((trT n 4 ts).bind fun a us=>tbT n 3 a us):=by
   unfold jh
   refine Run.bind (hU n (zt _) ts p hp) (fun a us q _ hq=>?_) (fun v=>⟨_,rfl⟩)
   refine RunC.fin (join_not (n:=n) (fun k hk ts p hp=>hU k hk ts p hp) n (by omega) a us q hq) (fun a p=>?_) (fun y=>⟨_,rfl⟩)
   simp only [csOf,JM]
  unfold jP
  exact pass _ _ hb
 ·show Run text (@jo (jX.fuel m) p.1 p.2.1 p.2.2.1 p.2.2.2.1 p.2.2.2.2.1) _
  rw [noT]
  simp only [bsE, show bs "!" = [33] from by decide, show bs "0" = [48] from by decide, show bs "1" = [49] from by decide]
  unfold jo
  cases hs:seesT [33] ts with
  | true=>
    obtain ⟨q,e,hq⟩:=kq hp hs
    simp only [Jc,e,jx,br_tt,jo.c3,Yr,Ys,JQ,kz,if_true]
    refine Run.bind (hN.not ts.tail q hq) (fun a us r _ hr=>?_) (fun v=>⟨_,rfl⟩)
    simp only [JM,YX,jx,hp.place]
    exact Run.some hr
  | false=>
    have e:=ko hp hs
    simp only [Jc,e,jx,br_ff,zd,if_false]
    cases hs2:seesT [40] ts with
    | true=>
      obtain ⟨q,e,hq⟩:=kq hp hs2
      simp only [e,jx,br_tt,if_true]
      refine Run.bind (hN.either ts.tail q hq) (fun a us r _ hr=>?_) (fun v=>⟨_,rfl⟩)
      refine RunT.bind (kb hr [41]) (fun x us q _ hq=>?_) (fun v=>⟨_,rfl⟩)
      simp only [JM]
      exact Run.some hq
    | false=>
      have e:=ko hp hs2
      simp only [e,jx,br_ff,zd,if_false]
      have hsort:(p.2.2.1==(3:Int))=decide ((hdT ts).1=3):=by
       rw [hp.hd];unfold srt;dsimp only
       by_cases h1:p.2.2.1=3
       ·rw [h1];simp
       ·rw [show (p.2.2.1==(3:Int))=false by simpa using h1]
        split
        ·simp
        ·split
         ·simp
         ·simp [h1]
      have e8:jo.c8 p.2.2.1 p.2.2.2.1 some=some (decide ((hdT ts).1=3∧((hdT ts).2.1=[48]∨(hdT ts).2.1=[49]))):=by
       unfold jo.c8
       rw [hsort,hp.word]
       by_cases h3:(hdT ts).1=3
       ·rw [kn h3]
        by_cases h0:(hdT ts).2.1=[48]
        ·rw [Hd (by rw [h0];rfl)];simp [h3,h0]
        ·rw [UH (by simpa using h0)]
         simp only [h3,h0,true_and,false_or]
         exact congrArg some (by rw [Bool.eq_iff_iff];simp)
       ·rw [kM h3];simp [h3]
      rw [e8,jx]
      by_cases hc:(hdT ts).1=3∧((hdT ts).2.1=[48]∨(hdT ts).2.1=[49])
      ·obtain ⟨q,e,hq⟩:=YZ hp (by omega) (by omega)
       rw [if_pos hc,kn hc,e,jx]
       have e10:jo.c10 p.2.2.2.1 some=some (if (hdT ts).2.1=[48] then 0 else 1):=by
        unfold jo.c10
        rw [hp.word]
        rcases hc.2 with h0 | h0<;>(rw [h0];decide +kernel)
       rw [e10,jx]
       simp only [hp.place]
       exact Run.some hq
      ·rw [if_neg hc,kM hc]
       exact pass _ _ (Hv hp (by omega))
theorem bool_all:∀n m,n≤400000→2*n≤m→BoolOk text n m:=by
 intro n
 induction n using Nat.strongRecOn with
 | _ n ih=>
   intro m hn hm
   cases n with
   | zero=>exact ⟨fun _ _ _=>trivial,fun _ _ _=>trivial,fun _ _ _=>trivial,fun _ _ _=>trivial⟩
   | succ n=>
     obtain ⟨m,rfl⟩:∃m',m=m'+1:=⟨m-1,by omega⟩
     exact bool_step (by omega) (fun k hk m hm=>ih k (by omega) m (by omega) hm) hm
theorem either_ok {ts:List Tk} {p:PS} (h:At text ts p) {n:Nat} (hn:n≤400000):Run text (kN p) (trT n 1 ts):=(bool_all n 1000000 hn (by omega)).either ts p h
end
end W
end

section
set_option maxRecDepth 4000
namespace W
open Go Go.Ql
section
variable {text:Z6}
theorem bsG : bs "for" = [102, 111, 114] ∧ bs "in" = [105, 110] ∧ bs "when" = [119, 104, 101, 110] ∧ bs "if" = [105, 102] ∧ bs "!" = [33] ∧ bs "else" = [101, 108, 115, 101] ∧ bs "measure" = [109, 101, 97, 115, 117, 114, 101] ∧ bs "->" = [45, 62] ∧ bs "reset" = [114, 101, 115, 101, 116] ∧ bs "within" = [119, 105, 116, 104, 105, 110] ∧ bs "apply" = [97, 112, 112, 108, 121] ∧ bs "^=" = [94, 61] := by decide
structure StmOk (text:Z6) (n m:Nat):Prop where
 block:∀ts p,At text ts p→Run text ((JI.fuel m).F_tongue_parser_block_b p) (blT n ts)
 stm:∀ts p,At text ts p→Run text ((JI.fuel m).F_tongue_parser_statement_b p) (stT n ts)
theorem node_nil (k:Int) (t:Int×Z6×Int):JO k t=some (k,t.2.2,[],0,()):=rfl
theorem block_loop {n m:Nat} (hS:∀k,k≤n → ∀ts p,At text ts p→Run text ((JI.fuel m).F_tongue_parser_statement_b p) (stT k ts)) :
 ∀k,k≤n+1 → ∀(l:List Nd) ts p,At text ts p→l.length+ts.length≤100000→RunL text (iter (fun s:LS=>@jl.ca_ (JI.fuel m) _ s.1 s.2.1 s.2.2.1 s.2.2.2.1 s.2.2.2.2.1 s.2.2.2.2.2 some) (lsOf l p)) (sqT k l ts)
 | 0,_,_,_,_,_,_=>trivial
 | k+1,hk,l,ts,p,h,hl=>by
   rw [sqT]
   cases hs:seesT [125] ts with
   | true=>
     rw [if_pos rfl]
     obtain ⟨q,e,hq⟩:=kq h hs
     refine ⟨q,kf ?_,hq⟩
     show @jl.ca_ (JI.fuel m) _ l p.1 p.2.1 p.2.2.1 p.2.2.2.1 p.2.2.2.2.1 some=_
     simp only [jl.ca_,Jc,e,jx,Bool.not_true,br_ff]
     rfl
   | false=>
     rw [if_neg (by simp)]
     have e:=ko h hs
     have hb:=hS k (by omega) ts p h
     have hlq:=st_lq (n:=k) (ts:=ts)
     cases hx:stT k ts with
     | out=>trivial
     | ok b us=>
       rw [hx] at hb hlq
       have hus:us.length<ts.length:=hlq
       obtain ⟨q,eq,hq⟩:=hb
       have e3:@jl.c3 (JI.fuel m) _ l p.1 p.2.1 p.2.2.1 p.2.2.2.1 p.2.2.2.2.1 some=some (.inl (lsOf (l++[b]) q)):=
        run_l eq (jw (ok64 (n:=l.length+1) (by omega)) rfl)
       have step:@jl.ca_ (JI.fuel m) _ l p.1 p.2.1 p.2.2.1 p.2.2.2.1 p.2.2.2.2.1 some=some (.inl (lsOf (l++[b]) q)):=by
        simp only [jl.ca_,Jc,e,jx,Bool.not_false,br_tt,e3,JQ]
       have:=block_loop hS k (by omega) (l++[b]) us q hq (by simp only [z8,zy];omega)
       simp only [Rd.bind]
       revert this
       cases sqT k (l++[b]) us with
       | ok c vs=>rintro ⟨p3,e3,h3⟩;exact ⟨p3,ke step e3,h3⟩
       | err c=>rintro ⟨p3,e3,h3⟩;exact ⟨p3,ke step e3,h3⟩
       | out=>exact id
     | err c=>
       rw [hx] at hb
       obtain ⟨q,eq⟩:=hb
       have e3:@jl.c3 (JI.fuel m) _ l p.1 p.2.1 p.2.2.1 p.2.2.2.1 p.2.2.2.2.1 some=some (.inr (c,q.1,q.2.1,q.2.2.1,q.2.2.2.1,q.2.2.2.2.1)):=run_r eq rfl
       have step:∃y:LE,@jl.ca_ (JI.fuel m) _ l p.1 p.2.1 p.2.2.1 p.2.2.2.1 p.2.2.2.2.1 some=some (.inr (.inl y))∧y.2.1=c:=by
        simp only [jl.ca_,Jc,e,jx,Bool.not_false,br_tt,e3,kz]
        exact ⟨_,rfl,rfl⟩
       obtain ⟨y,e4,h4⟩:=step
       exact ⟨y,kf e4,h4⟩
def chT (n:Nat) (at_:Int) (ts:List Tk):Rd Nd:=
 (reT n (if seesT [33] ts then ts.tail else ts)).bind fun r us=>(blT n us).bind fun b us=>
  if seesT [101,108,115,101] us then (blT n us.tail).bind fun c us=>.ok (ndN 14 at_ [] (if seesT [33] ts then 1 else 0) [r,b,c]) us
  else .ok (ndN 14 at_ [] (if seesT [33] ts then 1 else 0) [r,b]) us
theorem choice_ok {n m:Nat} (hn:n≤400000) (hB:∀ts p,At text ts p→Run text ((JI.fuel m).F_tongue_parser_block_b p) (blT n ts)) {ts:List Tk} {p:PS} (hp:At text ts p) (t:Int×Z6×Int) :
 Run text (@jj (JI.fuel m) t p.1 p.2.1 p.2.2.1 p.2.2.2.1 p.2.2.2.2.1) (chT n t.2.2 ts):=by
 unfold jj chT
 simp only [node_nil,jx]
 have e1:∃q,jj.cc_ 0 p.1 p.2.1 p.2.2.1 p.2.2.2.1 p.2.2.2.2.1 some=some (if seesT [33] ts then 1 else 0,q.1,q.2.1,q.2.2.1,q.2.2.2.1,q.2.2.2.2.1)∧At text (if seesT [33] ts then ts.tail else ts) q:=by
  unfold jj.cc_
  cases hs:seesT [33] ts with
  | true=>
    obtain ⟨q,e,hq⟩:=kq hp hs
    exact ⟨q,by simp only [Jc,e,jx,br_tt];rfl,hq⟩
  | false=>
    have e:=ko hp hs
    exact ⟨p,by simp only [Jc,e,jx,br_ff];rfl,hp⟩
 obtain ⟨q,e,hq⟩:=e1
 rw [e,jx]
 simp only [jj.c4,Yr,Ys,JQ,kz]
 refine Run.bind (Hv hq (by omega)) (fun r us q _ hq=>?_) (fun v=>⟨_,rfl⟩)
 simp only [Yr,Ys,JQ,kz,jx]
 refine Run.bind (hB us q hq) (fun b us q _ hq=>?_) (fun v=>⟨_,rfl⟩)
 rw [show okIf (decide ((List.length ([]:List (Rose (Int×(Int×(Z6×Int)))))+(2:Nat))*(64:Nat)≤(140737488355328:Nat))&&decide (List.length ([]:List (Rose (Int×(Int×(Z6×Int)))))+(2:Nat)≤(140737488355328:Nat)))=some () from ok64 (by simp)]
 simp only [jx,JQ,List.nil_append,jj.cg_]
 cases hs:seesT [101,108,115,101] us with
 | true=>
   obtain ⟨q,e,hq⟩:=kq hq hs
   simp only [Jc,e,jx,br_tt,if_true,jj.c6,Yr,Ys,JQ,kz]
   refine Run.bind (hB us.tail q hq) (fun c us q _ hq=>?_) (fun v=>⟨_,rfl⟩)
   rw [ok64L (l:=[r,b]) (by simp)]
   exact Run.some hq
 | false=>
   have e:=ko hq hs
   simp only [Jc,e,jx,br_ff,zd,if_false,JQ]
   exact Run.some hq
theorem stm_step {n m:Nat} (hn:n≤400000) (h:∀k,k≤n → ∀m,2*k≤m→StmOk text k m) (hm:2*(n+1)≤m+1):StmOk text (n+1) (m+1):=by
 have hN:=h n (zt _) m (by omega)
 refine ⟨fun ts p hp=>?_,fun ts p hp=>?_⟩
 ·show Run text (@jl (JI.fuel m) p.1 p.2.1 p.2.2.1 p.2.2.2.1 p.2.2.2.2.1) _
  rw [blT]
  unfold jl
  refine RunT.bind (kb hp [123]) (fun x us q _ hq=>?_) (fun v=>⟨_,rfl⟩)
  simp only [node_nil,jx]
  have hc:=hq.cnt
  have hl:=hq.len
  have hL:=block_loop (n:=n) (fun k hk ts p hp=>(h k hk m (by omega)).stm ts p hp) n (by omega) [] us q hq (by simp only [zb];omega)
  revert hL
  cases sqT n [] us with
  | ok l vs=>rintro ⟨r,e,hr⟩;exact ⟨r,run_r e rfl,hr⟩
  | err c=>
    rintro ⟨y,e,hy⟩
    exact ⟨(y.2.2.1,y.2.2.2.1,y.2.2.2.2.1,y.2.2.2.2.2.1,y.2.2.2.2.2.2,()),run_l e (by rw [←hy])⟩
  | out=>exact id
 ·show Run text (@jb (JI.fuel m) p.1 p.2.1 p.2.2.1 p.2.2.2.1 p.2.2.2.2.1) _
  obtain ⟨m,rfl⟩:∃m',m=m'+1:=⟨m-1,by omega⟩
  rw [stT]
  simp only [bsE,bsF,bsG]
  unfold jb
  cases h1:seesT [102,111,114] ts with
  | true=>
    obtain ⟨q,e,hq⟩:=kq hp h1
    simp only [Jc,e,jx,br_tt,if_true]
    refine RunT.bind (VE hq) (fun w us q _ hq=>?_) (fun v=>⟨_,rfl⟩)
    refine RunT.bind (kb hq [105,110]) (fun x us q _ hq=>?_) (fun v=>⟨_,rfl⟩)
    refine Run.bind (VC hq (by omega)) (fun lo us q _ hq=>?_) (fun v=>⟨_,rfl⟩)
    refine RunT.bind (kb hq [46,46]) (fun x us q _ hq=>?_) (fun v=>⟨_,rfl⟩)
    refine Run.bind (VC hq (by omega)) (fun hi us q _ hq=>?_) (fun v=>⟨_,rfl⟩)
    simp only [jb.c8,Yr,Ys,JQ,kz,jx]
    refine Run.bind (hN.block us q hq) (fun b us q _ hq=>?_) (fun v=>⟨_,rfl⟩)
    simp only [Vn,jx,JM,hp.place]
    exact Run.some hq
  | false=>
    have e:=ko hp h1
    simp only [Jc,e,jx,br_ff,zd,if_false]
    cases h2:seesT [119,104,101,110] ts with
    | true=>
      obtain ⟨q,e,hq⟩:=kq hp h2
      simp only [e,jx,br_tt,if_true]
      refine Run.bind (VC hq (by omega)) (fun a us q _ hq=>?_) (fun v=>⟨_,rfl⟩)
      simp only [jb.c11,Yr,Ys,JQ,kz,jx]
      refine Run.bind (hN.block us q hq) (fun b us q _ hq=>?_) (fun v=>⟨_,rfl⟩)
      simp only [YX,jx,JM,hp.place]
      exact Run.some hq
    | false=>
      have e:=ko hp h2
      simp only [e,jx,br_ff,zd,if_false]
      cases h3:seesT [105,102] ts with
      | true=>
        obtain ⟨q,e,hq⟩:=kq hp h3
        simp only [e,jx,br_tt,if_true]
        have hb:=choice_ok (by omega) (h n (zt _) m (by omega)).block hq (p.2.2.1,p.2.2.2.1,p.2.2.2.2.1)
        rw [←hp.place]
        exact pass _ _ hb
      | false=>
        have e:=ko hp h3
        simp only [e,jx,br_ff,zd,if_false]
        cases h4:seesT [109,101,97,115,117,114,101] ts with
        | true=>
          obtain ⟨q,e,hq⟩:=kq hp h4
          simp only [e,jx,br_tt,if_true]
          refine Run.bind (Hv hq (by omega)) (fun a us q _ hq=>?_) (fun v=>⟨_,rfl⟩)
          refine RunT.bind (kb hq [45,62]) (fun x us q _ hq=>?_) (fun v=>⟨_,rfl⟩)
          refine Run.bind (Hv hq (by omega)) (fun b us q _ hq=>?_) (fun v=>⟨_,rfl⟩)
          refine RunT.bind (kb hq [59]) (fun x us q _ hq=>?_) (fun v=>⟨_,rfl⟩)
          simp only [YX,jx,JM,hp.place]
          exact Run.some hq
        | false=>
          have e:=ko hp h4
          simp only [e,jx,br_ff,zd,if_false]
          cases h5:seesT [114,101,115,101,116] ts with
          | true=>
            obtain ⟨q,e,hq⟩:=kq hp h5
            simp only [e,jx,br_tt,if_true]
            refine Run.bind (Hv hq (by omega)) (fun a us q _ hq=>?_) (fun v=>⟨_,rfl⟩)
            refine RunT.bind (kb hq [59]) (fun x us q _ hq=>?_) (fun v=>⟨_,rfl⟩)
            simp only [YX,jx,JM,hp.place]
            exact Run.some hq
          | false=>
            have e:=ko hp h5
            simp only [e,jx,br_ff,zd,if_false]
            cases h6:seesT [119,105,116,104,105,110] ts with
            | true=>
              obtain ⟨q,e,hq⟩:=kq hp h6
              simp only [e,jx,br_tt,if_true]
              refine Run.bind (hN.block ts.tail q hq) (fun a us q _ hq=>?_) (fun v=>⟨_,rfl⟩)
              refine RunT.bind (kb hq [97,112,112,108,121]) (fun x us q _ hq=>?_) (fun v=>⟨_,rfl⟩)
              simp only [jb.c27,Yr,Ys,JQ,kz,jx]
              refine Run.bind (hN.block us q hq) (fun b us q _ hq=>?_) (fun v=>⟨_,rfl⟩)
              simp only [YX,jx,JM,hp.place]
              exact Run.some hq
            | false=>
              have e:=ko hp h6
              simp only [e,jx,br_ff,zd,if_false]
              have e7:jb.cp_ p.1 p.2.1 p.2.2.1 p.2.2.2.1 p.2.2.2.2.1 some=some (seesT [105,110,118] ts||seesT [99,116,114,108] ts||seesT [112,111,119] ts,p.1,p.2.1,p.2.2.1,p.2.2.2.1,p.2.2.2.2.1):=by
               unfold jb.cp_
               simp only [Jc,VU hp,jx]
               cases seesT [105,110,118] ts
               ·cases seesT [99,116,114,108] ts<;>simp [br_tt,br_ff]
               ·simp [br_tt]
              rw [e7,jx]
              cases h7:(seesT [105,110,118] ts||seesT [99,116,114,108] ts||seesT [112,111,119] ts) with
              | true=>
                simp only [br_tt,if_true]
                have hb:=apply_ok hp (p.2.2.1,p.2.2.2.1,p.2.2.2.2.1) (n:=n) (by omega)
                rw [←hp.place]
                exact pass _ _ hb
              | false=>
                simp only [br_ff,zd,if_false]
                refine RunT.bind (VE hp) (fun w us q _ hq=>?_) (fun v=>⟨_,rfl⟩)
                have e8:jb.c33 q.1 q.2.1 q.2.2.1 q.2.2.2.1 q.2.2.2.2.1 some=some (seesT [91] us||seesT [94,61] us,q.1,q.2.1,q.2.2.1,q.2.2.2.1,q.2.2.2.2.1):=by
                 unfold jb.c33
                 simp only [Jc,VU hq,jx]
                 cases seesT [91] us<;>simp [br_tt,br_ff]
                dsimp only
                rw [e8,jx]
                cases h8:(seesT [91] us||seesT [94,61] us) with
                | true=>
                  simp only [br_tt,if_true]
                  refine Run.bind (refFrom_ok hq w (by omega)) (fun r us q _ hq=>?_) (fun v=>⟨_,rfl⟩)
                  refine RunT.bind (kb hq [94,61]) (fun x us q _ hq=>?_) (fun v=>⟨_,rfl⟩)
                  refine Run.bind (either_ok hq (by omega)) (fun a us q _ hq=>?_) (fun v=>⟨_,rfl⟩)
                  refine RunT.bind (kb hq [59]) (fun x us q _ hq=>?_) (fun v=>⟨_,rfl⟩)
                  simp only [YX,jx,JM,hp.place]
                  exact Run.some hq
                | false=>
                  simp only [br_ff,zd,if_false]
                  have hb:=applied_ok hq (p.2.2.1,p.2.2.2.1,p.2.2.2.2.1) w [] (n:=n) (by omega)
                  rw [←hp.place]
                  exact pass _ _ hb
theorem stm_all:∀n m,n≤400000→2*n≤m→StmOk text n m:=by
 intro n
 induction n using Nat.strongRecOn with
 | _ n ih=>
   intro m hn hm
   cases n with
   | zero=>exact ⟨fun _ _ _=>trivial,fun _ _ _=>trivial⟩
   | succ n=>
     obtain ⟨m,rfl⟩:∃m',m=m'+1:=⟨m-1,by omega⟩
     exact stm_step (by omega) (fun k hk m hm=>ih k (by omega) m (by omega) hm) hm
theorem block_ok {ts:List Tk} {p:PS} (h:At text ts p) {n:Nat} (hn:n≤400000):Run text (kQ p) (blT n ts):=(stm_all n 1000000 hn (by omega)).block ts p h
theorem statement_ok {ts:List Tk} {p:PS} (h:At text ts p) {n:Nat} (hn:n≤400000):Run text (ku p) (stT n ts):=(stm_all n 1000000 hn (by omega)).stm ts p h
end
end W
end

section
set_option maxRecDepth 4000
namespace W
open Go Go.Ql
section
variable {text:Z6}
theorem bsH : bs "qubit" = [113, 117, 98, 105, 116] ∧ bs "bit" = [98, 105, 116] ∧ bs "const" = [99, 111, 110, 115, 116] ∧ bs "=" = [61] ∧ bs "gate" = [103, 97, 116, 101] := by decide
theorem gate2_ok {ts:List Tk} {p:PS} (hp:At text ts p):Run text (jZ p.1 p.2.1 p.2.2.1 p.2.2.2.1 p.2.2.2.2.1) (p2T ts):=by
 unfold p2T jZ
 refine RunT.bind (VE hp) (fun x us q _ hq=>?_) (fun v=>⟨_,rfl⟩)
 simp only [Vn,jx,jZ.cd_,bsE]
 cases hs:seesT [91] us with
 | true=>
   obtain ⟨q,e,hq⟩:=kq hq hs
   simp only [Jc,e,jx,br_tt,if_true,Yr,Ys,JQ,kz]
   refine RunT.bind (kb hq [93]) (fun x us q _ hq=>?_) (fun v=>⟨_,rfl⟩)
   exact Run.some hq
 | false=>
   have e:=ko hq hs
   simp only [Jc,e,jx,br_ff,zd,if_false,JQ]
   exact Run.some hq
theorem list_p2 {ts:List Tk} {p:PS} (hp:At text ts p) {k:Nat} :
 Run text (Jo p.1 p.2.1 p.2.2.1 p.2.2.2.1 p.2.2.2.2.1) (lsT p2T k ts):=by
 unfold lsT Jo
 refine Run.bind (gate2_ok hp) (fun a us q hs hq=>?_) (fun v=>⟨_,rfl⟩)
 have hc:=hq.cnt
 have hl:=hq.len
 refine run_list (UZ (fun _=>p2_lq) (fun l ts p hp hl hs=>?_) (fun l ts p hp hs=>?_) k [a] us q hq (by simp only [zy];omega)) (fun a p=>rfl) (fun y=>⟨_,rfl⟩)
 ·obtain ⟨q,e,hq⟩:=kq hp hs
  have hr:=gate2_ok hq
  simp only [lsOf,Jo.ca_,Jc,e,jx,br_tt]
  cases ho:p2T ts.tail with
  | ok a us=>
    rw [ho] at hr
    obtain ⟨r,e',hr'⟩:=hr
    exact ⟨r,run_l e' (jw (ok64 (n:=l.length+1) (by omega)) rfl),hr'⟩
  | err c=>
    rw [ho] at hr
    obtain ⟨r,e'⟩:=hr
    exact ⟨_,run_r e' rfl,rfl⟩
  | out=>trivial
 ·have e:=ko hp hs
  simp only [lsOf,Jo.ca_,Jc,e,jx,br_ff]
theorem gate_ok {ts:List Tk} {p:PS} (hp:At text ts p) (t:Int×Z6×Int) {n:Nat} (hn:n≤400000) :
 Run text (jO t p.1 p.2.1 p.2.2.1 p.2.2.2.1 p.2.2.2.2.1) (gaT n (tkE t) ts):=by
 unfold gaT jO
 refine RunT.bind (VE hp) (fun w us q _ hq=>?_) (fun v=>⟨_,rfl⟩)
 simp only [bsE]
 refine run_G (I:=fun (a:List Nd) (p:PS)=>(a,p.1,p.2.1,p.2.2.1,p.2.2.2.1,p.2.2.2.2.1)) (E:=fun y=>y.2.1) ?_ (fun ints us q _ hq=>?_) (fun y=>⟨_,rfl⟩)
 ·unfold jO.cd_
  cases hs:seesT [40] us with
  | true=>
    obtain ⟨q,e,hq⟩:=kq hq hs
    simp only [Jc,e,jx,br_tt,if_true]
    refine runG_run (list_p1 hq) (fun l us q _ hq=>?_) (fun v=>⟨_,rfl,rfl⟩)
    refine runG_tok (kb hq [41]) (fun x us q _ hq=>?_) (fun v=>⟨_,rfl,rfl⟩)
    exact ⟨q,rfl,hq⟩
  | false=>
    have e:=ko hq hs
    simp only [Jc,e,jx,br_ff,zd,if_false]
    exact ⟨q,rfl,hq⟩
 ·refine Run.bind (list_p2 hq) (fun wires us q _ hq=>?_) (fun v=>⟨_,rfl⟩)
  simp only [jO.c7,group_ok,jx,Yr,Ys,JQ,kz]
  refine Run.bind (block_ok hq (n:=n) (by omega)) (fun b us q _ hq=>?_) (fun v=>⟨_,rfl⟩)
  simp only [Vn,jx,JM]
  exact Run.some hq
theorem item_ok {ts:List Tk} {p:PS} (hp:At text ts p) {n:Nat} (hn:n≤400000) :
 Run text (jS p.1 p.2.1 p.2.2.1 p.2.2.2.1 p.2.2.2.2.1) (itT n ts):=by
 unfold itT jS
 simp only [bsE,bsH]
 have e1:∃q,jS.cc_ p.1 p.2.1 p.2.2.1 p.2.2.2.1 p.2.2.2.2.1 some=some (seesT [113,117,98,105,116] ts||seesT [98,105,116] ts,q.1,q.2.1,q.2.2.1,q.2.2.2.1,q.2.2.2.2.1)∧At text (if seesT [113,117,98,105,116] ts||seesT [98,105,116] ts then ts.tail else ts) q∧((seesT [113,117,98,105,116] ts||seesT [98,105,116] ts)=false→q=p):=by
  unfold jS.cc_
  cases hs:seesT [113,117,98,105,116] ts with
  | true=>
    obtain ⟨q,e,hq⟩:=kq hp hs
    exact ⟨q,by simp only [Jc,e,jx,br_tt];rfl,hq,fun h=>by cases h⟩
  | false=>
    have e:=ko hp hs
    cases hs2:seesT [98,105,116] ts with
    | true=>
      obtain ⟨q,e2,hq⟩:=kq hp hs2
      exact ⟨q,by simp only [Jc,e,e2,jx,br_ff];rfl,hq,fun h=>by cases h⟩
    | false=>
      have e2:=ko hp hs2
      exact ⟨p,by simp only [Jc,e,e2,jx,br_ff];rfl,hp,fun h=>rfl⟩
 obtain ⟨q,e,hq,hqp⟩:=e1
 rw [e,jx]
 cases h1:(seesT [113,117,98,105,116] ts||seesT [98,105,116] ts) with
 | true=>
   rw [h1] at hq
   simp only [br_tt,if_true] at hq ⊢
   have e2:jS.cg_ 2 p.2.2.2.1 some=some (if seesT [98,105,116] ts then 3 else 2):=by
    unfold jS.cg_
    have hsort:(hdT ts).1=2:=by
     rcases (Bool.or_eq_true _ _▸h1:_∨_) with h | h<;>exact YW h
    have:(p.2.2.2.1==[98,105,116])=seesT [98,105,116] ts:=by
     unfold seesT;rw [hsort,hp.word];simp
    simp only [Jc,this]
    cases seesT [98,105,116] ts<;>rfl
   rw [e2,jx]
   refine RunT.bind (VE hq) (fun w us q _ hq=>?_) (fun v=>⟨_,rfl⟩)
   refine RunT.bind (kb hq [91]) (fun x us q _ hq=>?_) (fun v=>⟨_,rfl⟩)
   refine Run.bind (VC hq (by omega)) (fun a us q _ hq=>?_) (fun v=>⟨_,rfl⟩)
   refine RunT.bind (kb hq [93]) (fun x us q _ hq=>?_) (fun v=>⟨_,rfl⟩)
   refine RunT.bind (kb hq [59]) (fun x us q _ hq=>?_) (fun v=>⟨_,rfl⟩)
   simp only [Vn,jx,JM,hp.place]
   exact Run.some hq
 | false=>
   obtain rfl:=hqp h1
   simp only [br_ff,zd,if_false]
   cases h2:seesT [99,111,110,115,116] ts with
   | true=>
     obtain ⟨q,e,hq⟩:=kq hp h2
     simp only [Jc,e,jx,br_tt,if_true]
     refine RunT.bind (VE hq) (fun w us q _ hq=>?_) (fun v=>⟨_,rfl⟩)
     refine RunT.bind (kb hq [61]) (fun x us q _ hq=>?_) (fun v=>⟨_,rfl⟩)
     refine Run.bind (VC hq (by omega)) (fun a us q _ hq=>?_) (fun v=>⟨_,rfl⟩)
     refine RunT.bind (kb hq [59]) (fun x us q _ hq=>?_) (fun v=>⟨_,rfl⟩)
     simp only [Vn,jx,JM,hp.place]
     exact Run.some hq
   | false=>
     have e:=ko hp h2
     simp only [Jc,e,jx,br_ff,zd,if_false]
     cases h3:seesT [103,97,116,101] ts with
     | true=>
       obtain ⟨r,e,hr⟩:=kq hp h3
       simp only [e,jx,br_tt,if_true]
       have hb:=gate_ok hr (q.2.2.1,q.2.2.2.1,q.2.2.2.2.1) hn
       rw [hp.tk] at hb
       exact pass _ _ hb
     | false=>
       have e:=ko hp h3
       simp only [e,jx,br_ff,zd,if_false]
       exact pass _ _ (statement_ok hp hn)
end
end W
end

section
set_option maxRecDepth 4000
namespace W
open Go Go.Ql
def specP (text:Z6):Nd×(Int×Int):=
 if 40000<text.length then (.mk (0,0,[],0) [],(2,0))
 else match prT 400000 100000 [] (toksT text) with
  | .ok l _=>(.mk (1,0,[],0) l,(0,0))
  | .err e=>(.mk (0,0,[],0) [],(1,e))
  | .out=>(.mk (0,0,[],0) [],(0,0))
theorem pr_ne_out {text:Z6} (ht:text.length≤40000):prT 400000 100000 [] (toksT text) ≠ .out:=by
 have h:=(toksT_ok text).2
 exact (pr_gd 400000 100000 [] (toksT text) (by omega) (by omega)).ne_out
abbrev QS:=Z6×Int×Int×Z6×Int×List Nd
def qsOf (l:List Nd) (p:PS):QS:=(p.1,p.2.1,p.2.2.1,p.2.2.2.1,p.2.2.2.2.1,l)
abbrev QE:=Z6×Int×Int×Z6×Int×Int×List Nd
def RunQ (text:Z6) (r:Option (QE⊕QS)):Rd (List Nd)→Prop
 | .ok l us=>∃p,r=some (.inr (qsOf l p))
 | .err e=>∃y,r=some (.inl y)∧y.2.2.2.2.2.1=e
 | .out=>True
theorem set_snoc {l:List Nd} {z a:Nd}:List.set (l++[z]) l.length a=l++[a]:=by
 induction l with
 | nil=>rfl
 | cons b l ih=>simp only [List.cons_append,za,List.set_cons_succ,ih]
section
variable {text:Z6}
theorem pr_loop {n:Nat} (hn:n≤400000):∀k l ts p,At text ts p→l.length+ts.length≤100000 →
 RunQ text (iter (fun s:QS=>jz.ch_ s.1 s.2.1 s.2.2.1 s.2.2.2.1 s.2.2.2.2.1 s.2.2.2.2.2 some) (qsOf l p)) (prT n k l ts)
 | 0,_,_,_,_,_=>trivial
 | k+1,l,ts,p,h,hl=>by
   rw [prT]
   have hs:(p.2.2.1 !=(0:Int))=!decide ((hdT ts).1=0):=by
    rw [h.hd];unfold srt;dsimp only
    by_cases h1:p.2.2.1=0
    ·rw [h1];simp
    ·rw [show (p.2.2.1 !=(0:Int))=true by simpa using h1]
     split
     ·simp
     ·split
      ·simp
      ·simp [h1]
   by_cases h0:(hdT ts).1=0
   ·rw [if_pos h0]
    refine ⟨p,kf ?_⟩
    show jz.ch_ p.1 p.2.1 p.2.2.1 p.2.2.2.1 p.2.2.2.2.1 l some=_
    unfold jz.ch_
    rw [hs,zj h0,Bool.not_true,br_ff]
    rfl
   ·rw [if_neg h0]
    have hb:=item_ok h hn
    have hlq:=it_lq (n:=n) (ts:=ts)
    cases hx:itT n ts with
    | out=>trivial
    | ok a us=>
      rw [hx] at hb hlq
      have hus:us.length<ts.length:=hlq
      obtain ⟨q,eq,hq⟩:=hb
      have e8:jz.c8 p.1 p.2.1 p.2.2.1 p.2.2.2.1 p.2.2.2.2.1 l some=some (.inl (qsOf (l++[a]) q)):=by
       refine run_l eq (jw (ok64 (n:=l.length+1) (by omega)) (jw (inR_at (by simp)) (jw (Ui (by simp)) ?_)))
       show some (Sum.inl (q.1,q.2.1,q.2.2.1,q.2.2.2.1,q.2.2.2.2.1,List.set (l++[_]) (Int.toNat (l.length:Int)) a))=_
       rw [Int.toNat_natCast,set_snoc]
       rfl
      have step:jz.ch_ p.1 p.2.1 p.2.2.1 p.2.2.2.1 p.2.2.2.2.1 l some=some (.inl (qsOf (l++[a]) q)):=by
       unfold jz.ch_
       rw [hs,zk h0,Bool.not_false,br_tt,e8,jx,JQ]
      have:=pr_loop hn k (l++[a]) us q hq (by simp only [z8,zy];omega)
      simp only [Rd.bind]
      revert this
      cases prT n k (l++[a]) us with
      | ok c vs=>rintro ⟨p3,e3⟩;exact ⟨p3,ke step e3⟩
      | err c=>rintro ⟨p3,e3,h3⟩;exact ⟨p3,ke step e3,h3⟩
      | out=>exact id
    | err c=>
      rw [hx] at hb
      obtain ⟨q,eq⟩:=hb
      have e8:jz.c8 p.1 p.2.1 p.2.2.1 p.2.2.2.1 p.2.2.2.2.1 l some=some (.inr (q.1,q.2.1,q.2.2.1,q.2.2.2.1,q.2.2.2.2.1,c)):=run_r eq rfl
      refine ⟨_,kf (show jz.ch_ p.1 p.2.1 p.2.2.1 p.2.2.2.1 p.2.2.2.2.1 l some=some (.inr (.inl (q.1,q.2.1,q.2.2.1,q.2.2.2.1,q.2.2.2.2.1,c,l))) from ?_),rfl⟩
      unfold jz.ch_
      rw [hs,zk h0,Bool.not_false,br_tt,e8,jx,kz]
end
theorem parse_law (text:Z6):kE text=some (specP text):=by
 unfold kE specP
 by_cases ht:40000<text.length
 ·rw [kn (show (text.length:Int)>40000 by omega),if_pos ht]
 ·rw [kM (show ¬(text.length:Int)>40000 by omega),if_neg ht]
  unfold jz
  obtain ⟨t,k,e,hat⟩:=at_next (show text.length≤40000 by omega) (Nat.zero_le text.length) (x2:=0) (x3:=[]) (x4:=0)
  have e0:jI text 0 0 [] 0=some ((0,[],0),text,k,t.1,t.2.1,t.2.2,()):=by
   unfold jI
   have e':jD text 0 0 [] 0=some (t,text,k,0,[],0,()):=e
   rw [e',jx]
  rw [e0,jx]
  have hc:=hat.cnt
  have hl:=hat.len
  have h:=pr_loop (n:=400000) (by omega) 100000 [] (toksF text 0) _ hat (by simp only [zb];omega)
  rw [←toksT_eq] at h
  have hno:=pr_ne_out (show text.length≤40000 by omega)
  revert h hno
  cases prT 400000 100000 [] (toksT text) with
  | ok l us=>
    rintro ⟨p,e⟩ _
    exact jw (jw e rfl) rfl
  | err c=>
    rintro ⟨y,e,hy⟩ _
    subst hy
    exact jw (jw e rfl) rfl
  | out=>intro _ h;exact absurd rfl h
end W
end
