/- Part of the lifter: data, effects, code and its meaning, for any program. -/
import GoSem.Core.Code
import GoSem.Core.View
import Derived.Laws.AppendOwn
import Derived.Laws.OwnMore
import Derived.Lib.AppendStr
import Derived.Lib.ConvBytes
import Derived.Tactics
import Derived.Laws.Cells
import Derived.Laws.MakeOwn
import Derived.Laws.BitsLemmas
import Derived.Laws.Strings
set_option linter.all false
section
namespace Go.Ql
abbrev Za := List UInt8
def zd {α : Type _} (a b : α) : (some a = some b) = (a = b) := Option.some.injEq a b
def ze (a b : Bool) : ((a && b) = true) = (a = true ∧ b = true) := Bool.and_eq_true a b
def zf {α : Type _} {as bs : List α} : (as ++ bs).length = as.length + bs.length := List.length_append
def zg {α : Type _} {a : α} {as : List α} : (a :: as).length = as.length + 1 := rfl
def zh {α : Type _} : ([] : List α).length = 0 := rfl
def zi : (false = true) = False := Bool.false_eq_true
def zj {α : Type _} (a b : α) : cond true a b = a := rfl
def zk {α : Type _} (a b : α) : cond false a b = b := rfl
def zl {α : Type _} {l : List α} (h : l.length = 0) : l = [] := List.eq_nil_of_length_eq_zero h
def zm {a b : Nat} (h : Nat.beq a b = true) : a = b := Nat.eq_of_beq_eq_true h
def zn {p : Prop} [Decidable p] : (decide p = true) = p := decide_eq_true_eq
def zo {p : Prop} [Decidable p] (h : p) : decide p = true := decide_eq_true h
def zp {p : Prop} [Decidable p] (h : ¬ p) : decide p = false := decide_eq_false h
def zq {α : Type _} (as bs cs : List α) : as ++ bs ++ cs = as ++ (bs ++ cs) := List.append_assoc as bs cs
def zr {α : Type _} {β : Type _} (a : α) (b : β) (c : α) (e : β) : ((a, b) = (c, e)) = (a = c ∧ b = e) := Prod.mk.injEq a b c e
def zt {α : Type _} {l₁ l₂ : List α} {i : Nat} (h : l₁.length ≤ i) : (l₁ ++ l₂)[i]? = l₂[i - l₁.length]? := List.getElem?_append_right h
def zu {α : Type _} {i : Nat} {l : List α} : (l.drop i).length = l.length - i := List.length_drop
def zv (n : Nat) : 0 + n = n := Nat.zero_add n
def zw {p : Prop} [Decidable p] (h : decide p = true) : p := of_decide_eq_true h
def zx (n : Nat) : n ≤ n := Nat.le_refl n
def zy {α : Type _} {p : α → Bool} {l : List α} : l.all p = true ↔ ∀ x, x ∈ l → p x = true := List.all_eq_true
def zz {α : Type _} (y : α) {a : α} {l : List α} (h : a ∈ l) : a ∈ y :: l := List.mem_cons_of_mem y h
def Z2 {n m k : Nat} (h : n < m) (h' : m ≤ k) : n < k := Nat.lt_of_lt_of_le h h'
def Z3 (b : Bool) : ((!b) = true) = (b = false) := Bool.not_eq_true' b
def Z4 {α : Type _} {a : α} : [a].length = 1 := rfl
def Z5 {α : Type _} {a b : α} {l : List α} : a ∈ b :: l ↔ a = b ∨ a ∈ l := List.mem_cons
def Z6 {α : Type _} {a : α} {l : List α} {i : Nat} : l[i]? = some a ↔ ∃ h : i < l.length, l[i] = a := List.getElem?_eq_some_iff
def Z7 {α : Type _} {l : List α} {i : Nat} (h : i < l.length) : l[i]? = some l[i] := List.getElem?_eq_getElem h
def Z8 {α : Type _} {β : Type _} {b : β} {o : Option α} {f : α → β} : o.map f = some b ↔ ∃ a, o = some a ∧ f a = b := Option.map_eq_some_iff
abbrev Z9 (l : Za) : Za := Array.toList (ByteArray.data (ByteArray.mk l.toArray))
universe u
inductive Rose (α:Type) where
 | mk (head:α) (kids:List (Rose α))
def Rose.hQ {α:Type}:Rose α→α
 | .mk a _=>a
def Rose.kQ {α:Type}:Rose α→List (Rose α)
 | .mk _ l=>l
inductive Ty where
 | bool | int (k:IntKind) | str | sl (t:Ty) | st (t:Ty) | unit | pair (a b:Ty) | ar (n:Nat) (t:Ty) | nilv (k:Nat) | node (t:Ty) | ifc (T:Nat) (t:Ty) | nn | len | fl (t:Ty)
 deriving DecidableEq
@[reducible] def Ty.den:Ty→Type
 | .bool=>Bool
 | .int _=>Int
 | .str=>Za
 | .sl t=>List t.den
 | .st t=>t.den
 | .unit=>Unit
 | .pair a b=>a.den×b.den
 | .ar _ t=>List t.den
 | .nilv _=>Unit
 | .node t=>Rose t.den
 | .ifc _ t=>t.den
 | .nn=>Bool
 | .len=>Int
 | .fl t=>List t.den
@[reducible] def C9 (j u:IntKind):Ty:=.sl (.pair (.int j) (.int u))
def Ty.isPair:Ty→Bool
 | .pair _ _=>true
 | _=>false
def Ty.wj:Ty→Bool
 | .sl t=>t.isPair
 | _=>false
def Ty.cells:Ty→Nat
 | .st t=>t.cells
 | .unit=>0
 | .pair a b=>a.cells+b.cells
 | .ar n t=>n*t.cells
 | .node t=>t.cells+1
 | _=>1
def Ty.isSt:Ty→Bool
 | .st _=>true
 | .ar _ _=>true
 | _=>false
def Ty.flat:Ty→Bool
 | .st t=>t.flat
 | .pair a b=>a.flat&&b.flat
 | .ar _ _=>false
 | .node t=>t.flat
 | _=>true
def Ty.zero:(t:Ty)→t.den
 | .bool=>false
 | .int _=>(0:Int)
 | .str=>[]
 | .sl _=>[]
 | .st t=>t.zero
 | .unit=>()
 | .pair a b=>(a.zero,b.zero)
 | .ar n t=>List.replicate n t.zero
 | .nilv _=>()
 | .node t=>.mk t.zero []
 | .ifc _ t=>t.zero
 | .nn=>false
 | .len=>(0:Int)
 | .fl _=>[]
def Ty.sub (s:Ty):(t:Ty)→t.den→Nat→Option s.den
 | .st t,d,off=>if h:Ty.st t=s then (if off=0 then some (h▸(show (Ty.st t).den from d)) else none) else Ty.sub s t d off
 | .pair a b,d,off=>if off<a.cells then Ty.sub s a d.1 off else Ty.sub s b d.2 (off-a.cells)
 | .node t,d,off=>if off<t.cells then Ty.sub s t (Rose.hQ d) off else if h:Ty.sl (.st (.node t))=s then (if off=t.cells then some (h▸(show List (Rose t.den) from Rose.kQ d)) else none) else none
 | t,d,off=>if h:t=s then (if off=0 then some (h▸d) else none) else none
def Ty.upd (s:Ty) (x:s.den):(t:Ty)→t.den→Nat→Option t.den
 | .st t,d,off=>if h:s=Ty.st t then (if off=0 then some (h▸x) else none) else (Ty.upd s x t d off:Option t.den)
 | .pair a b,d,off=>if off<a.cells then (Ty.upd s x a d.1 off).map (fun y=>(y,d.2)) else (Ty.upd s x b d.2 (off-a.cells)).map (fun y=>(d.1,y))
 | .node t,d,off=>if off<t.cells then (Ty.upd s x t (Rose.hQ d) off).map (fun y=>(Rose.mk y (Rose.kQ d):Rose t.den)) else if h:s=Ty.sl (.st (.node t)) then (if off=t.cells then some (Rose.mk (Rose.hQ d) (show List (Rose t.den) from (h▸x:(Ty.sl (.st (.node t))).den)):Rose t.den) else none) else none
 | t,_,off=>if h:s=t then (if off=0 then some (h▸x) else none) else none
inductive At where
 | val (t:Ty) (d:t.den)
 | nilS
 | ref (id off:Nat)
 | own (id ver:Nat)
 | win (id ver:Nat) (lo n:Int)
 | elem (id ver:Nat) (i:Int) (sz off:Nat)
 | aptr (id ver:Nat)
 | aelem (id ver:Nat) (i:Int) (sz off n:Nat) (e:Ty) (j:Int) (o:Nat)
 | fptr (t:Ty) (d:t.den)
 | fn (f:Nat)
 | clo (id:Nat)
 | selfp (id:Nat) (T:TypeId)
 | junk
inductive Dv where
 | one (a:At)
 | agg (cs:List At)
 | tup (cs:List At)
inductive Ob where
 | box (cs:List At)
 | arr (ver:Nat) (fz:Bool) (e:TypeId) (t:Ty) (xs:List t.den)
 | clo (f:Nat) (fst caps:List At)
 | gone
structure St where
 mj:List (Nat×Dv)
 sj:List (Nat×Ob)
section
variable {α:Type u}
def look:List (Nat×α)→Nat→Option α
 | [],_=>none
 | (s,v)::r,t=>bif Nat.beq s t then some v else look r t
def YE (t:Nat) (v:α):List (Nat×α)→List (Nat×α)
 | []=>[(t,v)]
 | (s,u)::r=>bif Nat.blt t s then (t,v)::(s,u)::r else bif Nat.beq t s then (t,v)::r else (s,u)::YE t v r
def del (t:Nat):List (Nat×α)→List (Nat×α)
 | []=>[]
 | (s,u)::r=>bif Nat.beq t s then del t r else (s,u)::del t r
end
def JK (t:Nat):List Nat→Bool
 | []=>false
 | s::r=>Nat.beq s t||JK t r
inductive TK where
 | scalar | nul | struct (fs:List (Nat×TypeId)) | slice (e:TypeId) (bytes:Nat) | arr (n:Nat) (e:TypeId) | map (k e:TypeId) (j u:IntKind) | other
structure TI where
 ty:Ty
 kind:TK
@[reducible] def YL:List Ty→Type
 | []=>Unit
 | [t]=>t.den
 | t::r=>t.den×YL r
structure Callee where
 params:List Ty
 res:List Ty
 F:YL params→Option (YL res)
def dE (raw:Bool):Ty→List At
 | .st t=>dE raw t
 | .pair a b=>dE raw a++dE raw b
 | .unit=>[]
 | .sl t=>[bif raw then .nilS else .val (.sl t) []]
 | .node t=>dE raw t++[bif raw then .nilS else .val (.sl (.st (.node t))) []]
 | t=>[.val t t.zero]
def split:(t:Ty)→t.den→List At
 | .st t,d=>split t d
 | .pair a b,d=>split a d.1++split b d.2
 | .unit,_=>[]
 | .node t,d=>split t (Rose.hQ d)++[.val (.sl (.st (.node t))) (show List (Rose t.den) from Rose.kQ d)]
 | t,d=>[.val t d]
abbrev Yo:=Nat→Option Ob
abbrev kY:=List (Nat×Ob)
def mP (lo n:Int) (len:Nat):Bool:=decide (0≤lo)&&decide (0≤n)&&Nat.ble (lo.toNat+n.toNat) len
def part {α:Type} (lo n:Int) (xs:List α):List α:=(xs.drop lo.toNat).take n.toNat
def nQ (ob:Yo) (t:Ty):At→Option (t.den×kY)
 | .val s d=>if h:s=t then some (h▸d,[]) else none
 | .nilS=>match t with
   | .sl _=>some ([],[])
   | _=>none
 | .own id ver=>match ob id with
   | some (.arr v fz e s xs)=>if h:Ty.sl s=t then (bif Nat.beq v ver && !s.wj then some (h▸(show (Ty.sl s).den from xs),bif fz then [] else [(id,.arr v true e s xs)]) else none) else none
   | _=>none
 | .win id ver lo n=>match ob id with
   | some (.arr v fz e s xs)=>if h:Ty.sl s=t then (bif Nat.beq v ver && !s.wj then some (h▸(show (Ty.sl s).den from part lo n xs),bif fz then [] else [(id,.arr v true e s xs)]) else none) else none
   | _=>none
 | _=>none
def Nc (ob:Yo):(t:Ty)→List At→Option (t.den×kY×List At)
 | .st t,cs=>Nc ob t cs
 | .pair a b,cs=>match Nc ob a cs with
   | some (x,u,r)=>match Nc ob b r with
     | some (y,v,r')=>some ((x,y),u++v,r')
     | none=>none
   | none=>none
 | .unit,cs=>some ((),[],cs)
 | .ar _ _,_=>none
 | .node t,cs=>match Nc ob t cs with
   | some (x,u,c::r)=>match nQ ob (.sl (.st (.node t))) c with
     | some (y,v)=>some ((Rose.mk x (show List (Rose t.den) from y):Rose t.den),u++v,r)
     | none=>none
   | _=>none
 | t,c::r=>match nQ ob t c with
   | some (x,u)=>some (x,u,r)
   | none=>none
 | _,[]=>none
def bE (ob:Yo) (t:Ty):Dv→Option (t.den×kY)
 | .one a=>nQ ob t a
 | .agg cs=>match t with
   | .st s=>match Nc ob s cs with
     | some (x,u,[])=>some (x,u)
     | _=>none
   | _=>none
 | .tup _=>none
def NB:Dv→Option (List At)
 | .one (.val (.st t) d)=>bif t.flat then some (split t d) else none
 | .one (.val (.ar _ _) _)=>none
 | .one a=>some [a]
 | .agg cs=>some cs
 | .tup _=>none
structure Eff where
 dv:Dv
 upd:kY
def sel {α β γ:Type} (r:α⊕β) (f:α→γ) (g:β→γ):γ:=match r with
 | .inl x=>f x
 | .inr y=>g y
inductive SA where
 | val (t:Ty) | nilS | ref (id off:Nat) | own (id ver:Nat) | win (id ver:Nat) | fptr (t:Ty) | fn (f:Nat) | clo (id:Nat) | aptr (id ver:Nat) | selfp (id:Nat) (T:TypeId) | junk
inductive SD where
 | one (a:SA) | agg (cs:List SA) | tup (cs:List SA)
inductive SO where
 | box (cs:List SA) | arr (ver:Nat) (fz:Bool) (e:TypeId) (t:Ty) | clo (f:Nat) (fst caps:List SA) | gone
structure Sj where
 mj:List (Nat×SD)
 sj:List (Nat×SO)
@[reducible] def jq:List Ty→Type
 | []=>Unit
 | t::r=>t.den×jq r
noncomputable section
abbrev uP {A B R:Type} (x:A×B) (f:A→B→R):R:=Prod.rec (motive:=fun _=>R) f x
abbrev NT (a b:List Ty):jq a→jq b→jq (a++b):=
 List.rec (motive:=fun a=>jq a→jq b→jq (a++b)) (fun _ y=>y) (fun _ _ ih x y=>uP x fun u r=>(u,ih r y)) a
abbrev NW (a b:List Ty):jq (a++b)→jq a:=
 List.rec (motive:=fun a=>jq (a++b)→jq a) (fun _=>()) (fun _ _ ih x=>uP x fun u r=>(u,ih r)) a
abbrev bK (a b:List Ty):jq (a++b)→jq b:=
 List.rec (motive:=fun a=>jq (a++b)→jq b) (fun x=>x) (fun _ _ ih x=>uP x fun _ r=>ih r) a
def SA.tys:SA→List Ty
 | .val t=>[t]
 | .fptr t=>[t]
 | .win _ _=>[.int .i64,.int .i64]
 | _=>[]
abbrev SA.inj:(s:SA)→jq s.tys→At
 | .val t,x=>uP x fun d _=>.val t d
 | .fptr t,x=>uP x fun d _=>.fptr t d
 | .nilS,_=>.nilS
 | .ref i o,_=>.ref i o
 | .own i v,_=>.own i v
 | .win i v,x=>uP x fun lo r=>uP r fun n _=>.win i v lo n
 | .fn f,_=>.fn f
 | .clo i,_=>.clo i
 | .aptr i v,_=>.aptr i v
 | .selfp i T,_=>.selfp i T
 | .junk,_=>.junk
def SA.proj:(s:SA)→At→Option (jq s.tys)
 | .val t,.val s d=>if h:s=t then some (h▸d,()) else none
 | .fptr t,.fptr s d=>if h:s=t then some (h▸d,()) else none
 | .nilS,.nilS=>some ()
 | .ref i o,.ref j p=>bif Nat.beq i j&&Nat.beq o p then some () else none
 | .own i o,.own j p=>bif Nat.beq i j&&Nat.beq o p then some () else none
 | .win i o,.win j p lo n=>bif Nat.beq i j&&Nat.beq o p then some (lo,n,()) else none
 | .fn f,.fn g=>bif Nat.beq f g then some () else none
 | .clo i,.clo j=>bif Nat.beq i j then some () else none
 | .aptr i o,.aptr j p=>bif Nat.beq i j&&Nat.beq o p then some () else none
 | .selfp i T,.selfp j T'=>bif Nat.beq i j&&Nat.beq T T' then some () else none
 | .junk,.junk=>some ()
 | _,_=>none
def SL.tys:List SA→List Ty
 | []=>[]
 | s::r=>s.tys++SL.tys r
abbrev SL.inj (s:List SA):jq (SL.tys s)→List At:=
 List.rec (motive:=fun s=>jq (SL.tys s)→List At) (fun _=>[]) (fun s r ih x=>s.inj (NW s.tys (SL.tys r) x)::ih (bK s.tys (SL.tys r) x)) s
def SL.inj_nil {x:jq (SL.tys [])}:SL.inj [] x=[]:=rfl
def SL.proj:(s:List SA)→List At→Option (jq (SL.tys s))
 | [],[]=>some ()
 | s::r,a::b=>match s.proj a,SL.proj r b with
   | some x,some y=>some (NT s.tys (SL.tys r) x y)
   | _,_=>none
 | _,_=>none
def SD.tys:SD→List Ty
 | .one a=>a.tys
 | .agg cs=>SL.tys cs
 | .tup cs=>SL.tys cs
abbrev SD.inj:(s:SD)→jq s.tys→Dv
 | .one a,x=>.one (a.inj x)
 | .agg cs,x=>.agg (SL.inj cs x)
 | .tup cs,x=>.tup (SL.inj cs x)
def SD.proj:(s:SD)→Dv→Option (jq s.tys)
 | .one a,.one b=>a.proj b
 | .agg cs,.agg ds=>SL.proj cs ds
 | .tup cs,.tup ds=>SL.proj cs ds
 | _,_=>none
def SO.tys:SO→List Ty
 | .box cs=>SL.tys cs
 | .arr _ _ _ t=>[.sl t]
 | .clo _ a b=>SL.tys a++SL.tys b
 | .gone=>[]
abbrev SO.inj:(s:SO)→jq s.tys→Ob
 | .box cs,x=>.box (SL.inj cs x)
 | .arr v f e t,x=>uP x fun d _=>.arr v f e t d
 | .clo f a b,x=>.clo f (SL.inj a (NW (SL.tys a) (SL.tys b) x)) (SL.inj b (bK (SL.tys a) (SL.tys b) x))
 | .gone,_=>.gone
def SO.proj:(s:SO)→Ob→Option (jq s.tys)
 | .box cs,.box ds=>SL.proj cs ds
 | .clo f a b,.clo g c d=>bif Nat.beq f g then (match SL.proj a c,SL.proj b d with
   | some x,some y=>some (NT (SL.tys a) (SL.tys b) x y)
   | _,_=>none) else none
 | .gone,.gone=>some ()
 | .arr v f e t,.arr v' f' e' t' xs=>if h:t'=t then (bif Nat.beq v v'&&(f==f')&&Nat.beq e e' then some (h▸xs,()) else none) else none
 | _,_=>none
def SS.tys:List (Nat×SD)→List Ty
 | []=>[]
 | p::r=>p.2.tys++SS.tys r
abbrev SS.inj (s:List (Nat×SD)):jq (SS.tys s)→List (Nat×Dv):=
 List.rec (motive:=fun s=>jq (SS.tys s)→List (Nat×Dv)) (fun _=>[]) (fun p r ih x=>(p.1,p.2.inj (NW p.2.tys (SS.tys r) x))::ih (bK p.2.tys (SS.tys r) x)) s
def SS.inj_nil {x:jq (SS.tys [])}:SS.inj [] x=[]:=rfl
def SS.inj_cons {p:Nat×SD} {r:List (Nat×SD)} {x:jq (SS.tys (p::r))}:SS.inj (p::r) x=(p.1,p.2.inj (NW p.2.tys (SS.tys r) x))::SS.inj r (bK p.2.tys (SS.tys r) x):=rfl
def SS.proj:(s:List (Nat×SD))→List (Nat×Dv)→Option (jq (SS.tys s))
 | [],[]=>some ()
 | p::r,a::b=>bif Nat.beq p.1 a.1 then (match p.2.proj a.2,SS.proj r b with
   | some x,some y=>some (NT p.2.tys (SS.tys r) x y)
   | _,_=>none) else none
 | _,_=>none
def SP.tys:List (Nat×SO)→List Ty
 | []=>[]
 | p::r=>p.2.tys++SP.tys r
abbrev SP.inj (s:List (Nat×SO)):jq (SP.tys s)→List (Nat×Ob):=
 List.rec (motive:=fun s=>jq (SP.tys s)→List (Nat×Ob)) (fun _=>[]) (fun p r ih x=>(p.1,p.2.inj (NW p.2.tys (SP.tys r) x))::ih (bK p.2.tys (SP.tys r) x)) s
def SP.inj_nil {x:jq (SP.tys [])}:SP.inj [] x=[]:=rfl
def SP.inj_cons {p:Nat×SO} {r:List (Nat×SO)} {x:jq (SP.tys (p::r))}:SP.inj (p::r) x=(p.1,p.2.inj (NW p.2.tys (SP.tys r) x))::SP.inj r (bK p.2.tys (SP.tys r) x):=rfl
def SP.proj:(s:List (Nat×SO))→List (Nat×Ob)→Option (jq (SP.tys s))
 | [],[]=>some ()
 | p::r,a::b=>bif Nat.beq p.1 a.1 then (match p.2.proj a.2,SP.proj r b with
   | some x,some y=>some (NT p.2.tys (SP.tys r) x y)
   | _,_=>none) else none
 | _,_=>none
def Sj.tys (s:Sj):List Ty:=SS.tys s.mj++SP.tys s.sj
abbrev Sj.inj (s:Sj) (x:jq s.tys):St:=⟨SS.inj s.mj (NW _ _ x),SP.inj s.sj (bK (SS.tys s.mj) _ x)⟩
def Sj.proj (s:Sj) (st:St):Option (jq s.tys):=match SS.proj s.mj st.mj,SP.proj s.sj st.sj with
 | some x,some y=>some (NT _ _ x y)
 | _,_=>none
structure Ck where
 run:(ρ:Type)→St→(Nat→St→Option ρ)→Option ρ
structure Hint where
 pre:List Nat
 wr:List Nat
 hideS:List Nat
 hideO:List Nat
structure xj where
 fn:Nat
 pre:Sj
 post:Sj
 F:jq pre.tys→Option (jq post.tys)
structure MAlt where
 fn:Nat
 pre:Sj
 post:Sj
 pan:Bool
 post2:Sj
 F:jq pre.tys→Option (jq post.tys⊕jq post2.tys)
structure SeqC where
 fn:Nat
 caps:List Ty
 k:IntKind
 L:YL caps→List Int
structure Eqs where
 l:List Nat
 seqs:List (Nat×SeqC)
structure Env where
 n:Nat
 tab:List (Nat×TI)
 fns:List (Nat×Callee)
 keep:List Nat
 muts:List Nat
 fps:List (Nat×List Hint)
 cks:List (Nat×Ck)
 mfns:List (Nat×xj)
 eqs:Eqs
 alts:List (Nat×MAlt)
def eB:Nat:=1000000
def lL:Nat:=2000000
def jc {α β:Type} (p:Option α) (f:α→Option β):Option β:=match p with
 | some x=>f x
 | none=>none
def br {α:Type} (b:Bool) (x y:α):α:=match b with | true=>x | false=>y
section
variable {ρ:Type}
def idx {α:Type} (xs:List α) (i:Int):Option α:=bif decide (0≤i) then xs[i.toNat]? else none
def vQ (n:Nat) (i:Int):Option Unit:=bif decide (0≤i)&&decide (i<(n:Int)) then some () else none
def Je (b:Bool):Option Unit:=bif b then some () else none
def pU (op:BinOp) (k:IntKind) (x y:Int):Int:=
 let a:=BitVec.ofInt k.bits x
 let b:=BitVec.ofInt k.bits y
 match op with
 | .and=>k.wrap (a &&& b).toNat
 | .or=>k.wrap (a ||| b).toNat
 | .xor=>k.wrap (a^^^b).toNat
 | _=>k.wrap (a &&& ~~~b).toNat
def d8:Za→Za→Bool
 | _,[]=>false
 | [],_::_=>true
 | a::x,b::y=>a<b||(a==b&&d8 x y)
def vI (k:IntKind) (n:Int):Dv:=.one (.val (.int k) n)
def vB (b:Bool):Dv:=.one (.val .bool b)
def vS (s:Za):Dv:=.one (.val .str s)
def Ty.eqT:(t:Ty)→t.den→t.den→Bool
 | .bool,x,y=>(show Bool from x)==y
 | .int _,x,y=>(show Int from x)==y
 | .str,x,y=>(show Za from x)==y
 | .st t,x,y=>Ty.eqT t x y
 | .pair a b,x,y=>Ty.eqT a x.1 y.1&&Ty.eqT b x.2 y.2
 | .unit,_,_=>true
 | .sl _,_,_=>false
 | .ar _ _,_,_=>false
 | .nilv _,_,_=>false
 | .node _,_,_=>false
 | .ifc _ _,_,_=>false
 | .nn,_,_=>false
 | .len,_,_=>false
 | .fl _,_,_=>false
def rL (op:BinOp)(k:IntKind) (x y:Int)(kk:Dv→Option ρ):Option ρ:=
 match op with
 | .add=>kk (vI k (k.wrap (x+y)))
 | .sub=>kk (vI k (k.wrap (x-y)))
 | .mul=>kk (vI k (k.wrap (x*y)))
 | .quo=>jc (Je (y !=0)) fun _=>kk (vI k (k.wrap (x.tdiv y)))
 | .rem=>jc (Je (y !=0)) fun _=>kk (vI k (x.tmod y))
 | .and=>kk (vI k (pU .and k x y))
 | .or=>kk (vI k (pU .or k x y))
 | .xor=>kk (vI k (pU .xor k x y))
 | .andNot=>kk (vI k (pU .andNot k x y))
 | .eql=>kk (vB (x==y))
 | .neq=>kk (vB (x !=y))
 | .lss=>kk (vB (decide (x<y)))
 | .leq=>kk (vB (decide (x≤y)))
 | .gtr=>kk (vB (decide (x>y)))
 | .geq=>kk (vB (decide (x≥y)))
 | _=>none
def uD (op:BinOp) (x y:Za)(kk:Dv→Option ρ):Option ρ:=
 match op with
 | .add=>jc (Je (decide (x.length+y.length≤9223372036854775807))) fun _=>kk (vS (x++y))
 | .eql=>kk (vB (x==y))
 | .neq=>kk (vB (!(x==y)))
 | .lss=>kk (vB (d8 x y))
 | .leq=>kk (vB (d8 x y||x==y))
 | .gtr=>kk (vB (!(d8 x y||x==y)))
 | .geq=>kk (vB (!d8 x y))
 | _=>none
def z7 (op:BinOp)(k:IntKind) (x y:Int)(kk:Dv→Option ρ):Option ρ:=
 match op with
 | .shl=>jc (Je (decide (0≤y))) fun _=>kk (vI k (k.wrap (x*2^(min y.toNat k.bits))))
 | .shr=>jc (Je (decide (0≤y))) fun _=>kk (vI k (x.fdiv (2^(min y.toNat k.bits))))
 | _=>none
def lP (tab:List (Nat×TI)) (op:BinOp) (xt:TypeId) (y:Operand) (b:Bool) (kk:Dv→Option ρ):Option ρ:=match y,look tab xt with
 | .const .nilIface,some ⟨.nilv 1,.nul⟩=>(match op with
   | .eql=>kk (vB b)
   | .neq=>kk (vB (!b))
   | _=>none)
 | _,_=>none
def UT (ob:Yo) (kk:(t:Ty)→List t.den→Option ρ):Dv→Option ρ
 | .one (.val (.sl t) xs)=>kk t xs
 | .one (.own id ver)=>match ob id with
   | some (.arr v _ _ t xs)=>bif Nat.beq v ver && !t.wj then kk t xs else none
   | _=>none
 | .one (.win id ver lo n)=>match ob id with
   | some (.arr v _ _ t xs)=>bif Nat.beq v ver && !t.wj then kk t (part lo n xs) else none
   | _=>none
 | _=>none
def Nq (ev:Operand→Option Dv) (x:Option Operand) (dflt:Int) (kk:Int→Option ρ):Option ρ:=match x with
 | none=>kk dflt
 | some y=>match ev y with
   | some (.one (.val (.int _) l))=>kk l
   | _=>none
def args (ob:Yo):(ts:List Ty)→List Dv→Option (YL ts×kY)
 | [],[]=>some ((),[])
 | [t],[v]=>match bE ob t v with
   | some (x,u)=>some (x,u)
   | none=>none
 | t::t'::ts,v::vs=>match bE ob t v with
   | some (x,u)=>match args ob (t'::ts) vs with
     | some (y,u')=>some ((x,y),u++u')
     | none=>none
   | none=>none
 | _,_=>none
def zQ:(ts:List Ty)→YL ts→List At
 | [],_=>[]
 | [t],x=>[.val t x]
 | t::t'::ts,x=>.val t x.1::zQ (t'::ts) x.2
def DQ:(ts:List Ty)→YL ts→Dv
 | [t],x=>.one (.val t x)
 | ts,x=>.tup (zQ ts x)
def Ty.free:Ty→Bool
 | .sl _=>false
 | .fl _=>false
 | .st t=>t.free
 | .pair a b=>a.free&&b.free
 | .ar _ t=>t.free
 | .node _=>false
 | .ifc _ t=>t.free
 | _=>true
def NZ:Nat:=140737488355328
def NV (ev:Operand→Option Dv):List Operand→Option (List Dv)
 | []=>some []
 | x::r=>match ev x,NV ev r with
   | some d,some l=>some (d::l)
   | _,_=>none
def Va (ob:Yo) (id:Nat):Option Nat:=match ob id with
 | none=>some 0
 | some (.arr v _ _ _ _)=>some (v+1)
 | _=>none
abbrev Ren:=List (Nat×Nat)
def uI (i:Nat):Ren→Bool
 | []=>false
 | (_,j)::r=>Nat.beq i j||uI i r
def xO (σ:Ren) (j i:Nat):Option Ren:=match look σ j with
 | some i'=>bif Nat.beq i' i then some σ else none
 | none=>bif uI i σ then none else some ((j,i)::σ)
def eX (σ:Ren) (j i:Nat) {α:Type} (x:α):Option (α×kY×Ren):=match xO σ j i with
 | some σ'=>some (x,[],σ')
 | none=>none
def aW (ob:Yo) (σ:Ren):(s:SA)→At→Option (jq s.tys×kY×Ren)
 | .val t,a=>match nQ ob t a with
   | some (d,u)=>some ((d,()),u,σ)
   | none=>none
 | .nilS,.nilS=>some ((),[],σ)
 | .own j v,.own id ver=>match ob id with
   | some (.arr v' _ _ _ _)=>bif Nat.beq v' ver&&Nat.beq v 0 then eX σ j id () else none
   | _=>none
 | .win j v,.win id ver lo n=>match ob id with
   | some (.arr v' _ _ _ _)=>bif Nat.beq v' ver&&Nat.beq v 0 then eX σ j id (lo,n,()) else none
   | _=>none
 | .win j v,.own id ver=>match ob id with
   | some (.arr v' _ _ t xs)=>bif Nat.beq v' ver&&Nat.beq v 0 && !t.wj then eX σ j id ((0:Int),(xs.length:Int),()) else none
   | _=>none
 | .ref j o,.ref id o'=>match ob id with
   | some (.box _)=>bif Nat.beq o o' then eX σ j id () else none
   | _=>none
 | .fn f,.fn g=>bif Nat.beq f g then some ((),[],σ) else none
 | .clo j,.clo id=>match ob id with
   | some (.clo _ _ _)=>eX σ j id ()
   | _=>none
 | .fptr t,.fptr s d=>if h:s=t then some ((h▸d,()),[],σ) else none
 | .aptr j v,.aptr id ver=>match ob id with
   | some (.arr v' _ _ _ _)=>bif Nat.beq v' ver&&Nat.beq v 0 then eX σ j id () else none
   | _=>none
 | .selfp j T,.selfp id T'=>match ob id with
   | some (.box _)=>bif Nat.beq T T' then eX σ j id () else none
   | _=>none
 | .aptr j v,.elem id ver i _ o=>match ob id with
   | some (.arr v' _ _ _ _)=>bif Nat.beq v' ver&&Nat.beq v 0&&(decide (i=0)&&Nat.beq o 0) then eX σ j id () else none
   | _=>none
 | .junk,.val (.sl _) _=>some ((),[],σ)
 | .junk,.own _ _=>some ((),[],σ)
 | .junk,.junk=>some ((),[],σ)
 | _,_=>none
def UX (ob:Yo):Ren→(s:List SA)→List At→Option (jq (SL.tys s)×kY×Ren)
 | σ,[],[]=>some ((),[],σ)
 | σ,s::r,a::b=>match aW ob σ s a with
   | some (x,u,σ1)=>match UX ob σ1 r b with
     | some (y,v,σ2)=>some (NT s.tys (SL.tys r) x y,u++v,σ2)
     | none=>none
   | none=>none
 | _,_,_=>none
def wW (ob:Yo) (σ:Ren):(s:SA)→Dv→Option (jq s.tys×kY×Ren)
 | .val t,d=>(bE ob t d).map fun p=>((p.1,()),p.2,σ)
 | _,_=>none
def mV:Dv→Option At
 | .one a=>some a
 | _=>none
def wV (ob:Yo) (σ:Ren):(s:SD)→Dv→Option (jq s.tys×kY×Ren)
 | .one s,d=>match mV d with
   | some a=>aW ob σ s a
   | none=>wW ob σ s d
 | .agg ss,.agg cs=>UX ob σ ss cs
 | .agg ss,.one (.val (.st t) d)=>bif t.flat then UX ob σ ss (split t d) else none
 | _,_=>none
def eW (ob:Yo):Ren→(s:List (Nat×SD))→List Dv→Option (jq (SS.tys s)×kY×Ren)
 | σ,[],[]=>some ((),[],σ)
 | σ,p::r,d::ds=>match wV ob σ p.2 d with
   | some (x,u,σ1)=>match eW ob σ1 r ds with
     | some (y,v,σ2)=>some (NT p.2.tys (SS.tys r) x y,u++v,σ2)
     | none=>none
   | none=>none
 | _,_,_=>none
def HZ (ob:Yo) (σ:Ren) (i:Nat):(s:SO)→Option (jq s.tys×kY×Ren)
 | .box ss=>match ob i with
   | some (.box cs)=>UX ob σ ss cs
   | _=>none
 | .arr v f e t=>match ob i with
   | some (.arr _ false e' t' xs)=>if h:t'=t then (bif Nat.beq v 0 && !f&&Nat.beq e e' then some ((h▸xs,()),[],σ) else none) else none
   | _=>none
 | .gone=>match ob i with
   | some .gone=>some ((),[],σ)
   | some (.arr _ _ _ _ _)=>some ((),[],σ)
   | _=>none
 | .clo f sa sb=>match ob i with
   | some (.clo g a b)=>bif Nat.beq f g then (match UX ob σ sa a with
     | some (x,u,σ1)=>match UX ob σ1 sb b with
       | some (y,v,σ2)=>some (NT (SL.tys sa) (SL.tys sb) x y,u++v,σ2)
       | none=>none
     | none=>none) else none
   | _=>none
def iM (ob:Yo):Ren→(s:List (Nat×SO))→Option (jq (SP.tys s)×kY×Ren)
 | σ,[]=>some ((),[],σ)
 | σ,p::r=>match look σ p.1 with
   | some i=>match HZ ob σ i p.2 with
     | some (x,u,σ1)=>match iM ob σ1 r with
       | some (y,v,σ2)=>some (NT p.2.tys (SP.tys r) x y,u++v,σ2)
       | none=>none
     | none=>none
   | none=>none
def zB (u:kY) (σ:Ren):Bool:=u.all fun p=>!uI p.1 σ
def UH (ob:Yo) (σ:Ren) (sh:Sj) (ds:List Dv):Option (jq sh.tys×kY×Ren):=match eW ob σ sh.mj ds with
 | some (x,u,σ1)=>match iM ob σ1 sh.sj with
   | some (y,v,σ2)=>bif zB (u++v) σ2 then some (NT (SS.tys sh.mj) (SP.tys sh.sj) x y,u++v,σ2) else none
   | none=>none
 | none=>none
abbrev cC:=List (Nat×(Nat×Nat))
def Uc (dst j:Nat):Nat:=dst+1000*j
def US (ob:Yo) (dst:Nat) (σ:Ren) (j:Nat):Ob→Option (Nat×Nat)
 | .arr v0 _ e t _=>match look σ j with
   | some i=>match ob i with
     | some (.arr v _ e' t' _)=>bif Nat.ble eB j&&Nat.beq e e'&&decide (t=t')&&(Nat.blt j lL||Nat.beq v0 0) then some (i,bif Nat.ble lL j then v else v+1) else none
     | _=>none
   | none=>match Va ob (Uc dst j) with
     | some v=>some (Uc dst j,v)
     | none=>none
 | _=>match look σ j with
   | some i=>bif Nat.ble eB j then some (i,0) else none
   | none=>match ob (Uc dst j) with
     | none=>some (Uc dst j,0)
     | some _=>none
def eV (ob:Yo) (dst:Nat) (σ:Ren):List (Nat×Ob)→Option cC
 | []=>some []
 | (j,o)::r=>match US ob dst σ j o,eV ob dst σ r with
   | some p,some l=>some ((j,p)::l)
   | _,_=>none
def C0 (i:Nat):cC→Bool
 | []=>false
 | (_,p)::r=>Nat.beq i p.1||C0 i r
def lM (j:Nat):cC→Bool
 | []=>false
 | (k,_)::r=>Nat.beq j k||lM j r
def cE:cC→Bool
 | []=>true
 | (j,p)::r=>!C0 p.1 r && !lM j r&&cE r
def HM (sj:List (Nat×Ob)) (τ:cC):At→At
 | .own j v=>match look sj j,look τ j with
   | some (.arr v' _ _ _ _),some p=>bif Nat.beq v v' then .own p.1 p.2 else .junk
   | _,_=>.junk
 | .win j v lo n=>match look sj j,look τ j with
   | some (.arr v' _ _ _ _),some p=>bif Nat.beq v v' then .win p.1 p.2 lo n else .junk
   | _,_=>.junk
 | .ref j o=>match look sj j,look τ j with
   | some (.box _),some p=>.ref p.1 o
   | _,_=>.junk
 | .clo j=>match look sj j,look τ j with
   | some (.clo _ _ _),some p=>.clo p.1
   | _,_=>.junk
 | .aptr j v=>match look sj j,look τ j with
   | some (.arr v' _ _ _ _),some p=>bif Nat.beq v v' then .aptr p.1 p.2 else .junk
   | _,_=>.junk
 | .selfp j T=>match look sj j,look τ j with
   | some (.box _),some p=>.selfp p.1 T
   | _,_=>.junk
 | .elem _ _ _ _ _=>.junk
 | .aelem ..=>.junk
 | a=>a
def Q2 (sj:List (Nat×Ob)) (τ:cC):Dv→Dv
 | .one a=>.one (HM sj τ a)
 | .agg cs=>.agg (cs.map (HM sj τ))
 | .tup cs=>.tup (cs.map (HM sj τ))
def sI (sj:List (Nat×Ob)) (τ:cC) (σ:Ren):List (Nat×Ob)→Option kY
 | []=>some []
 | (j,o)::r=>match look τ j,sI sj τ σ r with
   | some p,some l=>(match o with
     | .box cs=>some ((p.1,.box (cs.map (HM sj τ)))::l)
     | .arr _ fz e t xs=>bif fz then none else some ((p.1,.arr p.2 false e t xs)::l)
     | .gone=>some ((p.1,.gone)::l)
     | .clo f a b=>match look σ j with
       | some _=>some l
       | none=>some ((p.1,.clo f (a.map (HM sj τ)) (b.map (HM sj τ)))::l))
   | _,_=>none
def hC:List (Nat×Dv)→Option (List At)
 | []=>some []
 | (_,.one a)::r=>match hC r with
   | some l=>some (a::l)
   | none=>none
 | _=>none
def MM:List (Nat×Dv)→Option Dv
 | [(_,d)]=>match d with
   | .tup _=>none
   | d=>some d
 | l=>match hC l with
   | some cs=>some (.tup cs)
   | none=>none
def rQ:Ob→Bool
 | .arr _ _ _ _ _=>true
 | .gone=>true
 | _=>false
def Yx (v:kY):kY:=(v.filter fun p=>rQ p.2)++v.filter fun p=>!rQ p.2
def aV (ob:Yo) (dst:Nat) (σ:Ren) (st:St):Option (Dv×kY):=match eV ob dst σ st.sj with
 | some τ=>bif cE τ&&(σ.all fun p=>lM p.1 τ) then (match sI st.sj τ σ st.sj,MM st.mj with
   | some v,some d=>some (Q2 st.sj τ d,Yx v)
   | _,_=>none) else none
 | none=>none
def uM (l:List (Nat×xj)) (dst f:Nat):Option xj:=match look l (1000000+dst) with
 | some mc=>bif Nat.beq mc.fn f then some mc else look l f
 | none=>look l f
def cN (l:List (Nat×SO)):Bool:=l.all fun p=>match p.2 with
 | .gone=>false
 | _=>true
def oM (ob:Yo) (dst f:Nat) (ds:List Dv) (k:Eff→Option ρ) (l:List (Nat×xj)):Option ρ:=match uM l dst f with
 | some mc=>bif Nat.beq mc.fn f&&cN mc.pre.sj then (match UH ob [] mc.pre ds with
   | some (x,u,σ)=>jc (mc.F x) fun y=>(match aV ob dst σ (mc.post.inj y) with
     | some (d,v)=>k ⟨d,u++v⟩
     | none=>none)
   | none=>none) else none
 | none=>none
def cS (ob:Yo):Option Dv→Option (Nat×List Dv×List Dv)
 | some (.one (.fn f))=>some (f,[],[])
 | some (.one (.clo id))=>match ob id with
   | some (.clo f a b)=>some (f,a.map .one,b.map .one)
   | _=>none
 | _=>none
def bS:List Dv→Option (List At)
 | []=>some []
 | .one a::r=>match bS r with
   | some l=>some (a::l)
   | none=>none
 | _=>none
def pW:List At→Bool
 | []=>true
 | _=>false
def iP (tab:List (Nat×TI)) (fs:List (Nat×TypeId)) (ev:Operand→Option Dv):List (Nat×Operand)→List At→Option (List At)
 | [],cs=>some cs
 | (i,x)::r,cs=>match fs[i]?,ev x with
   | some (off,ft),some d=>match NB d,look tab ft with
     | some ds,some fi=>bif Nat.beq ds.length fi.ty.cells&&Nat.ble (off+ds.length) cs.length then iP tab fs ev r (cs.take off++ds++cs.drop (off+ds.length)) else none
     | _,_=>none
   | _,_=>none
def iR (ob:Yo) (tab:List (Nat×TI)) (fs:List (Nat×TypeId)) (ev:Operand→Option Dv) (s:Ty):List (Nat×Operand)→s.den→Option (s.den×kY)
 | [],y=>some (y,[])
 | (i,x)::r,y=>match fs[i]?,ev x with
   | some (off,ft),some d=>match look tab ft with
     | some fi=>match bE ob fi.ty d with
       | some (z,u)=>match Ty.upd fi.ty z s y off with
         | some y'=>match iR ob tab fs ev s r y' with
           | some (y2,u')=>some (y2,u++u')
           | none=>none
         | none=>none
       | none=>none
     | none=>none
   | _,_=>none
def iQ (ob:Yo) (ev:Operand→Option Dv) (s:Ty) (n:Nat):List (Nat×Operand)→List s.den→Option (List s.den×kY)
 | [],y=>some (y,[])
 | (i,x)::r,y=>match ev x with
   | some d=>match bE ob s d with
     | some (z,u)=>bif Nat.blt i n then (match iQ ob ev s n r (y.set i z) with
       | some (y2,u')=>some (y2,u++u')
       | none=>none) else none
     | none=>none
   | none=>none
def At.fj (id:Nat):At→Bool
 | .ref i _=>Nat.beq i id
 | .own i _=>Nat.beq i id
 | .win i _ _ _=>Nat.beq i id
 | .elem i _ _ _ _=>Nat.beq i id
 | .aptr i _=>Nat.beq i id
 | .aelem i _ _ _ _ _ _ _ _=>Nat.beq i id
 | .clo i=>Nat.beq i id
 | .selfp i _=>Nat.beq i id
 | _=>false
def At.isSelf:At→Bool
 | .selfp _ _=>true
 | _=>false
def oO (tab:List (Nat×TI)) (ti:TI):List (Nat×(TypeId×Ty)):=match ti with
 | ⟨.sl s,.slice e _⟩=>[(0,e,s)]
 | ⟨.st _,.struct fs⟩=>fs.flatMap fun p=>match look tab p.2 with
   | some ⟨.sl s,.slice e _⟩=>[(p.1,e,s)]
   | some ⟨.st _,.struct gs⟩=>gs.filterMap fun q=>match look tab q.2 with
     | some ⟨.sl s,.slice e _⟩=>some (p.1+q.1,e,s)
     | _=>none
   | _=>[]
 | _=>[]
def u7 (fr:Bool) (ob:Yo) (id:Nat):Option Nat:=match ob id with
 | none=>bif fr then some 0 else none
 | some (.arr v _ _ _ _)=>some (v+1)
 | _=>none
def HL (fr:Bool) (ob:Yo) (idf:Nat→Nat):List (Nat×(TypeId×Ty))→List At→Option (List At×kY)
 | [],ds=>some (ds,[])
 | (j,e,s)::r,ds=>match ds[j]? with
   | some .nilS=>match u7 fr ob (idf j) with
     | some ver=>bif ds.all (fun x=>!x.fj (idf j)) && !s.wj then (match HL fr ob idf r (ds.set j (.own (idf j) ver)) with
       | some (ds',u)=>bif u.all (fun q=>!Nat.beq q.1 (idf j)) then some (ds',(idf j,.arr ver false e s [])::u) else none
       | none=>none) else none
     | none=>none
   | _=>HL fr ob idf r ds
def NR (b:Bool) (dst:Nat) (T:TypeId) (ty:Ty) (cs:List At):List At:=bif b then (match ty,cs with
 | .st (.pair (.nilv 0) (.sl (.int .u8))),.val (.nilv 0) _::r=>.selfp dst T::r
 | .st (.pair (.st (.pair (.nilv 0) (.sl (.int .u8)))) _),.val (.nilv 0) _::r=>.selfp dst T::r
 | _,cs=>cs) else cs
def fG (ob:Yo) (ev:Operand→Option Dv) (s:Ty):Nat→List (Nat×Operand)→Option (List s.den×kY)
 | _,[]=>some ([],[])
 | i,(j,x)::r=>bif Nat.beq i j then (match ev x with
  | some d=>match bE ob s d with
    | some (y,u)=>match fG ob ev s (i+1) r with
      | some (ys,u')=>some (y::ys,u++u')
      | none=>none
    | none=>none
  | none=>none) else none
def lenOf (ob:Yo):Dv→Option Int
 | .one .nilS=>some 0
 | .one (.val (.sl _) xs)=>some (xs.length:Int)
 | .one (.own id ver)=>match ob id with
   | some (.arr v _ _ t xs)=>bif Nat.beq v ver && !t.wj then some (xs.length:Int) else none
   | _=>none
 | .one (.win id ver _ n)=>match ob id with
   | some (.arr v _ _ t _)=>bif Nat.beq v ver && !t.wj then some n else none
   | _=>none
 | _=>none
def xW (dst:Nat):Nat:=5000000+dst
def uL (G:Env) (x:Operand) (dst:Nat):Bool:=match x with
 | .tmp s=>JK (45000000+s) G.muts
 | _=>JK (45500000+dst) G.muts
def Jq (G:Env)(o:Oper)(dst:Nat)(ev:Operand→Option Dv)(ob:Yo)(k:Eff→Option ρ):Option ρ:=
 let pureK (d:Dv):Option ρ:=k ⟨d,[]⟩
 match o.op with
 | .move x=>match ev x with
   | some (.one (.own id ver))=>bif JK (xW dst) G.muts then (match ob id with
     | some (.arr v _ e s xs)=>bif Nat.beq v ver && !s.wj then k ⟨.one (.val (.sl s) xs),[(id,.arr v true e s xs)]⟩ else none
     | _=>none) else pureK (.one (.own id ver))
   | some d=>pureK d
   | none=>none
 | .assign x=>match ev x with
   | some (.one .nilS)=>bif uL G x dst then pureK (.one .nilS) else (match look G.tab o.type with
     | some ⟨.sl t,.slice e _⟩=>(match Va ob dst with
       | some ver=>k ⟨.one (.own dst ver),[(dst,.arr ver false e t [])]⟩
       | none=>none)
     | _=>none)
   | some d=>pureK d
   | none=>none
 | .pick c a b=>match ev c with
   | some (.one (.val .bool x))=>br x (match ev a with | some d=>pureK d | none=>none) (match ev b with | some d=>pureK d | none=>none)
   | _=>none
 | .alloc t=>match look G.tab t with
   | some ti=>bif ti.ty.flat then (match ob dst with
     | none=>(match HL true ob (fun j=>Uc dst (j+1)) (bif JK dst G.muts then oO G.tab ti else []) (dE (JK dst G.muts) ti.ty) with
       | some (cs,u)=>bif u.all (fun q=>!Nat.beq q.1 dst)&&cs.all (fun x=>!x.fj dst) then k ⟨.one (.ref dst 0),u++[(dst,.box (NR (JK dst G.muts) dst t ti.ty cs))]⟩ else none
       | none=>none)
     | some _=>none) else (match Va ob dst with
     | some ver=>(match ti with
       | ⟨.ar n s,.arr _ _⟩=>bif Nat.blt 0 n&&Nat.ble n 1048576 then k ⟨.one (.aptr dst ver),[(dst,.arr ver false t s (List.replicate n s.zero))]⟩ else none
       | ⟨.st s,.struct _⟩=>k ⟨.one (.aptr dst ver),[(dst,.arr ver false t (.st s) [Ty.zero (.st s)])]⟩
       | _=>none)
     | none=>none)
   | none=>none
 | .box t x=>match look G.tab t,ev x with
   | some ti,some d=>bif JK (8500000+dst) G.muts then (match lenOf ob d with
     | some m=>k ⟨.one (.fptr .len m),[]⟩
     | none=>none) else bif JK (8600000+dst) G.muts then (match bE ob ti.ty d with
     | some (y,[])=>k ⟨.one (.fptr ti.ty y),[]⟩
     | _=>none) else bif ti.ty.flat then (match NB d with
     | some cs=>(match ob dst with
       | none=>bif JK dst G.muts then (match HL true ob (fun j=>Uc dst (j+1)) (oO G.tab ti) cs with
         | some (cs',u)=>bif Nat.beq cs.length ti.ty.cells&&u.all (fun q=>!Nat.beq q.1 dst)&&cs'.all (fun x=>!x.fj dst) then k ⟨.one (.ref dst 0),u++[(dst,.box (NR true dst t ti.ty cs'))]⟩ else none
         | none=>none) else bif Nat.beq cs.length ti.ty.cells then k ⟨.one (.ref dst 0),[(dst,.box cs)]⟩ else none
       | some _=>none)
     | none=>none) else bif JK (8000000+dst) G.muts then (match bE ob ti.ty d with
     | some (y,[])=>k ⟨.one (.fptr ti.ty y),[]⟩
     | _=>none) else (match Va ob dst,bE ob ti.ty d with
     | some ver,some (y,u)=>bif u.all fun q=>!Nat.beq q.1 dst then (match ti,y with
       | ⟨.ar n s,.arr _ _⟩,y=>bif Nat.blt 0 n&&Nat.ble n 1048576 then k ⟨.one (.aptr dst ver),u++[(dst,.arr ver false t s y)]⟩ else none
       | ⟨.st s,.struct _⟩,y=>k ⟨.one (.aptr dst ver),u++[(dst,.arr ver false t (.st s) [y])]⟩
       | _,_=>none) else none
     | _,_=>none)
   | _,_=>none
 | .fieldAddr t x f=>match look G.tab t,ev x with
   | some ⟨_,.struct fs⟩,some (.one p)=>match fs[f]? with
     | some (off,ft)=>match look G.tab ft with
       | some fi=>bif Nat.beq fi.ty.cells 0 then none else (match p with
         | .ref id o=>match ob id with
           | some (.box _)=>pureK (.one (.ref id (o+off)))
           | _=>none
         | .elem id ver i sz o=>match ob id with
           | some (.arr v _ _ _ _)=>bif Nat.beq v ver then pureK (.one (.elem id ver i sz (o+off))) else none
           | _=>none
         | .aptr id ver=>match ob id with
           | some (.arr v _ _ s xs)=>bif Nat.beq v ver then jc (vQ xs.length 0) fun _=>pureK (.one (.elem id ver 0 s.cells off)) else none
           | _=>none
         | .aelem id ver i sz q n e j o=>match ob id with
           | some (.arr v _ _ _ _)=>bif Nat.beq v ver then pureK (.one (.aelem id ver i sz q n e j (o+off))) else none
           | _=>none
         | .fptr s d=>match Ty.sub fi.ty s d off with
           | some y=>pureK (.one (.fptr fi.ty y))
           | none=>none
         | _=>none)
       | none=>none
     | none=>none
   | _,_=>none
 | .load t x=>match look G.tab t,ev x with
   | some ti,some (.one p)=>match p with
     | .ref id off=>match ob id with
       | some (.box cs)=>
         bif ti.ty.isSt then (bif Nat.ble (off+ti.ty.cells) cs.length then pureK (.agg ((cs.drop off).take ti.ty.cells)) else none)
         else match cs[off]? with
          | some a=>pureK (.one a)
          | none=>none
       | _=>none
     | .elem id ver i _ off=>match ob id with
       | some (.arr v _ _ s xs)=>bif Nat.beq v ver then jc (idx xs i) fun y=>(match Ty.sub ti.ty s y off with
        | some z=>pureK (.one (.val ti.ty z))
        | none=>none) else none
       | _=>none
     | .fptr s d=>match Ty.sub ti.ty s d 0 with
       | some z=>pureK (.one (.val ti.ty z))
       | none=>none
     | _=>none
   | _,_=>none
 | .store t x y=>match look G.tab t,ev x,ev y with
   | some ti,some (.one p),some d=>match p with
     | .ref id off=>match ob id,NB d with
       | some (.box cs),some ds0=>(match HL false ob (fun j=>Uc id (off+j+1)) (bif JK id G.muts then oO G.tab ti else []) ds0 with
         | some (ds,u)=>bif Nat.beq ds.length ti.ty.cells&&Nat.ble (off+ds.length) cs.length&&u.all (fun q=>!Nat.beq q.1 id)&&ds.all (fun x=>!x.isSelf) then
           k ⟨.tup [],u++[(id,.box (cs.take off++ds++cs.drop (off+ds.length)))]⟩ else none
         | none=>none)
       | _,_=>none
     | .elem id ver i _ off=>match bE ob ti.ty d with
       | some (z,u)=>match ob id with
         | some (.arr v false e s xs)=>bif Nat.beq v ver&&(u.all fun q=>!Nat.beq q.1 id) then jc (idx xs i) fun y=>(match Ty.upd ti.ty z s y off with
          | some y'=>k ⟨.tup [],u++[(id,.arr v false e s (xs.set i.toNat y'))]⟩
          | none=>none) else none
         | _=>none
       | none=>none
     | _=>none
   | _,_,_=>none
 | .binOp op xt x y _=>match ev x,ev y with
   | some a,some b=>match a,b with
     | .one (.val (.int j) m),.one (.val (.int l) n)=>match op with
       | .shl | .shr=>z7 op j m n pureK
       | _=>bif decide (j=l) then rL op j m n pureK else none
     | .one (.val .str s),.one (.val .str t)=>uD op s t pureK
     | .one (.val .bool s),.one (.val .bool t)=>match look G.tab xt with
       | some ⟨.bool,.scalar⟩=>match op with
         | .eql=>pureK (vB (s==t))
         | .neq=>pureK (vB (!(s==t)))
         | _=>none
       | _=>none
     | .one (.val (.nilv 1) _),.one (.val (.nilv 1) _)=>lP G.tab op xt y true pureK
     | .one (.val .nn d),.one (.val (.nilv 1) _)=>lP G.tab op xt y (!d) pureK
     | .one .nilS,.one .nilS=>(match look G.tab xt with
       | some ⟨.sl _,.slice _ _⟩=>(match op with
         | .eql=>pureK (vB true)
         | .neq=>pureK (vB false)
         | _=>none)
       | _=>none)
     | a,b=>bif JK xt G.eqs.l then (match look G.tab xt with
       | some ⟨.st s,_⟩=>(match bE ob (.st s) a,bE ob (.st s) b with
         | some (x,[]),some (y,[])=>(match op with
           | .eql=>pureK (vB (Ty.eqT s x y))
           | .neq=>pureK (vB (!Ty.eqT s x y))
           | _=>none)
         | _,_=>none)
       | _=>none) else none
   | _,_=>none
 | .unOp op _ x=>match ev x with
   | some (.one (.val .bool b))=>match op with
     | .not=>pureK (vB (!b))
     | _=>none
   | some (.one (.val (.int j) n))=>match op with
     | .neg=>pureK (vI j (j.wrap (0-n)))
     | .xor=>pureK (vI j (pU .xor j (bif j.signed then -1 else j.max) n))
     | _=>none
   | _=>none
 | .convert srcT dstT x=>match look G.tab srcT,look G.tab dstT,ev x with
   | some ⟨.int _,_⟩,some ⟨.int j,_⟩,some (.one (.val (.int _) n))=>pureK (vI j (j.wrap n))
   | some ⟨.str,_⟩,some ⟨.str,_⟩,some (.one (.val .str s))=>pureK (vS s)
   | some ⟨.sl (.int .u8),.slice e _⟩,some ⟨.str,_⟩,some d=>match look G.tab e with
     | some ⟨.int .u8,_⟩=>(match d with
       | .one .nilS=>pureK (vS [])
       | d=>UT ob (fun t xs=>match t,xs with
         | .int .u8,xs=>pureK (vS (List.map (fun n=>UInt8.ofNat n.toNat) (show List Int from xs)))
         | _,_=>none) d)
     | _=>none
   | _,_,_=>none
 | .build t ps=>match look G.tab t with
   | some ⟨.st s,.struct fs⟩=>
     bif s.flat then (match iP G.tab fs ev ps.toList (dE (JK dst G.muts) s) with
     | some cs=>pureK (.agg cs)
     | none=>none) else (match iR ob G.tab fs ev s ps.toList s.zero with
     | some (y,u)=>k ⟨.one (.val (.st s) y),u⟩
     | none=>none)
   | some ⟨.ar n s,.arr _ _⟩=>(match iQ ob ev s n ps.toList (List.replicate n s.zero) with
     | some (y,u)=>k ⟨.one (.val (.ar n s) y),u⟩
     | none=>none)
   | _=>none
 | .extract x i=>match ev x with
   | some (.tup l)=>match l[i]? with
     | some a=>pureK (.one a)
     | none=>none
   | _=>none
 | .indexAddr t x ix=>match look G.tab t,ev x,ev ix with
   | some ⟨.sl s,.slice _ _⟩,some d,some (.one (.val (.int _) i))=>match d with
     | .one (.val (.sl s') xs)=>bif decide (s'=s) then jc (idx xs i) fun y=>pureK (.one (.fptr s' y)) else none
     | .one (.own id ver)=>match ob id with
       | some (.arr v _ _ s' xs)=>bif Nat.beq v ver&&decide (s'=s) then jc (vQ xs.length i) fun _=>pureK (.one (.elem id ver i s.cells 0)) else none
       | _=>none
     | _=>none
   | _,_,_=>none
 | .index t x ix=>match look G.tab t,ev x,ev ix with
   | some ⟨.str,_⟩,some (.one (.val .str s)),some (.one (.val (.int _) i))=>jc (idx s i) fun b=>pureK (vI .u8 (b.toNat:Int))
   | some ⟨.ar n s,.arr _ e⟩,some (.one (.val (.ar n' s') xs)),some (.one (.val (.int _) i))=>match look G.tab e with
     | some ei=>bif decide (s'=s)&&Nat.beq n' n&&decide (ei.ty=s) then jc (idx xs i) fun y=>pureK (.one (.val s' y)) else none
     | none=>none
   | _,_,_=>none
 | .makeInterface t x=>match look G.tab t,ev x with
   | some ⟨.st s,.struct _⟩,some d=>match bE ob (.st s) d with
     | some (y,u)=>k ⟨.one (.val (.ifc t (.st s)) y),u⟩
     | none=>none
   | _,_=>none
 | .field t x f=>match look G.tab t,ev x with
   | some ⟨_,.struct fs⟩,some (.one (.val (.st s) y))=>match fs[f]? with
     | some (off,ft)=>match look G.tab ft with
       | some fi=>match Ty.sub fi.ty s y off with
         | some z=>pureK (.one (.val fi.ty z))
         | none=>none
       | none=>none
     | none=>none
   | _,_=>none
 | .slice t x lo hi mx=>
   match look G.tab t,ev x with
   | some ⟨.str,_⟩,some (.one (.val .str s))=>match mx with
     | none=>Nq ev lo 0 fun l=>Nq ev hi (s.length:Int) fun h=>jc (Je (decide (0≤l)&&decide (l≤h)&&decide (h≤(s.length:Int)))) fun _=>pureK (vS ((s.take h.toNat).drop l.toNat))
     | some _=>none
   | some ⟨.sl s',.slice _ _⟩,some (.one (.val (.sl s) xs))=>bif decide (s=s') then (match mx with
     | none=>Nq ev lo 0 fun l=>Nq ev hi (xs.length:Int) fun h=>jc (Je (decide (0≤l)&&decide (l≤h)&&decide (h≤(xs.length:Int)))) fun _=>pureK (.one (.val (.sl s) ((xs.take h.toNat).drop l.toNat)))
     | some y=>match hi with
       | some _=>bif JK (8700000+dst) G.muts then (Nq ev (some y) 0 fun m=>Nq ev lo 0 fun l=>Nq ev hi (xs.length:Int) fun h=>jc (Je (decide (0≤l)&&decide (l≤h)&&decide (h=m)&&decide (m≤(xs.length:Int)))) fun _=>pureK (.one (.val (.fl s) (show (Ty.fl s).den from (xs.take h.toNat).drop l.toNat)))) else Nq ev (some y) 0 fun m=>Nq ev lo 0 fun l=>Nq ev hi (xs.length:Int) fun h=>jc (Je (decide (0≤l)&&decide (l≤h)&&decide (h≤m)&&decide (m≤(xs.length:Int)))) fun _=>pureK (.one (.val (.sl s) ((xs.take h.toNat).drop l.toNat)))
       | none=>none) else none
   | some ⟨.sl s',.slice _ _⟩,some (.one (.own id ver))=>match ob id,lo,mx with
     | some (.arr v false e s xs),none,none=>bif Nat.beq v ver&&decide (s=s') then Nq ev hi (xs.length:Int) fun h=>jc (Je (decide (0≤h)&&decide (h≤(xs.length:Int)))) fun _=>
      k ⟨.one (.own id (ver+1)),[(id,.arr (ver+1) false e s (xs.take h.toNat))]⟩ else none
     | _,_,_=>none
   | _,_=>none
 | .buildSlice t n ps=>match look G.tab t with
   | some ⟨.sl s,.slice e _⟩=>
     match fG ob ev s 0 ps.toList with
     | some (ys,u)=>bif Nat.beq ys.length n&&Nat.ble (n*s.cells) 65536 then (match Va ob dst with
       | some ver=>k ⟨.one (.own dst ver),u++[(dst,.arr ver false e s ys)]⟩
       | none=>none) else none
     | none=>none
   | _=>none
 | .call c=>match c.callee with
   | .builtin .len=>match c.args.toList,c.argTypes.toList with
     | [x],[t]=>match look G.tab t,ev x with
       | some ⟨.str,_⟩,some (.one (.val .str s))=>pureK (vI .i64 (s.length:Int))
       | some ⟨.sl _,.slice _ _⟩,some (.one .nilS)=>pureK (vI .i64 0)
       | some ⟨.sl _,.slice _ _⟩,some d=>UT ob (fun _ xs=>pureK (vI .i64 (xs.length:Int))) d
       | _,_=>none
     | _,_=>none
   | .builtin .min=>match c.args.toList with
     | [x,y]=>match ev x,ev y with
       | some (.one (.val (.int j) m)),some (.one (.val (.int _) n))=>pureK (vI j (min m n))
       | _,_=>none
     | _=>none
   | .builtin .max=>match c.args.toList with
     | [x,y]=>match ev x,ev y with
       | some (.one (.val (.int j) m)),some (.one (.val (.int _) n))=>pureK (vI j (max m n))
       | _,_=>none
     | _=>none
   | .builtin .append=>match c.args.toList,c.argTypes.toList with
     | [x,y],[t,t']=>bif Nat.beq t t' then (match look G.tab t,ev x,ev y with
       | some ⟨.sl s,.slice e by_⟩,some dx,some dy=>
         let app (id ver:Nat) (xs:List s.den):Option ρ:=
          UT ob (fun s' ys=>if h:s'=s then
           jc (Je (decide ((xs.length+ys.length)*by_≤NZ)&&decide (xs.length+ys.length≤NZ))) fun _=>
            k ⟨.one (.own id ver),[(id,.arr ver false e s (xs++(h▸ys)))]⟩ else none) dy
         match dx with
         | .one .nilS=>(match Va ob dst with
           | some ver=>app dst ver []
           | none=>none)
         | .one (.own id ver)=>match ob id with
           | some (.arr v false e' s' xs)=>if h:s'=s then (bif Nat.beq v ver&&Nat.beq e' e then app id (ver+1) (h▸xs) else none) else none
           | _=>none
         | .one (.val (.fl s') xs)=>if h:s'=s then (match Va ob dst with
           | some ver=>UT ob (fun s2 ys=>if h2:s2=s then
            jc (Je (decide (0<ys.length)&&(decide (((show List s'.den from xs).length+ys.length)*by_≤NZ)&&decide ((show List s'.den from xs).length+ys.length≤NZ)))) fun _=>
             k ⟨.one (.own dst ver),[(dst,.arr ver false e s ((h▸(show List s'.den from xs))++(h2▸ys)))]⟩ else none) dy
           | none=>none) else none
         | _=>none
       | _,_,_=>none) else (match look G.tab t,look G.tab t',ev x,ev y with
       | some ⟨.sl (.int .u8),.slice e by_⟩,some ⟨.str,_⟩,some dx,some (.one (.val .str bs))=>bif Nat.beq by_ 1 then (match dx with
         | .one .nilS=>(match Va ob dst with
           | some ver=>jc (Je (decide (bs.length≤NZ))) fun _=>k ⟨.one (.own dst ver),[(dst,.arr ver false e (.int .u8) (show List (Ty.int .u8).den from bs.map fun b=>(b.toNat:Int)))]⟩
           | none=>none)
         | .one (.own id ver)=>match ob id with
           | some (.arr v false e' s' xs)=>if h:s'=.int .u8 then (bif Nat.beq v ver&&Nat.beq e' e then jc (Je (decide (xs.length+bs.length≤NZ))) fun _=>
            k ⟨.one (.own id (ver+1)),[(id,.arr (ver+1) false e (.int .u8) ((show List (Ty.int .u8).den from h▸xs)++(show List (Ty.int .u8).den from bs.map fun b=>(b.toNat:Int))))]⟩ else none) else none
           | _=>none
         | _=>none) else none
       | _,_,_,_=>none)
     | _,_=>none
   | .value x=>match cS ob (ev x),NV ev c.args.toList with
     | some (f,fs,cs),some as=>match look G.fns f with
       | some ce=>match args ob ce.params (fs++as++cs) with
         | some (xs,u)=>jc (ce.F xs) fun r=>k ⟨DQ ce.res r,bif ce.res.all Ty.free then [] else u⟩
         | none=>none
       | none=>oM ob dst f (fs++as++cs) k G.mfns
     | _,_=>none
   | _=>none
 | .makeFunc (.func f) first caps=>match NV ev first.toList,NV ev caps.toList with
   | some fs,some cs=>match bS fs,bS cs with
     | some a,some b=>bif pW a&&pW b then pureK (.one (.fn f)) else (match ob dst with
       | none=>k ⟨.one (.clo dst),[(dst,.clo f a b)]⟩
       | some _=>none)
     | _,_=>none
   | _,_=>none
 | .nilCheck x=>match ev x with
   | some (.one (.ref id off))=>match ob id with
     | some (.box _)=>pureK (.one (.ref id off))
     | _=>none
   | some (.one (.fptr t d))=>pureK (.one (.fptr t d))
   | some (.one (.aptr id ver))=>match ob id with
     | some (.arr v _ _ _ _)=>bif Nat.beq v ver then pureK (.one (.aptr id ver)) else none
     | _=>none
   | some (.one (.elem id ver i sz off))=>match ob id with
     | some (.arr v _ _ _ _)=>bif Nat.beq v ver then pureK (.one (.elem id ver i sz off)) else none
     | _=>none
   | some (.one (.fn f))=>pureK (.one (.fn f))
   | some (.one (.clo id))=>match ob id with
     | some (.clo _ _ _)=>pureK (.one (.clo id))
     | _=>none
   | _=>none
 | _=>none
abbrev Ex:=Nat
def pL:Value→Option At
 | .int k n=>some (.val (.int k) n)
 | .bool b=>some (.val .bool b)
 | .string s=>some (.val .str s.data.toList)
 | .slice none 0 0=>some .nilS
 | _=>none
def d9:List Value→Option (List At)
 | []=>some []
 | v::r=>match pL v,d9 r with
   | some a,some l=>some (a::l)
   | _,_=>none
def kS (st:St):Operand→Option Dv
 | .tmp t=>look st.mj t
 | .const (.agg vs)=>match d9 vs.toList with
   | some cs=>some (.agg cs)
   | none=>none
 | .const (.int k n)=>some (vI k n)
 | .const (.bool b)=>some (vB b)
 | .const (.string s)=>some (vS s.data.toList)
 | .const (.slice none 0 0)=>some (.one .nilS)
 | .const (.pointer none)=>some (.one (.val (.nilv 0) ()))
 | .const (.map none)=>some (.one (.val (.nilv 2) ()))
 | .const .nilIface=>some (.one (.val (.nilv 1) ()))
 | .const .nilFunc=>some (.one (.val (.nilv 3) ()))
 | .func f=>some (.one (.fn f))
 | _=>none
def Dv.fj (id:Nat):Dv→Bool
 | .one a=>a.fj id
 | .agg cs=>cs.any (·.fj id)
 | .tup cs=>cs.any (·.fj id)
def Ob.fj (id:Nat):Ob→Bool
 | .box cs=>cs.any (·.fj id)
 | .arr ..=>false
 | .gone=>false
 | .clo _ a b=>a.any (·.fj id)||b.any (·.fj id)
def St.free (st:St) (id:Nat):Bool:=
 (st.mj.all fun p=>!p.2.fj id)&&(st.sj.all fun p=>!Nat.beq p.1 id && !p.2.fj id)
def At.ij (id ver:Nat):At→Bool
 | .own i v=>Nat.beq i id&&Nat.beq v ver
 | .win i v _ _=>Nat.beq i id&&Nat.beq v ver
 | .elem i v _ _ _=>Nat.beq i id&&Nat.beq v ver
 | .aptr i v=>Nat.beq i id&&Nat.beq v ver
 | .aelem i v _ _ _ _ _ _ _=>Nat.beq i id&&Nat.beq v ver
 | _=>false
def Dv.ij (id ver:Nat):Dv→Bool
 | .one a=>a.ij id ver
 | .agg cs=>cs.any (·.ij id ver)
 | .tup cs=>cs.any (·.ij id ver)
def Ob.ij (id ver:Nat):Ob→Bool
 | .box cs=>cs.any (·.ij id ver)
 | .arr ..=>false
 | .gone=>false
 | .clo _ a b=>a.any (·.ij id ver)||b.any (·.ij id ver)
def St.noVer (st:St) (id ver:Nat):Bool:=
 (st.mj.all fun p=>!p.2.ij id ver)&&(st.sj.all fun p=>!p.2.ij id ver)
def YZ (st:St) (id:Nat) (ob:Ob):Bool:=match look st.sj id with
 | none=>Nat.blt id eB&&st.free id
 | some (.box _)=>match ob with
   | .box _=>true
   | _=>false
 | some (.arr v _ _ _ _)=>match ob with
   | .arr v' _ _ _ _=>Nat.beq v v'||(!Nat.beq v' 0&&st.noVer id v')
   | .gone=>true
   | _=>false
 | some .gone=>match ob with
   | .gone=>true
   | _=>false
 | some (.clo _ _ _)=>false
def kO (st:St):kY→Option St
 | []=>some st
 | (id,ob)::r=>bif YZ st id ob then kO ⟨st.mj,YE id ob st.sj⟩ r else none
def lay (n:Nat) (st:St) (dst:Option Nat) (d:Dv) (u:kY):Option St:=match kO st u with
 | some st'=>match dst with
   | some t=>bif Nat.blt t n then some ⟨YE t d st'.mj,st'.sj⟩ else none
   | none=>some st'
 | none=>none
def sV (ops:List Oper):List Nat:=
 ops.filterMap fun o=>o.guard.bind fun g=>(ops[g.1]?).bind (·.dst)
def VL (n:Nat) (st:St) (dst:Option Nat) (d:Dv) (u:kY) (k:St→Option ρ):Option ρ:=match lay n st dst d u with
 | some st'=>k st'
 | none=>none
def VZ (gs:List Nat) (dst:Option Nat) (d:Dv) (k:Dv→Option ρ):Option ρ:=match dst with
 | some t=>bif JK t gs then (match d with
  | .one (.val .bool b)=>br b (k (vB true)) (k (vB false))
  | _=>none) else k d
 | none=>k d
open Classical in
def both {α:Type} (x y:Option α):Option α:=if x=y then x else none
def NC (tab:List (Nat×TI)) (o:Oper) (ev:Operand→Option Dv) (ob:Yo):Option (Bool×Bool):=match o.op with
 | .binOp op xt x y _=>match look tab xt,ev x,ev y with
   | some ⟨.sl _,.slice _ _⟩,some d,some (.one .nilS)=>(match op with
     | .eql=>UT ob (fun _ xs=>some (true,xs.isEmpty)) d
     | .neq=>UT ob (fun _ xs=>some (false,xs.isEmpty)) d
     | _=>none)
   | _,_,_=>none
 | _=>none
def Vu:Nat:=900001
def mA:Ex:=1000000
def hJ:Nat:=999998
def thrown (st:St) (a:At):Option St:=bif YZ st Vu (.clo 0 [] [a]) && !a.fj Vu then some ⟨st.mj,YE Vu (.clo 0 [] [a]) st.sj⟩ else none
def GA (alts:List (Nat×MAlt)) (dst f:Nat):Option MAlt:=match look alts (1000000+dst) with
 | some ma=>bif Nat.beq ma.fn f then some ma else look alts f
 | none=>look alts f
def Hm (G:Env) (o:Oper) (ev:Operand→Option Dv) (ob:Yo):Option (MAlt×List Dv):=match o.op with
 | .call c=>match c.callee with
   | .value x=>match cS ob (ev x),NV ev c.args.toList with
     | some (f,fs,cs),some as=>match look G.fns f,uM G.mfns (o.dst.getD 0) f,GA G.alts (o.dst.getD 0) f with
       | none,none,some ma=>bif Nat.beq ma.fn f&&cN ma.pre.sj then some (ma,fs++as++cs) else none
       | _,_,_=>none
     | _,_=>none
   | _=>none
 | _=>none
def nX (G:Env) (gs:List Nat) (o:Oper) (st:St) (ma:MAlt) (ds:List Dv) (k kp:St→Option ρ):Option ρ:=match UH (look st.sj) [] ma.pre ds with
 | some (x,u,σ)=>jc (ma.F x) fun r=>sel r
   (fun y=>match aV (look st.sj) (o.dst.getD 0) σ (ma.post.inj y) with
    | some (d,v)=>VZ gs o.dst d fun d=>VL G.n st o.dst d (u++v) k
    | none=>none)
   (fun y=>match aV (look st.sj) (o.dst.getD 0) σ (ma.post2.inj y) with
    | some (d,v)=>bif ma.pan then (match kO st (u++v),d with
     | some st',.one a=>(match thrown st' a with
       | some s=>kp s
       | none=>none)
     | _,_=>none) else VZ gs o.dst d fun d=>VL G.n st o.dst d (u++v) k
    | none=>none)
 | none=>none
def nF (G:Env)(ops:List Oper)(gs:List Nat)(o:Oper)(st:St) (k kp:St→Option ρ):Option ρ:=
 let run (_:Unit):Option ρ:=match NC G.tab o (kS st) (look st.sj) with
  | some (q,emp)=>
    br emp (bif JK (46000000+o.dst.getD 0) G.muts then none else both (VZ gs o.dst (vB q) fun d=>VL G.n st o.dst d [] k) (VZ gs o.dst (vB !q) fun d=>VL G.n st o.dst d [] k))
     (VZ gs o.dst (vB !q) fun d=>VL G.n st o.dst d [] k)
  | none=>match o.op with
    | .panic x=>match kS st x with
      | some (.one (.val (.ifc T s) y))=>(match thrown st (.val (.ifc T s) y) with
        | some s=>kp s
        | none=>none)
      | _=>none
    | _=>match Hm G o (kS st) (look st.sj) with
      | some (ma,ds)=>nX G gs o st ma ds k kp
      | none=>Jq G o (o.dst.getD 0) (kS st) (look st.sj) fun e=>
        VZ gs o.dst e.dv fun d=>VL G.n st o.dst d e.upd k
 match o.guard with
 | none=>run ()
 | some (j,want)=>match (ops[j]?).bind (·.dst) with
   | some g=>match look st.mj g with
     | some (.one (.val .bool b))=>br (b==want) (run ()) (VL G.n st o.dst (.tup []) [] k)
     | some (.tup [])=>VL G.n st o.dst (.tup []) [] k
     | _=>none
   | none=>none
def DE (G:Env) (ops:List Oper) (gs:List Nat):List Oper→St→(k kp:St→Option ρ)→Option ρ
 | [],st,k,_=>k st
 | o::r,st,k,kp=>nF G ops gs o st (fun st'=>DE G ops gs r st' k kp) kp
def dB (id ver:Nat):Nat:=bif Nat.ble lL id then ver else 0
def Hk (muts:List Nat) (sj:List (Nat×Ob)):At→At
 | .own id ver=>match look sj id with
   | some (.arr v fz _ t xs)=>bif Nat.beq v ver then (bif fz || !JK id muts then (bif t.wj then .junk else .val (.sl t) xs) else .own id (dB id ver)) else .junk
   | _=>.junk
 | .win id ver lo n=>match look sj id with
   | some (.arr v fz _ t xs)=>bif Nat.beq v ver then (bif fz || !JK id muts then (bif t.wj then .junk else .val (.sl t) (part lo n xs)) else .win id (dB id ver) lo n) else .junk
   | _=>.junk
 | .aptr id ver=>match look sj id with
   | some (.arr v fz _ _ _)=>bif Nat.beq v ver then (bif fz || !JK id muts then .junk else .aptr id (dB id ver)) else .junk
   | _=>.junk
 | .elem ..=>.junk
 | .aelem ..=>.junk
 | a=>a
def E4 (muts:List Nat) (sj:List (Nat×Ob)):Dv→Dv
 | .one a=>.one (Hk muts sj a)
 | .agg cs=>.agg (cs.map (Hk muts sj))
 | .tup cs=>.tup (cs.map (Hk muts sj))
def NP (G:Env) (sj:List (Nat×Ob)):List (Nat×Dv)→List (Nat×Dv)
 | []=>[]
 | (t,d)::r=>bif JK t G.keep then (t,E4 G.muts sj d)::NP G sj r else NP G sj r
def Um (G:Env) (sj:List (Nat×Ob)):List (Nat×Ob)→List (Nat×Ob)
 | []=>[]
 | (id,.box cs)::r=>(id,.box (cs.map (Hk G.muts sj)))::Um G sj r
 | (id,.arr v fz e t xs)::r=>bif fz || !JK id G.muts then (bif fz&&JK (20000000+id) G.muts then (id,.gone)::Um G sj r else del id (Um G sj r)) else (id,.arr (dB id v) false e t xs)::Um G sj r
 | (id,.clo f a b)::r=>(id,.clo f (a.map (Hk G.muts sj)) (b.map (Hk G.muts sj)))::Um G sj r
 | (id,.gone)::r=>(id,.gone)::Um G sj r
def norm (G:Env) (st:St):St:=⟨NP G st.sj st.mj,Um G st.sj st.sj⟩
def eZ {α:Type} (p:Nat→Bool):List (Nat×α)→List (Nat×α)
 | []=>[]
 | (t,d)::r=>bif p t then (t,d)::eZ p r else eZ p r
def only {α β:Type} (dom:List (Nat×β)) (l:List (Nat×α)):List (Nat×α):=eZ (fun t=>(look dom t).isSome) l
def p8 {α β:Type} (dom:List (Nat×β)) (l:List (Nat×α)):List (Nat×α):=eZ (fun t=>(look dom t).isSome||(Nat.ble 900000 t&&Nat.blt t eB)) l
def restrict (dom st:St):St:=⟨only dom.mj st.mj,p8 dom.sj st.sj⟩
def x8 (G:Env) (key:Nat) (st:St):St:=⟨st.mj++(G.keep.filter fun t=>JK (1000000000000+key*10000+t) G.muts).map fun t=>(t,Dv.tup []),st.sj⟩
def Hd {S R:Type} (f:S→Option (S⊕R)):Nat→S→Option R
 | 0,_=>none
 | n+1,s=>match f s with
   | some (.inl s')=>Hd f n s'
   | some (.inr r)=>some r
   | none=>none
open Classical in
def iter {S R:Type} (f:S→Option (S⊕R)) (s:S):Option R:=
 if h:∃n r,Hd f n s=some r then some (Classical.choose (Classical.choose_spec h)) else none
def eA (id:Nat):Code→Nat
 | .seq a b=>eA id a+eA id b
 | .cond _ a b=>eA id a+eA id b
 | .block _ c=>eA id c
 | .loop c=>min 1 (eA id c)
 | .exit j=>bif Nat.beq j id then 1 else 0
 | _=>0
def FX:Code→Bool
 | .skip=>true
 | _=>false
def bQ:Code→Nat
 | .seq a b=>(bif !FX b&&Nat.ble 2 (bQ a) then 1 else bQ a)*bQ b
 | .cond _ a b=>bQ a+bQ b
 | .block id c=>bQ c+eA id c
 | .loop _=>0
 | .exit _=>0
 | .ret=>0
 | _=>1
def mT:Code→Nat
 | .seq a b=>mT a+mT b+1
 | .cond _ a b=>mT a+mT b+1
 | .block _ c=>mT c+1
 | .loop c=>mT c+1
 | _=>1
def Hv:Code→Nat
 | .seq a _=>Hv a
 | .cond _ a b=>let x:=Hv a;bif Nat.beq x 99999 then Hv b else x
 | .block _ c=>Hv c
 | .loop c=>Hv c
 | .region id _ _=>id
 | _=>99999
def C4 (a b:Code):Bool:=!FX b&&Nat.ble 2 (bQ a)
def oE (ops:Array Oper):Bool:=ops.toList.any fun o=>o.guard.isSome
def pY (c:Code):Nat:=100000+Hv c
def gP (c:Code):Nat:=200000+4096*Hv c+mT c
end
structure Tr where
 dst:Option Nat
 dv:Option Dv
 upd:kY
 need:List Nat
def qT (st:St) (hide:List Nat):Operand→Option Dv
 | .tmp t=>bif JK t hide then none else look st.mj t
 | x=>kS st x
def l9 (st:St) (hide:List Nat) (id:Nat):Option Ob:=bif JK id hide then none else look st.sj id
def gS:kY→Bool
 | []=>true
 | (id,_)::r=>(r.all fun p=>!Nat.beq p.1 id)&&gS r
def gI (wr:List Nat) (u:kY):Bool:=(u.all fun p=>JK p.1 wr)&&gS u
def DB (st:St) (id:Nat) (ob:Ob):Nat:=match look st.sj id with
 | none=>1
 | some (.box _)=>0
 | some (.arr v _ _ _ _)=>match ob with
   | .arr v' _ _ _ _=>bif Nat.beq v v' then 0 else 2
   | _=>0
 | some (.clo _ _ _)=>0
 | some .gone=>0
def dN (st:St):kY→List Nat
 | []=>[]
 | (id,ob)::r=>DB st id ob::dN st r
def tZ {ρ:Type} (ma:MAlt) (ds:List Dv) (dst:Nat) (ob:Yo) (k:Eff→Option ρ) (kp:At→kY→Option ρ):Option ρ:=match UH ob [] ma.pre ds with
 | some (x,u,σ)=>jc (ma.F x) fun r=>sel r
   (fun y=>match aV ob dst σ (ma.post.inj y) with
    | some (d,v)=>k ⟨d,u++v⟩
    | none=>none)
   (fun y=>match aV ob dst σ (ma.post2.inj y) with
    | some (.one a,v)=>bif ma.pan then kp a (u++v) else none
    | _=>none)
 | none=>none
abbrev Pm:=Nat×At×kY
def pQ (pm:Option Pm) (h:Hint):Bool:=match pm with
 | some q=>JK q.1 h.pre
 | none=>false
def altD? (G:Env) (pm:Option Pm) (o:Oper) (ev:Operand→Option Dv) (ob:Yo):Option (MAlt×List Dv):=match pm with
 | none=>Hm G o ev ob
 | some _=>none
def dJ (o:Oper):Tr:=⟨o.dst,none,[],[]⟩
def Nt {ρ:Type} (G:Env) (ops:List Oper) (gs:List Nat):List (Oper×Hint)→St→List Tr→Option Pm→(Option Pm→St→List Tr→Option ρ)→Option ρ
 | [],st,tr,pm,k=>k pm st tr
 | (o,h)::r,st,tr,pm,k=>
   let done (e:Eff):Option ρ:=bif gI h.wr e.upd then VZ gs o.dst e.dv fun d=>VL G.n st o.dst d e.upd fun st'=>Nt G ops gs r st' (tr++[⟨o.dst,some d,e.upd,dN st e.upd⟩]) pm k else none
   let run (_:Unit):Option ρ:=match altD? G pm o (qT st h.hideS) (l9 st h.hideO) with
    | some (ma,ds)=>tZ ma ds (o.dst.getD 0) (l9 st h.hideO) done fun a u=>Nt G ops gs r st (tr++[dJ o]) (some (tr.length,a,u)) k
    | none=>Jq G o (o.dst.getD 0) (qT st h.hideS) (l9 st h.hideO) done
   bif pQ pm h then Nt G ops gs r st (tr++[dJ o]) pm k else
   match o.guard with
   | none=>run ()
   | some (j,want)=>match (ops[j]?).bind (·.dst) with
     | some g=>bif JK g h.hideS then none else match look st.mj g with
       | some (.one (.val .bool b))=>br (b==want) (run ()) (VL G.n st o.dst (.tup []) [] fun st'=>Nt G ops gs r st' (tr++[⟨o.dst,some (.tup []),[],[]⟩]) pm k)
       | some (.tup [])=>VL G.n st o.dst (.tup []) [] fun st'=>Nt G ops gs r st' (tr++[⟨o.dst,some (.tup []),[],[]⟩]) pm k
       | _=>none
     | none=>none
def Tr.noMention (id:Nat) (t:Tr):Bool:=
 (match t.dv with | some d=>!d.fj id | none=>true)&&t.upd.all fun p=>!Nat.beq p.1 id && !p.2.fj id
def Tr.noVer (id ver:Nat) (t:Tr):Bool:=
 (match t.dv with | some d=>!d.ij id ver | none=>true)&&t.upd.all fun p=>!p.2.ij id ver
def Hs (hs:List Hint) (j:Nat):List Nat:=match hs[j]? with
 | some h=>h.pre
 | none=>[]
def eI (hs:List Hint) (i:Nat) (p:Tr→Bool):Nat→List Tr→Bool
 | _,[]=>true
 | j,t::r=>(Nat.beq i j||JK i (Hs hs j)||p t)&&eI hs i p (j+1) r
def sO (hs:List Hint) (st0:St) (trs:List Tr) (i:Nat) (ahead:kY) (id:Nat) (ob:Ob):Nat→Bool
 | 0=>true
 | 1=>st0.free id&&(ahead.all fun p=>!Nat.beq p.1 id && !p.2.fj id)&&eI hs i (Tr.noMention id) 0 trs
 | _=>match ob with
   | .arr v _ _ _ _=>st0.noVer id v&&(ahead.all fun p=>!p.2.ij id v)&&eI hs i (Tr.noVer id v) 0 trs
   | _=>false
def sQ (hs:List Hint) (st0:St) (trs:List Tr) (i:Nat):kY→kY→List Nat→Bool
 | _,[],_=>true
 | ahead,(id,ob)::r,n::ns=>sO hs st0 trs i ahead id ob n&&sQ hs st0 trs i (ahead++[(id,ob)]) r ns
 | _,_::_,[]=>false
def sP (hs:List Hint) (st0:St) (trs:List Tr) (i:Nat) (t:Tr):Bool:=sQ hs st0 trs i [] t.upd t.need
def bD (hs:List Hint) (st0:St) (trs:List Tr):Nat→List Tr→Bool
 | _,[]=>true
 | i,t::r=>sP hs st0 trs i t&&bD hs st0 trs (i+1) r
def YR:kY→List (Nat×Ob)→List (Nat×Ob)
 | [],l=>l
 | (id,ob)::r,l=>YR r (YE id ob l)
def tP:Option Ob→Ob→Bool
 | some (.box _),.box _=>true
 | some (.arr v _ _ _ _),.arr v' _ _ _ _=>Nat.beq v v'
 | some (.arr ..),.gone=>true
 | some .gone,.gone=>true
 | _,_=>false
def Tr.lay (t:Tr) (st:St):St:=
 ⟨match t.dst with
  | some s=>(match t.dv with
    | some d=>YE s d st.mj
    | none=>st.mj)
  | none=>st.mj,
  YR t.upd st.sj⟩
def JX (S:Nat→Bool):Nat→List Tr→St→St
 | _,[],st=>st
 | i,t::r,st=>JX S (i+1) r (bif S i then t.lay st else st)
def cP (hs:List Hint) (m:Nat) (tr:List Tr) (st:St):St:=JX (fun k=>JK k (Hs hs m)) 0 tr st
def i6 (pre:List Nat) (sj:List (Nat×Ob)):Nat→List Tr→Bool
 | _,[]=>true
 | i,t::r=>(JK i pre||t.upd.all fun p=>(look sj p.1).isNone)&&i6 pre sj (i+1) r
def p9 (hs:List Hint) (m:Nat) (st:St) (tr:List Tr) (a:At) (u:kY):Bool:=
 st.free Vu&&(tr.all fun t=>t.noMention Vu)&&i6 (Hs hs m) (cP hs m tr st).sj 0 tr&&gS u &&
  (u.all fun p=>tP (look (cP hs m tr st).sj p.1) p.2 && !Nat.beq p.1 Vu && !p.2.fj Vu) && !a.fj Vu
def PH (G:Env):List Nat:=(G.muts.filter fun m=>Nat.ble 48000000 m&&Nat.blt m 48100000).map (· - 48000000)
def Nf (ks:List Nat) (tr:List Tr):List (Nat×Dv)→List (Nat×Dv)
 | []=>[]
 | p::r=>bif JK p.1 ks&&tr.all (fun t=>match t.dst with | some s=>!Nat.beq s p.1 | none=>true) then p::Nf ks tr r else Nf ks tr r
def qA (ks:List Nat) (hs:List Hint) (m:Nat) (tr:List Tr) (st:St) (a:At) (u:kY):St:=⟨Nf ks tr st.mj,YE Vu (.clo 0 [] [a]) (YR u (cP hs m tr st).sj)⟩
def pP (id:Nat):List Nat→List Nat
 | []=>[]
 | m::r=>bif Nat.ble 7000000 m&&Nat.beq ((m-7000000) / 1000) id then (m-7000000) % 1000::pP id r else bif Nat.ble 40000000 m&&Nat.beq ((m-40000000) / 100000) id then (m-40000000) % 100000::pP id r else pP id r
def CJ {α:Type}:List Nat→List (Nat×α)→List (Nat×α)
 | _,[]=>[]
 | l,(s,u)::r=>bif JK s l then CJ l r else (s,u)::CJ l r
def forget (l:List Nat) (st:St):St:=match l with
 | []=>st
 | l=>restrict ⟨CJ l st.mj,CJ l st.sj⟩ st
def CH (id:Nat):List Nat→List Nat
 | []=>[]
 | m::r=>bif Nat.ble 900000000 m&&Nat.beq ((m-900000000) / 100000) id then (m-900000000) % 100000::CH id r else CH id r
def E6 (G:Env) (id:Nat):Env:=match CH id G.muts with
 | []=>G
 | l=>{ G with muts:=G.muts.filter fun m=>!JK m l }
def bH (G:Env)(id:Nat)(ops:Array Oper)(draws:Bool) (ρ:Type)(st:St)(k:Ex→St→Option ρ):Option ρ:=
 bif draws then (match look G.fps id with
  | some hs=>Nt G ops.toList (sV ops.toList) (ops.toList.zip hs) st [] none fun pm st' tr=>bif bD hs st tr 0 tr then (match pm with
    | none=>k 0 (norm G st')
    | some q=>bif p9 hs q.1 st tr q.2.1 q.2.2 then k mA (norm G (qA (PH G) hs q.1 tr st q.2.1 q.2.2)) else none) else none
  | none=>none)
 else DE G ops.toList (sV ops.toList) ops.toList st (fun st'=>k 0 (forget (pP id G.muts) (norm (E6 G id) st'))) fun st'=>k mA (norm G st')
def HI (e:Ex):Bool:=Nat.beq e 0
def delC (G:Env) (t:Nat) (st:St):St:=bif JK (2000000000000+t) G.muts then st else ⟨del t st.mj,st.sj⟩
def IK:Code→Option (Nat×Nat)
 | .region _ ops false=>match ops.toList with
   | [⟨some t,.assign (.tmp p),_,_,_,none⟩]=>some (p,t)
   | _=>none
 | _=>none
def wX:List (Nat×Ob)→Bool
 | []=>true
 | (_,.box _)::r=>wX r
 | (_,.arr _ fz _ t _)::r=>!fz&&(!t.wj&&wX r)
 | (_,.clo _ _ _)::r=>wX r
 | (_,.gone)::_=>false
def bA (ops:List Oper):List Nat:=ops.filterMap (·.dst)
def rG:Code→List Nat
 | .region _ ops _=>bA ops.toList
 | .seq a b=>rG a++rG b
 | .cond _ a b=>rG a++rG b
 | .block _ c=>rG c
 | .loop c=>rG c
 | _=>[]
def mB:Nat:=10000000
def NG:Code→Bool
 | .seq a b=>NG a||NG b
 | .cond _ a b=>NG a||NG b
 | .block _ c=>NG c
 | .loop c=>NG c
 | .rangeFunc _ _ _ _=>true
 | _=>false
def yV (c:Code):Nat:=300000+Hv c
def Vs (G:Env):Code→(ρ:Type)→St→(Ex→St→Option ρ)→Option ρ
 | .skip,_,st,k=>k 0 st
 | .label _,_,st,k=>k 0 st
 | .region id ops d,ρ,st,k=>
   bif oE ops||d then
    (match look G.cks id with
    | some s=>s.run ρ st k
    | none=>bH G id ops d ρ st k)
   else bH G id ops d ρ st k
 | .seq a b,ρ,st,k=>
   bif C4 a b then
    (match look G.cks (gP a) with
    | some s=>s.run ρ st fun e st'=>bif HI e then Vs G b ρ st' k else k e st'
    | none=>Vs G a ρ st fun e st'=>bif HI e then Vs G b ρ (restrict (x8 G (gP a) st) st') k else k e (restrict (x8 G (gP a) st) st'))
   else Vs G a ρ st fun e st'=>bif HI e then Vs G b ρ st' k else k e st'
 | .cond c a b,ρ,st,k=>match c with
   | .tmp t=>match look st.mj t with
     | some (.one (.val .bool x))=>br x (Vs G a ρ (delC G t st) k) (Vs G b ρ (delC G t st) k)
     | _=>none
   | .const (.bool true)=>Vs G a ρ st k
   | .const (.bool false)=>Vs G b ρ st k
   | _=>none
 | .block id c,ρ,st,k=>bif Nat.beq id hJ then none else Vs G c ρ st fun e st'=>bif Nat.beq e (id+2) then k 0 st' else k e st'
 | .loop c,ρ,st,k=>match look G.cks (pY c) with
   | some s=>s.run ρ st k
   | none=>jc (iter (fun (s:St)=>Vs G c (St⊕(Ex×St)) s fun e s'=>bif HI e then some (.inl (restrict s s')) else some (.inr (e,restrict s s'))) st) fun p=>k p.1 p.2
 | .exit id,_,st,k=>bif Nat.beq id hJ then none else k (id+2) st
 | .ret,_,st,k=>k 1 st
 | _,_,_,_=>none
def cW {ρ:Type} (G:Env) (st:St):List ResultVar→(List Dv→Option ρ)→Option ρ
 | [],k=>k []
 | .tmp t::r,k=>match look st.mj t with
   | some d=>cW G st r fun l=>k (d::l)
   | none=>none
 | .cell p t::r,k=>match look G.tab t,look st.mj p with
   | some ti,some (.one (.ref id 0))=>match look st.sj id with
     | some (.box cs)=>bif ti.ty.isSt then (bif Nat.ble ti.ty.cells cs.length then cW G st r fun l=>k (.agg (cs.take ti.ty.cells)::l) else none) else (match cs[0]? with
       | some a=>cW G st r fun l=>k (.one a::l)
       | none=>none)
     | _=>none
   | some ⟨.ar n s',.arr _ _⟩,some (.one (.aptr id ver))=>match look st.sj id with
     | some (.arr v _ _ s xs)=>if h:s=s' then (bif Nat.beq v ver then jc (Je (decide (xs.length=n))) fun _=>cW G st r fun l=>k (.one (.val (.ar n s') (h▸xs))::l) else none) else none
     | _=>none
   | some ⟨.st s',.struct _⟩,some (.one (.aptr id ver))=>match look st.sj id with
     | some (.arr v _ _ s xs)=>if h:s=.st s' then (bif Nat.beq v ver then jc (idx xs 0) fun y=>cW G st r fun l=>k (.one (.val (.st s') (h▸y))::l) else none) else none
     | _=>none
   | _,_=>none
def FT (G:Env) (rv:List ResultVar) (ts:List Ty) (e:Ex) (st:St):Option (YL ts):=
 bif Nat.blt e 2 then cW G st rv fun l=>(match args (look st.sj) ts l with
  | some (x,_)=>some x
  | none=>none) else none
def gV:Nat→(ts:List Ty)→YL ts→List (Nat×Dv)
 | _,[],_=>[]
 | i,[t],x=>[(i,.one (.val t x))]
 | i,t::t'::ts,x=>(i,.one (.val t x.1))::gV (i+1) (t'::ts) x.2
def den (G:Env) (fn:Func) (ps rs:List Ty) (x:YL ps):Option (YL rs):=match fn.body with
 | some c=>Vs G c (YL rs) ⟨gV 0 ps x,[]⟩ (FT G fn.results.toList rs)
 | none=>none
def Nh:Nat→List (Nat×SD)→Bool
 | _,[]=>true
 | i,p::r=>Nat.beq i p.1&&Nh (i+1) r
def fC:List (Nat×SO)→Ren
 | []=>[]
 | p::r=>(p.1,p.1)::fC r
def dL (ob:Yo) (σ:Ren):Bool:=σ.all fun p=>Nat.blt p.1 eB||(Nat.beq p.1 p.2&&(Nat.blt p.1 lL||(match ob p.2 with
 | some (.arr v _ _ _ _)=>Nat.beq v 0
 | _=>true)))
def BE (G:Env) (pre post:Sj) (rv:List ResultVar) (e:Ex) (st:St):Option (jq post.tys):=
 bif Nat.blt e 2 then cW G st rv fun l=>(match UH (look st.sj) (fC pre.sj) post l with
  | some (y,_,σ)=>bif dL (look st.sj) σ then some y else none
  | none=>none) else none
def CL (G:Env) (fn:Func) (pre post:Sj) (x:jq pre.tys):Option (jq post.tys):=match fn.body with
 | some c=>Vs G c (jq post.tys) (pre.inj x) (BE G pre post fn.results.toList)
 | none=>none
def lX (G:Env) (rv:List ResultVar) (ts:List Ty) (T:Nat) (p:Ty) (chk:St→Bool) (e:Ex) (st:St):Option (YL ts⊕p.den):=
 bif Nat.blt e 2 then cW G st rv fun l=>(match args (look st.sj) ts l with
  | some (x,_)=>some (.inl x)
  | none=>none)
 else bif Nat.beq e mA&&chk st then (match look st.sj Vu with
  | some (.clo 0 [] [.val s d])=>if h:s=.ifc T p then some (.inr (show p.den from (h▸d:(Ty.ifc T p).den))) else none
  | _=>none) else none
def uG (G:Env) (pre post:Sj) (pan:Bool) (post2:Sj) (rv:List ResultVar) (e:Ex) (st:St):Option (jq post.tys⊕jq post2.tys):=
 bif Nat.blt e 2 then cW G st rv fun l=>(match UH (look st.sj) (fC pre.sj) post l with
  | some (y,_,σ)=>bif dL (look st.sj) σ then some (.inl y) else none
  | none=>bif pan then none else (match UH (look st.sj) (fC pre.sj) post2 l with
    | some (y,_,σ)=>bif dL (look st.sj) σ then some (.inr y) else none
    | none=>none))
 else bif pan&&Nat.beq e mA then (match look st.sj Vu with
  | some (.clo 0 [] [a])=>(match UH (look st.sj) (fC pre.sj) post2 [.one a] with
    | some (y,_,σ)=>bif dL (look st.sj) σ then some (.inr y) else none
    | none=>none)
  | _=>none) else none
def CK (G:Env) (fn:Func) (pre post:Sj) (pan:Bool) (post2:Sj) (x:jq pre.tys):Option (jq post.tys⊕jq post2.tys):=match fn.body with
 | some c=>Vs G c (jq post.tys⊕jq post2.tys) (pre.inj x) (uG G pre post pan post2 fn.results.toList)
 | none=>none
end
end Go.Ql
end

section
namespace Go.Ql
def rowAt (w:World) (g:Nat) (cur:Array Value) (e:TypeId):Prop:=
 ∃fz:Nat×Nat,w.heap[g]?=some (.cells cur e fz)∧(fz=(0,0)∨cur.size≤fz.1)
section
variable {w w':World} {g:Nat} {cur:Array Value} {e:TypeId}
def rowAt.of (h:w.heap[g]?=some (.cells cur e (0,0))):rowAt w g cur e:=⟨_,h,.inl rfl⟩
def rowAt.lt (h:rowAt w g cur e):g<w.heap.size:=by
 obtain ⟨fz,h,_⟩:=h
 exact (Array.getElem?_eq_some_iff.1 h).1
def rowAt.cell (h:rowAt w g cur e) (j:Nat):w.cell? ⟨g,j,none⟩=cur[j]?:=by
 obtain ⟨fz,h,_⟩:=h
 exact cell_of_row w g j cur e fz h
def rowAt.set (h:rowAt w g cur e) {cs:Array Value} (hs:cs.size=cur.size):rowAt (w.setRow g cs) g cs e:=by
 obtain ⟨fz,h,hf⟩:=h
 exact ⟨fz,setRow_heap w g cur cs e fz h,hf.imp id fun hf=>by omega⟩
def rowAt.block (h:rowAt w g cur e) (hb:w'.heap[g]?=w.heap[g]?):rowAt w' g cur e:=by
 obtain ⟨fz,h,hf⟩:=h
 exact ⟨fz,by rw [hb];exact h,hf⟩
def rowAt.frozen (h:rowAt w g cur e) {j:Nat} (hj:j<cur.size):w.frozen? ⟨g,j,none⟩=false:=by
 obtain ⟨fz,h,hf⟩:=h
 rcases hf with rfl | hf
 ·exact frozen_of_row w g j cur e h
 ·simp only [World.frozen?,h]
  simp
  omega
end
section
variable {w:World} {g:Nat} {cur:Array Value} {e:TypeId}
def rowAt.mark (h:rowAt w g cur e):rowAt (w.freeze ⟨g,cur.size,none⟩ 1) g cur e:=by
 have hlt:=h.lt
 obtain ⟨⟨lo,hi⟩,h,hf⟩:=h
 have hv:w.heap[g]=.cells cur e (lo,hi):=(Array.getElem?_eq_some_iff.1 h).2
 refine ⟨if lo==hi then (cur.size,cur.size+1) else (min lo cur.size,max hi (cur.size+1)),?_,.inr ?_⟩
 ·unfold World.freeze
  rw [if_neg (by decide)]
  show (Array.modify _ _ _)[g]?=_
  rw [Array.getElem?_modify,if_pos rfl,h]
  rfl
 ·by_cases hc:lo=hi
  ·simp [hc]
  ·simp only [beq_iff_eq,if_neg hc]
   rcases hf with hf | hf
   ·cases hf;exact absurd rfl hc
   ·have hf:cur.size≤lo:=hf
    show cur.size≤min lo cur.size
    omega
end
def _root_.Go.World.ownsM (w:World) (e:TypeId) (size:Nat) (v:Value) (n:Nat) (xs:List Value):Prop:=
 xs.length=n*size ∧
 ((v=.slice none 0 0∧n=0) ∨
  ∃g cap cur,v=.slice (some ⟨g,0,none⟩) n cap∧rowAt w g cur e∧n≤cap∧cap≤maxLen∧cur.size=cap*size∧cur.toList.take (n*size)=xs)
section
variable {w:World} {e:TypeId} {size:Nat} {v:Value} {n:Nat} {xs:List Value}
def v7 (w:World) (e:TypeId) (size:Nat):w.ownsM e size (.slice none 0 0) 0 []:=⟨by simp,.inl ⟨rfl,rfl⟩⟩
def qY {g m c:Nat} (h:w.ownsM e size (.slice (some ⟨g,0,none⟩) m c) n xs):∀j u,xs[j]?=some u→w.cell? ((⟨g,0,none⟩:Addr).add j)=some u:=by
 intro j u hj
 rcases h.2 with ⟨e1,_⟩ | ⟨g',cap,cur,e1,h2,_,_,_,h6⟩
 ·cases e1
 ·cases e1
  have:(⟨g,0,none⟩:Addr).add j=⟨g,j,none⟩:=by unfold Addr.add;split<;>simp_all
  rw [this,h2.cell,←Array.getElem?_toList]
  rw [←h6,List.getElem?_take] at hj
  split at hj
  ·exact hj
  ·cases hj
end
section
variable (P:Program)
def run_storeCells_own (g o:Nat) (t:TypeId):∀(vs:List Value) (i:Nat) (cur:Array Value) (w:World),rowAt w g cur t→o+i+vs.length≤cur.size→(∀v∈vs,v.oneCell'=true) →
 (storeCells ⟨g,o,none⟩ vs i).run P w=.ok () (w.setRow g (cur.toList.take (o+i)++vs++cur.toList.drop (o+i+vs.length)).toArray)
 | [],i,cur,w,hg,_,_=>by
   simp only [storeCells,List.append_nil,zh,Nat.add_zero,List.take_append_drop,Array.toArray_toList]
   obtain ⟨fz,hg,_⟩:=hg
   rw [setRow_self w g cur t fz hg]
   rfl
 | v::rest,i,cur,w,hg,hl,h1=>by
   have hi:o+i<cur.size:=by simp at hl;omega
   have hadd:(⟨g,o,none⟩:Addr).add i=⟨g,o+i,none⟩:=by unfold Addr.add;split<;>simp_all
   have hcell:w.cell? ⟨g,o+i,none⟩=some cur[o+i]:=by rw [hg.cell];simp [hi]
   have hfro:w.frozen? ⟨g,o+i,none⟩=false:=hg.frozen hi
   have hst:(store ((⟨g,o,none⟩:Addr).add i) v).run P w=.ok () (w.setRow g (cur.setIfInBounds (o+i) v)):=by
    obtain ⟨fz,hg',_⟩:=hg
    rw [hadd,run_store P w _ v _ (h1 v (by simp)),hcell]
    simp [hfro,setCell_eq_setRow w g (o+i) cur t fz v hg']
   have ih:=run_storeCells_own g o t rest (i+1) (cur.setIfInBounds (o+i) v) (w.setRow g (cur.setIfInBounds (o+i) v)) (hg.set (by simp)) (by simp at hl ⊢;omega) (fun x hx=>h1 x (by simp [hx]))
   simp only [storeCells,Sem.run_bind,hst,Result.andThen_ok,ih,setRow_setRow]
   congr 3
   have e:=list_seg_step cur.toList (o+i) v rest (by simp at hl ⊢;omega)
   simpa [Array.toList_setIfInBounds,Nat.add_assoc] using e
end
section
variable {P:Program} (w:World)
def run_append_none_own (t ty e:TypeId) (i:TypeInfo) (size:Nat) (ht:P.underlying t=some (.slice e)) (hi:P.info? e=some i)
 (v:Value) (n:Nat) (xs:List Value) (hown:w.ownsM e size v n xs) :
 (Builtin.append_ #[t,t] ty #[v,.slice none 0 0]).run P w=.ok v w:=by
 rcases hown.2 with ⟨rfl,rfl⟩ | ⟨g,cap,cur,rfl,_,hnc,_⟩
 ·simp [Builtin.append_,run_underlying ht,sizeOf,typeInfo,hi,Builtin.lenOf,Builtin.firstCells]
 ·simp [Builtin.append_,run_underlying ht,sizeOf,typeInfo,hi,Builtin.lenOf,Builtin.firstCells,hnc,storeCells]
def run_append_room_own (t ty e:TypeId) (i:TypeInfo) (ht:P.underlying t=some (.slice e)) (hi:P.info? e=some i)
 (g sLen sCap:Nat) (cur:Array Value) (hg:rowAt w g cur e)
 (a:Addr) (m c:Nat) (news:List Value) (hl:news.length=m*i.size) (hnews:∀j u,news[j]?=some u→w.cell? (a.add j)=some u) (h1:∀u∈news,u.oneCell'=true)
 (hroom:sLen+m≤sCap) (hfit:sLen*i.size+news.length≤cur.size) :
 (Builtin.append_ #[t,t] ty #[.slice (some ⟨g,0,none⟩) sLen sCap,.slice (some a) m c]).run P w =
  .ok (.slice (some ⟨g,0,none⟩) (sLen+m) sCap) (w.setRow g (cur.toList.take (sLen*i.size)++news++cur.toList.drop (sLen*i.size+news.length)).toArray):=by
 have hf:=run_firstCells_some (P:=P) w i.size m a m c news hl hnews
 have hst:=run_storeCells_own P g (sLen*i.size) e news 0 cur w hg (by simpa using hfit) h1
 simp only [Nat.add_zero] at hst
 simp [Builtin.append_,run_underlying ht,sizeOf,typeInfo,hi,Builtin.lenOf,hroom,hf,Addr.add_lit,hst]
def run_append_room_string_own (t u ty e:TypeId) (i:TypeInfo) (ht:P.underlying t=some (.slice e)) (hu:P.underlying u=some .string) (hi:P.info? e=some i) (hs1:i.size=1)
 (g sLen sCap:Nat) (cur:Array Value) (hg:rowAt w g cur e) (s:ByteArray)
 (hroom:sLen+s.size≤sCap) (hfit:sLen+s.size≤cur.size) :
 (Builtin.append_ #[t,u] ty #[.slice (some ⟨g,0,none⟩) sLen sCap,.string s]).run P w =
  .ok (.slice (some ⟨g,0,none⟩) (sLen+s.size) sCap) (w.setRow g (cur.toList.take sLen++Lib.strCells s++cur.toList.drop (sLen+s.size)).toArray):=by
 have hf:=Lib.run_firstCells_string (P:=P) w 1 s
 have hst:=run_storeCells_own P g sLen e (Lib.strCells s) 0 cur w hg (by simpa [Lib.strCells_length] using hfit) (Lib.strCells_oneCell s)
 simp only [Nat.add_zero,Lib.strCells_length] at hst
 simp [Builtin.append_,run_underlying ht,run_underlying hu,sizeOf,typeInfo,hi,hs1,Builtin.lenOf,hroom,hf,Addr.add_lit,hst]
end
end Go.Ql
end

section
namespace Go.Ql
universe u
section
variable {α:Type u}
def Jx {a b:Nat}:Nat.beq a b=true↔a=b:=by rw [Nat.beq_eq]
def Yi {a b:Nat}:Nat.beq a b=false↔a≠b:=by
 rw [←Bool.not_eq_true,Jx]
def ke (t s:Nat) (v:α) (l:List (Nat×α)):look (YE t v l) s=if t=s then some v else look l s:=by
 induction l with
 | nil=>
   by_cases h:t=s
   ·simp [YE,look,h]
   ·simp [YE,look,h,Yi.2 h]
 | cons p r ih=>
   obtain ⟨q,x⟩:=p
   simp only [YE]
   cases h1:Nat.blt t q with
   | true=>
     by_cases h:t=s
     ·simp [look,h]
     ·simp [look,h,Yi.2 h]
   | false=>
     cases h2:Nat.beq t q with
     | true=>
       have:t=q:=Jx.1 h2
       subst this
       by_cases h:t=s
       ·simp [look,h]
       ·simp [look,h,Yi.2 h]
     | false=>
       have hne:=Yi.1 h2
       simp only [zk,look,ih]
       by_cases h3:q=s
       ·subst h3;simp [hne]
       ·simp [Yi.2 h3]
def y6 (t s:Nat) (l:List (Nat×α)):look (del t l) s=if t=s then none else look l s:=by
 induction l with
 | nil=>simp [del,look]
 | cons p r ih=>
   obtain ⟨q,x⟩:=p
   simp only [del]
   cases h2:Nat.beq t q with
   | true=>
     have:t=q:=Jx.1 h2
     subst this
     simp only [zj,ih,look]
     by_cases h:t=s
     ·simp [h]
     ·simp [h,Yi.2 h]
   | false=>
     have hne:=Yi.1 h2
     simp only [zk,look,ih]
     by_cases h3:q=s
     ·subst h3;simp [hne]
     ·simp [Yi.2 h3]
def Ul {t:Nat} {v:α} {l:List (Nat×α)} (h:look l t=some v):(t,v)∈l:=by
 induction l with
 | nil=>simp [look] at h
 | cons p r ih=>
   obtain ⟨q,x⟩:=p
   simp only [look] at h
   cases h2:Nat.beq q t with
   | true=>rw [h2] at h;simp at h;have:=Jx.1 h2;subst this;subst h;simp
   | false=>rw [h2] at h;simp at h;exact zz _ (ih h)
end
def YF {α:Type} (p:List Value→α→Prop):List Value→List α→Prop
 | cs,[]=>cs=[]
 | cs,x::r=>∃c1 c2,cs=c1++c2∧p c1 x∧YF p c2 r
def Hl:Nat→Value
 | 0=>.pointer none
 | 1=>.nilIface
 | 2=>.map none
 | _=>.nilFunc
def tA (k:Nat):(Hl k).oneCell'=true:=by
 unfold Hl
 split<;>rfl
mutual
def wF {α:Type} (w:World) (Z:Nat→Prop) (p:List Value→α→Prop):Rose α→List Value→Prop
 | .mk a ks,cs=>∃c1 v,cs=c1++[v]∧p c1 a∧((v=.slice none 0 0∧ks=[]) ∨
  (∃b off cap cells,v=.slice (some ⟨b,off,none⟩) (List.length ks) cap∧List.length ks≤cap∧cap≤maxLen∧Z b∧m7 w Z p ks cells ∧ ∀j u,cells[j]?=some u→w.cell? ⟨b,off+j,none⟩=some u) ∨
  ∃ad cap,v=.slice (some ad) 0 cap∧ks=[]∧cap≤maxLen)
def m7 {α:Type} (w:World) (Z:Nat→Prop) (p:List Value→α→Prop):List (Rose α)→List Value→Prop
 | [],cs=>cs=[]
 | x::r,cs=>∃c1 c2,cs=c1++c2∧wF w Z p x c1∧m7 w Z p r c2
end
def m8 {α:Type} {w:World} {Z:Nat→Prop} {p:List Value→α→Prop}:∀{ks:List (Rose α)} {cs:List Value},m7 w Z p ks cs↔YF (fun cs d=>wF w Z p d cs) cs ks
 | [],cs=>by rw [m7,YF]
 | x::r,cs=>by
   rw [m7,YF]
   constructor
   ·rintro ⟨c1,c2,e,h1,h2⟩;exact ⟨c1,c2,e,h1,m8.1 h2⟩
   ·rintro ⟨c1,c2,e,h1,h2⟩;exact ⟨c1,c2,e,h1,m8.2 h2⟩
def kT (w:World) (Z:Nat→Prop):(t:Ty)→List Value→t.den→Prop
 | .bool,cs,d=>cs=[.bool d]
 | .int k,cs,d=>cs=[.int k d]
 | .str,cs,d=>cs=[.string ⟨List.toArray d⟩]
 | .sl t,cs,d=>∃v,cs=[v]∧((v=.slice none 0 0∧d=[]) ∨
  (∃b off cap cells,v=.slice (some ⟨b,off,none⟩) (List.length d) cap∧List.length d≤cap∧cap≤maxLen∧Z b∧YF (kT w Z t) cells d ∧ ∀j u,cells[j]?=some u→w.cell? ⟨b,off+j,none⟩=some u) ∨
  ∃ad cap,v=.slice (some ad) 0 cap∧d=[]∧cap≤maxLen)
 | .st t,cs,d=>kT w Z t cs d
 | .unit,cs,_=>cs=[]
 | .pair a b,cs,d=>∃c1 c2,cs=c1++c2∧kT w Z a c1 d.1∧kT w Z b c2 d.2
 | .ar n t,cs,d=>List.length d=n∧YF (kT w Z t) cs d
 | .nilv k,cs,_=>cs=[Hl k]
 | .node t,cs,d=>wF w Z (kT w Z t) d cs
 | .ifc T t,cs,d=>∃u us,cs=[.iface T u]∧((t.isSt=true∧u=.agg us)∨(t.isSt=false∧us=#[u]))∧kT w Z t us.toList d
 | .nn,cs,d=>∃v,cs=[v]∧(((d:Bool)=true ∧ ∃T u,v=.iface T u)∨((d:Bool)=false∧v=.nilIface))
 | .len,cs,d=>∃ad c,cs=[.slice ad (show Int from d).toNat c]∧0≤(show Int from d)∧(show Int from d).toNat≤maxLen
 | .fl t,cs,d=>(∃v,cs=[v]∧(((v=.slice none 0 0∧d=[]) ∨
  (∃b off cap cells,v=.slice (some ⟨b,off,none⟩) (List.length d) cap∧List.length d≤cap∧cap≤maxLen∧Z b∧YF (kT w Z t) cells d ∧ ∀j u,cells[j]?=some u→w.cell? ⟨b,off+j,none⟩=some u) ∨
  ∃ad cap,v=.slice (some ad) 0 cap∧d=[]∧cap≤maxLen))) ∧ ∃ad m,cs=[.slice ad m m]
def aE {w:World} {Z:Nat→Prop} {t:Ty} {cs:List Value}:∀{d:Rose t.den},kT w Z (.node t) cs d ↔ ∃c1 c2,cs=c1++c2∧kT w Z t c1 (Rose.hQ d)∧kT w Z (.sl (.st (.node t))) c2 (show List (Rose t.den) from Rose.kQ d)
 | .mk a ks=>by
   show wF w Z (kT w Z t) (.mk a ks) cs↔_
   rw [wF]
   constructor
   ·rintro ⟨c1,v,e,h1,h2⟩
    refine ⟨c1,[v],e,h1,v,rfl,?_⟩
    rcases h2 with h2 | ⟨b,off,cap,cells,g1,g2,g3,g4,g5,g6⟩ | h2
    ·exact .inl h2
    ·exact .inr (.inl ⟨b,off,cap,cells,g1,g2,g3,g4,m8.1 g5,g6⟩)
    ·exact .inr (.inr h2)
   ·rintro ⟨c1,c2,e,h1,v,rfl,h2⟩
    refine ⟨c1,v,e,h1,?_⟩
    rcases h2 with h2 | ⟨b,off,cap,cells,g1,g2,g3,g4,g5,g6⟩ | h2
    ·exact .inl h2
    ·exact .inr (.inl ⟨b,off,cap,cells,g1,g2,g3,g4,m8.2 g5,g6⟩)
    ·exact .inr (.inr h2)
def VF {α:Type} {p q:List Value→α→Prop} (h:∀cs x,p cs x→q cs x):∀{cs l},YF p cs l→YF q cs l
 | _,[],hr=>hr
 | _,_::_,⟨c1,c2,e,h1,h2⟩=>⟨c1,c2,e,h _ _ h1,VF h h2⟩
def Kept (w w':World) (Z Z':Nat→Prop):Prop:=∀b,Z b→Z' b∧w'.heap[b]?=w.heap[b]?
def KeptW (w w':World) (Z Z':Nat→Prop):Prop:=∀b,Z b→Z' b ∧ ∀o u,w.cell? ⟨b,o,none⟩=some u→w'.cell? ⟨b,o,none⟩=some u
def Kept.cell {w w':World} {Z Z':Nat→Prop} (h:Kept w w' Z Z') {b o:Nat} (hz:Z b):w'.cell? ⟨b,o,none⟩=w.cell? ⟨b,o,none⟩:=by
 simp [World.cell?,(h b hz).2]
def n6 {w w':World} {b:Nat} (h:w'.heap[b]?=w.heap[b]?):∀o u,w.cell? ⟨b,o,none⟩=some u→w'.cell? ⟨b,o,none⟩=some u:=fun o u hu=>by
 simpa [World.cell?,h] using hu
def Kept.weak {w w':World} {Z Z':Nat→Prop} (h:Kept w w' Z Z'):KeptW w w' Z Z':=fun b hb=>⟨(h b hb).1,fun _ _ hu=>(h.cell hb).trans hu⟩
instance {w w':World} {Z Z':Nat→Prop}:CoeOut (Kept w w' Z Z') (KeptW w w' Z Z'):=⟨Kept.weak⟩
def KeptW.cell {w w':World} {Z Z':Nat→Prop} (h:KeptW w w' Z Z') {b o:Nat} (hz:Z b) {u:Value} (hu:w.cell? ⟨b,o,none⟩=some u):w'.cell? ⟨b,o,none⟩=some u:=(h b hz).2 o u hu
mutual
def zO {α:Type} {w w':World} {Z Z':Nat→Prop} {p q:List Value→α→Prop} (h:KeptW w w' Z Z') (hp:∀cs x,p cs x→q cs x):∀(d:Rose α) {cs:List Value},wF w Z p d cs→wF w' Z' q d cs
 | .mk a ks,cs,hr=>by
   rw [wF] at hr ⊢
   obtain ⟨c1,v,e,h1,h2⟩:=hr
   refine ⟨c1,v,e,hp _ _ h1,?_⟩
   rcases h2 with h2 | ⟨b,off,cap,cells,g1,g2,g3,g4,g5,g6⟩ | h2
   ·exact .inl h2
   ·exact .inr (.inl ⟨b,off,cap,cells,g1,g2,g3,(h b g4).1,wG h hp ks g5,fun j u hj=>h.cell g4 (g6 j u hj)⟩)
   ·exact .inr (.inr h2)
def wG {α:Type} {w w':World} {Z Z':Nat→Prop} {p q:List Value→α→Prop} (h:KeptW w w' Z Z') (hp:∀cs x,p cs x→q cs x):∀(ks:List (Rose α)) {cs:List Value},m7 w Z p ks cs→m7 w' Z' q ks cs
 | [],cs,hr=>by rw [m7] at hr ⊢;exact hr
 | x::r,cs,hr=>by
   rw [m7] at hr ⊢
   obtain ⟨c1,c2,e,h1,h2⟩:=hr
   exact ⟨c1,c2,e,zO h hp x h1,wG h hp r h2⟩
end
def YJ {w w':World} {Z Z':Nat→Prop} (h:KeptW w w' Z Z'):∀(t:Ty) {cs:List Value} {d:t.den},kT w Z t cs d→kT w' Z' t cs d
 | .bool,_,_,hr=>hr
 | .int _,_,_,hr=>hr
 | .str,_,_,hr=>hr
 | .sl t,_,_,⟨v,e,hr⟩=>⟨v,e,hr.imp id fun hr=>hr.imp (fun ⟨b,off,cap,cells,hv,h1,h2,hz,ha,hc⟩=>
  ⟨b,off,cap,cells,hv,h1,h2,(h b hz).1,VF (fun _ _=>YJ h t) ha,fun j u hj=>h.cell hz (hc j u hj)⟩) id⟩
 | .st t,_,_,hr=>YJ h t hr
 | .unit,_,_,hr=>hr
 | .pair a b,_,_,⟨c1,c2,e,h1,h2⟩=>⟨c1,c2,e,YJ h a h1,YJ h b h2⟩
 | .ar _ t,_,_,⟨h1,h2⟩=>⟨h1,VF (fun _ _=>YJ h t) h2⟩
 | .nilv _,_,_,hr=>hr
 | .node t,_,d,hr=>zO h (fun _ _=>YJ h t) d hr
 | .ifc _ t,_,_,⟨u,us,e,h1,h2⟩=>⟨u,us,e,h1,YJ h t h2⟩
 | .nn,_,_,hr=>hr
 | .len,_,_,hr=>hr
 | .fl t,_,_,⟨⟨v,e,hr⟩,g⟩=>⟨⟨v,e,hr.imp id fun hr=>hr.imp (fun ⟨b,off,cap,cells,hv,h1,h2,hz,ha,hc⟩=>
  ⟨b,off,cap,cells,hv,h1,h2,(h b hz).1,VF (fun _ _=>YJ h t) ha,fun j u hj=>h.cell hz (hc j u hj)⟩) id⟩,g⟩
def Hy {α:Type} {p:List Value→α→Prop} {n:Nat} (h:∀cs x,p cs x→cs.length=n):∀{cs l},YF p cs l→cs.length=l.length*n
 | _,[],hr=>by simp [YF] at hr;simp [hr]
 | _,_::_,⟨c1,c2,e,h1,h2⟩=>by rw [e,zf,h _ _ h1,Hy h h2,zg,Nat.succ_mul,Nat.add_comm]
def Yy {w:World} {Z:Nat→Prop}:∀(t:Ty) {cs:List Value} {d:t.den},kT w Z t cs d→cs.length=t.cells
 | .bool,_,_,hr=>by simp [kT] at hr;simp [hr,Ty.cells]
 | .int _,_,_,hr=>by simp [kT] at hr;simp [hr,Ty.cells]
 | .str,_,_,hr=>by simp [kT] at hr;simp [hr,Ty.cells]
 | .sl _,_,_,⟨v,e,_⟩=>by simp [e,Ty.cells]
 | .st t,_,_,hr=>Yy t hr
 | .unit,_,_,hr=>by simp [kT] at hr;simp [hr,Ty.cells]
 | .pair a b,_,_,⟨c1,c2,e,h1,h2⟩=>by rw [e,zf,Yy a h1,Yy b h2];rfl
 | .ar n t,_,_,⟨h1,h2⟩=>by rw [Hy (fun _ _=>Yy t) h2,h1];rfl
 | .nilv _,_,_,hr=>by simp [kT] at hr;simp [hr,Ty.cells]
 | .node t,_,_,hr=>by
   obtain ⟨c1,c2,e,h1,v,h2,_⟩:=aE.1 hr
   rw [e,h2,zf,Yy t h1];rfl
 | .ifc _ t,_,_,⟨u,us,e,_⟩=>by rw [e];rfl
 | .nn,_,_,⟨v,e,_⟩=>by rw [e];rfl
 | .len,_,_,⟨ad,c,e,_⟩=>by rw [e];rfl
 | .fl _,_,_,⟨_,ad,m,e⟩=>by rw [e];rfl
def wE {α:Type} {p:List Value→α→Prop} (h:∀cs x,p cs x → ∀u∈cs,u.oneCell'=true):∀{cs l},YF p cs l → ∀u∈cs,u.oneCell'=true
 | _,[],hr,u,hu=>by simp only [YF] at hr;subst hr;cases hu
 | _,_::_,⟨c1,c2,e,h1,h2⟩,u,hu=>by
   rw [e,List.mem_append] at hu
   exact hu.elim (h _ _ h1 u) (wE h h2 u)
def HS {w:World} {Z:Nat→Prop}:∀(t:Ty) {cs:List Value} {d:t.den},kT w Z t cs d → ∀u∈cs,u.oneCell'=true
 | .bool,_,_,hr=>by simp [kT] at hr;simp [hr,Value.oneCell']
 | .int _,_,_,hr=>by simp [kT] at hr;simp [hr,Value.oneCell']
 | .str,_,_,hr=>by simp [kT] at hr;simp [hr,Value.oneCell']
 | .sl _,_,_,⟨v,e,hr⟩=>by
   rcases hr with ⟨hv,_⟩ | ⟨b,off,cap,cells,hv,_⟩ | ⟨ad,cap,hv,_⟩<;>simp [e,hv,Value.oneCell']
 | .st t,_,_,hr=>HS t hr
 | .unit,_,_,hr=>by simp [kT] at hr;simp [hr]
 | .pair a b,_,_,⟨c1,c2,e,h1,h2⟩=>by
   intro u hu
   rw [e,List.mem_append] at hu
   exact hu.elim (HS a h1 u) (HS b h2 u)
 | .ar _ t,_,_,⟨_,h2⟩=>wE (fun _ _ h=>HS t h) h2
 | .nilv k,_,_,hr=>by
   intro u hu
   have hr:_=[Hl k]:=hr
   rw [hr] at hu
   simp only [List.mem_singleton] at hu
   subst hu
   exact tA k
 | .node t,_,_,hr=>by
   obtain ⟨c1,c2,e,h1,v,h2,h3⟩:=aE.1 hr
   intro u hu
   rw [e,h2,List.mem_append] at hu
   rcases hu with hu | hu
   ·exact HS t h1 u hu
   ·rw [List.mem_singleton.1 hu]
    rcases h3 with ⟨hv,_⟩ | ⟨b,off,cap,cells,hv,_⟩ | ⟨ad,cap,hv,_⟩<;>simp [hv,Value.oneCell']
 | .ifc _ t,_,_,⟨u,us,e,_⟩=>by simp [e,Value.oneCell']
 | .nn,_,_,⟨v,e,h⟩=>by rcases h with ⟨_,T,u,h⟩ | ⟨_,h⟩<;>simp [e,h,Value.oneCell']
 | .len,_,_,⟨ad,c,e,_⟩=>by simp [e,Value.oneCell']
 | .fl _,_,_,⟨_,ad,m,e⟩=>by simp [e,Value.oneCell']
def Ux (w:World) (Z:Nat→Prop) (t:Ty) (v:Value) (d:t.den):Prop:=
 match t,d with
 | .st s,d=>∃cs,v=.agg cs∧kT w Z s cs.toList d
 | .ar n s,d=>∃cs,v=.agg cs∧kT w Z (.ar n s) cs.toList d
 | t,d=>kT w Z t [v] d
def HA {w:World} {Z:Nat→Prop} {t:Ty} {v:Value} {d:t.den} (h:Ux w Z t v d):kT w Z t v.cells.toList d:=by
 cases t with
 | st s=>obtain ⟨cs,rfl,hr⟩:=h;exact hr
 | ar n s=>obtain ⟨cs,rfl,hr⟩:=h;exact hr
 | bool=>simp [Ux,kT] at h;simp [h,Value.cells,kT]
 | int k=>simp [Ux,kT] at h;simp [h,Value.cells,kT]
 | str=>simp [Ux,kT] at h;simp [h,Value.cells,kT]
 | sl s=>
   obtain ⟨u,e,hr⟩:=h
   simp only [List.cons.injEq,and_true] at e
   subst e
   refine ⟨v,?_,hr⟩
   rcases hr with ⟨hv,_⟩ | ⟨b,off,cap,cells,hv,_⟩ | ⟨ad,cap,hv,_⟩<;>simp [hv,Value.cells]
 | unit=>simp [Ux,kT] at h
 | nilv k=>
   have h:[v]=[Hl k]:=h
   obtain rfl:=List.cons.inj h |>.1
   show (Hl k).cells.toList=[Hl k]
   unfold Hl
   split<;>rfl
 | ifc T a=>
   obtain ⟨u,us,e,h1,h2⟩:=h
   simp only [List.cons.injEq,and_true] at e
   subst e
   exact ⟨u,us,rfl,h1,h2⟩
 | nn=>
   obtain ⟨v,e,h⟩:=h
   simp only [List.cons.injEq,and_true] at e
   subst e
   rcases h with ⟨h1,T,u,h⟩ | ⟨h1,h⟩
   ·subst h;exact ⟨_,rfl,Or.inl ⟨h1,T,u,rfl⟩⟩
   ·subst h;exact ⟨_,rfl,Or.inr ⟨h1,rfl⟩⟩
 | len=>
   obtain ⟨ad,c,e,h1,h2⟩:=h
   simp only [List.cons.injEq,and_true] at e
   subst e
   exact ⟨ad,c,rfl,h1,h2⟩
 | fl s=>
   obtain ⟨h1,ad,m,e⟩:=h
   simp only [List.cons.injEq,and_true] at e
   subst e
   exact ⟨h1,ad,m,rfl⟩
 | pair a b=>
   have:=Yy _ h
   have h1:=HS _ h v (by simp)
   unfold Ux at h
   cases v<;>first | exact h | simp [Value.oneCell'] at h1
 | node a=>
   have h1:=HS _ h v (by simp)
   unfold Ux at h
   cases v<;>first | exact h | simp [Value.oneCell'] at h1
def bJ {w w':World} {Z Z':Nat→Prop} (h:KeptW w w' Z Z') {t:Ty} {v:Value} {d:t.den} (hr:Ux w Z t v d):Ux w' Z' t v d:=by
 cases t with
 | st s=>obtain ⟨cs,e,hr⟩:=hr;exact ⟨cs,e,YJ h s hr⟩
 | ar n s=>obtain ⟨cs,e,hr⟩:=hr;exact ⟨cs,e,YJ h (.ar n s) hr⟩
 | _=>exact YJ h _ hr
abbrev JY:=Nat→Value
def kV:Value→Option Nat
 | .pointer (some a)=>some a.block
 | .slice (some a) _ _=>some a.block
 | .map (some b)=>some b
 | _=>none
def EH (v:Value) (sz:Nat) (lo m:Int) (u:Value):Prop:=
 (v=.slice none 0 0∧u=.slice none 0 0∧m=0) ∨
  ∃b q c g c',v=.slice (some ⟨b,0,none⟩) q c∧u=.slice (some ⟨b,g,none⟩) m.toNat c'∧(0<m→g=lo.toNat*sz)∧m.toNat≤c'∧c'≤maxLen
def UE (w:World) (Z:Nat→Prop) (nm:JY) (sj:List (Nat×Ob)):At→Value→Prop
 | .val t d,v=>Ux w Z t v d
 | .nilS,v=>v=.slice none 0 0
 | .ref id off,v=>v.oneCell'=true ∧ ∀cs,look sj id=some (.box cs) → ∃b,nm id=.pointer (some ⟨b,0,none⟩)∧v=.pointer (some ⟨b,off,none⟩)
 | .own id ver,v=>v.oneCell'=true ∧ ∀fz e t xs,look sj id=some (.arr ver fz e t xs)→v=nm id
 | .elem id ver i sz off,v=>v.oneCell'=true ∧ ∀fz e t xs,look sj id=some (.arr ver fz e t xs)→sz=t.cells∧0≤i∧i.toNat<xs.length ∧ ∃b n c,nm id=.slice (some ⟨b,0,none⟩) n c∧v=.pointer (some ⟨b,i.toNat*sz+off,none⟩)
 | .aptr id ver,v=>v.oneCell'=true ∧ ∀fz e t xs,look sj id=some (.arr ver fz e t xs) → ∃b n c,nm id=.slice (some ⟨b,0,none⟩) n c∧v=.pointer (some ⟨b,0,none⟩)
 | .aelem id ver i sz off n e j o,v=>v.oneCell'=true ∧ ∀fz e' t xs,look sj id=some (.arr ver fz e' t xs)→sz=t.cells∧0≤i∧i.toNat<xs.length∧0≤j∧j.toNat<n ∧
  ∃b m c,nm id=.slice (some ⟨b,0,none⟩) m c∧v=.pointer (some ⟨b,i.toNat*sz+off+j.toNat*e.cells+o,none⟩)
 | .fptr t d,v=>∃b off cs,v=.pointer (some ⟨b,off,none⟩)∧Z b∧kT w Z t cs d ∧ ∀j u,cs[j]?=some u→w.cell? ⟨b,off+j,none⟩=some u
 | .fn f,v=>v=.func (.func f) #[] #[]
 | .win id ver lo m,v=>v.oneCell'=true ∧ ∀fz e t xs,look sj id=some (.arr ver fz e t xs)→EH (nm id) t.cells lo m v∧mP lo m (List.length xs)=true
 | .selfp id _,v=>v.oneCell'=true ∧ ∀cs,look sj id=some (.box cs)→v=.pointer none∨v=nm id
 | .clo id,v=>v.oneCell'=true ∧ ∀f x y,look sj id=some (.clo f x y)→v=nm id
 | .junk,v=>v.oneCell'=true
def Vx (w:World) (Z:Nat→Prop) (nm:JY) (sj:List (Nat×Ob)) (cs:List At) (vs:List Value):Prop:=
 vs.length=cs.length ∧ ∀(i:Nat) a v,cs[i]?=some a→vs[i]?=some v→UE w Z nm sj a v
def Vf (w:World) (Z:Nat→Prop) (nm:JY) (sj:List (Nat×Ob)):Dv→Value→Prop
 | .one a,v=>UE w Z nm sj a v
 | .agg cs,v=>∃vs,v=.agg vs∧Vx w Z nm sj cs vs.toList ∧ ∀u∈vs.toList,u.oneCell'=true
 | .tup cs,v=>∃vs,v=.tuple vs∧Vx w Z nm sj cs vs.toList
def MZ (w:World) (v:Value) (j u:IntKind) (l:List (Int×Int)):Prop:=
 ∃b es clock,v=.map (some b)∧w.heap[b]?=some (.map es clock)∧es.toList.map (fun x=>(x.key,x.val))=l.map fun p=>(Value.int j p.1,Value.int u p.2)
def rdArr (w:World) (Z:Nat→Prop) (v:Value) (e:TypeId) (t:Ty) (xs:List t.den):Prop:=
 (t.wj=false ∧ ∃cells,w.ownsM e t.cells v (List.length xs) cells∧YF (kT w Z t) cells xs) ∨
  ∃j u l,(⟨t,xs⟩:(t:Ty)×List t.den)=⟨C9 j u,[l]⟩∧MZ w v j u l
def rdArr.sl {w:World} {Z:Nat→Prop} {v:Value} {e:TypeId} {t:Ty} {xs:List t.den} (h:rdArr w Z v e t xs) (ht:t.wj=false) :
 ∃cells,w.ownsM e t.cells v (List.length xs) cells∧YF (kT w Z t) cells xs:=by
 rcases h with ⟨_,h⟩ | ⟨j,u,l,h,_⟩
 ·exact h
 ·cases h;cases ht
def rdArr.of {w:World} {Z:Nat→Prop} {v:Value} {e:TypeId} {t:Ty} {xs:List t.den} {ad:Option Addr} {m c:Nat} (h:rdArr w Z v e t xs) (hv:v=.slice ad m c) :
 t.wj=false ∧ ∃cells,w.ownsM e t.cells v (List.length xs) cells∧YF (kT w Z t) cells xs:=by
 rcases h with h | ⟨j,u,l,h,b,es,clock,h1,_⟩
 ·exact h
 ·rw [hv] at h1;cases h1
def rdArr.map {w:World} {Z:Nat→Prop} {v:Value} {e:TypeId} {j u:IntKind} {xs:List (List (Int×Int))} (h:rdArr w Z v e (C9 j u) xs) :
 ∃l,xs=[l]∧MZ w v j u l:=by
 rcases h with ⟨h,_⟩ | ⟨j',u',l,h,h'⟩
 ·cases h
 ·cases h;exact ⟨l,rfl,h'⟩
def hY (w:World) (Z:Nat→Prop) (nm:JY) (sj:List (Nat×Ob)) (id:Nat):Ob→Prop
 | .box cs=>∃b vs T,nm id=.pointer (some ⟨b,0,none⟩)∧w.heap[b]?=some (.cells vs T (0,0))∧Vx w Z nm sj cs vs.toList∧(∀u∈vs.toList,u.oneCell'=true) ∧ ∀T',At.selfp id T'∈cs→T'=T
 | .arr _ _ e t xs=>rdArr w Z (nm id) e t xs
 | .clo f x y=>∃vx vy,nm id=.func (.func f) vx vy∧Vx w Z nm sj x vx.toList∧Vx w Z nm sj y vy.toList
 | .gone=>True
def Ob.mine:Ob→Bool
 | .box _=>true
 | .arr _ fz _ _ _=>!fz
 | .clo _ _ _=>true
 | .gone=>false
def bT (nm:JY) (sj:List (Nat×Ob)) (b:Nat):Prop:=∃id ob,look sj id=some ob∧ob.mine=true∧kV (nm id)=some b
structure Same (w0 w:World):Prop where
 os:w.os=w0.os
 tape:w.tape=w0.tape
 output:w.output=w0.output
 size:w0.heap.size≤w.heap.size
 block:∀b,b<w0.heap.size→w.heap[b]?=w0.heap[b]?
def Same.refl (w:World):Same w w:=⟨rfl,rfl,rfl,zx _,fun _ _=>rfl⟩
def Same.trans {a b c:World} (h:Same a b) (k:Same b c):Same a c:=
 ⟨k.os.trans h.os,k.tape.trans h.tape,k.output.trans h.output,Nat.le_trans h.size k.size,fun x hx=>(k.block x (Z2 hx h.size)).trans (h.block x hx)⟩
structure SameBut (M:Nat→Prop) (w0 w:World):Prop where
 os:w.os=w0.os
 tape:w.tape=w0.tape
 output:w.output=w0.output
 size:w0.heap.size≤w.heap.size
 block:∀b,b<w0.heap.size → ¬M b→w.heap[b]?=w0.heap[b]?
def SameBut.refl (M:Nat→Prop) (w:World):SameBut M w w:=⟨rfl,rfl,rfl,zx _,fun _ _ _=>rfl⟩
def SameBut.trans {M:Nat→Prop} {a b c:World} (h:SameBut M a b) (k:Same b c):SameBut M a c:=
 ⟨k.os.trans h.os,k.tape.trans h.tape,k.output.trans h.output,Nat.le_trans h.size k.size,fun x hx hm=>(k.block x (Z2 hx h.size)).trans (h.block x hx hm)⟩
class GInv where
 ok:World→Prop
 n:Nat
 keep:∀{w w':World},(∀b,b<n→w'.heap[b]?=w.heap[b]?)→ok w→ok w'
 size:∀{w:World},ok w→n≤w.heap.size
structure Bs where
 z:Nat→Prop
 m:Nat→Prop
 nm:JY
 df:List Deferred:=[]
 calm:Bool:=false
def Zc (w0:World) (Z0:Bs) (nm:JY) (sj:List (Nat×Ob)) (w:World) (b:Nat):Prop:=
 b<w.heap.size∧(b<w0.heap.size→Z0.z b∨Z0.m b) ∧ ¬bT nm sj b
def oG (id:Nat):Ob→Prop
 | .arr v _ _ _ _=>lL≤id∧v=0
 | .gone=>False
 | _=>True
def Marks (w0 w:World) (Z:Nat→Prop) (l:List Deferred):Prop:=
 ∃ds:List Nat,l=ds.map (fun D=>({ target:=.collected D,args:=#[] }:Deferred))∧ds.Nodup ∧ ∀D:Nat,D∈ds→w0.heap.size≤D∧Z D∧w.heap[D]?=some (Obj.deferred (some []))
def Marks.nil (w0 w:World) (Z:Nat→Prop):Marks w0 w Z []:=⟨[],rfl,List.nodup_nil,fun _ h=>by cases h⟩
def Marks.kept {w0 w w':World} {Z Z':Nat→Prop} {l:List Deferred} (hk:Kept w w' Z Z') (h:Marks w0 w Z l):Marks w0 w' Z' l:=by
 obtain ⟨ds,e,hn,hd⟩:=h
 exact ⟨ds,e,hn,fun D hD=>⟨(hd D hD).1,(hk D (hd D hD).2.1).1,(hk D (hd D hD).2.1).2.trans (hd D hD).2.2⟩⟩
structure Rel [GInv] (n:Nat) (w0:World) (Z0:Bs) (st:St) (a:Act) (w:World) (nm:JY):Prop where
 defers:∃l,a.defers=l++Z0.df∧Marks w0 w (Zc w0 Z0 nm st.sj w) l
 size:a.tmps.size=n
 mj:∀t d,look st.mj t=some d → ∃v,a.tmps[t]?=some v∧Vf w (Zc w0 Z0 nm st.sj w) nm st.sj d v
 sj:∀id ob,look st.sj id=some ob→hY w (Zc w0 Z0 nm st.sj w) nm st.sj id ob
 new:∀id ob b,look st.sj id=some ob→kV (nm id)=some b→(w0.heap.size≤b∨Z0.m b)∧b<w.heap.size
 inj:∀id id' ob ob' b,look st.sj id=some ob→look st.sj id'=some ob'→kV (nm id)=some b→kV (nm id')=some b→id=id'
 same:SameBut Z0.m w0 w
 given:∀id ob,eB≤id→look st.sj id=some ob→oG id ob→nm id=Z0.nm id
 glob:GInv.ok w0 ∧ ∀b,Z0.m b→GInv.n≤b
 calm:Z0.calm=true→a.defers=Z0.df
def Rel.defk [GInv] {n:Nat} {w0:World} {Z0:Bs} {st:St} {a:Act} {w w':World} {nm:JY} {Z':Nat→Prop} (h:Rel n w0 Z0 st a w nm) (hk:Kept w w' (Zc w0 Z0 nm st.sj w) Z') :
 ∃l,a.defers=l++Z0.df∧Marks w0 w' Z' l:=h.defers.imp fun _ hl=>⟨hl.1,hl.2.kept hk⟩
def Rel.gnow [GInv] {n:Nat} {w0:World} {Z0:Bs} {st:St} {a:Act} {w:World} {nm:JY} (h:Rel n w0 Z0 st a w nm):GInv.ok w:=
 GInv.keep (fun b hb=>h.same.block b (Z2 hb (GInv.size h.glob.1)) fun hm=>Nat.lt_irrefl _ (Z2 hb (h.glob.2 b hm))) h.glob.1
end Go.Ql
end

section
namespace Go.Ql
def VG (nm:JY) (id:Nat) (v:Value):JY:=fun j=>if j=id then v else nm j
def kW (nm:JY) (id:Nat) (v:Value):VG nm id v id=v:=by simp [VG]
def VU (nm:JY) {id j:Nat} (v:Value) (h:j≠id):VG nm id v j=nm j:=by simp [VG,h]
section
variable [GInv] {w w':World} {Z Z':Nat→Prop} {nm nm':JY} {sj objs':List (Nat×Ob)}
def AtOk (nm nm':JY) (sj objs':List (Nat×Ob)) (a:At):Prop:=
 ∀id,a.fj id=true →
  (∀ver fz e t xs,look objs' id=some (.arr ver fz e t xs)→a.ij id ver=true →
   nm' id=nm id ∧ ∃fz' xs',look sj id=some (.arr ver fz' e t xs')∧List.length xs'=List.length xs) ∧
  (∀cs,look objs' id=some (.box cs)→nm' id=nm id ∧ ∃cs',look sj id=some (.box cs')) ∧
  (∀f x y,look objs' id=some (.clo f x y)→nm' id=nm id ∧ ∃f' x' y',look sj id=some (.clo f' x' y'))
def m6 (hk:KeptW w w' Z Z') {a:At} (ha:AtOk nm nm' sj objs' a) {v:Value} (h:UE w Z nm sj a v):UE w' Z' nm' objs' a v:=by
 cases a with
 | val t d=>exact bJ hk h
 | nilS=>exact h
 | ref id off=>
   refine ⟨h.1,fun cs hl=>?_⟩
   obtain ⟨h1,cs',h2⟩:=(ha id (by simp [At.fj])).2.1 cs hl
   rw [h1];exact h.2 cs' h2
 | own id ver=>
   refine ⟨h.1,fun fz e t xs hl=>?_⟩
   obtain ⟨h1,fz',xs',h2,_⟩:=(ha id (by simp [At.fj])).1 ver fz e t xs hl (by simp [At.ij])
   rw [h1];exact h.2 fz' e t xs' h2
 | elem id ver i sz off=>
   refine ⟨h.1,fun fz e t xs hl=>?_⟩
   obtain ⟨h1,fz',xs',h2,h3⟩:=(ha id (by simp [At.fj])).1 ver fz e t xs hl (by simp [At.ij])
   rw [h1,←h3];exact h.2 fz' e t xs' h2
 | win id ver lo m=>
   refine ⟨h.1,fun fz e t xs hl=>?_⟩
   obtain ⟨h1,fz',xs',h2,h3⟩:=(ha id (by simp [At.fj])).1 ver fz e t xs hl (by simp [At.ij])
   rw [h1,←h3];exact h.2 fz' e t xs' h2
 | aptr id ver=>
   refine ⟨h.1,fun fz e t xs hl=>?_⟩
   obtain ⟨h1,fz',xs',h2,h3⟩:=(ha id (by simp [At.fj])).1 ver fz e t xs hl (by simp [At.ij])
   rw [h1];exact h.2 fz' e t xs' h2
 | aelem id ver i sz off m e' j o=>
   refine ⟨h.1,fun fz e t xs hl=>?_⟩
   obtain ⟨h1,fz',xs',h2,h3⟩:=(ha id (by simp [At.fj])).1 ver fz e t xs hl (by simp [At.ij])
   rw [h1,←h3];exact h.2 fz' e t xs' h2
 | selfp id T=>
   refine ⟨h.1,fun cs hl=>?_⟩
   obtain ⟨h1,cs',h2⟩:=(ha id (by simp [At.fj])).2.1 cs hl
   rw [h1];exact h.2 cs' h2
 | clo id=>
   refine ⟨h.1,fun f x y hl=>?_⟩
   obtain ⟨h1,f',x',y',h2⟩:=(ha id (by simp [At.fj])).2.2 f x y hl
   rw [h1];exact h.2 f' x' y' h2
 | fptr t d=>
   obtain ⟨b,off,cs,h1,h2,h3,h4⟩:=h
   exact ⟨b,off,cs,h1,(hk b h2).1,YJ hk t h3,fun j u hj=>hk.cell h2 (h4 j u hj)⟩
 | fn f=>exact h
 | junk=>exact h
def Hz (hk:KeptW w w' Z Z') {cs:List At} (ha:∀a∈cs,AtOk nm nm' sj objs' a) {vs:List Value} (h:Vx w Z nm sj cs vs):Vx w' Z' nm' objs' cs vs:=
 ⟨h.1,fun i a v h1 h2=>m6 hk (ha a (List.mem_of_getElem? h1)) (h.2 i a v h1 h2)⟩
def DvOk (nm nm':JY) (sj objs':List (Nat×Ob)):Dv→Prop
 | .one a=>AtOk nm nm' sj objs' a
 | .agg cs=>∀a∈cs,AtOk nm nm' sj objs' a
 | .tup cs=>∀a∈cs,AtOk nm nm' sj objs' a
def Uu (hk:KeptW w w' Z Z') {d:Dv} (ha:DvOk nm nm' sj objs' d) {v:Value} (h:Vf w Z nm sj d v):Vf w' Z' nm' objs' d v:=by
 cases d with
 | one a=>exact m6 hk ha h
 | agg cs=>obtain ⟨vs,e,h1,h2⟩:=h;exact ⟨vs,e,Hz hk ha h1,h2⟩
 | tup cs=>obtain ⟨vs,e,h1⟩:=h;exact ⟨vs,e,Hz hk ha h1⟩
def AtOk.refl (nm:JY) (sj:List (Nat×Ob)) (a:At):AtOk nm nm sj sj a:=
 fun _ _=>⟨fun _ fz _ _ xs hl _=>⟨rfl,fz,xs,hl,rfl⟩,fun cs hl=>⟨rfl,cs,hl⟩,fun f x y hl=>⟨rfl,f,x,y,hl⟩⟩
def DvOk.refl (nm:JY) (sj:List (Nat×Ob)) (d:Dv):DvOk nm nm sj sj d:=by
 cases d<;>simp only [DvOk]<;>first | exact AtOk.refl _ _ _ | exact fun a _=>AtOk.refl _ _ a
def AW {e:TypeId} {size:Nat} {v:Value} {m:Nat} {xs:List Value} (h:w.ownsM e size v m xs)
 (hb:∀b,kV v=some b→w'.heap[b]?=w.heap[b]?):w'.ownsM e size v m xs:=by
 refine ⟨h.1,?_⟩
 rcases h.2 with hn | ⟨g,cap,cur,rfl,h2,r⟩
 ·exact .inl hn
 ·exact .inr ⟨g,cap,cur,rfl,h2.block (hb g rfl),r⟩
def bU (hk:KeptW w w' Z Z') {v:Value} {e:TypeId} {t:Ty} {xs:List t.den} (hb:∀b,kV v=some b→w'.heap[b]?=w.heap[b]?) (h:rdArr w Z v e t xs):rdArr w' Z' v e t xs:=by
 rcases h with ⟨h0,cells,h1,h2⟩ | ⟨j,u,l,h1,b,es,clock,h2,h3,h4⟩
 ·exact .inl ⟨h0,cells,AW h1 hb,VF (fun _ _=>YJ hk t) h2⟩
 ·exact .inr ⟨j,u,l,h1,b,es,clock,h2,by rw [hb b (by rw [h2];rfl)];exact h3,h4⟩
def ObOk (nm nm':JY) (sj objs':List (Nat×Ob)):Ob→Prop
 | .box cs=>∀a∈cs,AtOk nm nm' sj objs' a
 | .arr ..=>True
 | .clo _ x y=>(∀a∈x,AtOk nm nm' sj objs' a) ∧ ∀a∈y,AtOk nm nm' sj objs' a
 | .gone=>True
def ObOk.refl (nm:JY) (sj:List (Nat×Ob)) (ob:Ob):ObOk nm nm sj sj ob:=by
 cases ob with
 | box cs=>exact fun a _=>AtOk.refl _ _ a
 | arr=>trivial
 | gone=>trivial
 | clo f x y=>exact ⟨fun a _=>AtOk.refl _ _ a,fun a _=>AtOk.refl _ _ a⟩
def Hh (hk:KeptW w w' Z Z') {id:Nat} {ob:Ob} (hnm:nm' id=nm id) (hb:∀b,kV (nm id)=some b→w'.heap[b]?=w.heap[b]?)
 (ha:ObOk nm nm' sj objs' ob) (h:hY w Z nm sj id ob):hY w' Z' nm' objs' id ob:=by
 cases ob with
 | box cs=>
   obtain ⟨b,vs,T,h1,h2,h3,h4⟩:=h
   exact ⟨b,vs,T,by rw [hnm];exact h1,by rw [hb b (by rw [h1];rfl)];exact h2,Hz hk ha h3,h4⟩
 | arr ver fz e t xs=>
   show rdArr w' Z' (nm' id) e t xs
   rw [hnm]
   exact bU hk hb h
 | clo f x y=>
   obtain ⟨vx,vy,h1,h2,h3⟩:=h
   exact ⟨vx,vy,by rw [hnm];exact h1,Hz hk ha.1 h2,Hz hk ha.2 h3⟩
 | gone=>trivial
end
section
variable [GInv] {n:Nat} {w0 w w':World} {Z0:Bs} {st:St} {a:Act} {nm:JY}
def Rel.grow (h:Rel n w0 Z0 st a w nm) (hs:Same w w'):Rel n w0 Z0 st a w' nm:=by
 have hk:Kept w w' (Zc w0 Z0 nm st.sj w) (Zc w0 Z0 nm st.sj w'):=fun b ⟨h1,h2,h3⟩=>⟨⟨Z2 h1 hs.size,h2,h3⟩,hs.block b h1⟩
 refine ⟨h.defk hk,h.size,fun t d ht=>?_,fun id ob ho=>?_,fun id ob b ho hb=>?_,h.inj,h.same.trans hs,h.given,h.glob,h.calm⟩
 ·obtain ⟨v,h1,h2⟩:=h.mj t d ht
  exact ⟨v,h1,Uu hk (DvOk.refl ..) h2⟩
 ·exact Hh hk rfl (fun b hb=>hs.block b (h.new id ob b ho hb).2) (ObOk.refl _ _ _) (h.sj id ob ho)
 ·exact ⟨(h.new id ob b ho hb).1,Z2 (h.new id ob b ho hb).2 hs.size⟩
def Same.drew (w:World):Same w w.drew:=⟨rfl,rfl,rfl,zx _,fun _ _=>rfl⟩
def Same.alloc (w:World) (o:Obj):Same w (w.alloc o):=⟨rfl,rfl,rfl,by simp,fun b hb=>heap_alloc_old w o b hb⟩
def Rel.put (h:Rel n w0 Z0 st a w nm) {t:Nat} (ht:t<n) {d:Dv} {v:Value} (hd:Vf w (Zc w0 Z0 nm st.sj w) nm st.sj d v) :
 Rel n w0 Z0 ⟨YE t d st.mj,st.sj⟩ (a.put (some t) v) w nm:=by
 refine ⟨h.defers,by simp [Act.put,h.size],fun s d' hs=>?_,h.sj,h.new,h.inj,h.same,h.given,h.glob,h.calm⟩
 simp only [ke] at hs
 by_cases he:t=s
 ·subst he
  simp only [if_true,zd] at hs
  subst hs
  exact ⟨v,by simp [Act.put,h.size,ht],hd⟩
 ·simp only [if_neg he] at hs
  obtain ⟨u,h1,h2⟩:=h.mj s d' hs
  exact ⟨u,by simp [Act.put,Array.getElem?_setIfInBounds_ne he,h1],h2⟩
def Rel.del (h:Rel n w0 Z0 st a w nm) (t:Nat):Rel n w0 Z0 ⟨Go.Ql.del t st.mj,st.sj⟩ a w nm:=by
 refine ⟨h.defers,h.size,fun s d' hs=>?_,h.sj,h.new,h.inj,h.same,h.given,h.glob,h.calm⟩
 simp only [y6] at hs
 by_cases he:t=s
 ·simp [he] at hs
 ·simp only [if_neg he] at hs
  exact h.mj s d' hs
def oD {st:St} {id t:Nat} {d:Dv} (h:st.free id=true) (hl:look st.mj t=some d):d.fj id=false:=by
 simp only [St.free,ze,zy] at h
 simpa using h.1 _ (Ul hl)
def yK {st:St} {id t:Nat} {ob:Ob} (h:st.free id=true) (hl:look st.sj t=some ob):t≠id∧ob.fj id=false:=by
 simp only [St.free,ze,zy] at h
 have:=h.2 _ (Ul hl)
 simp only [Z3,ze] at this
 exact ⟨Yi.1 this.1,this.2⟩
def tB {st:St} {id ver t:Nat} {d:Dv} (h:st.noVer id ver=true) (hl:look st.mj t=some d):d.ij id ver=false:=by
 simp only [St.noVer,ze,zy] at h
 simpa using h.1 _ (Ul hl)
def vZ {st:St} {id ver t:Nat} {ob:Ob} (h:st.noVer id ver=true) (hl:look st.sj t=some ob):ob.ij id ver=false:=by
 simp only [St.noVer,ze,zy] at h
 simpa using h.2 _ (Ul hl)
def eS (nm:JY) (id:Nat) (nv:Value) (old:Option Ob) (ob:Ob):Prop:=
 match old,ob with
 | some (.box _),_=>nv=nm id
 | some (.arr v _ e t xs),.arr v' _ e' t' xs'=>v=v'→nv=nm id∧e'=e∧t'=t∧List.length xs'=List.length xs
 | _,_=>True
def NU {id:Nat} {ob':Ob} {nv:Value} (hmay:YZ st id ob'=true) (hst:eS nm id nv (look st.sj id) ob') {x:At}
 (hfree:st.free id=true→x.fj id=false) (hver:∀v,st.noVer id v=true→x.ij id v=false) :
 AtOk nm (VG nm id nv) st.sj (YE id ob' st.sj) x:=by
 intro j hj
 by_cases he:id=j
 ·subst he
  unfold YZ at hmay
  unfold eS at hst
  cases hl:look st.sj id with
  | none=>
    rw [hl] at hmay
    simp only [ze] at hmay
    rw [hfree hmay.2] at hj
    cases hj
  | some old=>
    rw [hl] at hmay hst
    cases old with
    | box cs=>
      cases ob' with
      | arr v' fz' e' t' xs'=>cases hmay
      | box cs'=>
        simp only at hst
        subst hst
        exact ⟨fun ver fz e t xs h1=>by simp [ke] at h1,fun _ _=>⟨kW _ _ _,cs,rfl⟩,fun f x y h1=>by simp [ke] at h1⟩
      | clo f x y=>cases hmay
      | gone=>cases hmay
    | gone=>
      cases ob' with
      | gone=>exact ⟨fun ver fz e t xs h1=>by simp [ke] at h1,fun cs h1=>by simp [ke] at h1,fun f x y h1=>by simp [ke] at h1⟩
      | _=>cases hmay
    | arr v fz e t xs=>
      cases ob' with
      | gone=>exact ⟨fun ver fz e t xs h1=>by simp [ke] at h1,fun cs h1=>by simp [ke] at h1,fun f x y h1=>by simp [ke] at h1⟩
      | box cs'=>cases hmay
      | arr v' fz' e' t' xs'=>
        simp only [Bool.or_eq_true,ze] at hmay
        refine ⟨?_,?_,?_⟩
        ·intro ver fz1 e1 t1 xs1 h1 h2
         simp only [ke,if_true,zd,Ob.arr.injEq] at h1
         obtain ⟨rfl,rfl,rfl,rfl,h1⟩:=h1
         have h1:=eq_of_heq h1
         subst h1
         rcases hmay with hm | hm
         ·have:=Jx.1 hm
          obtain ⟨q1,q2,q3,q4⟩:=hst this
          subst this;subst q2;subst q3
          exact ⟨by rw [kW];exact q1,fz,xs,rfl,q4.symm⟩
         ·rw [hver _ hm.2] at h2;cases h2
        ·intro cs h1
         simp [ke] at h1
        ·intro f x y h1
         simp [ke] at h1
      | clo f x y=>cases hmay
    | clo f x y=>cases hmay
 ·refine ⟨fun ver fz e t xs h1 _=>?_,fun cs h1=>?_,fun f x y h1=>?_⟩
  ·rw [ke,if_neg he] at h1
   exact ⟨VU _ _ (Ne.symm he),fz,xs,h1,rfl⟩
  ·rw [ke,if_neg he] at h1
   exact ⟨VU _ _ (Ne.symm he),cs,h1⟩
  ·rw [ke,if_neg he] at h1
   exact ⟨VU _ _ (Ne.symm he),f,x,y,h1⟩
def I3 {id:Nat} {ob':Ob} {nv:Value} (hmay:YZ st id ob'=true) (hst:eS nm id nv (look st.sj id) ob') {d:Dv}
 (hfree:st.free id=true→d.fj id=false) (hver:∀v,st.noVer id v=true→d.ij id v=false) :
 DvOk nm (VG nm id nv) st.sj (YE id ob' st.sj) d:=by
 cases d with
 | one x=>exact NU hmay hst hfree hver
 | agg cs=>
   intro x hx
   refine NU hmay hst (fun h=>?_) (fun v h=>?_)
   ·have:=hfree h;simp only [Dv.fj,List.any_eq_false] at this;simpa using this x hx
   ·have:=hver v h;simp only [Dv.ij,List.any_eq_false] at this;simpa using this x hx
 | tup cs=>
   intro x hx
   refine NU hmay hst (fun h=>?_) (fun v h=>?_)
   ·have:=hfree h;simp only [Dv.fj,List.any_eq_false] at this;simpa using this x hx
   ·have:=hver v h;simp only [Dv.ij,List.any_eq_false] at this;simpa using this x hx
def K0 {id:Nat} {ob':Ob} {nv:Value} (hmay:YZ st id ob'=true) (hst:eS nm id nv (look st.sj id) ob') {ob:Ob}
 (hfree:st.free id=true→ob.fj id=false) (hver:∀v,st.noVer id v=true→ob.ij id v=false) :
 ObOk nm (VG nm id nv) st.sj (YE id ob' st.sj) ob:=by
 cases ob with
 | arr=>trivial
 | gone=>trivial
 | box cs=>
   intro x hx
   refine NU hmay hst (fun h=>?_) (fun v h=>?_)
   ·have:=hfree h;simp only [Ob.fj,List.any_eq_false] at this;simpa using this x hx
   ·have:=hver v h;simp only [Ob.ij,List.any_eq_false] at this;simpa using this x hx
 | clo f p q=>
   refine ⟨fun x hx=>NU hmay hst (fun h=>?_) (fun v h=>?_),fun x hx=>NU hmay hst (fun h=>?_) (fun v h=>?_)⟩
   ·have:=hfree h;simp only [Ob.fj,Bool.or_eq_false_iff,List.any_eq_false] at this;simpa using this.1 x hx
   ·have:=hver v h;simp only [Ob.ij,Bool.or_eq_false_iff,List.any_eq_false] at this;simpa using this.1 x hx
   ·have:=hfree h;simp only [Ob.fj,Bool.or_eq_false_iff,List.any_eq_false] at this;simpa using this.2 x hx
   ·have:=hver v h;simp only [Ob.ij,Bool.or_eq_false_iff,List.any_eq_false] at this;simpa using this.2 x hx
def Rel.upd (h:Rel n w0 Z0 st a w nm) (id:Nat) (ob':Ob) (nv:Value)
 (hmay:YZ st id ob'=true) (hst:eS nm id nv (look st.sj id) ob')
 (hs:w'.os=w.os∧w'.tape=w.tape∧w'.output=w.output∧w.heap.size≤w'.heap.size)
 (hblock:∀b,b<w.heap.size→(∃ob,look st.sj id=some ob∧ob.mine=true∧kV (nm id)=some b)∨w'.heap[b]?=w.heap[b]?)
 (hnew:∀b,kV nv=some b→(kV (nm id)=some b ∧ ∃ob,look st.sj id=some ob∧(ob.mine=true∨ob'.mine=false))∨(w.heap.size≤b∧b<w'.heap.size))
 (hrd:hY w' (Zc w0 Z0 (VG nm id nv) (YE id ob' st.sj) w') (VG nm id nv) (YE id ob' st.sj) id ob') :
 Rel n w0 Z0 ⟨st.mj,YE id ob' st.sj⟩ a w' (VG nm id nv):=by
 have hsz:=h.same.size
 have hk:Kept w w' (Zc w0 Z0 nm st.sj w) (Zc w0 Z0 (VG nm id nv) (YE id ob' st.sj) w'):=by
  rintro b ⟨h1,h2,h3⟩
  refine ⟨⟨Z2 h1 hs.2.2.2,h2,?_⟩,?_⟩
  ·rintro ⟨j,ob,hj,hm,hb⟩
   by_cases he:id=j
   ·subst he
    rw [ke,if_pos rfl] at hj
    cases hj
    rw [kW] at hb
    rcases hnew b hb with ⟨q1,ob,q2,q3⟩ | ⟨q1,_⟩
    ·rcases q3 with q3 | q3
     ·exact h3 ⟨id,ob,q2,q3,q1⟩
     ·rw [hm] at q3;cases q3
    ·omega
   ·rw [ke,if_neg he] at hj
    rw [VU _ _ (Ne.symm he)] at hb
    exact h3 ⟨j,ob,hj,hm,hb⟩
  ·rcases hblock b h1 with ⟨ob,q1,q2,q3⟩ | q
   ·exact absurd ⟨id,ob,q1,q2,q3⟩ h3
   ·exact q
 refine ⟨h.defk hk,h.size,fun t d ht=>?_,fun j ob hj=>?_,fun j ob b hj hb=>?_,fun j j' _ _ b hj hj' hb hb'=>?_,?_,?_,h.glob,h.calm⟩
 ·obtain ⟨v,h1,h2⟩:=h.mj t d ht
  exact ⟨v,h1,Uu hk (I3 hmay hst (fun hf=>oD hf ht) (fun v hv=>tB hv ht)) h2⟩
 ·by_cases he:id=j
  ·subst he
   rw [ke,if_pos rfl] at hj
   cases hj
   exact hrd
  ·rw [ke,if_neg he] at hj
   refine Hh hk (VU _ _ (Ne.symm he)) (fun b hb=>?_) (K0 hmay hst (fun hf=>(yK hf hj).2) (fun v hv=>vZ hv hj)) (h.sj j ob hj)
   rcases hblock b (h.new j ob b hj hb).2 with ⟨ob2,q1,q2,q3⟩ | q
   ·exact absurd (h.inj id j ob2 ob b q1 hj q3 hb) he
   ·exact q
 ·by_cases he:id=j
  ·subst he
   rw [kW] at hb
   rcases hnew b hb with ⟨q1,ob2,q2,_⟩ | ⟨q1,q2⟩
   ·have:=h.new id ob2 b q2 q1
    exact ⟨this.1,Z2 this.2 hs.2.2.2⟩
   ·exact ⟨.inl (by omega),q2⟩
  ·rw [ke,if_neg he] at hj
   rw [VU _ _ (Ne.symm he)] at hb
   have:=h.new j ob b hj hb
   exact ⟨this.1,Z2 this.2 hs.2.2.2⟩
 ·have key:∀j ob b,j≠id→look (YE id ob' st.sj) j=some ob→kV (VG nm id nv j)=some b→kV nv=some b→False:=by
   intro j ob b he hj hb hb'
   rw [ke,if_neg (Ne.symm he)] at hj
   rw [VU _ _ he] at hb
   rcases hnew b hb' with ⟨q1,ob2,q2,_⟩ | ⟨q1,_⟩
   ·exact he (h.inj j id ob ob2 b hj q2 hb q1)
   ·have:=(h.new j ob b hj hb).2;omega
  by_cases he:j=id
  ·by_cases he':j'=id
   ·rw [he,he']
   ·subst he
    rw [kW] at hb
    exact (key j' _ b he' hj' hb' hb).elim
  ·by_cases he':j'=id
   ·subst he'
    rw [kW] at hb'
    exact (key j _ b he hj hb hb').elim
   ·rw [ke,if_neg (Ne.symm he)] at hj
    rw [ke,if_neg (Ne.symm he')] at hj'
    rw [VU _ _ he] at hb
    rw [VU _ _ he'] at hb'
    exact h.inj j j' _ _ b hj hj' hb hb'
 ·refine ⟨hs.1.trans h.same.os,hs.2.1.trans h.same.tape,hs.2.2.1.trans h.same.output,Nat.le_trans hsz hs.2.2.2,fun b hb hm=>?_⟩
  rcases hblock b (by omega) with ⟨ob2,q1,q2,q3⟩ | q
  ·rcases (h.new id ob2 b q1 q3).1 with hh | hh
   ·omega
   ·exact absurd hh hm
  ·exact q.trans (h.same.block b hb hm)
 ·intro j ob hg hj hh
  by_cases he:id=j
  ·subst he
   rw [ke,if_pos rfl] at hj
   cases hj
   rw [kW]
   unfold YZ at hmay
   unfold eS at hst
   cases hl:look st.sj id with
   | none=>
     rw [hl] at hmay
     simp only [ze,Nat.blt_eq] at hmay
     omega
   | some old=>
     rw [hl] at hmay hst
     cases old with
     | clo f x y=>cases hmay
     | gone=>
       cases ob' with
       | gone=>exact hh.elim
       | _=>cases hmay
     | box cs=>
       cases ob' with
       | gone=>exact hh.elim
       | arr=>cases hmay
       | clo=>cases hmay
       | box cs'=>
       simp only at hst
       rw [hst]
       exact h.given id _ hg hl trivial
     | arr v fz e t xs=>
       cases ob' with
       | gone=>exact hh.elim
       | box cs'=>cases hmay
       | clo f x y=>cases hmay
       | arr v' fz' e' t' xs'=>
         simp only [Bool.or_eq_true,ze,Z3] at hmay
         rcases hmay with hm | hm
         ·have:=Jx.1 hm
          subst this
          rw [(hst rfl).1]
          exact h.given id _ hg hl hh
         ·exact absurd hh.2 (Yi.1 hm.1)
  ·rw [ke,if_neg he] at hj
   rw [VU _ _ (Ne.symm he)]
   exact h.given j ob hg hj hh
def Does (P:Program) (o:Oper) (a:Act) (w:World) (R:Value→World→Prop):Prop:=
 ∀(K:Act→World→Prop) (Q:Exit→Act→World→Prop),(∀v w',R v w'→K (a.put o.dst v) w')→o.wp P a w K Q
def Does.of_run {P:Program} {o:Oper} {R:Value→World→Prop} {v:Value} (h:(execOp a.eval o).run P w=.ok (.value v) w') (hr:R v w'):Does P o a w R:=by
 intro K Q hk
 unfold Oper.wp
 rw [h]
 exact hk _ _ hr
def Does.of_skip {P:Program} {o:Oper} {R:Value→World→Prop} (h:(execOp a.eval o).run P w=.ok .skip w') (hr:R undef w'):Does P o a w R:=by
 intro K Q hk
 unfold Oper.wp
 rw [h]
 exact hk _ _ hr
def Does.of_call {P:Program} {o:Oper} {R:Value→World→Prop} {f:FuncId} {args:Array Value} (h:(execOp a.eval o).run P w=.ok (.enter f args) w')
 (hr:Calls P f args w' fun e w''=>∃v,e=.returned v∧R v w''):Does P o a w R:=by
 intro K Q hk
 unfold Oper.wp
 rw [h]
 exact Calls.mono hr fun e w'' ⟨v,he,hv⟩=>by subst he;exact hk _ _ hv
end
end Go.Ql
end

section
namespace Go.Ql
def dT (p:List Value→Prop):Nat→List Value→Prop
 | 0,cs=>cs=[]
 | n+1,cs=>∃c1 c2,cs=c1++c2∧p c1∧dT p n c2
def Vc:Ty→List Value→Prop
 | .bool,cs=>cs=[.bool false]
 | .int k,cs=>cs=[.int k 0]
 | .str,cs=>cs=[.string ⟨#[]⟩]
 | .sl t,cs=>cs=[.slice none 0 0]∧t.isPair=false
 | .st t,cs=>Vc t cs
 | .unit,cs=>cs=[]
 | .pair a b,cs=>∃c1 c2,cs=c1++c2∧Vc a c1∧Vc b c2
 | .ar n t,cs=>dT (Vc t) n cs
 | .nilv k,cs=>cs=[Hl k]
 | .node t,cs=>∃c1,cs=c1++[.slice none 0 0]∧Vc t c1
 | .ifc _ _,_=>False
 | .nn,_=>False
 | .len,_=>False
 | .fl _,_=>False
def AY {p:List Value→Prop} {n:Nat} {cs:List Value} (h:dT p n cs):n=0 ∨ ∃c,p c:=by
 cases n with
 | zero=>exact .inl rfl
 | succ n=>obtain ⟨c1,_,_,h1,_⟩:=h;exact .inr ⟨c1,h1⟩
def gZ {t:Ty} {cs:List Value} (h:Vc t cs):t.wj=false:=by
 cases t with
 | sl t=>exact h.2
 | _=>rfl
structure TiOk (P:Program) (t:TypeId) (ti:TI):Prop where
 info:∃i z,P.info? t=some i∧i.size=ti.ty.cells∧i.zero=some z∧Vc ti.ty z.cells.toList∧(ti.ty.isSt=true → ∃cs,z=.agg cs)
 kind:match ti.kind with
  | .scalar=>(ti.ty=.bool∧P.underlying t=some .bool)∨(∃k,ti.ty=.int k∧P.underlying t=some (.int k))∨(ti.ty=.str∧P.underlying t=some .string)
  | .nul=>∃k,ti.ty=.nilv k∧((∃e,P.underlying t=some (.pointer e))∨(∃ms,P.underlying t=some (.interface ms)) ∨ ∃a b c,P.underlying t=some (.func a b c))∧(k=1 → ∃ms,P.underlying t=some (.interface ms))
  | .struct fs=>∃s fields,ti.ty=.st s∧P.underlying t=some (.struct fields)∧fields.toList.map (fun f=>(f.offset,f.type))=fs ∧ ∀f∈fields.toList,∃fi,P.info? f.type=some fi
  | .slice e by_=>∃s i z,ti.ty=.sl s∧P.underlying t=some (.slice e)∧P.info? e=some i∧i.size=s.cells∧i.bytes=by_∧i.zero=some z∧Vc s z.cells.toList∧0<s.cells
  | .arr n e=>∃s i z,ti.ty=.ar n s∧P.underlying t=some (.array n e)∧P.info? e=some i∧i.size=s.cells∧i.zero=some z∧Vc s z.cells.toList
  | .map k e j u=>ti.ty=.nilv 2∧P.underlying t=some (.map k e)∧P.underlying k=some (.int j) ∧ ∃i,P.info? e=some i∧i.zero=some (.int u 0)
  | .other=>False
def Uv (P:Program) (tab:List (Nat×TI)):Prop:=∀t ti,look tab t=some ti→TiOk P t ti
def TiOk.agg {P:Program} {t:TypeId} {ti:TI} (h:TiOk P t ti) (w:World):(isAgg t).run P w=.ok ti.ty.isSt w:=by
 obtain ⟨ty,kind⟩:=ti
 have hk:=h.kind
 cases kind with
 | scalar=>
   rcases hk with ⟨rfl,h1⟩ | ⟨k,rfl,h1⟩ | ⟨rfl,h1⟩<;>simp [isAgg,run_underlying h1,Ty.isSt]
 | nul=>obtain ⟨k,rfl,⟨e,h1⟩ | ⟨ms,h1⟩ | ⟨_,_,_,h1⟩,_⟩:=hk<;>simp [isAgg,run_underlying h1,Ty.isSt]
 | map k e j u=>obtain ⟨rfl,h1,_⟩:=hk;simp [isAgg,run_underlying h1,Ty.isSt]
 | struct fs=>obtain ⟨s,fields,rfl,h1,_⟩:=hk;simp [isAgg,run_underlying h1,Ty.isSt]
 | slice e b=>obtain ⟨s,i,z,rfl,h1,_⟩:=hk;simp [isAgg,run_underlying h1,Ty.isSt]
 | arr n e=>obtain ⟨s,i,z,rfl,h1,_⟩:=hk;simp [isAgg,run_underlying h1,Ty.isSt]
 | other=>exact hk.elim
def TiOk.sizeOf {P:Program} {t:TypeId} {ti:TI} (h:TiOk P t ti) (w:World):(sizeOf t).run P w=.ok ti.ty.cells w:=by
 obtain ⟨i,z,h1,h2,_⟩:=h.info
 simp [Go.sizeOf,typeInfo,h1,h2]
def CI {w:World} {Z:Nat→Prop} {nm:JY} {sj:List (Nat×Ob)} {v:Value} {x:At} (h:pL v=some x):UE w Z nm sj x v∧v.oneCell'=true:=by
 unfold pL at h
 split at h
 ·cases h;exact ⟨by simp [UE,Ux,kT],rfl⟩
 ·cases h;exact ⟨by simp [UE,Ux,kT],rfl⟩
 ·cases h;exact ⟨by simp [UE,Ux,kT],rfl⟩
 ·cases h;exact ⟨by simp [UE],rfl⟩
 ·cases h
def qR {w:World} {Z:Nat→Prop} {nm:JY} {sj:List (Nat×Ob)}:∀{vs:List Value} {cs:List At},d9 vs=some cs→Vx w Z nm sj cs vs ∧ ∀u∈vs,u.oneCell'=true
 | [],cs,h=>by cases h;exact ⟨⟨rfl,fun i a v h1 _=>by simp at h1⟩,fun u hu=>by cases hu⟩
 | v::r,cs,h=>by
   unfold d9 at h
   split at h
   ·rename_i a l h1 h2
    cases h
    obtain ⟨⟨g1,g2⟩,g3⟩:=qR h2
    obtain ⟨k1,k2⟩:=CI h1
    refine ⟨⟨by simp [g1],fun i x y hx hy=>?_⟩,fun u hu=>?_⟩
    ·cases i with
     | zero=>simp only [List.getElem?_cons_zero,zd] at hx hy;subst hx;subst hy;exact k1
     | succ i=>simp only [List.getElem?_cons_succ] at hx hy;exact g2 i x y hx hy
    ·rcases Z5.1 hu with rfl | hu
     ·exact k2
     ·exact g3 u hu
   ·cases h
section
variable [GInv] {P:Program} {G:Env} {n:Nat} {w0 w:World} {Z0:Bs} {st:St} {a:Act} {nm:JY} {o:Oper} {dst:Nat} {ρ:Type} {k:Eff→Option ρ} {r:ρ}
abbrev zc (w0:World) (Z0:Bs) (nm:JY) (st:St) (w:World):Nat→Prop:=Zc w0 Z0 nm st.sj w
def Good (P:Program) (n:Nat) (w0:World) (Z0:Bs) (st:St) (a:Act) (w:World) (o:Oper) (e:Eff):Prop:=
 ∀st',kO st e.upd=some st'→Does P o a w fun v w'=>∃nm',Rel n w0 Z0 st' a w' nm'∧Vf w' (Zc w0 Z0 nm' st'.sj w') nm' st'.sj e.dv v
def Good.pure (h:Rel n w0 Z0 st a w nm) {d:Dv} {v:Value} (hrun:(execOp a.eval o).run P w=.ok (.value v) w) (hd:Vf w (Zc w0 Z0 nm st.sj w) nm st.sj d v) :
 Good P n w0 Z0 st a w o ⟨d,[]⟩:=by
 intro st' hl
 simp only [kO,zd] at hl
 subst hl
 exact Does.of_run hrun ⟨nm,h,hd⟩
def Good.grow (h:Rel n w0 Z0 st a w nm) {d:Dv} {v:Value} {w':World} (hrun:(execOp a.eval o).run P w=.ok (.value v) w') (hs:Same w w')
 (hd:Vf w' (Zc w0 Z0 nm st.sj w') nm st.sj d v):Good P n w0 Z0 st a w o ⟨d,[]⟩:=by
 intro st' hl
 simp only [kO,zd] at hl
 subst hl
 exact Does.of_run hrun ⟨nm,h.grow hs,hd⟩
def Yd (h:Rel n w0 Z0 st a w nm) {x:Operand} {d:Dv} (hx:kS st x=some d):Vf w (Zc w0 Z0 nm st.sj w) nm st.sj d (a.eval x):=by
 cases x with
 | tmp t=>
   obtain ⟨v,h1,h2⟩:=h.mj t d hx
   simp only [Act.eval,Array.getD_eq_getD_getElem?,h1,Option.getD_some]
   exact h2
 | const v=>
   cases v with
   | int j m=>simp only [kS,zd] at hx;subst hx;simp [Act.eval,vI,Vf,UE,Ux,kT]
   | bool b=>simp only [kS,zd] at hx;subst hx;simp [Act.eval,vB,Vf,UE,Ux,kT]
   | string s=>simp only [kS,zd] at hx;subst hx;simp [Act.eval,vS,Vf,UE,Ux,kT]
   | slice b l c=>
     cases b with
     | some b=>simp [kS] at hx
     | none=>
       cases l with
       | succ l=>simp [kS] at hx
       | zero=>cases c with
         | succ c=>simp [kS] at hx
         | zero=>simp only [kS,zd] at hx;subst hx;simp [Act.eval,Vf,UE]
   | pointer q=>
     cases q with
     | some q=>simp [kS] at hx
     | none=>
       simp only [kS,zd] at hx
       subst hx
       exact (show [Value.pointer none]=[Hl 0] from rfl)
   | map q=>
     cases q with
     | some q=>simp [kS] at hx
     | none=>
       simp only [kS,zd] at hx
       subst hx
       exact (show [Value.map none]=[Hl 2] from rfl)
   | nilIface=>
     simp only [kS,zd] at hx
     subst hx
     exact (show [Value.nilIface]=[Hl 1] from rfl)
   | nilFunc=>
     simp only [kS,zd] at hx
     subst hx
     exact (show [Value.nilFunc]=[Hl 3] from rfl)
   | agg vs=>
     simp only [kS] at hx
     split at hx
     ·rename_i cs hcs
      simp only [zd] at hx
      subst hx
      have hh:=qR (w:=w) (Z:=Zc w0 Z0 nm st.sj w) (nm:=nm) (sj:=st.sj) hcs
      exact ⟨vs,rfl,hh.1,hh.2⟩
     ·cases hx
   | _=>simp [kS] at hx
 | global g=>simp [kS] at hx
 | func f=>
   simp only [kS,zd] at hx
   subst hx
   simp [Vf,UE,Act.eval]
def aJ (h:Rel n w0 Z0 st a w nm) {x:Operand} {j:IntKind} {m:Int} (hx:kS st x=some (.one (.val (.int j) m))):a.eval x=.int j m:=by
 have:=Yd h hx
 simpa [Vf,UE,Ux,kT] using this
def lW (h:Rel n w0 Z0 st a w nm) {x:Operand} {b:Bool} (hx:kS st x=some (.one (.val .bool b))):a.eval x=.bool b:=by
 have:=Yd h hx
 simpa [Vf,UE,Ux,kT] using this
def gY (h:Rel n w0 Z0 st a w nm) {x:Operand} {s:Za} (hx:kS st x=some (.one (.val .str s))):a.eval x=.string ⟨s.toArray⟩:=by
 have:=Yd h hx
 simpa [Vf,UE,Ux,kT] using this
def aX (Z:Nat→Prop) (sj:List (Nat×Ob)) (j:IntKind) (m:Int):Vf w Z nm sj (vI j m) (.int j m):=by simp [vI,Vf,UE,Ux,kT]
def Ug (Z:Nat→Prop) (sj:List (Nat×Ob)) (b:Bool):Vf w Z nm sj (vB b) (.bool b):=by simp [vB,Vf,UE,Ux,kT]
def tG (Z:Nat→Prop) (sj:List (Nat×Ob)) (s:Za):Vf w Z nm sj (vS s) (.string ⟨s.toArray⟩):=by simp [vS,Vf,UE,Ux,kT]
def ki {α β:Type} {p:Option α} {f:α→Option β} {x:β} (h:jc p f=some x):∃y,p=some y∧f y=some x:=by
 cases p with
 | none=>simp [jc] at h
 | some y=>exact ⟨y,rfl,h⟩
def Ua {b:Bool} {u:Unit} (h:Je b=some u):b=true:=by cases b<;>simp [Je] at h ⊢
abbrev Uq (P:Program) (G:Env) (o:Oper):Prop:=
 Uv P G.tab → ∀{n:Nat} {w0 w:World} {Z0:Bs} {st:St} {a:Act} {nm:JY} {dst:Nat} {ρ:Type} {k:Eff→Option ρ} {r:ρ},
  Rel n w0 Z0 st a w nm→Jq G o dst (kS st) (look st.sj) k=some r → ∃e,k e=some r∧Good P n w0 Z0 st a w o e
def I8 {c x y:Operand} (ho:o.op=.pick c x y):Uq P G o:=by
 intro hT n w0 w Z0 st a nm dst ρ k r h he
 unfold Jq at he
 rw [ho] at he
 simp only at he
 split at he
 ·rename_i b hb
  have hc:=lW h hb
  cases b with
  | true=>
    simp only [br] at he
    split at he
    ·rename_i d hd
     exact ⟨_,he,Good.pure h (v:=a.eval x) (by simp [execOp,ho,hc,asBool]) (Yd h hd)⟩
    ·cases he
  | false=>
    simp only [br] at he
    split at he
    ·rename_i d hd
     exact ⟨_,he,Good.pure h (v:=a.eval y) (by simp [execOp,ho,hc,asBool]) (Yd h hd)⟩
    ·cases he
 ·cases he
def eM {op:BinOp} {t:TypeId} {x y:Operand} {u v:Value} (h:(∀cs,u ≠ .agg cs)∧u ≠ .nilIface):(eqGuard op t x y u v).run P w=.ok () w:=by
 cases u with
 | nilIface=>exact absurd rfl h.2
 | agg cs=>exact absurd rfl (h.1 cs)
 | _=>cases op<;>simp [eqGuard]
def dU {op:BinOp} {t:TypeId} {x:Operand} {c v:Value} (h:∀cs,v ≠ .agg cs):(eqGuard op t x (.const c) v .nilIface).run P w=.ok () w:=by
 cases v with
 | agg cs=>exact absurd rfl (h cs)
 | _=>cases op<;>simp [eqGuard]
def lD (d:Nat) {t:TypeId} {ms} (hu:P.underlying t=some (.interface ms)):(Op.equalIn (d+1) t .nilIface .nilIface).run P w=.ok true w:=by
 simp [Op.equalIn,run_underlying hu]
def uS (d:Nat) {t:TypeId} {ms} (hu:P.underlying t=some (.interface ms)) (T:TypeId) (u:Value):(Op.equalIn (d+1) t (.iface T u) .nilIface).run P w=.ok false w:=by
 simp [Op.equalIn,run_underlying hu]
def bO (s:Za):(⟨s.toArray⟩:ByteArray).toList=s:=by rw [ByteArray.toList_eq]
def bC:∀s t:Za,Op.bytesLess s t=d8 s t
 | [],[]=>rfl
 | [],_::_=>rfl
 | _::_,[]=>rfl
 | a::s,b::t=>by simp only [Op.bytesLess,d8,bC s t]
def uT (s:Za):(⟨s.toArray⟩:ByteArray).size=s.length:=by simp [ByteArray.size]
def EM (s t:Za):(⟨s.toArray⟩:ByteArray)++⟨t.toArray⟩=⟨(s++t).toArray⟩:=by
 apply ByteArray.ext
 simp [ByteArray.data_append]
def IP {op:BinOp} {j:IntKind} {m q:Int} {kk:Dv→Option ρ} {xt:TypeId} (n1:op ≠ .shl) (n2:op ≠ .shr) (hs:rL op j m q kk=some r) :
 ∃d v,kk d=some r∧(binOp op xt (.int j m) (.int j q)).run P w=.ok v w ∧ ∀nm Z sj,Vf w Z nm sj d v:=by
 cases op<;>simp only [rL] at hs
 case shl=>exact absurd rfl n1
 case shr=>exact absurd rfl n2
 case quo=>
  obtain ⟨_,hb,hs⟩:=ki hs
  have hb:q≠0:=by simpa using Ua hb
  exact ⟨_,_,hs,by simp only [binOp,ne_eq,not_true_eq_false,if_false,Op.intDiv,if_neg hb];rfl,fun _ _ _=>aX _ _ _ _⟩
 case rem=>
  obtain ⟨_,hb,hs⟩:=ki hs
  have hb:q≠0:=by simpa using Ua hb
  exact ⟨_,_,hs,by simp only [binOp,ne_eq,not_true_eq_false,if_false,Op.intDiv,if_neg hb];rfl,fun _ _ _=>aX _ _ _ _⟩
 case eql=>exact ⟨_,_,hs,by simp only [binOp,ne_eq,not_true_eq_false,if_false];rfl,fun _ _ _=>Ug _ _ _⟩
 case neq=>exact ⟨_,_,hs,by simp only [binOp,ne_eq,not_true_eq_false,if_false];rfl,fun _ _ _=>Ug _ _ _⟩
 case lss=>exact ⟨_,_,hs,by simp only [binOp,ne_eq,not_true_eq_false,if_false];rfl,fun _ _ _=>Ug _ _ _⟩
 case leq=>exact ⟨_,_,hs,by simp only [binOp,ne_eq,not_true_eq_false,if_false];rfl,fun _ _ _=>Ug _ _ _⟩
 case gtr=>exact ⟨_,_,hs,by simp only [binOp,ne_eq,not_true_eq_false,if_false];rfl,fun _ _ _=>Ug _ _ _⟩
 case geq=>exact ⟨_,_,hs,by simp only [binOp,ne_eq,not_true_eq_false,if_false];rfl,fun _ _ _=>Ug _ _ _⟩
 all_goals exact ⟨_,_,hs,by simp only [binOp,ne_eq,not_true_eq_false,if_false];rfl,fun _ _ _=>aX _ _ _ _⟩
def IQ {op:BinOp} {s t:Za} {kk:Dv→Option ρ} {xt:TypeId} (hs:uD op s t kk=some r) :
 ∃d v,kk d=some r∧(binOp op xt (.string ⟨s.toArray⟩) (.string ⟨t.toArray⟩)).run P w=.ok v w ∧ ∀nm Z sj,Vf w Z nm sj d v:=by
 cases op<;>simp only [uD] at hs
 case add=>
  obtain ⟨_,hb,hs⟩:=ki hs
  have hb:=zw (Ua hb)
  refine ⟨_,.string ⟨(s++t).toArray⟩,hs,?_,fun _ _ _=>tG _ _ _⟩
  have hm:¬(((s.length+t.length:Nat):Int)>IntKind.i64.max):=by
   have:IntKind.i64.max=9223372036854775807:=rfl
   omega
  simp only [binOp,Op.stringOp,uT,if_neg hm,EM]
  rfl
 case eql=>exact ⟨_,_,hs,by simp only [binOp,Op.stringOp,bO];rfl,fun _ _ _=>Ug _ _ _⟩
 case neq=>exact ⟨_,_,hs,by simp only [binOp,Op.stringOp,bO];rfl,fun _ _ _=>Ug _ _ _⟩
 case lss=>exact ⟨_,_,hs,by simp only [binOp,Op.stringOp,bO,bC];rfl,fun _ _ _=>Ug _ _ _⟩
 case leq=>exact ⟨_,_,hs,by simp only [binOp,Op.stringOp,bO,bC];rfl,fun _ _ _=>Ug _ _ _⟩
 case gtr=>exact ⟨_,_,hs,by simp only [binOp,Op.stringOp,bO,bC];rfl,fun _ _ _=>Ug _ _ _⟩
 case geq=>exact ⟨_,_,hs,by simp only [binOp,Op.stringOp,bO,bC];rfl,fun _ _ _=>Ug _ _ _⟩
 all_goals cases hs
def rX (d:Nat) {t:TypeId} (hu:P.underlying t=some .bool) (x y:Bool):(Op.equalIn (d+1) t (.bool x) (.bool y)).run P w=.ok (x==y) w:=by
 simp [Op.equalIn,run_underlying hu]
end
end Go.Ql
end

section
namespace Go.Ql
def qC {w:World} {Z:Nat→Prop} {s:Ty}:∀{t:Ty} {d:t.den} {off:Nat} {y:s.den} {cs:List Value},Ty.sub s t d off=some y→kT w Z t cs d →
 ∃c1 c2 c3,cs=c1++c2++c3∧c1.length=off∧kT w Z s c2 y:=by
 intro t
 induction t with
 | st t ih=>
   intro d off y cs hs hr
   simp only [Ty.sub] at hs
   split at hs
   ·rename_i h
    subst h
    split at hs
    ·rename_i h0
     cases hs
     exact ⟨[],cs,[],by simp,by simp [h0],hr⟩
    ·cases hs
   ·exact ih hs hr
 | pair a b iha ihb=>
   intro d off y cs hs hr
   obtain ⟨c1,c2,rfl,h1,h2⟩:=hr
   have l1:=Yy _ h1
   simp only [Ty.sub] at hs
   split at hs
   ·obtain ⟨x1,x2,x3,e,e1,e2⟩:=iha hs h1
    exact ⟨x1,x2,x3++c2,by rw [e];simp,e1,e2⟩
   ·obtain ⟨x1,x2,x3,e,e1,e2⟩:=ihb hs h2
    exact ⟨c1++x1,x2,x3,by rw [e];simp,by rw [zf,l1,e1];omega,e2⟩
 | node t ih=>
   intro d off y cs hs hr
   obtain ⟨c1,c2,rfl,h1,h2⟩:=aE.1 hr
   have l1:=Yy _ h1
   simp only [Ty.sub] at hs
   split at hs
   ·obtain ⟨x1,x2,x3,e,e1,e2⟩:=ih hs h1
    exact ⟨x1,x2,x3++c2,by rw [e];simp,e1,e2⟩
   ·split at hs
    ·rename_i h
     subst h
     split at hs
     ·rename_i h0
      cases hs
      exact ⟨c1,c2,[],by simp,by rw [l1,h0],h2⟩
     ·cases hs
    ·cases hs
 | _=>
   intro d off y cs hs hr
   simp only [Ty.sub] at hs
   split at hs
   ·rename_i h
    subst h
    split at hs
    ·rename_i h0
     cases hs
     exact ⟨[],cs,[],by simp,by simp [h0],hr⟩
    ·cases hs
   ·cases hs
def fU {α:Type} (c1 c2 c3 x:List α) (off n:Nat) (h1:c1.length=off) (h2:c2.length=n) :
 (c1++c2++c3).take off++x++(c1++c2++c3).drop (off+n)=c1++x++c3:=by
 subst h1;subst h2
 simp [zq]
def BS {w:World} {Z:Nat→Prop} {s:Ty} {x:s.den} {cx:List Value} (hx:kT w Z s cx x):∀{t:Ty} {d d':t.den} {off:Nat} {cs:List Value},Ty.upd s x t d off=some d'→kT w Z t cs d →
 ∃c1 c2 c3,cs=c1++c2++c3∧c1.length=off∧c2.length=s.cells∧kT w Z t (c1++cx++c3) d':=by
 intro t
 induction t with
 | st t ih=>
   intro d d' off cs hs hr
   simp only [Ty.upd] at hs
   split at hs
   ·rename_i h
    subst h
    split at hs
    ·rename_i h0
     cases hs
     exact ⟨[],cs,[],by simp,by simp [h0],Yy _ hr,by simpa using hx⟩
    ·cases hs
   ·exact ih hs hr
 | pair a b iha ihb=>
   intro d d' off cs hs hr
   obtain ⟨c1,c2,rfl,h1,h2⟩:=hr
   have l1:=Yy _ h1
   simp only [Ty.upd] at hs
   split at hs
   ·simp only [Z8] at hs
    obtain ⟨y,hy,rfl⟩:=hs
    obtain ⟨x1,x2,x3,e,e1,e2,e3⟩:=iha hy h1
    exact ⟨x1,x2,x3++c2,by rw [e];simp,e1,e2,x1++cx++x3,c2,by simp,e3,h2⟩
   ·simp only [Z8] at hs
    obtain ⟨y,hy,rfl⟩:=hs
    obtain ⟨x1,x2,x3,e,e1,e2,e3⟩:=ihb hy h2
    exact ⟨c1++x1,x2,x3,by rw [e];simp,by rw [zf,l1,e1];omega,e2,c1,x1++cx++x3,by simp,h1,e3⟩
 | node t ih=>
   intro d d' off cs hs hr
   obtain ⟨c1,c2,rfl,h1,h2⟩:=aE.1 hr
   have l1:=Yy _ h1
   simp only [Ty.upd] at hs
   split at hs
   ·simp only [Z8] at hs
    obtain ⟨y,hy,rfl⟩:=hs
    obtain ⟨x1,x2,x3,e,e1,e2,e3⟩:=ih hy h1
    exact ⟨x1,x2,x3++c2,by rw [e];simp,e1,e2,aE.2 ⟨x1++cx++x3,c2,by simp,e3,h2⟩⟩
   ·split at hs
    ·rename_i h
     subst h
     split at hs
     ·rename_i h0
      cases hs
      exact ⟨c1,c2,[],by simp,by rw [l1,h0],Yy _ h2,aE.2 ⟨c1,cx,by simp,h1,hx⟩⟩
     ·cases hs
    ·cases hs
 | _=>
   intro d d' off cs hs hr
   simp only [Ty.upd] at hs
   split at hs
   ·rename_i h
    subst h
    split at hs
    ·rename_i h0
     cases hs
     exact ⟨[],cs,[],by simp,by simp [h0],Yy _ hr,by simpa using hx⟩
    ·cases hs
   ·cases hs
def VE {α:Type} {p:List Value→α→Prop}:∀{l1 l2:List α} {cs:List Value},YF p cs (l1++l2) ↔ ∃c1 c2,cs=c1++c2∧YF p c1 l1∧YF p c2 l2
 | [],l2,cs=>⟨fun h=>⟨[],cs,rfl,rfl,h⟩,fun ⟨c1,c2,e,h1,h2⟩=>by simp only [YF] at h1;subst h1;simpa [e] using h2⟩
 | x::l1,l2,cs=>by
   constructor
   ·rintro ⟨c1,c2,e,h1,h2⟩
    obtain ⟨d1,d2,e',h3,h4⟩:=VE.1 h2
    exact ⟨c1++d1,d2,by rw [e,e',zq],⟨c1,d1,rfl,h1,h3⟩,h4⟩
   ·rintro ⟨c1,c2,e,⟨d1,d2,e',h1,h2⟩,h3⟩
    exact ⟨d1,d2++c2,by rw [e,e',zq],h1,VE.2 ⟨d2,c2,rfl,h2,h3⟩⟩
def eJ {α:Type} {p:List Value→α→Prop} {n:Nat} (hp:∀cs x,p cs x→cs.length=n) {l:List α} {cs:List Value} (h:YF p cs l) {i:Nat} {x:α} (hx:l[i]?=some x) :
 ∃c1 c2 c3,cs=c1++c2++c3∧c1.length=i*n∧p c2 x∧YF p c1 (l.take i)∧YF p c3 (l.drop (i+1)):=by
 have hi:i<l.length:=(Z6.1 hx).1
 have hl:l=l.take i++(x::l.drop (i+1)):=by
  have:l[i]=x:=(Z6.1 hx).2
  rw [←this,List.getElem_cons_drop,List.take_append_drop]
 rw [hl] at h
 obtain ⟨c1,c2,e,h1,c3,c4,e',h2,h3⟩:=VE.1 h
 refine ⟨c1,c3,c4,by rw [e,e',zq],?_,h2,h1,h3⟩
 rw [Hy hp h1,List.length_take]
 congr 1
 omega
def eD {α:Type} {xs:List α} {i:Int} {x:α} (h:idx xs i=some x):0≤i∧i.toNat<xs.length∧xs[i.toNat]?=some x:=by
 unfold idx at h
 by_cases h0:0≤i
 ·simp only [h0,decide_true,zj] at h
  exact ⟨h0,(Z6.1 h).1,h⟩
 ·simp [h0] at h
def BT (w:World) (Z:Nat→Prop) (t:Ty) (v:Value) (xs:List t.den):Prop:=
 (v=.slice none 0 0∧xs=[]) ∨
 (∃b off cap cells,v=.slice (some ⟨b,off,none⟩) xs.length cap∧xs.length≤cap∧cap≤maxLen∧YF (kT w Z t) cells xs ∧ ∀j u,cells[j]?=some u→w.cell? ⟨b,off+j,none⟩=some u) ∨
 ∃ad cap,v=.slice (some ad) 0 cap∧xs=[]∧cap≤maxLen
def qD {w:World} {Z:Nat→Prop} {t:Ty} {v:Value} {xs:List t.den} (h:Ux w Z (.sl t) v xs):BT w Z t v xs:=by
 obtain ⟨u,e,hr⟩:=h
 simp only [List.cons.injEq,and_true] at e
 subst e
 rcases hr with ⟨h1,h2⟩ | ⟨b,off,cap,cells,h1,h2,h3,h4,h5,h6⟩ | h
 ·exact .inl ⟨h1,h2⟩
 ·exact .inr (.inl ⟨b,off,cap,cells,h1,h2,h3,h5,h6⟩)
 ·exact .inr (.inr h)
def GH {w:World} {Z:Nat→Prop} {t:Ty} {v:Value} {xs:List t.den} {e:TypeId} {cells:List Value} (h:w.ownsM e t.cells v xs.length cells) (hr:YF (kT w Z t) cells xs):BT w Z t v xs:=by
 rcases h.2 with ⟨h1,h2⟩ | ⟨g,cap,cur,h1,h3,h4,h5,h6,h7⟩
 ·exact .inl ⟨h1,zl h2⟩
 ·refine .inr (.inl ⟨g,0,cap,cells,h1,h4,h5,hr,fun j u hj=>?_⟩)
  rw [zv,h3.cell]
  rw [←h7,List.getElem?_take] at hj
  split at hj
  ·simpa using hj
  ·cases hj
def oH {lo m:Int} {l:Nat} (h:mP lo m l=true):0≤lo∧0≤m∧lo.toNat+m.toNat≤l:=by
 unfold mP at h
 simp only [ze,zn] at h
 exact ⟨h.1.1,h.1.2,Nat.le_of_ble_eq_true h.2⟩
def K6 {α:Type} {lo m:Int} {xs:List α} (h:mP lo m xs.length=true):(part lo m xs).length=m.toNat:=by
 obtain ⟨_,_,h3⟩:=oH h
 unfold part
 rw [List.length_take,zu];omega
def AI {w:World} {Z:Nat→Prop} {t:Ty} {v u:Value} {lo m:Int} {xs:List t.den} {e:TypeId} {cells:List Value} (h:w.ownsM e t.cells v xs.length cells) (hr:YF (kT w Z t) cells xs)
 (hw:EH v t.cells lo m u) (hi:mP lo m xs.length=true) :
 (u=.slice none 0 0∧part lo m xs=[]) ∨ ∃b g c cs,u=.slice (some ⟨b,g,none⟩) (part lo m xs).length c∧(part lo m xs).length≤c∧c≤maxLen∧kV v=some b ∧
  YF (kT w Z t) cs (part lo m xs) ∧ ∀j x,cs[j]?=some x→w.cell? ⟨b,g+j,none⟩=some x:=by
 obtain ⟨i1,i2,i3⟩:=oH hi
 have hl:=K6 hi
 rcases hw with ⟨_,h2,h3⟩ | ⟨b,q,c,g,c',h1,h2,h3,h4,h5⟩
 ·refine .inl ⟨h2,zl (by rw [hl,h3];rfl)⟩
 ·right
  rcases h.2 with ⟨e1,_⟩ | ⟨g',cap,cur,e1,e3,e4,e5,e6,e7⟩
  ·rw [e1] at h1;cases h1
  ·rw [e1] at h1
   cases h1
   have hsplit:xs=xs.take lo.toNat++(part lo m xs++(xs.drop lo.toNat).drop m.toNat):=by
    unfold part
    rw [List.take_append_drop,List.take_append_drop]
   have hr':=hr
   rw [hsplit] at hr'
   obtain ⟨c1,c2,f1,r1,r2⟩:=VE.1 hr'
   obtain ⟨c3,c4,f2,r3,r4⟩:=VE.1 r2
   have l1:c1.length=lo.toNat*t.cells:=by
    rw [Hy (fun _ _=>Yy t) r1,List.length_take]
    congr 1;omega
   refine ⟨b,g,c',c3,by rw [h2,hl],by rw [hl];exact h4,h5,by rw [e1];rfl,r3,fun j x hj=>?_⟩
   have l3:c3.length=m.toNat*t.cells:=by rw [Hy (fun _ _=>Yy t) r3,hl]
   have hm:0<m:=by
    have:=(Z6.1 hj).1
    rw [l3] at this
    rcases Nat.eq_zero_or_pos m.toNat with h0 | h0
    ·rw [h0,Nat.zero_mul] at this;omega
    ·omega
   rw [h3 hm,e3.cell]
   have:cells[lo.toNat*t.cells+j]?=some x:=by
    rw [f1,f2,←l1,zt (by omega),Nat.add_sub_cancel_left,List.getElem?_append_left (Z6.1 hj).1]
    exact hj
   rw [←e7,List.getElem?_take] at this
   split at this
   ·simpa using this
   ·cases this
section
variable [GInv] {P:Program} {G:Env} {n:Nat} {w0 w:World} {Z0:Bs} {st:St} {a:Act} {nm:JY} {o:Oper} {dst:Nat} {ρ:Type} {k:Eff→Option ρ} {r:ρ}
def Nn (h:Rel n w0 Z0 st a w nm) {kk:(t:Ty)→List t.den→Option ρ} {x:Operand} {d:Dv} (hx:kS st x=some d) (ha:UT (look st.sj) kk d=some r) :
 ∃t xs,kk t xs=some r∧BT w (Zc w0 Z0 nm st.sj w) t (a.eval x) xs:=by
 have hr:=Yd h hx
 unfold UT at ha
 split at ha
 ·exact ⟨_,_,ha,qD hr⟩
 ·rename_i id ver
  split at ha
  ·rename_i v fz e t xs hl
   cases hv:(Nat.beq v ver && !t.wj) with
   | false=>rw [hv] at ha;cases ha
   | true=>
     rw [hv] at ha
     rw [ze,Z3] at hv
     obtain ⟨hv,hmap⟩:=hv
     have:=Jx.1 hv
     subst this
     have hv:=hr.2 fz e t xs hl
     obtain ⟨cells,h1,h2⟩:=(h.sj id _ hl).sl hmap
     refine ⟨t,xs,ha,?_⟩
     rw [hv]
     exact GH h1 h2
  ·cases ha
 ·rename_i id ver lo m
  split at ha
  ·rename_i v fz e t xs hl
   cases hv:(Nat.beq v ver && !t.wj) with
   | false=>rw [hv] at ha;cases ha
   | true=>
     rw [hv] at ha
     rw [ze,Z3] at hv
     obtain ⟨hv,hmap⟩:=hv
     have:=Jx.1 hv
     subst this
     obtain ⟨hw,hi⟩:=hr.2 fz e t xs hl
     obtain ⟨cells,h1,h2⟩:=(h.sj id _ hl).sl hmap
     refine ⟨t,_,ha,?_⟩
     rcases AI h1 h2 hw hi with hh | ⟨b,g,c,cs,q1,q2,q3,_,q4,q5⟩
     ·exact .inl hh
     ·exact .inr (.inl ⟨b,g,c,cs,q1,q2,q3,q4,q5⟩)
  ·cases ha
 ·cases ha
def I9 {op:UnOp} {xt:TypeId} {x:Operand} (ho:o.op=.unOp op xt x):Uq P G o:=by
 intro hT n w0 w Z0 st a nm dst ρ k r h he
 unfold Jq at he
 rw [ho] at he
 simp only at he
 split at he
 ·rename_i b hb
  have e1:=lW h hb
  cases op<;>simp only at he
  case not=>exact ⟨_,he,Good.pure h (v:=.bool (!b)) (by simp [execOp,ho,e1,Op.unary]) (Ug ..)⟩
  all_goals cases he
 ·rename_i j m hb
  have e1:=aJ h hb
  cases op<;>simp only at he
  case neg=>exact ⟨_,he,Good.pure h (v:=.int j (j.wrap (0-m))) (by simp [execOp,ho,e1,Op.unary,Op.intArith]) (aX ..)⟩
  case xor=>
   refine ⟨_,he,Good.pure h (v:=.int j (pU .xor j (bif j.signed then -1 else j.max) m)) ?_ (aX ..)⟩
   have:(if j.signed=true then (-1:Int) else j.max)=(bif j.signed then -1 else j.max):=by cases j.signed<;>rfl
   simp only [execOp,ho,e1,Op.unary,this]
   rfl
  all_goals cases he
 ·cases he
def AQ {x:Operand} {i:Nat} (ho:o.op=.extract x i):Uq P G o:=by
 intro hT n w0 w Z0 st a nm dst ρ k r h he
 unfold Jq at he
 rw [ho] at he
 simp only at he
 split at he
 ·rename_i l hl
  split at he
  ·rename_i q hq
   obtain ⟨vs,e,h1,h2⟩:=Yd h hl
   have hi:i<vs.toList.length:=by rw [h1];exact (Z6.1 hq).1
   have hv:vs[i]?=some vs.toList[i]:=by rw [←Array.getElem?_toList];exact Z7 hi
   exact ⟨_,he,Good.pure h (v:=vs.toList[i]) (by simp [execOp,ho,e,Instr.extract,hv]) (h2 i q _ hq (by rw [Z7 hi]))⟩
  ·cases he
 ·cases he
end
end Go.Ql
end
