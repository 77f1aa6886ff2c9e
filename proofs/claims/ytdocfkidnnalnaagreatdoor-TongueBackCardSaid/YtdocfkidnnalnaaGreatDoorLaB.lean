/- Part of the lifter: data, effects, code and its meaning, for any program. -/
import GoSem.Core.Code
import GoSem.Core.View
import Derived.Laws.AppendOwn
import Derived.Laws.OwnMore
import Derived.Lib.AppendStr
import Derived.Lib.ConvBytes
import Derived.Tactics
import Derived.Laws.Cells
import Derived.Laws.MakeOwn
import Derived.Laws.BitsLemmas
import Derived.Laws.Strings
set_option linter.all false
section
namespace Go.Ql
abbrev Z6 := List UInt8
theorem z6 {α : Type _} (a b : α) : (some a = some b) = (a = b) := Option.some.injEq a b
theorem z7 (a b : Bool) : ((a && b) = true) = (a = true ∧ b = true) := Bool.and_eq_true a b
theorem z8 {α : Type _} {as bs : List α} : (as ++ bs).length = as.length + bs.length := List.length_append
theorem za {α : Type _} {a : α} {as : List α} : (a :: as).length = as.length + 1 := rfl
theorem zb {α : Type _} : ([] : List α).length = 0 := rfl
theorem zd : (false = true) = False := Bool.false_eq_true
theorem ze {α : Type _} (a b : α) : cond true a b = a := rfl
theorem zf {α : Type _} (a b : α) : cond false a b = b := rfl
theorem zg {α : Type _} {l : List α} (h : l.length = 0) : l = [] := List.eq_nil_of_length_eq_zero h
theorem zh {a b : Nat} (h : Nat.beq a b = true) : a = b := Nat.eq_of_beq_eq_true h
theorem zi {p : Prop} [Decidable p] : (decide p = true) = p := decide_eq_true_eq
theorem zj {p : Prop} [Decidable p] (h : p) : decide p = true := decide_eq_true h
theorem zk {p : Prop} [Decidable p] (h : ¬ p) : decide p = false := decide_eq_false h
theorem zl {α : Type _} (as bs cs : List α) : as ++ bs ++ cs = as ++ (bs ++ cs) := List.append_assoc as bs cs
theorem zm {α : Type _} {β : Type _} (a : α) (b : β) (c : α) (e : β) : ((a, b) = (c, e)) = (a = c ∧ b = e) := Prod.mk.injEq a b c e
theorem zn {α : Type _} {l₁ l₂ : List α} {i : Nat} (h : l₁.length ≤ i) : (l₁ ++ l₂)[i]? = l₂[i - l₁.length]? := List.getElem?_append_right h
theorem zo {α : Type _} {i : Nat} {l : List α} : (l.drop i).length = l.length - i := List.length_drop
theorem zq (n : Nat) : 0 + n = n := Nat.zero_add n
theorem zr {p : Prop} [Decidable p] (h : decide p = true) : p := of_decide_eq_true h
theorem zt (n : Nat) : n ≤ n := Nat.le_refl n
theorem zu {α : Type _} {p : α → Bool} {l : List α} : l.all p = true ↔ ∀ x, x ∈ l → p x = true := List.all_eq_true
theorem zv {α : Type _} (y : α) {a : α} {l : List α} (h : a ∈ l) : a ∈ y :: l := List.mem_cons_of_mem y h
theorem zw {n m k : Nat} (h : n < m) (h' : m ≤ k) : n < k := Nat.lt_of_lt_of_le h h'
theorem zx (b : Bool) : ((!b) = true) = (b = false) := Bool.not_eq_true' b
theorem zy {α : Type _} {a : α} : [a].length = 1 := rfl
theorem zz {α : Type _} {a b : α} {l : List α} : a ∈ b :: l ↔ a = b ∨ a ∈ l := List.mem_cons
theorem Z2 {α : Type _} {a : α} {l : List α} {i : Nat} : l[i]? = some a ↔ ∃ h : i < l.length, l[i] = a := List.getElem?_eq_some_iff
theorem Z3 {α : Type _} {l : List α} {i : Nat} (h : i < l.length) : l[i]? = some l[i] := List.getElem?_eq_getElem h
theorem Z4 {α : Type _} {β : Type _} {b : β} {o : Option α} {f : α → β} : o.map f = some b ↔ ∃ a, o = some a ∧ f a = b := Option.map_eq_some_iff
abbrev Z5 (l : Z6) : Z6 := Array.toList (ByteArray.data (ByteArray.mk l.toArray))
universe u
inductive Rose (α:Type) where
 | mk (head:α) (kids:List (Rose α))
def Rose.head {α:Type}:Rose α→α
 | .mk a _=>a
def Rose.kids {α:Type}:Rose α→List (Rose α)
 | .mk _ l=>l
inductive Ty where
 | bool | int (k:IntKind) | str | sl (t:Ty) | st (t:Ty) | unit | pair (a b:Ty) | ar (n:Nat) (t:Ty) | nilv (k:Nat) | node (t:Ty) | ifc (T:Nat) (t:Ty) | nn | len | fl (t:Ty)
 deriving DecidableEq
@[reducible] def Ty.den:Ty→Type
 | .bool=>Bool
 | .int _=>Int
 | .str=>Z6
 | .sl t=>List t.den
 | .st t=>t.den
 | .unit=>Unit
 | .pair a b=>a.den×b.den
 | .ar _ t=>List t.den
 | .nilv _=>Unit
 | .node t=>Rose t.den
 | .ifc _ t=>t.den
 | .nn=>Bool
 | .len=>Int
 | .fl t=>List t.den
@[reducible] def mapTy (j u:IntKind):Ty:=.sl (.pair (.int j) (.int u))
def Ty.isPair:Ty→Bool
 | .pair _ _=>true
 | _=>false
def Ty.isMap:Ty→Bool
 | .sl t=>t.isPair
 | _=>false
def mfind:List (Int×Int)→Int→Option Int
 | [],_=>none
 | p::r,n=>bif decide (p.1=n) then some p.2 else mfind r n
def mset:List (Int×Int)→Int→Int→List (Int×Int)
 | [],n,y=>[(n,y)]
 | p::r,n,y=>bif decide (p.1=n) then (n,y)::r else p::mset r n y
def mget (m:List (List (Int×Int))) (n:Int):Option Int:=mfind (m.headD []) n
def mput (m:List (List (Int×Int))) (n y:Int):List (List (Int×Int)):=[mset (m.headD []) n y]
def mzero (o:Option Int):Int:=o.getD 0
def mempty:List (List (Int×Int)):=[[]]
def Ty.cells:Ty→Nat
 | .st t=>t.cells
 | .unit=>0
 | .pair a b=>a.cells+b.cells
 | .ar n t=>n*t.cells
 | .node t=>t.cells+1
 | _=>1
def Ty.isSt:Ty→Bool
 | .st _=>true
 | .ar _ _=>true
 | _=>false
def Ty.flat:Ty→Bool
 | .st t=>t.flat
 | .pair a b=>a.flat&&b.flat
 | .ar _ _=>false
 | .node t=>t.flat
 | _=>true
def Ty.zero:(t:Ty)→t.den
 | .bool=>false
 | .int _=>(0:Int)
 | .str=>[]
 | .sl _=>[]
 | .st t=>t.zero
 | .unit=>()
 | .pair a b=>(a.zero,b.zero)
 | .ar n t=>List.replicate n t.zero
 | .nilv _=>()
 | .node t=>.mk t.zero []
 | .ifc _ t=>t.zero
 | .nn=>false
 | .len=>(0:Int)
 | .fl _=>[]
def Ty.sub (s:Ty):(t:Ty)→t.den→Nat→Option s.den
 | .st t,d,off=>if h:Ty.st t=s then (if off=0 then some (h▸(show (Ty.st t).den from d)) else none) else Ty.sub s t d off
 | .pair a b,d,off=>if off<a.cells then Ty.sub s a d.1 off else Ty.sub s b d.2 (off-a.cells)
 | .node t,d,off=>if off<t.cells then Ty.sub s t (Rose.head d) off else if h:Ty.sl (.st (.node t))=s then (if off=t.cells then some (h▸(show List (Rose t.den) from Rose.kids d)) else none) else none
 | t,d,off=>if h:t=s then (if off=0 then some (h▸d) else none) else none
def Ty.upd (s:Ty) (x:s.den):(t:Ty)→t.den→Nat→Option t.den
 | .st t,d,off=>if h:s=Ty.st t then (if off=0 then some (h▸x) else none) else (Ty.upd s x t d off:Option t.den)
 | .pair a b,d,off=>if off<a.cells then (Ty.upd s x a d.1 off).map (fun y=>(y,d.2)) else (Ty.upd s x b d.2 (off-a.cells)).map (fun y=>(d.1,y))
 | .node t,d,off=>if off<t.cells then (Ty.upd s x t (Rose.head d) off).map (fun y=>(Rose.mk y (Rose.kids d):Rose t.den)) else if h:s=Ty.sl (.st (.node t)) then (if off=t.cells then some (Rose.mk (Rose.head d) (show List (Rose t.den) from (h▸x:(Ty.sl (.st (.node t))).den)):Rose t.den) else none) else none
 | t,_,off=>if h:s=t then (if off=0 then some (h▸x) else none) else none
inductive At where
 | val (t:Ty) (d:t.den)
 | nilS
 | ref (id off:Nat)
 | own (id ver:Nat)
 | win (id ver:Nat) (lo n:Int)
 | elem (id ver:Nat) (i:Int) (sz off:Nat)
 | aptr (id ver:Nat)
 | aelem (id ver:Nat) (i:Int) (sz off n:Nat) (e:Ty) (j:Int) (o:Nat)
 | fptr (t:Ty) (d:t.den)
 | fn (f:Nat)
 | clo (id:Nat)
 | selfp (id:Nat) (T:TypeId)
 | junk
inductive Dv where
 | one (a:At)
 | agg (cs:List At)
 | tup (cs:List At)
inductive Ob where
 | box (cs:List At)
 | arr (ver:Nat) (fz:Bool) (e:TypeId) (t:Ty) (xs:List t.den)
 | clo (f:Nat) (fst caps:List At)
 | gone
structure St where
 slots:List (Nat×Dv)
 objs:List (Nat×Ob)
section
variable {α:Type u}
def look:List (Nat×α)→Nat→Option α
 | [],_=>none
 | (s,v)::r,t=>bif Nat.beq s t then some v else look r t
def ins (t:Nat) (v:α):List (Nat×α)→List (Nat×α)
 | []=>[(t,v)]
 | (s,u)::r=>bif Nat.blt t s then (t,v)::(s,u)::r else bif Nat.beq t s then (t,v)::r else (s,u)::ins t v r
def del (t:Nat):List (Nat×α)→List (Nat×α)
 | []=>[]
 | (s,u)::r=>bif Nat.beq t s then del t r else (s,u)::del t r
end
def memN (t:Nat):List Nat→Bool
 | []=>false
 | s::r=>Nat.beq s t||memN t r
inductive TK where
 | scalar | nul | struct (fs:List (Nat×TypeId)) | slice (e:TypeId) (bytes:Nat) | arr (n:Nat) (e:TypeId) | map (k e:TypeId) (j u:IntKind) | other
structure TI where
 ty:Ty
 kind:TK
@[reducible] def dens:List Ty→Type
 | []=>Unit
 | [t]=>t.den
 | t::r=>t.den×dens r
structure Callee where
 params:List Ty
 res:List Ty
 F:dens params→Option (dens res)
def Ut (raw:Bool):Ty→List At
 | .st t=>Ut raw t
 | .pair a b=>Ut raw a++Ut raw b
 | .unit=>[]
 | .sl t=>[bif raw then .nilS else .val (.sl t) []]
 | .node t=>Ut raw t++[bif raw then .nilS else .val (.sl (.st (.node t))) []]
 | t=>[.val t t.zero]
def split:(t:Ty)→t.den→List At
 | .st t,d=>split t d
 | .pair a b,d=>split a d.1++split b d.2
 | .unit,_=>[]
 | .node t,d=>split t (Rose.head d)++[.val (.sl (.st (.node t))) (show List (Rose t.den) from Rose.kids d)]
 | t,d=>[.val t d]
abbrev Objs:=Nat→Option Ob
abbrev Upd:=List (Nat×Ob)
def inWin (lo n:Int) (len:Nat):Bool:=decide (0≤lo)&&decide (0≤n)&&Nat.ble (lo.toNat+n.toNat) len
def part {α:Type} (lo n:Int) (xs:List α):List α:=(xs.drop lo.toNat).take n.toNat
def atV (ob:Objs) (t:Ty):At→Option (t.den×Upd)
 | .val s d=>if h:s=t then some (h▸d,[]) else none
 | .nilS=>match t with
   | .sl _=>some ([],[])
   | _=>none
 | .own id ver=>match ob id with
   | some (.arr v fz e s xs)=>if h:Ty.sl s=t then (bif Nat.beq v ver && !s.isMap then some (h▸(show (Ty.sl s).den from xs),bif fz then [] else [(id,.arr v true e s xs)]) else none) else none
   | _=>none
 | .win id ver lo n=>match ob id with
   | some (.arr v fz e s xs)=>if h:Ty.sl s=t then (bif Nat.beq v ver && !s.isMap then some (h▸(show (Ty.sl s).den from part lo n xs),bif fz then [] else [(id,.arr v true e s xs)]) else none) else none
   | _=>none
 | _=>none
def joinV (ob:Objs):(t:Ty)→List At→Option (t.den×Upd×List At)
 | .st t,cs=>joinV ob t cs
 | .pair a b,cs=>match joinV ob a cs with
   | some (x,u,r)=>match joinV ob b r with
     | some (y,v,r')=>some ((x,y),u++v,r')
     | none=>none
   | none=>none
 | .unit,cs=>some ((),[],cs)
 | .ar _ _,_=>none
 | .node t,cs=>match joinV ob t cs with
   | some (x,u,c::r)=>match atV ob (.sl (.st (.node t))) c with
     | some (y,v)=>some ((Rose.mk x (show List (Rose t.den) from y):Rose t.den),u++v,r)
     | none=>none
   | _=>none
 | t,c::r=>match atV ob t c with
   | some (x,u)=>some (x,u,r)
   | none=>none
 | _,[]=>none
def dvV (ob:Objs) (t:Ty):Dv→Option (t.den×Upd)
 | .one a=>atV ob t a
 | .agg cs=>match t with
   | .st s=>match joinV ob s cs with
     | some (x,u,[])=>some (x,u)
     | _=>none
   | _=>none
 | .tup _=>none
def Vo:Dv→Option (List At)
 | .one (.val (.st t) d)=>bif t.flat then some (split t d) else none
 | .one (.val (.ar _ _) _)=>none
 | .one a=>some [a]
 | .agg cs=>some cs
 | .tup _=>none
structure Eff where
 dv:Dv
 upd:Upd
def sel {α β γ:Type} (r:α⊕β) (f:α→γ) (g:β→γ):γ:=match r with
 | .inl x=>f x
 | .inr y=>g y
inductive SA where
 | val (t:Ty) | nilS | ref (id off:Nat) | own (id ver:Nat) | win (id ver:Nat) | fptr (t:Ty) | fn (f:Nat) | clo (id:Nat) | aptr (id ver:Nat) | selfp (id:Nat) (T:TypeId) | junk
inductive SD where
 | one (a:SA) | agg (cs:List SA) | tup (cs:List SA)
inductive SO where
 | box (cs:List SA) | arr (ver:Nat) (fz:Bool) (e:TypeId) (t:Ty) | clo (f:Nat) (fst caps:List SA) | gone
structure Shape where
 slots:List (Nat×SD)
 objs:List (Nat×SO)
@[reducible] def densU:List Ty→Type
 | []=>Unit
 | t::r=>t.den×densU r
noncomputable section
abbrev uP {A B R:Type} (x:A×B) (f:A→B→R):R:=Prod.rec (motive:=fun _=>R) f x
abbrev appU (a b:List Ty):densU a→densU b→densU (a++b):=
 List.rec (motive:=fun a=>densU a→densU b→densU (a++b)) (fun _ y=>y) (fun _ _ ih x y=>uP x fun u r=>(u,ih r y)) a
abbrev fstU (a b:List Ty):densU (a++b)→densU a:=
 List.rec (motive:=fun a=>densU (a++b)→densU a) (fun _=>()) (fun _ _ ih x=>uP x fun u r=>(u,ih r)) a
abbrev sndU (a b:List Ty):densU (a++b)→densU b:=
 List.rec (motive:=fun a=>densU (a++b)→densU b) (fun x=>x) (fun _ _ ih x=>uP x fun _ r=>ih r) a
def SA.tys:SA→List Ty
 | .val t=>[t]
 | .fptr t=>[t]
 | .win _ _=>[.int .i64,.int .i64]
 | _=>[]
abbrev SA.inj:(s:SA)→densU s.tys→At
 | .val t,x=>uP x fun d _=>.val t d
 | .fptr t,x=>uP x fun d _=>.fptr t d
 | .nilS,_=>.nilS
 | .ref i o,_=>.ref i o
 | .own i v,_=>.own i v
 | .win i v,x=>uP x fun lo r=>uP r fun n _=>.win i v lo n
 | .fn f,_=>.fn f
 | .clo i,_=>.clo i
 | .aptr i v,_=>.aptr i v
 | .selfp i T,_=>.selfp i T
 | .junk,_=>.junk
def SA.proj:(s:SA)→At→Option (densU s.tys)
 | .val t,.val s d=>if h:s=t then some (h▸d,()) else none
 | .fptr t,.fptr s d=>if h:s=t then some (h▸d,()) else none
 | .nilS,.nilS=>some ()
 | .ref i o,.ref j p=>bif Nat.beq i j&&Nat.beq o p then some () else none
 | .own i o,.own j p=>bif Nat.beq i j&&Nat.beq o p then some () else none
 | .win i o,.win j p lo n=>bif Nat.beq i j&&Nat.beq o p then some (lo,n,()) else none
 | .fn f,.fn g=>bif Nat.beq f g then some () else none
 | .clo i,.clo j=>bif Nat.beq i j then some () else none
 | .aptr i o,.aptr j p=>bif Nat.beq i j&&Nat.beq o p then some () else none
 | .selfp i T,.selfp j T'=>bif Nat.beq i j&&Nat.beq T T' then some () else none
 | .junk,.junk=>some ()
 | _,_=>none
def SL.tys:List SA→List Ty
 | []=>[]
 | s::r=>s.tys++SL.tys r
abbrev SL.inj (s:List SA):densU (SL.tys s)→List At:=
 List.rec (motive:=fun s=>densU (SL.tys s)→List At) (fun _=>[]) (fun s r ih x=>s.inj (fstU s.tys (SL.tys r) x)::ih (sndU s.tys (SL.tys r) x)) s
theorem SL.inj_nil {x:densU (SL.tys [])}:SL.inj [] x=[]:=rfl
def SL.proj:(s:List SA)→List At→Option (densU (SL.tys s))
 | [],[]=>some ()
 | s::r,a::b=>match s.proj a,SL.proj r b with
   | some x,some y=>some (appU s.tys (SL.tys r) x y)
   | _,_=>none
 | _,_=>none
def SD.tys:SD→List Ty
 | .one a=>a.tys
 | .agg cs=>SL.tys cs
 | .tup cs=>SL.tys cs
abbrev SD.inj:(s:SD)→densU s.tys→Dv
 | .one a,x=>.one (a.inj x)
 | .agg cs,x=>.agg (SL.inj cs x)
 | .tup cs,x=>.tup (SL.inj cs x)
def SD.proj:(s:SD)→Dv→Option (densU s.tys)
 | .one a,.one b=>a.proj b
 | .agg cs,.agg ds=>SL.proj cs ds
 | .tup cs,.tup ds=>SL.proj cs ds
 | _,_=>none
def SO.tys:SO→List Ty
 | .box cs=>SL.tys cs
 | .arr _ _ _ t=>[.sl t]
 | .clo _ a b=>SL.tys a++SL.tys b
 | .gone=>[]
abbrev SO.inj:(s:SO)→densU s.tys→Ob
 | .box cs,x=>.box (SL.inj cs x)
 | .arr v f e t,x=>uP x fun d _=>.arr v f e t d
 | .clo f a b,x=>.clo f (SL.inj a (fstU (SL.tys a) (SL.tys b) x)) (SL.inj b (sndU (SL.tys a) (SL.tys b) x))
 | .gone,_=>.gone
def SO.proj:(s:SO)→Ob→Option (densU s.tys)
 | .box cs,.box ds=>SL.proj cs ds
 | .clo f a b,.clo g c d=>bif Nat.beq f g then (match SL.proj a c,SL.proj b d with
   | some x,some y=>some (appU (SL.tys a) (SL.tys b) x y)
   | _,_=>none) else none
 | .gone,.gone=>some ()
 | .arr v f e t,.arr v' f' e' t' xs=>if h:t'=t then (bif Nat.beq v v'&&(f==f')&&Nat.beq e e' then some (h▸xs,()) else none) else none
 | _,_=>none
def SS.tys:List (Nat×SD)→List Ty
 | []=>[]
 | p::r=>p.2.tys++SS.tys r
abbrev SS.inj (s:List (Nat×SD)):densU (SS.tys s)→List (Nat×Dv):=
 List.rec (motive:=fun s=>densU (SS.tys s)→List (Nat×Dv)) (fun _=>[]) (fun p r ih x=>(p.1,p.2.inj (fstU p.2.tys (SS.tys r) x))::ih (sndU p.2.tys (SS.tys r) x)) s
theorem SS.inj_nil {x:densU (SS.tys [])}:SS.inj [] x=[]:=rfl
theorem SS.inj_cons {p:Nat×SD} {r:List (Nat×SD)} {x:densU (SS.tys (p::r))}:SS.inj (p::r) x=(p.1,p.2.inj (fstU p.2.tys (SS.tys r) x))::SS.inj r (sndU p.2.tys (SS.tys r) x):=rfl
def SS.proj:(s:List (Nat×SD))→List (Nat×Dv)→Option (densU (SS.tys s))
 | [],[]=>some ()
 | p::r,a::b=>bif Nat.beq p.1 a.1 then (match p.2.proj a.2,SS.proj r b with
   | some x,some y=>some (appU p.2.tys (SS.tys r) x y)
   | _,_=>none) else none
 | _,_=>none
def SP.tys:List (Nat×SO)→List Ty
 | []=>[]
 | p::r=>p.2.tys++SP.tys r
abbrev SP.inj (s:List (Nat×SO)):densU (SP.tys s)→List (Nat×Ob):=
 List.rec (motive:=fun s=>densU (SP.tys s)→List (Nat×Ob)) (fun _=>[]) (fun p r ih x=>(p.1,p.2.inj (fstU p.2.tys (SP.tys r) x))::ih (sndU p.2.tys (SP.tys r) x)) s
theorem SP.inj_nil {x:densU (SP.tys [])}:SP.inj [] x=[]:=rfl
theorem SP.inj_cons {p:Nat×SO} {r:List (Nat×SO)} {x:densU (SP.tys (p::r))}:SP.inj (p::r) x=(p.1,p.2.inj (fstU p.2.tys (SP.tys r) x))::SP.inj r (sndU p.2.tys (SP.tys r) x):=rfl
def SP.proj:(s:List (Nat×SO))→List (Nat×Ob)→Option (densU (SP.tys s))
 | [],[]=>some ()
 | p::r,a::b=>bif Nat.beq p.1 a.1 then (match p.2.proj a.2,SP.proj r b with
   | some x,some y=>some (appU p.2.tys (SP.tys r) x y)
   | _,_=>none) else none
 | _,_=>none
def Shape.tys (s:Shape):List Ty:=SS.tys s.slots++SP.tys s.objs
abbrev Shape.inj (s:Shape) (x:densU s.tys):St:=⟨SS.inj s.slots (fstU _ _ x),SP.inj s.objs (sndU (SS.tys s.slots) _ x)⟩
def Shape.proj (s:Shape) (st:St):Option (densU s.tys):=match SS.proj s.slots st.slots,SP.proj s.objs st.objs with
 | some x,some y=>some (appU _ _ x y)
 | _,_=>none
structure Ck where
 run:(ρ:Type)→St→(Nat→St→Option ρ)→Option ρ
structure Hint where
 pre:List Nat
 wr:List Nat
 hideS:List Nat
 hideO:List Nat
structure MCallee where
 fn:Nat
 pre:Shape
 post:Shape
 F:densU pre.tys→Option (densU post.tys)
structure MAlt where
 fn:Nat
 pre:Shape
 post:Shape
 pan:Bool
 post2:Shape
 F:densU pre.tys→Option (densU post.tys⊕densU post2.tys)
structure SeqC where
 fn:Nat
 caps:List Ty
 k:IntKind
 L:dens caps→List Int
structure Eqs where
 l:List Nat
 seqs:List (Nat×SeqC)
structure Env where
 n:Nat
 tab:List (Nat×TI)
 fns:List (Nat×Callee)
 keep:List Nat
 muts:List Nat
 fps:List (Nat×List Hint)
 cks:List (Nat×Ck)
 mfns:List (Nat×MCallee)
 eqs:Eqs
 alts:List (Nat×MAlt)
def gBox:Nat:=1000000
def gFix:Nat:=2000000
def bnd {α β:Type} (p:Option α) (f:α→Option β):Option β:=match p with
 | some x=>f x
 | none=>none
def br {α:Type} (b:Bool) (x y:α):α:=match b with | true=>x | false=>y
section
variable {ρ:Type}
def idx {α:Type} (xs:List α) (i:Int):Option α:=bif decide (0≤i) then xs[i.toNat]? else none
def inR (n:Nat) (i:Int):Option Unit:=bif decide (0≤i)&&decide (i<(n:Int)) then some () else none
def okIf (b:Bool):Option Unit:=bif b then some () else none
def ibits (op:BinOp) (k:IntKind) (x y:Int):Int:=
 let a:=BitVec.ofInt k.bits x
 let b:=BitVec.ofInt k.bits y
 match op with
 | .and=>k.wrap (a &&& b).toNat
 | .or=>k.wrap (a ||| b).toNat
 | .xor=>k.wrap (a^^^b).toNat
 | _=>k.wrap (a &&& ~~~b).toNat
def UI:Z6→Z6→Bool
 | _,[]=>false
 | [],_::_=>true
 | a::x,b::y=>a<b||(a==b&&UI x y)
def vI (k:IntKind) (n:Int):Dv:=.one (.val (.int k) n)
def vB (b:Bool):Dv:=.one (.val .bool b)
def vS (s:Z6):Dv:=.one (.val .str s)
def Ty.eqT:(t:Ty)→t.den→t.den→Bool
 | .bool,x,y=>(show Bool from x)==y
 | .int _,x,y=>(show Int from x)==y
 | .str,x,y=>(show Z6 from x)==y
 | .st t,x,y=>Ty.eqT t x y
 | .pair a b,x,y=>Ty.eqT a x.1 y.1&&Ty.eqT b x.2 y.2
 | .unit,_,_=>true
 | .sl _,_,_=>false
 | .ar _ _,_,_=>false
 | .nilv _,_,_=>false
 | .node _,_,_=>false
 | .ifc _ _,_,_=>false
 | .nn,_,_=>false
 | .len,_,_=>false
 | .fl _,_,_=>false
def binI (op:BinOp)(k:IntKind) (x y:Int)(kk:Dv→Option ρ):Option ρ:=
 match op with
 | .add=>kk (vI k (k.wrap (x+y)))
 | .sub=>kk (vI k (k.wrap (x-y)))
 | .mul=>kk (vI k (k.wrap (x*y)))
 | .quo=>bnd (okIf (y !=0)) fun _=>kk (vI k (k.wrap (x.tdiv y)))
 | .rem=>bnd (okIf (y !=0)) fun _=>kk (vI k (x.tmod y))
 | .and=>kk (vI k (ibits .and k x y))
 | .or=>kk (vI k (ibits .or k x y))
 | .xor=>kk (vI k (ibits .xor k x y))
 | .andNot=>kk (vI k (ibits .andNot k x y))
 | .eql=>kk (vB (x==y))
 | .neq=>kk (vB (x !=y))
 | .lss=>kk (vB (decide (x<y)))
 | .leq=>kk (vB (decide (x≤y)))
 | .gtr=>kk (vB (decide (x>y)))
 | .geq=>kk (vB (decide (x≥y)))
 | _=>none
def binS (op:BinOp) (x y:Z6)(kk:Dv→Option ρ):Option ρ:=
 match op with
 | .add=>bnd (okIf (decide (x.length+y.length≤9223372036854775807))) fun _=>kk (vS (x++y))
 | .eql=>kk (vB (x==y))
 | .neq=>kk (vB (!(x==y)))
 | .lss=>kk (vB (UI x y))
 | .leq=>kk (vB (UI x y||x==y))
 | .gtr=>kk (vB (!(UI x y||x==y)))
 | .geq=>kk (vB (!UI x y))
 | _=>none
def shI (op:BinOp)(k:IntKind) (x y:Int)(kk:Dv→Option ρ):Option ρ:=
 match op with
 | .shl=>bnd (okIf (decide (0≤y))) fun _=>kk (vI k (k.wrap (x*2^(min y.toNat k.bits))))
 | .shr=>bnd (okIf (decide (0≤y))) fun _=>kk (vI k (x.fdiv (2^(min y.toNat k.bits))))
 | _=>none
def nilK (tab:List (Nat×TI)) (op:BinOp) (xt:TypeId) (y:Operand) (b:Bool) (kk:Dv→Option ρ):Option ρ:=match y,look tab xt with
 | .const .nilIface,some ⟨.nilv 1,.nul⟩=>(match op with
   | .eql=>kk (vB b)
   | .neq=>kk (vB (!b))
   | _=>none)
 | _,_=>none
def Yq (ob:Objs) (kk:(t:Ty)→List t.den→Option ρ):Dv→Option ρ
 | .one (.val (.sl t) xs)=>kk t xs
 | .one (.own id ver)=>match ob id with
   | some (.arr v _ _ t xs)=>bif Nat.beq v ver && !t.isMap then kk t xs else none
   | _=>none
 | .one (.win id ver lo n)=>match ob id with
   | some (.arr v _ _ t xs)=>bif Nat.beq v ver && !t.isMap then kk t (part lo n xs) else none
   | _=>none
 | _=>none
def optK (ev:Operand→Option Dv) (x:Option Operand) (dflt:Int) (kk:Int→Option ρ):Option ρ:=match x with
 | none=>kk dflt
 | some y=>match ev y with
   | some (.one (.val (.int _) l))=>kk l
   | _=>none
def args (ob:Objs):(ts:List Ty)→List Dv→Option (dens ts×Upd)
 | [],[]=>some ((),[])
 | [t],[v]=>match dvV ob t v with
   | some (x,u)=>some (x,u)
   | none=>none
 | t::t'::ts,v::vs=>match dvV ob t v with
   | some (x,u)=>match args ob (t'::ts) vs with
     | some (y,u')=>some ((x,y),u++u')
     | none=>none
   | none=>none
 | _,_=>none
def resAts:(ts:List Ty)→dens ts→List At
 | [],_=>[]
 | [t],x=>[.val t x]
 | t::t'::ts,x=>.val t x.1::resAts (t'::ts) x.2
def resDv:(ts:List Ty)→dens ts→Dv
 | [t],x=>.one (.val t x)
 | ts,x=>.tup (resAts ts x)
def Ty.free:Ty→Bool
 | .sl _=>false
 | .fl _=>false
 | .st t=>t.free
 | .pair a b=>a.free&&b.free
 | .ar _ t=>t.free
 | .node _=>false
 | .ifc _ t=>t.free
 | _=>true
def YE:Nat:=140737488355328
def evAll (ev:Operand→Option Dv):List Operand→Option (List Dv)
 | []=>some []
 | x::r=>match ev x,evAll ev r with
   | some d,some l=>some (d::l)
   | _,_=>none
def verOf (ob:Objs) (id:Nat):Option Nat:=match ob id with
 | none=>some 0
 | some (.arr v _ _ _ _)=>some (v+1)
 | _=>none
abbrev Ren:=List (Nat×Nat)
def hasV (i:Nat):Ren→Bool
 | []=>false
 | (_,j)::r=>Nat.beq i j||hasV i r
def bindId (σ:Ren) (j i:Nat):Option Ren:=match look σ j with
 | some i'=>bif Nat.beq i' i then some σ else none
 | none=>bif hasV i σ then none else some ((j,i)::σ)
def bindU (σ:Ren) (j i:Nat) {α:Type} (x:α):Option (α×Upd×Ren):=match bindId σ j i with
 | some σ'=>some (x,[],σ')
 | none=>none
def bindA (ob:Objs) (σ:Ren):(s:SA)→At→Option (densU s.tys×Upd×Ren)
 | .val t,a=>match atV ob t a with
   | some (d,u)=>some ((d,()),u,σ)
   | none=>none
 | .nilS,.nilS=>some ((),[],σ)
 | .own j v,.own id ver=>match ob id with
   | some (.arr v' _ _ _ _)=>bif Nat.beq v' ver&&Nat.beq v 0 then bindU σ j id () else none
   | _=>none
 | .win j v,.win id ver lo n=>match ob id with
   | some (.arr v' _ _ _ _)=>bif Nat.beq v' ver&&Nat.beq v 0 then bindU σ j id (lo,n,()) else none
   | _=>none
 | .win j v,.own id ver=>match ob id with
   | some (.arr v' _ _ t xs)=>bif Nat.beq v' ver&&Nat.beq v 0 && !t.isMap then bindU σ j id ((0:Int),(xs.length:Int),()) else none
   | _=>none
 | .ref j o,.ref id o'=>match ob id with
   | some (.box _)=>bif Nat.beq o o' then bindU σ j id () else none
   | _=>none
 | .fn f,.fn g=>bif Nat.beq f g then some ((),[],σ) else none
 | .clo j,.clo id=>match ob id with
   | some (.clo _ _ _)=>bindU σ j id ()
   | _=>none
 | .fptr t,.fptr s d=>if h:s=t then some ((h▸d,()),[],σ) else none
 | .aptr j v,.aptr id ver=>match ob id with
   | some (.arr v' _ _ _ _)=>bif Nat.beq v' ver&&Nat.beq v 0 then bindU σ j id () else none
   | _=>none
 | .selfp j T,.selfp id T'=>match ob id with
   | some (.box _)=>bif Nat.beq T T' then bindU σ j id () else none
   | _=>none
 | .aptr j v,.elem id ver i _ o=>match ob id with
   | some (.arr v' _ _ _ _)=>bif Nat.beq v' ver&&Nat.beq v 0&&(decide (i=0)&&Nat.beq o 0) then bindU σ j id () else none
   | _=>none
 | .junk,.val (.sl _) _=>some ((),[],σ)
 | .junk,.own _ _=>some ((),[],σ)
 | .junk,.junk=>some ((),[],σ)
 | _,_=>none
def bindL (ob:Objs):Ren→(s:List SA)→List At→Option (densU (SL.tys s)×Upd×Ren)
 | σ,[],[]=>some ((),[],σ)
 | σ,s::r,a::b=>match bindA ob σ s a with
   | some (x,u,σ1)=>match bindL ob σ1 r b with
     | some (y,v,σ2)=>some (appU s.tys (SL.tys r) x y,u++v,σ2)
     | none=>none
   | none=>none
 | _,_,_=>none
def bindV (ob:Objs) (σ:Ren):(s:SA)→Dv→Option (densU s.tys×Upd×Ren)
 | .val t,d=>(dvV ob t d).map fun p=>((p.1,()),p.2,σ)
 | _,_=>none
def oneAt:Dv→Option At
 | .one a=>some a
 | _=>none
def bindD (ob:Objs) (σ:Ren):(s:SD)→Dv→Option (densU s.tys×Upd×Ren)
 | .one s,d=>match oneAt d with
   | some a=>bindA ob σ s a
   | none=>bindV ob σ s d
 | .agg ss,.agg cs=>bindL ob σ ss cs
 | .agg ss,.one (.val (.st t) d)=>bif t.flat then bindL ob σ ss (split t d) else none
 | _,_=>none
def bindS (ob:Objs):Ren→(s:List (Nat×SD))→List Dv→Option (densU (SS.tys s)×Upd×Ren)
 | σ,[],[]=>some ((),[],σ)
 | σ,p::r,d::ds=>match bindD ob σ p.2 d with
   | some (x,u,σ1)=>match bindS ob σ1 r ds with
     | some (y,v,σ2)=>some (appU p.2.tys (SS.tys r) x y,u++v,σ2)
     | none=>none
   | none=>none
 | _,_,_=>none
def bindO (ob:Objs) (σ:Ren) (i:Nat):(s:SO)→Option (densU s.tys×Upd×Ren)
 | .box ss=>match ob i with
   | some (.box cs)=>bindL ob σ ss cs
   | _=>none
 | .arr v f e t=>match ob i with
   | some (.arr _ false e' t' xs)=>if h:t'=t then (bif Nat.beq v 0 && !f&&Nat.beq e e' then some ((h▸xs,()),[],σ) else none) else none
   | _=>none
 | .gone=>match ob i with
   | some .gone=>some ((),[],σ)
   | some (.arr _ _ _ _ _)=>some ((),[],σ)
   | _=>none
 | .clo f sa sb=>match ob i with
   | some (.clo g a b)=>bif Nat.beq f g then (match bindL ob σ sa a with
     | some (x,u,σ1)=>match bindL ob σ1 sb b with
       | some (y,v,σ2)=>some (appU (SL.tys sa) (SL.tys sb) x y,u++v,σ2)
       | none=>none
     | none=>none) else none
   | _=>none
def bindP (ob:Objs):Ren→(s:List (Nat×SO))→Option (densU (SP.tys s)×Upd×Ren)
 | σ,[]=>some ((),[],σ)
 | σ,p::r=>match look σ p.1 with
   | some i=>match bindO ob σ i p.2 with
     | some (x,u,σ1)=>match bindP ob σ1 r with
       | some (y,v,σ2)=>some (appU p.2.tys (SP.tys r) x y,u++v,σ2)
       | none=>none
     | none=>none
   | none=>none
def noneOf (u:Upd) (σ:Ren):Bool:=u.all fun p=>!hasV p.1 σ
def Yh (ob:Objs) (σ:Ren) (sh:Shape) (ds:List Dv):Option (densU sh.tys×Upd×Ren):=match bindS ob σ sh.slots ds with
 | some (x,u,σ1)=>match bindP ob σ1 sh.objs with
   | some (y,v,σ2)=>bif noneOf (u++v) σ2 then some (appU (SS.tys sh.slots) (SP.tys sh.objs) x y,u++v,σ2) else none
   | none=>none
 | none=>none
abbrev Tau:=List (Nat×(Nat×Nat))
def kY (dst j:Nat):Nat:=dst+1000*j
def backN (ob:Objs) (dst:Nat) (σ:Ren) (j:Nat):Ob→Option (Nat×Nat)
 | .arr v0 _ e t _=>match look σ j with
   | some i=>match ob i with
     | some (.arr v _ e' t' _)=>bif Nat.ble gBox j&&Nat.beq e e'&&decide (t=t')&&(Nat.blt j gFix||Nat.beq v0 0) then some (i,bif Nat.ble gFix j then v else v+1) else none
     | _=>none
   | none=>match verOf ob (kY dst j) with
     | some v=>some (kY dst j,v)
     | none=>none
 | _=>match look σ j with
   | some i=>bif Nat.ble gBox j then some (i,0) else none
   | none=>match ob (kY dst j) with
     | none=>some (kY dst j,0)
     | some _=>none
def backT (ob:Objs) (dst:Nat) (σ:Ren):List (Nat×Ob)→Option Tau
 | []=>some []
 | (j,o)::r=>match backN ob dst σ j o,backT ob dst σ r with
   | some p,some l=>some ((j,p)::l)
   | _,_=>none
def hasT (i:Nat):Tau→Bool
 | []=>false
 | (_,p)::r=>Nat.beq i p.1||hasT i r
def hasK (j:Nat):Tau→Bool
 | []=>false
 | (k,_)::r=>Nat.beq j k||hasK j r
def VX:Tau→Bool
 | []=>true
 | (j,p)::r=>!hasT p.1 r && !hasK j r&&VX r
def renA (objs:List (Nat×Ob)) (τ:Tau):At→At
 | .own j v=>match look objs j,look τ j with
   | some (.arr v' _ _ _ _),some p=>bif Nat.beq v v' then .own p.1 p.2 else .junk
   | _,_=>.junk
 | .win j v lo n=>match look objs j,look τ j with
   | some (.arr v' _ _ _ _),some p=>bif Nat.beq v v' then .win p.1 p.2 lo n else .junk
   | _,_=>.junk
 | .ref j o=>match look objs j,look τ j with
   | some (.box _),some p=>.ref p.1 o
   | _,_=>.junk
 | .clo j=>match look objs j,look τ j with
   | some (.clo _ _ _),some p=>.clo p.1
   | _,_=>.junk
 | .aptr j v=>match look objs j,look τ j with
   | some (.arr v' _ _ _ _),some p=>bif Nat.beq v v' then .aptr p.1 p.2 else .junk
   | _,_=>.junk
 | .selfp j T=>match look objs j,look τ j with
   | some (.box _),some p=>.selfp p.1 T
   | _,_=>.junk
 | .elem _ _ _ _ _=>.junk
 | .aelem ..=>.junk
 | a=>a
def renD (objs:List (Nat×Ob)) (τ:Tau):Dv→Dv
 | .one a=>.one (renA objs τ a)
 | .agg cs=>.agg (cs.map (renA objs τ))
 | .tup cs=>.tup (cs.map (renA objs τ))
def backU (objs:List (Nat×Ob)) (τ:Tau) (σ:Ren):List (Nat×Ob)→Option Upd
 | []=>some []
 | (j,o)::r=>match look τ j,backU objs τ σ r with
   | some p,some l=>(match o with
     | .box cs=>some ((p.1,.box (cs.map (renA objs τ)))::l)
     | .arr _ fz e t xs=>bif fz then none else some ((p.1,.arr p.2 false e t xs)::l)
     | .gone=>some ((p.1,.gone)::l)
     | .clo f a b=>match look σ j with
       | some _=>some l
       | none=>some ((p.1,.clo f (a.map (renA objs τ)) (b.map (renA objs τ)))::l))
   | _,_=>none
def Hr:List (Nat×Dv)→Option (List At)
 | []=>some []
 | (_,.one a)::r=>match Hr r with
   | some l=>some (a::l)
   | none=>none
 | _=>none
def ansOf:List (Nat×Dv)→Option Dv
 | [(_,d)]=>match d with
   | .tup _=>none
   | d=>some d
 | l=>match Hr l with
   | some cs=>some (.tup cs)
   | none=>none
def isFlatOb:Ob→Bool
 | .arr _ _ _ _ _=>true
 | .gone=>true
 | _=>false
def JW (v:Upd):Upd:=(v.filter fun p=>isFlatOb p.2)++v.filter fun p=>!isFlatOb p.2
def backK (ob:Objs) (dst:Nat) (σ:Ren) (st:St):Option (Dv×Upd):=match backT ob dst σ st.objs with
 | some τ=>bif VX τ&&(σ.all fun p=>hasK p.1 τ) then (match backU st.objs τ σ st.objs,ansOf st.slots with
   | some v,some d=>some (renD st.objs τ d,JW v)
   | _,_=>none) else none
 | none=>none
def mcallOf (l:List (Nat×MCallee)) (dst f:Nat):Option MCallee:=match look l (1000000+dst) with
 | some mc=>bif Nat.beq mc.fn f then some mc else look l f
 | none=>look l f
def calmP (l:List (Nat×SO)):Bool:=l.all fun p=>match p.2 with
 | .gone=>false
 | _=>true
def HP (ob:Objs) (dst f:Nat) (ds:List Dv) (k:Eff→Option ρ) (l:List (Nat×MCallee)):Option ρ:=match mcallOf l dst f with
 | some mc=>bif Nat.beq mc.fn f&&calmP mc.pre.objs then (match Yh ob [] mc.pre ds with
   | some (x,u,σ)=>bnd (mc.F x) fun y=>(match backK ob dst σ (mc.post.inj y) with
     | some (d,v)=>k ⟨d,u++v⟩
     | none=>none)
   | none=>none) else none
 | none=>none
def Ue (ob:Objs):Option Dv→Option (Nat×List Dv×List Dv)
 | some (.one (.fn f))=>some (f,[],[])
 | some (.one (.clo id))=>match ob id with
   | some (.clo f a b)=>some (f,a.map .one,b.map .one)
   | _=>none
 | _=>none
def onesD:List Dv→Option (List At)
 | []=>some []
 | .one a::r=>match onesD r with
   | some l=>some (a::l)
   | none=>none
 | _=>none
def isNil:List At→Bool
 | []=>true
 | _=>false
def fillA (tab:List (Nat×TI)) (fs:List (Nat×TypeId)) (ev:Operand→Option Dv):List (Nat×Operand)→List At→Option (List At)
 | [],cs=>some cs
 | (i,x)::r,cs=>match fs[i]?,ev x with
   | some (off,ft),some d=>match Vo d,look tab ft with
     | some ds,some fi=>bif Nat.beq ds.length fi.ty.cells&&Nat.ble (off+ds.length) cs.length then fillA tab fs ev r (cs.take off++ds++cs.drop (off+ds.length)) else none
     | _,_=>none
   | _,_=>none
def fillS (ob:Objs) (tab:List (Nat×TI)) (fs:List (Nat×TypeId)) (ev:Operand→Option Dv) (s:Ty):List (Nat×Operand)→s.den→Option (s.den×Upd)
 | [],y=>some (y,[])
 | (i,x)::r,y=>match fs[i]?,ev x with
   | some (off,ft),some d=>match look tab ft with
     | some fi=>match dvV ob fi.ty d with
       | some (z,u)=>match Ty.upd fi.ty z s y off with
         | some y'=>match fillS ob tab fs ev s r y' with
           | some (y2,u')=>some (y2,u++u')
           | none=>none
         | none=>none
       | none=>none
     | none=>none
   | _,_=>none
def fillE (ob:Objs) (ev:Operand→Option Dv) (s:Ty) (n:Nat):List (Nat×Operand)→List s.den→Option (List s.den×Upd)
 | [],y=>some (y,[])
 | (i,x)::r,y=>match ev x with
   | some d=>match dvV ob s d with
     | some (z,u)=>bif Nat.blt i n then (match fillE ob ev s n r (y.set i z) with
       | some (y2,u')=>some (y2,u++u')
       | none=>none) else none
     | none=>none
   | none=>none
def At.mentions (id:Nat):At→Bool
 | .ref i _=>Nat.beq i id
 | .own i _=>Nat.beq i id
 | .win i _ _ _=>Nat.beq i id
 | .elem i _ _ _ _=>Nat.beq i id
 | .aptr i _=>Nat.beq i id
 | .aelem i _ _ _ _ _ _ _ _=>Nat.beq i id
 | .clo i=>Nat.beq i id
 | .selfp i _=>Nat.beq i id
 | _=>false
def At.isSelf:At→Bool
 | .selfp _ _=>true
 | _=>false
def HQ (tab:List (Nat×TI)) (ti:TI):List (Nat×(TypeId×Ty)):=match ti with
 | ⟨.sl s,.slice e _⟩=>[(0,e,s)]
 | ⟨.st _,.struct fs⟩=>fs.flatMap fun p=>match look tab p.2 with
   | some ⟨.sl s,.slice e _⟩=>[(p.1,e,s)]
   | some ⟨.st _,.struct gs⟩=>gs.filterMap fun q=>match look tab q.2 with
     | some ⟨.sl s,.slice e _⟩=>some (p.1+q.1,e,s)
     | _=>none
   | _=>[]
 | _=>[]
def verK (fr:Bool) (ob:Objs) (id:Nat):Option Nat:=match ob id with
 | none=>bif fr then some 0 else none
 | some (.arr v _ _ _ _)=>some (v+1)
 | _=>none
def Vb (fr:Bool) (ob:Objs) (idf:Nat→Nat):List (Nat×(TypeId×Ty))→List At→Option (List At×Upd)
 | [],ds=>some (ds,[])
 | (j,e,s)::r,ds=>match ds[j]? with
   | some .nilS=>match verK fr ob (idf j) with
     | some ver=>bif ds.all (fun x=>!x.mentions (idf j)) && !s.isMap then (match Vb fr ob idf r (ds.set j (.own (idf j) ver)) with
       | some (ds',u)=>bif u.all (fun q=>!Nat.beq q.1 (idf j)) then some (ds',(idf j,.arr ver false e s [])::u) else none
       | none=>none) else none
     | none=>none
   | _=>Vb fr ob idf r ds
def Vv (b:Bool) (dst:Nat) (T:TypeId) (ty:Ty) (cs:List At):List At:=bif b then (match ty,cs with
 | .st (.pair (.nilv 0) (.sl (.int .u8))),.val (.nilv 0) _::r=>.selfp dst T::r
 | .st (.pair (.st (.pair (.nilv 0) (.sl (.int .u8)))) _),.val (.nilv 0) _::r=>.selfp dst T::r
 | _,cs=>cs) else cs
def UT (ob:Objs) (ev:Operand→Option Dv) (s:Ty):Nat→List (Nat×Operand)→Option (List s.den×Upd)
 | _,[]=>some ([],[])
 | i,(j,x)::r=>bif Nat.beq i j then (match ev x with
  | some d=>match dvV ob s d with
    | some (y,u)=>match UT ob ev s (i+1) r with
      | some (ys,u')=>some (y::ys,u++u')
      | none=>none
    | none=>none
  | none=>none) else none
def lenOf (ob:Objs):Dv→Option Int
 | .one .nilS=>some 0
 | .one (.val (.sl _) xs)=>some (xs.length:Int)
 | .one (.own id ver)=>match ob id with
   | some (.arr v _ _ t xs)=>bif Nat.beq v ver && !t.isMap then some (xs.length:Int) else none
   | _=>none
 | .one (.win id ver _ n)=>match ob id with
   | some (.arr v _ _ t _)=>bif Nat.beq v ver && !t.isMap then some n else none
   | _=>none
 | _=>none
def coldId (dst:Nat):Nat:=5000000+dst
def keepNil (G:Env) (x:Operand) (dst:Nat):Bool:=match x with
 | .tmp s=>memN (45000000+s) G.muts
 | _=>memN (45500000+dst) G.muts
def effK (G:Env)(o:Oper)(dst:Nat)(ev:Operand→Option Dv)(ob:Objs)(k:Eff→Option ρ):Option ρ:=
 let pureK (d:Dv):Option ρ:=k ⟨d,[]⟩
 match o.op with
 | .move x=>match ev x with
   | some (.one (.own id ver))=>bif memN (coldId dst) G.muts then (match ob id with
     | some (.arr v _ e s xs)=>bif Nat.beq v ver && !s.isMap then k ⟨.one (.val (.sl s) xs),[(id,.arr v true e s xs)]⟩ else none
     | _=>none) else pureK (.one (.own id ver))
   | some d=>pureK d
   | none=>none
 | .assign x=>match ev x with
   | some (.one .nilS)=>bif keepNil G x dst then pureK (.one .nilS) else (match look G.tab o.type with
     | some ⟨.sl t,.slice e _⟩=>(match verOf ob dst with
       | some ver=>k ⟨.one (.own dst ver),[(dst,.arr ver false e t [])]⟩
       | none=>none)
     | _=>none)
   | some d=>pureK d
   | none=>none
 | .pick c a b=>match ev c with
   | some (.one (.val .bool x))=>br x (match ev a with | some d=>pureK d | none=>none) (match ev b with | some d=>pureK d | none=>none)
   | _=>none
 | .alloc t=>match look G.tab t with
   | some ti=>bif ti.ty.flat then (match ob dst with
     | none=>(match Vb true ob (fun j=>kY dst (j+1)) (bif memN dst G.muts then HQ G.tab ti else []) (Ut (memN dst G.muts) ti.ty) with
       | some (cs,u)=>bif u.all (fun q=>!Nat.beq q.1 dst)&&cs.all (fun x=>!x.mentions dst) then k ⟨.one (.ref dst 0),u++[(dst,.box (Vv (memN dst G.muts) dst t ti.ty cs))]⟩ else none
       | none=>none)
     | some _=>none) else (match verOf ob dst with
     | some ver=>(match ti with
       | ⟨.ar n s,.arr _ _⟩=>bif Nat.blt 0 n&&Nat.ble n 1048576 then k ⟨.one (.aptr dst ver),[(dst,.arr ver false t s (List.replicate n s.zero))]⟩ else none
       | ⟨.st s,.struct _⟩=>k ⟨.one (.aptr dst ver),[(dst,.arr ver false t (.st s) [Ty.zero (.st s)])]⟩
       | _=>none)
     | none=>none)
   | none=>none
 | .box t x=>match look G.tab t,ev x with
   | some ti,some d=>bif memN (8500000+dst) G.muts then (match lenOf ob d with
     | some m=>k ⟨.one (.fptr .len m),[]⟩
     | none=>none) else bif memN (8600000+dst) G.muts then (match dvV ob ti.ty d with
     | some (y,[])=>k ⟨.one (.fptr ti.ty y),[]⟩
     | _=>none) else bif ti.ty.flat then (match Vo d with
     | some cs=>(match ob dst with
       | none=>bif memN dst G.muts then (match Vb true ob (fun j=>kY dst (j+1)) (HQ G.tab ti) cs with
         | some (cs',u)=>bif Nat.beq cs.length ti.ty.cells&&u.all (fun q=>!Nat.beq q.1 dst)&&cs'.all (fun x=>!x.mentions dst) then k ⟨.one (.ref dst 0),u++[(dst,.box (Vv true dst t ti.ty cs'))]⟩ else none
         | none=>none) else bif Nat.beq cs.length ti.ty.cells then k ⟨.one (.ref dst 0),[(dst,.box cs)]⟩ else none
       | some _=>none)
     | none=>none) else bif memN (8000000+dst) G.muts then (match dvV ob ti.ty d with
     | some (y,[])=>k ⟨.one (.fptr ti.ty y),[]⟩
     | _=>none) else (match verOf ob dst,dvV ob ti.ty d with
     | some ver,some (y,u)=>bif u.all fun q=>!Nat.beq q.1 dst then (match ti,y with
       | ⟨.ar n s,.arr _ _⟩,y=>bif Nat.blt 0 n&&Nat.ble n 1048576 then k ⟨.one (.aptr dst ver),u++[(dst,.arr ver false t s y)]⟩ else none
       | ⟨.st s,.struct _⟩,y=>k ⟨.one (.aptr dst ver),u++[(dst,.arr ver false t (.st s) [y])]⟩
       | _,_=>none) else none
     | _,_=>none)
   | _,_=>none
 | .fieldAddr t x f=>match look G.tab t,ev x with
   | some ⟨_,.struct fs⟩,some (.one p)=>match fs[f]? with
     | some (off,ft)=>match look G.tab ft with
       | some fi=>bif Nat.beq fi.ty.cells 0 then none else (match p with
         | .ref id o=>match ob id with
           | some (.box _)=>pureK (.one (.ref id (o+off)))
           | _=>none
         | .elem id ver i sz o=>match ob id with
           | some (.arr v _ _ _ _)=>bif Nat.beq v ver then pureK (.one (.elem id ver i sz (o+off))) else none
           | _=>none
         | .aptr id ver=>match ob id with
           | some (.arr v _ _ s xs)=>bif Nat.beq v ver then bnd (inR xs.length 0) fun _=>pureK (.one (.elem id ver 0 s.cells off)) else none
           | _=>none
         | .aelem id ver i sz q n e j o=>match ob id with
           | some (.arr v _ _ _ _)=>bif Nat.beq v ver then pureK (.one (.aelem id ver i sz q n e j (o+off))) else none
           | _=>none
         | .fptr s d=>match Ty.sub fi.ty s d off with
           | some y=>pureK (.one (.fptr fi.ty y))
           | none=>none
         | _=>none)
       | none=>none
     | none=>none
   | _,_=>none
 | .load t x=>match look G.tab t,ev x with
   | some ti,some (.one p)=>match p with
     | .ref id off=>match ob id with
       | some (.box cs)=>
         bif ti.ty.isSt then (bif Nat.ble (off+ti.ty.cells) cs.length then pureK (.agg ((cs.drop off).take ti.ty.cells)) else none)
         else match cs[off]? with
          | some a=>pureK (.one a)
          | none=>none
       | _=>none
     | .elem id ver i _ off=>match ob id with
       | some (.arr v _ _ s xs)=>bif Nat.beq v ver then bnd (idx xs i) fun y=>(match Ty.sub ti.ty s y off with
        | some z=>pureK (.one (.val ti.ty z))
        | none=>none) else none
       | _=>none
     | .aelem id ver i _ q n e j off=>match ob id with
       | some (.arr v _ _ s xs)=>bif Nat.beq v ver then bnd (idx xs i) fun y=>(match Ty.sub (.ar n e) s y q with
        | some zs=>bnd (idx zs j) fun y'=>(match Ty.sub ti.ty e y' off with
          | some z=>pureK (.one (.val ti.ty z))
          | none=>none)
        | none=>none) else none
       | _=>none
     | .aptr id ver=>match ob id with
       | some (.arr v _ _ s xs)=>bif Nat.beq v ver then (match ti with
        | ⟨.ar n s',.arr _ _⟩=>if h:s=s' then bnd (okIf (decide (xs.length=n))) fun _=>pureK (.one (.val (.ar n s') (h▸xs))) else none
        | ⟨ty,_⟩=>bnd (idx xs 0) fun y=>(match Ty.sub ty s y 0 with
          | some z=>pureK (.one (.val ty z))
          | none=>none)) else none
       | _=>none
     | .fptr s d=>match Ty.sub ti.ty s d 0 with
       | some z=>pureK (.one (.val ti.ty z))
       | none=>none
     | _=>none
   | _,_=>none
 | .store t x y=>match look G.tab t,ev x,ev y with
   | some ti,some (.one p),some d=>match p with
     | .ref id off=>match ob id,Vo d with
       | some (.box cs),some ds0=>(match Vb false ob (fun j=>kY id (off+j+1)) (bif memN id G.muts then HQ G.tab ti else []) ds0 with
         | some (ds,u)=>bif Nat.beq ds.length ti.ty.cells&&Nat.ble (off+ds.length) cs.length&&u.all (fun q=>!Nat.beq q.1 id)&&ds.all (fun x=>!x.isSelf) then
           k ⟨.tup [],u++[(id,.box (cs.take off++ds++cs.drop (off+ds.length)))]⟩ else none
         | none=>none)
       | _,_=>none
     | .elem id ver i _ off=>match dvV ob ti.ty d with
       | some (z,u)=>match ob id with
         | some (.arr v false e s xs)=>bif Nat.beq v ver&&(u.all fun q=>!Nat.beq q.1 id) then bnd (idx xs i) fun y=>(match Ty.upd ti.ty z s y off with
          | some y'=>k ⟨.tup [],u++[(id,.arr v false e s (xs.set i.toNat y'))]⟩
          | none=>none) else none
         | _=>none
       | none=>none
     | .aelem id ver i _ q n e' j off=>match dvV ob ti.ty d with
       | some (z,u)=>match ob id with
         | some (.arr v false e s xs)=>bif Nat.beq v ver&&(u.all fun q=>!Nat.beq q.1 id) then bnd (idx xs i) fun y=>(match Ty.sub (.ar n e') s y q with
          | some zs=>bnd (idx zs j) fun y1=>(match Ty.upd ti.ty z e' y1 off with
            | some y2=>(match Ty.upd (.ar n e') (zs.set j.toNat y2) s y q with
              | some y'=>k ⟨.tup [],u++[(id,.arr v false e s (xs.set i.toNat y'))]⟩
              | none=>none)
            | none=>none)
          | none=>none) else none
         | _=>none
       | none=>none
     | .aptr id ver=>match dvV ob ti.ty d with
       | some (z,u)=>match ob id with
         | some (.arr v false e s xs)=>bif Nat.beq v ver&&(u.all fun q=>!Nat.beq q.1 id) then (match ti,z with
          | ⟨.ar _ s',.arr _ _⟩,zs=>if h:s'=s then bnd (okIf (decide (List.length (show List s'.den from zs)=xs.length))) fun _=>k ⟨.tup [],u++[(id,.arr v false e s (h▸(show List s'.den from zs)))]⟩ else none
          | ⟨ty,_⟩,z=>bnd (idx xs 0) fun y=>(match Ty.upd ty z s y 0 with
            | some y'=>k ⟨.tup [],u++[(id,.arr v false e s (xs.set 0 y'))]⟩
            | none=>none)) else none
         | _=>none
       | none=>none
     | _=>none
   | _,_,_=>none
 | .binOp op xt x y _=>match ev x,ev y with
   | some a,some b=>match a,b with
     | .one (.val (.int j) m),.one (.val (.int l) n)=>match op with
       | .shl | .shr=>shI op j m n pureK
       | _=>bif decide (j=l) then binI op j m n pureK else none
     | .one (.val .str s),.one (.val .str t)=>binS op s t pureK
     | .one (.val .bool s),.one (.val .bool t)=>match look G.tab xt with
       | some ⟨.bool,.scalar⟩=>match op with
         | .eql=>pureK (vB (s==t))
         | .neq=>pureK (vB (!(s==t)))
         | _=>none
       | _=>none
     | .one (.val (.nilv 1) _),.one (.val (.nilv 1) _)=>nilK G.tab op xt y true pureK
     | .one (.val .nn d),.one (.val (.nilv 1) _)=>nilK G.tab op xt y (!d) pureK
     | .one .nilS,.one .nilS=>(match look G.tab xt with
       | some ⟨.sl _,.slice _ _⟩=>(match op with
         | .eql=>pureK (vB true)
         | .neq=>pureK (vB false)
         | _=>none)
       | _=>none)
     | a,b=>bif memN xt G.eqs.l then (match look G.tab xt with
       | some ⟨.st s,_⟩=>(match dvV ob (.st s) a,dvV ob (.st s) b with
         | some (x,[]),some (y,[])=>(match op with
           | .eql=>pureK (vB (Ty.eqT s x y))
           | .neq=>pureK (vB (!Ty.eqT s x y))
           | _=>none)
         | _,_=>none)
       | _=>none) else none
   | _,_=>none
 | .unOp op _ x=>match ev x with
   | some (.one (.val .bool b))=>match op with
     | .not=>pureK (vB (!b))
     | _=>none
   | some (.one (.val (.int j) n))=>match op with
     | .neg=>pureK (vI j (j.wrap (0-n)))
     | .xor=>pureK (vI j (ibits .xor j (bif j.signed then -1 else j.max) n))
     | _=>none
   | _=>none
 | .convert srcT dstT x=>match look G.tab srcT,look G.tab dstT,ev x with
   | some ⟨.int _,_⟩,some ⟨.int j,_⟩,some (.one (.val (.int _) n))=>pureK (vI j (j.wrap n))
   | some ⟨.str,_⟩,some ⟨.str,_⟩,some (.one (.val .str s))=>pureK (vS s)
   | some ⟨.sl (.int .u8),.slice e _⟩,some ⟨.str,_⟩,some d=>match look G.tab e with
     | some ⟨.int .u8,_⟩=>(match d with
       | .one .nilS=>pureK (vS [])
       | d=>Yq ob (fun t xs=>match t,xs with
         | .int .u8,xs=>pureK (vS (List.map (fun n=>UInt8.ofNat n.toNat) (show List Int from xs)))
         | _,_=>none) d)
     | _=>none
   | some ⟨.sl (.int .u8),.slice e _⟩,some ⟨.sl (.int .u8),_⟩,some (.one (.own id ver))=>match look G.tab e,ob id with
     | some ⟨.int .u8,_⟩,some (.arr v false e' s xs)=>bif Nat.beq srcT dstT&&Nat.beq v ver && !s.isMap then bnd (okIf (!xs.isEmpty)) fun _=>k ⟨.one (.own id ver),[(id,.arr v false e' s xs)]⟩ else none
     | _,_=>none
   | some ⟨.str,_⟩,some ⟨.sl (.int .u8),.slice e _⟩,some (.one (.val .str s))=>match look G.tab e with
     | some ⟨.int .u8,_⟩=>bnd (okIf (decide (s.length≤YE))) fun _=>
       (bif memN dst G.muts then (match verOf ob dst with
        | some ver=>k ⟨.one (.own dst ver),[(dst,.arr ver false e (.int .u8) (s.map fun b=>(b.toNat:Int)))]⟩
        | none=>none) else pureK (.one (.val (.sl (.int .u8)) (s.map fun b=>(b.toNat:Int)))))
     | _=>none
   | _,_,_=>none
 | .build t ps=>match look G.tab t with
   | some ⟨.st s,.struct fs⟩=>
     bif s.flat then (match fillA G.tab fs ev ps.toList (Ut (memN dst G.muts) s) with
     | some cs=>pureK (.agg cs)
     | none=>none) else (match fillS ob G.tab fs ev s ps.toList s.zero with
     | some (y,u)=>k ⟨.one (.val (.st s) y),u⟩
     | none=>none)
   | some ⟨.ar n s,.arr _ _⟩=>(match fillE ob ev s n ps.toList (List.replicate n s.zero) with
     | some (y,u)=>k ⟨.one (.val (.ar n s) y),u⟩
     | none=>none)
   | _=>none
 | .extract x i=>match ev x with
   | some (.tup l)=>match l[i]? with
     | some a=>pureK (.one a)
     | none=>none
   | _=>none
 | .indexAddr t x ix=>match look G.tab t,ev x,ev ix with
   | some ⟨.sl s,.slice _ _⟩,some d,some (.one (.val (.int _) i))=>match d with
     | .one (.val (.sl s') xs)=>bif decide (s'=s) then bnd (idx xs i) fun y=>pureK (.one (.fptr s' y)) else none
     | .one (.own id ver)=>match ob id with
       | some (.arr v _ _ s' xs)=>bif Nat.beq v ver&&decide (s'=s) then bnd (inR xs.length i) fun _=>pureK (.one (.elem id ver i s.cells 0)) else none
       | _=>none
     | .one (.win id ver lo n)=>match ob id with
       | some (.arr v _ _ s' xs)=>bif Nat.beq v ver&&decide (s'=s) then bnd (okIf (decide (0≤i)&&decide (i<n))) fun _=>pureK (.one (.elem id ver (lo+i) s.cells 0)) else none
       | _=>none
     | _=>none
   | some ⟨.ar n s,.arr _ _⟩,some (.one p),some (.one (.val (.int _) i))=>match p with
     | .aptr id ver=>match ob id with
       | some (.arr v _ _ s' xs)=>bif Nat.beq v ver&&decide (s'=s) then bnd (okIf (decide (0≤i)&&decide (i<(n:Int)))) fun _=>bnd (inR xs.length i) fun _=>pureK (.one (.elem id ver i s.cells 0)) else
        (bif Nat.beq v ver then bnd (okIf (decide (0≤i)&&decide (i<(n:Int)))) fun _=>bnd (inR xs.length 0) fun _=>pureK (.one (.aelem id ver 0 s'.cells 0 n s i 0)) else none)
       | _=>none
     | .elem id ver i0 sz off=>match ob id with
       | some (.arr v _ _ _ _)=>bif Nat.beq v ver then bnd (okIf (decide (0≤i)&&decide (i<(n:Int)))) fun _=>pureK (.one (.aelem id ver i0 sz off n s i 0)) else none
       | _=>none
     | .fptr (.ar n' s') xs=>bif decide (s'=s)&&Nat.beq n' n then bnd (idx xs i) fun y=>pureK (.one (.fptr s' y)) else none
     | _=>none
   | _,_,_=>none
 | .index t x ix=>match look G.tab t,ev x,ev ix with
   | some ⟨.str,_⟩,some (.one (.val .str s)),some (.one (.val (.int _) i))=>bnd (idx s i) fun b=>pureK (vI .u8 (b.toNat:Int))
   | some ⟨.ar n s,.arr _ e⟩,some (.one (.val (.ar n' s') xs)),some (.one (.val (.int _) i))=>match look G.tab e with
     | some ei=>bif decide (s'=s)&&Nat.beq n' n&&decide (ei.ty=s) then bnd (idx xs i) fun y=>pureK (.one (.val s' y)) else none
     | none=>none
   | _,_,_=>none
 | .makeInterface t x=>match look G.tab t,ev x with
   | some ⟨.st s,.struct _⟩,some d=>match dvV ob (.st s) d with
     | some (y,u)=>k ⟨.one (.val (.ifc t (.st s)) y),u⟩
     | none=>none
   | _,_=>none
 | .field t x f=>match look G.tab t,ev x with
   | some ⟨_,.struct fs⟩,some (.one (.val (.st s) y))=>match fs[f]? with
     | some (off,ft)=>match look G.tab ft with
       | some fi=>match Ty.sub fi.ty s y off with
         | some z=>pureK (.one (.val fi.ty z))
         | none=>none
       | none=>none
     | none=>none
   | _,_=>none
 | .slice t x lo hi mx=>
   match look G.tab t,ev x with
   | some ⟨.str,_⟩,some (.one (.val .str s))=>match mx with
     | none=>optK ev lo 0 fun l=>optK ev hi (s.length:Int) fun h=>bnd (okIf (decide (0≤l)&&decide (l≤h)&&decide (h≤(s.length:Int)))) fun _=>pureK (vS ((s.take h.toNat).drop l.toNat))
     | some _=>none
   | some ⟨.sl s',.slice _ _⟩,some (.one (.val (.sl s) xs))=>bif decide (s=s') then (match mx with
     | none=>optK ev lo 0 fun l=>optK ev hi (xs.length:Int) fun h=>bnd (okIf (decide (0≤l)&&decide (l≤h)&&decide (h≤(xs.length:Int)))) fun _=>pureK (.one (.val (.sl s) ((xs.take h.toNat).drop l.toNat)))
     | some y=>match hi with
       | some _=>bif memN (8700000+dst) G.muts then (optK ev (some y) 0 fun m=>optK ev lo 0 fun l=>optK ev hi (xs.length:Int) fun h=>bnd (okIf (decide (0≤l)&&decide (l≤h)&&decide (h=m)&&decide (m≤(xs.length:Int)))) fun _=>pureK (.one (.val (.fl s) (show (Ty.fl s).den from (xs.take h.toNat).drop l.toNat)))) else optK ev (some y) 0 fun m=>optK ev lo 0 fun l=>optK ev hi (xs.length:Int) fun h=>bnd (okIf (decide (0≤l)&&decide (l≤h)&&decide (h≤m)&&decide (m≤(xs.length:Int)))) fun _=>pureK (.one (.val (.sl s) ((xs.take h.toNat).drop l.toNat)))
       | none=>none) else none
   | some ⟨.sl s',.slice _ _⟩,some (.one (.own id ver))=>match ob id,lo,mx with
     | some (.arr v false e s xs),none,none=>bif Nat.beq v ver&&decide (s=s') then optK ev hi (xs.length:Int) fun h=>bnd (okIf (decide (0≤h)&&decide (h≤(xs.length:Int)))) fun _=>
      k ⟨.one (.own id (ver+1)),[(id,.arr (ver+1) false e s (xs.take h.toNat))]⟩ else none
     | some (.arr v _ _ s xs),some y,none=>bif Nat.beq v ver&&decide (s=s') then optK ev (some y) 0 fun l=>optK ev hi (xs.length:Int) fun h=>bnd (okIf (decide (0≤l)&&decide (l≤h)&&decide (h≤(xs.length:Int)))) fun _=>
      pureK (.one (.win id ver l (h-l))) else none
     | _,_,_=>none
   | some ⟨.ar n s',.arr _ _⟩,some (.one (.aptr id ver))=>match ob id,mx with
     | some (.arr v _ _ s xs),none=>bif Nat.beq v ver&&decide (s=s') then bnd (okIf (decide (xs.length=n))) fun _=>optK ev lo 0 fun l=>optK ev hi (n:Int) fun h=>bnd (okIf (decide (0≤l)&&decide (l≤h)&&decide (h≤(n:Int)))) fun _=>
      pureK (.one (.win id ver l (h-l))) else none
     | _,_=>none
   | some ⟨.ar n s',.arr _ _⟩,some (.one (.fptr (.ar n2 s) xs))=>match mx with
     | none=>bif decide (s=s')&&Nat.beq n2 n&&Nat.ble n 1048576 then optK ev lo 0 fun l=>optK ev hi (n:Int) fun h=>bnd (okIf (decide (0≤l)&&decide (l≤h)&&decide (h≤(n:Int)))) fun _=>
      pureK (.one (.val (.sl s) (List.drop l.toNat (List.take h.toNat (show List s.den from xs))))) else none
     | some _=>none
   | some ⟨.sl s',.slice _ _⟩,some (.one (.win id ver lo0 n0))=>match ob id,mx with
     | some (.arr v _ _ s _),none=>bif Nat.beq v ver&&decide (s=s') then optK ev lo 0 fun l=>optK ev hi n0 fun h=>bnd (okIf (decide (0≤l)&&decide (l≤h)&&decide (h≤n0))) fun _=>
      pureK (.one (.win id ver (lo0+l) (h-l))) else none
     | _,_=>none
   | _,_=>none
 | .makeMap t none=>match look G.tab t with
   | some ⟨.nilv 2,.map _ _ j u⟩=>(match verOf ob dst with
     | some ver=>k ⟨.one (.own dst ver),[(dst,.arr ver false t (mapTy j u) mempty)]⟩
     | none=>none)
   | _=>none
 | .lookup t x ix ok=>match look G.tab t,ev x,ev ix with
   | some ⟨.nilv 2,.map _ _ j u⟩,some (.one (.own id ver)),some (.one (.val (.int j') n))=>(match ob id with
     | some (.arr v _ _ s xs)=>if h:s=mapTy j u then (bif Nat.beq v ver&&decide (j'=j) then
      (bif ok then pureK (.tup [.val (.int u) (mzero (mget (show List (mapTy j u).den from h▸xs) n)),.val .bool (mget (show List (mapTy j u).den from h▸xs) n).isSome]) else pureK (vI u (mzero (mget (show List (mapTy j u).den from h▸xs) n)))) else none) else none
     | _=>none)
   | _,_,_=>none
 | .mapUpdate t m kx vx=>match look G.tab t,ev m,ev kx,ev vx with
   | some ⟨.nilv 2,.map _ _ j u⟩,some (.one (.own id ver)),some (.one (.val (.int j') n)),some (.one (.val (.int u') y))=>(match ob id with
     | some (.arr v false e s xs)=>if h:s=mapTy j u then (bif Nat.beq v ver&&decide (j'=j)&&decide (u'=u) then
      k ⟨.tup [],[(id,.arr v false e (mapTy j u) (mput (show List (mapTy j u).den from h▸xs) n y))]⟩ else none) else none
     | _=>none)
   | _,_,_,_=>none
 | .makeSlice t l c=>match look G.tab t with
   | some ⟨.sl s,.slice e by_⟩=>optK ev (some l) 0 fun n=>optK ev (some c) 0 fun m=>
     bnd (okIf (decide (0≤n)&&decide (n≤m)&&decide (m*(by_:Int)≤140737488355328)&&decide (m≤140737488355328))) fun _=>
      (match verOf ob dst with
      | some ver=>k ⟨.one (.own dst ver),[(dst,.arr ver false e s (List.replicate n.toNat s.zero))]⟩
      | none=>none)
   | _=>none
 | .buildSlice t n ps=>match look G.tab t with
   | some ⟨.sl s,.slice e _⟩=>
     match UT ob ev s 0 ps.toList with
     | some (ys,u)=>bif Nat.beq ys.length n&&Nat.ble (n*s.cells) 65536 then (match verOf ob dst with
       | some ver=>k ⟨.one (.own dst ver),u++[(dst,.arr ver false e s ys)]⟩
       | none=>none) else none
     | none=>none
   | _=>none
 | .call c=>match c.callee with
   | .builtin .len=>match c.args.toList,c.argTypes.toList with
     | [x],[t]=>match look G.tab t,ev x with
       | some ⟨.str,_⟩,some (.one (.val .str s))=>pureK (vI .i64 (s.length:Int))
       | some ⟨.sl _,.slice _ _⟩,some (.one .nilS)=>pureK (vI .i64 0)
       | some ⟨.sl _,.slice _ _⟩,some d=>Yq ob (fun _ xs=>pureK (vI .i64 (xs.length:Int))) d
       | _,_=>none
     | _,_=>none
   | .builtin .min=>match c.args.toList with
     | [x,y]=>match ev x,ev y with
       | some (.one (.val (.int j) m)),some (.one (.val (.int _) n))=>pureK (vI j (min m n))
       | _,_=>none
     | _=>none
   | .builtin .max=>match c.args.toList with
     | [x,y]=>match ev x,ev y with
       | some (.one (.val (.int j) m)),some (.one (.val (.int _) n))=>pureK (vI j (max m n))
       | _,_=>none
     | _=>none
   | .builtin .append=>match c.args.toList,c.argTypes.toList with
     | [x,y],[t,t']=>bif Nat.beq t t' then (match look G.tab t,ev x,ev y with
       | some ⟨.sl s,.slice e by_⟩,some dx,some dy=>
         let app (id ver:Nat) (xs:List s.den):Option ρ:=
          Yq ob (fun s' ys=>if h:s'=s then
           bnd (okIf (decide ((xs.length+ys.length)*by_≤YE)&&decide (xs.length+ys.length≤YE))) fun _=>
            k ⟨.one (.own id ver),[(id,.arr ver false e s (xs++(h▸ys)))]⟩ else none) dy
         match dx with
         | .one .nilS=>(match verOf ob dst with
           | some ver=>app dst ver []
           | none=>none)
         | .one (.own id ver)=>match ob id with
           | some (.arr v false e' s' xs)=>if h:s'=s then (bif Nat.beq v ver&&Nat.beq e' e then app id (ver+1) (h▸xs) else none) else none
           | _=>none
         | .one (.val (.fl s') xs)=>if h:s'=s then (match verOf ob dst with
           | some ver=>Yq ob (fun s2 ys=>if h2:s2=s then
            bnd (okIf (decide (0<ys.length)&&(decide (((show List s'.den from xs).length+ys.length)*by_≤YE)&&decide ((show List s'.den from xs).length+ys.length≤YE)))) fun _=>
             k ⟨.one (.own dst ver),[(dst,.arr ver false e s ((h▸(show List s'.den from xs))++(h2▸ys)))]⟩ else none) dy
           | none=>none) else none
         | _=>none
       | _,_,_=>none) else (match look G.tab t,look G.tab t',ev x,ev y with
       | some ⟨.sl (.int .u8),.slice e by_⟩,some ⟨.str,_⟩,some dx,some (.one (.val .str bs))=>bif Nat.beq by_ 1 then (match dx with
         | .one .nilS=>(match verOf ob dst with
           | some ver=>bnd (okIf (decide (bs.length≤YE))) fun _=>k ⟨.one (.own dst ver),[(dst,.arr ver false e (.int .u8) (show List (Ty.int .u8).den from bs.map fun b=>(b.toNat:Int)))]⟩
           | none=>none)
         | .one (.own id ver)=>match ob id with
           | some (.arr v false e' s' xs)=>if h:s'=.int .u8 then (bif Nat.beq v ver&&Nat.beq e' e then bnd (okIf (decide (xs.length+bs.length≤YE))) fun _=>
            k ⟨.one (.own id (ver+1)),[(id,.arr (ver+1) false e (.int .u8) ((show List (Ty.int .u8).den from h▸xs)++(show List (Ty.int .u8).den from bs.map fun b=>(b.toNat:Int))))]⟩ else none) else none
           | _=>none
         | _=>none) else none
       | _,_,_,_=>none)
     | _,_=>none
   | .value x=>match Ue ob (ev x),evAll ev c.args.toList with
     | some (f,fs,cs),some as=>match look G.fns f with
       | some ce=>match args ob ce.params (fs++as++cs) with
         | some (xs,u)=>bnd (ce.F xs) fun r=>k ⟨resDv ce.res r,bif ce.res.all Ty.free then [] else u⟩
         | none=>none
       | none=>HP ob dst f (fs++as++cs) k G.mfns
     | _,_=>none
   | _=>none
 | .makeFunc (.func f) first caps=>match evAll ev first.toList,evAll ev caps.toList with
   | some fs,some cs=>match onesD fs,onesD cs with
     | some a,some b=>bif isNil a&&isNil b then pureK (.one (.fn f)) else (match ob dst with
       | none=>k ⟨.one (.clo dst),[(dst,.clo f a b)]⟩
       | some _=>none)
     | _,_=>none
   | _,_=>none
 | .nilCheck x=>match ev x with
   | some (.one (.ref id off))=>match ob id with
     | some (.box _)=>pureK (.one (.ref id off))
     | _=>none
   | some (.one (.fptr t d))=>pureK (.one (.fptr t d))
   | some (.one (.aptr id ver))=>match ob id with
     | some (.arr v _ _ _ _)=>bif Nat.beq v ver then pureK (.one (.aptr id ver)) else none
     | _=>none
   | some (.one (.elem id ver i sz off))=>match ob id with
     | some (.arr v _ _ _ _)=>bif Nat.beq v ver then pureK (.one (.elem id ver i sz off)) else none
     | _=>none
   | some (.one (.fn f))=>pureK (.one (.fn f))
   | some (.one (.clo id))=>match ob id with
     | some (.clo _ _ _)=>pureK (.one (.clo id))
     | _=>none
   | _=>none
 | _=>none
abbrev Ex:=Nat
def constAt:Value→Option At
 | .int k n=>some (.val (.int k) n)
 | .bool b=>some (.val .bool b)
 | .string s=>some (.val .str s.data.toList)
 | .slice none 0 0=>some .nilS
 | _=>none
def UJ:List Value→Option (List At)
 | []=>some []
 | v::r=>match constAt v,UJ r with
   | some a,some l=>some (a::l)
   | _,_=>none
def evSt (st:St):Operand→Option Dv
 | .tmp t=>look st.slots t
 | .const (.agg vs)=>match UJ vs.toList with
   | some cs=>some (.agg cs)
   | none=>none
 | .const (.int k n)=>some (vI k n)
 | .const (.bool b)=>some (vB b)
 | .const (.string s)=>some (vS s.data.toList)
 | .const (.slice none 0 0)=>some (.one .nilS)
 | .const (.pointer none)=>some (.one (.val (.nilv 0) ()))
 | .const (.map none)=>some (.one (.val (.nilv 2) ()))
 | .const .nilIface=>some (.one (.val (.nilv 1) ()))
 | .const .nilFunc=>some (.one (.val (.nilv 3) ()))
 | .func f=>some (.one (.fn f))
 | _=>none
def Dv.mentions (id:Nat):Dv→Bool
 | .one a=>a.mentions id
 | .agg cs=>cs.any (·.mentions id)
 | .tup cs=>cs.any (·.mentions id)
def Ob.mentions (id:Nat):Ob→Bool
 | .box cs=>cs.any (·.mentions id)
 | .arr ..=>false
 | .gone=>false
 | .clo _ a b=>a.any (·.mentions id)||b.any (·.mentions id)
def St.free (st:St) (id:Nat):Bool:=
 (st.slots.all fun p=>!p.2.mentions id)&&(st.objs.all fun p=>!Nat.beq p.1 id && !p.2.mentions id)
def At.hasVer (id ver:Nat):At→Bool
 | .own i v=>Nat.beq i id&&Nat.beq v ver
 | .win i v _ _=>Nat.beq i id&&Nat.beq v ver
 | .elem i v _ _ _=>Nat.beq i id&&Nat.beq v ver
 | .aptr i v=>Nat.beq i id&&Nat.beq v ver
 | .aelem i v _ _ _ _ _ _ _=>Nat.beq i id&&Nat.beq v ver
 | _=>false
def Dv.hasVer (id ver:Nat):Dv→Bool
 | .one a=>a.hasVer id ver
 | .agg cs=>cs.any (·.hasVer id ver)
 | .tup cs=>cs.any (·.hasVer id ver)
def Ob.hasVer (id ver:Nat):Ob→Bool
 | .box cs=>cs.any (·.hasVer id ver)
 | .arr ..=>false
 | .gone=>false
 | .clo _ a b=>a.any (·.hasVer id ver)||b.any (·.hasVer id ver)
def St.noVer (st:St) (id ver:Nat):Bool:=
 (st.slots.all fun p=>!p.2.hasVer id ver)&&(st.objs.all fun p=>!p.2.hasVer id ver)
def mayOb (st:St) (id:Nat) (ob:Ob):Bool:=match look st.objs id with
 | none=>Nat.blt id gBox&&st.free id
 | some (.box _)=>match ob with
   | .box _=>true
   | _=>false
 | some (.arr v _ _ _ _)=>match ob with
   | .arr v' _ _ _ _=>Nat.beq v v'||(!Nat.beq v' 0&&st.noVer id v')
   | .gone=>true
   | _=>false
 | some .gone=>match ob with
   | .gone=>true
   | _=>false
 | some (.clo _ _ _)=>false
def JE (st:St):Upd→Option St
 | []=>some st
 | (id,ob)::r=>bif mayOb st id ob then JE ⟨st.slots,ins id ob st.objs⟩ r else none
def lay (n:Nat) (st:St) (dst:Option Nat) (d:Dv) (u:Upd):Option St:=match JE st u with
 | some st'=>match dst with
   | some t=>bif Nat.blt t n then some ⟨ins t d st'.slots,st'.objs⟩ else none
   | none=>some st'
 | none=>none
def guardSlots (ops:List Oper):List Nat:=
 ops.filterMap fun o=>o.guard.bind fun g=>(ops[g.1]?).bind (·.dst)
def layK (n:Nat) (st:St) (dst:Option Nat) (d:Dv) (u:Upd) (k:St→Option ρ):Option ρ:=match lay n st dst d u with
 | some st'=>k st'
 | none=>none
def partK (gs:List Nat) (dst:Option Nat) (d:Dv) (k:Dv→Option ρ):Option ρ:=match dst with
 | some t=>bif memN t gs then (match d with
  | .one (.val .bool b)=>br b (k (vB true)) (k (vB false))
  | _=>none) else k d
 | none=>k d
open Classical in
def both {α:Type} (x y:Option α):Option α:=if x=y then x else none
def Vq (tab:List (Nat×TI)) (o:Oper) (ev:Operand→Option Dv) (ob:Objs):Option (Bool×Bool):=match o.op with
 | .binOp op xt x y _=>match look tab xt,ev x,ev y with
   | some ⟨.sl _,.slice _ _⟩,some d,some (.one .nilS)=>(match op with
     | .eql=>Yq ob (fun _ xs=>some (true,xs.isEmpty)) d
     | .neq=>Yq ob (fun _ xs=>some (false,xs.isEmpty)) d
     | _=>none)
   | _,_,_=>none
 | _=>none
def payId:Nat:=900001
def pEx:Ex:=1000000
def pBad:Nat:=999998
def thrown (st:St) (a:At):Option St:=bif mayOb st payId (.clo 0 [] [a]) && !a.mentions payId then some ⟨st.slots,ins payId (.clo 0 [] [a]) st.objs⟩ else none
def maltOf (alts:List (Nat×MAlt)) (dst f:Nat):Option MAlt:=match look alts (1000000+dst) with
 | some ma=>bif Nat.beq ma.fn f then some ma else look alts f
 | none=>look alts f
def altOf (G:Env) (o:Oper) (ev:Operand→Option Dv) (ob:Objs):Option (MAlt×List Dv):=match o.op with
 | .call c=>match c.callee with
   | .value x=>match Ue ob (ev x),evAll ev c.args.toList with
     | some (f,fs,cs),some as=>match look G.fns f,mcallOf G.mfns (o.dst.getD 0) f,maltOf G.alts (o.dst.getD 0) f with
       | none,none,some ma=>bif Nat.beq ma.fn f&&calmP ma.pre.objs then some (ma,fs++as++cs) else none
       | _,_,_=>none
     | _,_=>none
   | _=>none
 | _=>none
def altK (G:Env) (gs:List Nat) (o:Oper) (st:St) (ma:MAlt) (ds:List Dv) (k kp:St→Option ρ):Option ρ:=match Yh (look st.objs) [] ma.pre ds with
 | some (x,u,σ)=>bnd (ma.F x) fun r=>sel r
   (fun y=>match backK (look st.objs) (o.dst.getD 0) σ (ma.post.inj y) with
    | some (d,v)=>partK gs o.dst d fun d=>layK G.n st o.dst d (u++v) k
    | none=>none)
   (fun y=>match backK (look st.objs) (o.dst.getD 0) σ (ma.post2.inj y) with
    | some (d,v)=>bif ma.pan then (match JE st (u++v),d with
     | some st',.one a=>(match thrown st' a with
       | some s=>kp s
       | none=>none)
     | _,_=>none) else partK gs o.dst d fun d=>layK G.n st o.dst d (u++v) k
    | none=>none)
 | none=>none
def stepK (G:Env)(ops:List Oper)(gs:List Nat)(o:Oper)(st:St) (k kp:St→Option ρ):Option ρ:=
 let run (_:Unit):Option ρ:=match Vq G.tab o (evSt st) (look st.objs) with
  | some (q,emp)=>
    br emp (bif memN (46000000+o.dst.getD 0) G.muts then none else both (partK gs o.dst (vB q) fun d=>layK G.n st o.dst d [] k) (partK gs o.dst (vB !q) fun d=>layK G.n st o.dst d [] k))
     (partK gs o.dst (vB !q) fun d=>layK G.n st o.dst d [] k)
  | none=>match o.op with
    | .panic x=>match evSt st x with
      | some (.one (.val (.ifc T s) y))=>(match thrown st (.val (.ifc T s) y) with
        | some s=>kp s
        | none=>none)
      | _=>none
    | _=>match altOf G o (evSt st) (look st.objs) with
      | some (ma,ds)=>altK G gs o st ma ds k kp
      | none=>effK G o (o.dst.getD 0) (evSt st) (look st.objs) fun e=>
        partK gs o.dst e.dv fun d=>layK G.n st o.dst d e.upd k
 match o.guard with
 | none=>run ()
 | some (j,want)=>match (ops[j]?).bind (·.dst) with
   | some g=>match look st.slots g with
     | some (.one (.val .bool b))=>br (b==want) (run ()) (layK G.n st o.dst (.tup []) [] k)
     | some (.tup [])=>layK G.n st o.dst (.tup []) [] k
     | _=>none
   | none=>none
def opsK (G:Env) (ops:List Oper) (gs:List Nat):List Oper→St→(k kp:St→Option ρ)→Option ρ
 | [],st,k,_=>k st
 | o::r,st,k,kp=>stepK G ops gs o st (fun st'=>opsK G ops gs r st' k kp) kp
def Uk (id ver:Nat):Nat:=bif Nat.ble gFix id then ver else 0
def YH (muts:List Nat) (objs:List (Nat×Ob)):At→At
 | .own id ver=>match look objs id with
   | some (.arr v fz _ t xs)=>bif Nat.beq v ver then (bif fz || !memN id muts then (bif t.isMap then .junk else .val (.sl t) xs) else .own id (Uk id ver)) else .junk
   | _=>.junk
 | .win id ver lo n=>match look objs id with
   | some (.arr v fz _ t xs)=>bif Nat.beq v ver then (bif fz || !memN id muts then (bif t.isMap then .junk else .val (.sl t) (part lo n xs)) else .win id (Uk id ver) lo n) else .junk
   | _=>.junk
 | .aptr id ver=>match look objs id with
   | some (.arr v fz _ _ _)=>bif Nat.beq v ver then (bif fz || !memN id muts then .junk else .aptr id (Uk id ver)) else .junk
   | _=>.junk
 | .elem ..=>.junk
 | .aelem ..=>.junk
 | a=>a
def convDv (muts:List Nat) (objs:List (Nat×Ob)):Dv→Dv
 | .one a=>.one (YH muts objs a)
 | .agg cs=>.agg (cs.map (YH muts objs))
 | .tup cs=>.tup (cs.map (YH muts objs))
def Vu (G:Env) (objs:List (Nat×Ob)):List (Nat×Dv)→List (Nat×Dv)
 | []=>[]
 | (t,d)::r=>bif memN t G.keep then (t,convDv G.muts objs d)::Vu G objs r else Vu G objs r
def kZ (G:Env) (objs:List (Nat×Ob)):List (Nat×Ob)→List (Nat×Ob)
 | []=>[]
 | (id,.box cs)::r=>(id,.box (cs.map (YH G.muts objs)))::kZ G objs r
 | (id,.arr v fz e t xs)::r=>bif fz || !memN id G.muts then (bif fz&&memN (20000000+id) G.muts then (id,.gone)::kZ G objs r else del id (kZ G objs r)) else (id,.arr (Uk id v) false e t xs)::kZ G objs r
 | (id,.clo f a b)::r=>(id,.clo f (a.map (YH G.muts objs)) (b.map (YH G.muts objs)))::kZ G objs r
 | (id,.gone)::r=>(id,.gone)::kZ G objs r
def norm (G:Env) (st:St):St:=⟨Vu G st.objs st.slots,kZ G st.objs st.objs⟩
def onlyP {α:Type} (p:Nat→Bool):List (Nat×α)→List (Nat×α)
 | []=>[]
 | (t,d)::r=>bif p t then (t,d)::onlyP p r else onlyP p r
def only {α β:Type} (dom:List (Nat×β)) (l:List (Nat×α)):List (Nat×α):=onlyP (fun t=>(look dom t).isSome) l
def onlyO {α β:Type} (dom:List (Nat×β)) (l:List (Nat×α)):List (Nat×α):=onlyP (fun t=>(look dom t).isSome||(Nat.ble 900000 t&&Nat.blt t gBox)) l
def restrict (dom st:St):St:=⟨only dom.slots st.slots,onlyO dom.objs st.objs⟩
def domJ (G:Env) (key:Nat) (st:St):St:=⟨st.slots++(G.keep.filter fun t=>memN (1000000000000+key*10000+t) G.muts).map fun t=>(t,Dv.tup []),st.objs⟩
def iterN {S R:Type} (f:S→Option (S⊕R)):Nat→S→Option R
 | 0,_=>none
 | n+1,s=>match f s with
   | some (.inl s')=>iterN f n s'
   | some (.inr r)=>some r
   | none=>none
open Classical in
def iter {S R:Type} (f:S→Option (S⊕R)) (s:S):Option R:=
 if h:∃n r,iterN f n s=some r then some (Classical.choose (Classical.choose_spec h)) else none
def UK (id:Nat):Code→Nat
 | .seq a b=>UK id a+UK id b
 | .cond _ a b=>UK id a+UK id b
 | .block _ c=>UK id c
 | .loop c=>min 1 (UK id c)
 | .exit j=>bif Nat.beq j id then 1 else 0
 | _=>0
def isSkip:Code→Bool
 | .skip=>true
 | _=>false
def ways:Code→Nat
 | .seq a b=>(bif !isSkip b&&Nat.ble 2 (ways a) then 1 else ways a)*ways b
 | .cond _ a b=>ways a+ways b
 | .block id c=>ways c+UK id c
 | .loop _=>0
 | .exit _=>0
 | .ret=>0
 | _=>1
def nodes:Code→Nat
 | .seq a b=>nodes a+nodes b+1
 | .cond _ a b=>nodes a+nodes b+1
 | .block _ c=>nodes c+1
 | .loop c=>nodes c+1
 | _=>1
def YS:Code→Nat
 | .seq a _=>YS a
 | .cond _ a b=>let x:=YS a;bif Nat.beq x 99999 then YS b else x
 | .block _ c=>YS c
 | .loop c=>YS c
 | .region id _ _=>id
 | _=>99999
def joins (a b:Code):Bool:=!isSkip b&&Nat.ble 2 (ways a)
def hasGuards (ops:Array Oper):Bool:=ops.toList.any fun o=>o.guard.isSome
def keyLoop (c:Code):Nat:=100000+YS c
def Hg (c:Code):Nat:=200000+4096*YS c+nodes c
end
structure Tr where
 dst:Option Nat
 dv:Option Dv
 upd:Upd
 need:List Nat
def evM (st:St) (hide:List Nat):Operand→Option Dv
 | .tmp t=>bif memN t hide then none else look st.slots t
 | x=>evSt st x
def obM (st:St) (hide:List Nat) (id:Nat):Option Ob:=bif memN id hide then none else look st.objs id
def Hl:Upd→Bool
 | []=>true
 | (id,_)::r=>(r.all fun p=>!Nat.beq p.1 id)&&Hl r
def okUpd (wr:List Nat) (u:Upd):Bool:=(u.all fun p=>memN p.1 wr)&&Hl u
def need1 (st:St) (id:Nat) (ob:Ob):Nat:=match look st.objs id with
 | none=>1
 | some (.box _)=>0
 | some (.arr v _ _ _ _)=>match ob with
   | .arr v' _ _ _ _=>bif Nat.beq v v' then 0 else 2
   | _=>0
 | some (.clo _ _ _)=>0
 | some .gone=>0
def UC (st:St):Upd→List Nat
 | []=>[]
 | (id,ob)::r=>need1 st id ob::UC st r
def altD {ρ:Type} (ma:MAlt) (ds:List Dv) (dst:Nat) (ob:Objs) (k:Eff→Option ρ) (kp:At→Upd→Option ρ):Option ρ:=match Yh ob [] ma.pre ds with
 | some (x,u,σ)=>bnd (ma.F x) fun r=>sel r
   (fun y=>match backK ob dst σ (ma.post.inj y) with
    | some (d,v)=>k ⟨d,u++v⟩
    | none=>none)
   (fun y=>match backK ob dst σ (ma.post2.inj y) with
    | some (.one a,v)=>bif ma.pan then kp a (u++v) else none
    | _=>none)
 | none=>none
abbrev Pm:=Nat×At×Upd
def hangs (pm:Option Pm) (h:Hint):Bool:=match pm with
 | some q=>memN q.1 h.pre
 | none=>false
def altD? (G:Env) (pm:Option Pm) (o:Oper) (ev:Operand→Option Dv) (ob:Objs):Option (MAlt×List Dv):=match pm with
 | none=>altOf G o ev ob
 | some _=>none
def idle (o:Oper):Tr:=⟨o.dst,none,[],[]⟩
def drawK {ρ:Type} (G:Env) (ops:List Oper) (gs:List Nat):List (Oper×Hint)→St→List Tr→Option Pm→(Option Pm→St→List Tr→Option ρ)→Option ρ
 | [],st,tr,pm,k=>k pm st tr
 | (o,h)::r,st,tr,pm,k=>
   let done (e:Eff):Option ρ:=bif okUpd h.wr e.upd then partK gs o.dst e.dv fun d=>layK G.n st o.dst d e.upd fun st'=>drawK G ops gs r st' (tr++[⟨o.dst,some d,e.upd,UC st e.upd⟩]) pm k else none
   let run (_:Unit):Option ρ:=match altD? G pm o (evM st h.hideS) (obM st h.hideO) with
    | some (ma,ds)=>altD ma ds (o.dst.getD 0) (obM st h.hideO) done fun a u=>drawK G ops gs r st (tr++[idle o]) (some (tr.length,a,u)) k
    | none=>effK G o (o.dst.getD 0) (evM st h.hideS) (obM st h.hideO) done
   bif hangs pm h then drawK G ops gs r st (tr++[idle o]) pm k else
   match o.guard with
   | none=>run ()
   | some (j,want)=>match (ops[j]?).bind (·.dst) with
     | some g=>bif memN g h.hideS then none else match look st.slots g with
       | some (.one (.val .bool b))=>br (b==want) (run ()) (layK G.n st o.dst (.tup []) [] fun st'=>drawK G ops gs r st' (tr++[⟨o.dst,some (.tup []),[],[]⟩]) pm k)
       | some (.tup [])=>layK G.n st o.dst (.tup []) [] fun st'=>drawK G ops gs r st' (tr++[⟨o.dst,some (.tup []),[],[]⟩]) pm k
       | _=>none
     | none=>none
def Tr.noMention (id:Nat) (t:Tr):Bool:=
 (match t.dv with | some d=>!d.mentions id | none=>true)&&t.upd.all fun p=>!Nat.beq p.1 id && !p.2.mentions id
def Tr.noVer (id ver:Nat) (t:Tr):Bool:=
 (match t.dv with | some d=>!d.hasVer id ver | none=>true)&&t.upd.all fun p=>!p.2.hasVer id ver
def preOf (hs:List Hint) (j:Nat):List Nat:=match hs[j]? with
 | some h=>h.pre
 | none=>[]
def UN (hs:List Hint) (i:Nat) (p:Tr→Bool):Nat→List Tr→Bool
 | _,[]=>true
 | j,t::r=>(Nat.beq i j||memN i (preOf hs j)||p t)&&UN hs i p (j+1) r
def clean1 (hs:List Hint) (st0:St) (trs:List Tr) (i:Nat) (ahead:Upd) (id:Nat) (ob:Ob):Nat→Bool
 | 0=>true
 | 1=>st0.free id&&(ahead.all fun p=>!Nat.beq p.1 id && !p.2.mentions id)&&UN hs i (Tr.noMention id) 0 trs
 | _=>match ob with
   | .arr v _ _ _ _=>st0.noVer id v&&(ahead.all fun p=>!p.2.hasVer id v)&&UN hs i (Tr.noVer id v) 0 trs
   | _=>false
def cleanU (hs:List Hint) (st0:St) (trs:List Tr) (i:Nat):Upd→Upd→List Nat→Bool
 | _,[],_=>true
 | ahead,(id,ob)::r,n::ns=>clean1 hs st0 trs i ahead id ob n&&cleanU hs st0 trs i (ahead++[(id,ob)]) r ns
 | _,_::_,[]=>false
def cleanI (hs:List Hint) (st0:St) (trs:List Tr) (i:Nat) (t:Tr):Bool:=cleanU hs st0 trs i [] t.upd t.need
def VI (hs:List Hint) (st0:St) (trs:List Tr):Nat→List Tr→Bool
 | _,[]=>true
 | i,t::r=>cleanI hs st0 trs i t&&VI hs st0 trs (i+1) r
def kh:Upd→List (Nat×Ob)→List (Nat×Ob)
 | [],l=>l
 | (id,ob)::r,l=>kh r (ins id ob l)
def sameOb:Option Ob→Ob→Bool
 | some (.box _),.box _=>true
 | some (.arr v _ _ _ _),.arr v' _ _ _ _=>Nat.beq v v'
 | some (.arr ..),.gone=>true
 | some .gone,.gone=>true
 | _,_=>false
def Tr.lay (t:Tr) (st:St):St:=
 ⟨match t.dst with
  | some s=>(match t.dv with
    | some d=>ins s d st.slots
    | none=>st.slots)
  | none=>st.slots,
  kh t.upd st.objs⟩
def foldS (S:Nat→Bool):Nat→List Tr→St→St
 | _,[],st=>st
 | i,t::r,st=>foldS S (i+1) r (bif S i then t.lay st else st)
def preSt (hs:List Hint) (m:Nat) (tr:List Tr) (st:St):St:=foldS (fun k=>memN k (preOf hs m)) 0 tr st
def othersNew (pre:List Nat) (objs:List (Nat×Ob)):Nat→List Tr→Bool
 | _,[]=>true
 | i,t::r=>(memN i pre||t.upd.all fun p=>(look objs p.1).isNone)&&othersNew pre objs (i+1) r
def panOk (hs:List Hint) (m:Nat) (st:St) (tr:List Tr) (a:At) (u:Upd):Bool:=
 st.free payId&&(tr.all fun t=>t.noMention payId)&&othersNew (preOf hs m) (preSt hs m tr st).objs 0 tr&&Hl u &&
  (u.all fun p=>sameOb (look (preSt hs m tr st).objs p.1) p.2 && !Nat.beq p.1 payId && !p.2.mentions payId) && !a.mentions payId
def panKeep (G:Env):List Nat:=(G.muts.filter fun m=>Nat.ble 48000000 m&&Nat.blt m 48100000).map (· - 48000000)
def Vi (ks:List Nat) (tr:List Tr):List (Nat×Dv)→List (Nat×Dv)
 | []=>[]
 | p::r=>bif memN p.1 ks&&tr.all (fun t=>match t.dst with | some s=>!Nat.beq s p.1 | none=>true) then p::Vi ks tr r else Vi ks tr r
def panSt (ks:List Nat) (hs:List Hint) (m:Nat) (tr:List Tr) (st:St) (a:At) (u:Upd):St:=⟨Vi ks tr st.slots,ins payId (.clo 0 [] [a]) (kh u (preSt hs m tr st).objs)⟩
def forgetL (id:Nat):List Nat→List Nat
 | []=>[]
 | m::r=>bif Nat.ble 7000000 m&&Nat.beq ((m-7000000) / 1000) id then (m-7000000) % 1000::forgetL id r else bif Nat.ble 40000000 m&&Nat.beq ((m-40000000) / 100000) id then (m-40000000) % 100000::forgetL id r else forgetL id r
def dels {α:Type}:List Nat→List (Nat×α)→List (Nat×α)
 | _,[]=>[]
 | l,(s,u)::r=>bif memN s l then dels l r else (s,u)::dels l r
def forget (l:List Nat) (st:St):St:=match l with
 | []=>st
 | l=>restrict ⟨dels l st.slots,dels l st.objs⟩ st
def coldL (id:Nat):List Nat→List Nat
 | []=>[]
 | m::r=>bif Nat.ble 900000000 m&&Nat.beq ((m-900000000) / 100000) id then (m-900000000) % 100000::coldL id r else coldL id r
def cooled (G:Env) (id:Nat):Env:=match coldL id G.muts with
 | []=>G
 | l=>{ G with muts:=G.muts.filter fun m=>!memN m l }
def VK (G:Env)(id:Nat)(ops:Array Oper)(draws:Bool) (ρ:Type)(st:St)(k:Ex→St→Option ρ):Option ρ:=
 bif draws then (match look G.fps id with
  | some hs=>drawK G ops.toList (guardSlots ops.toList) (ops.toList.zip hs) st [] none fun pm st' tr=>bif VI hs st tr 0 tr then (match pm with
    | none=>k 0 (norm G st')
    | some q=>bif panOk hs q.1 st tr q.2.1 q.2.2 then k pEx (norm G (panSt (panKeep G) hs q.1 tr st q.2.1 q.2.2)) else none) else none
  | none=>none)
 else opsK G ops.toList (guardSlots ops.toList) ops.toList st (fun st'=>k 0 (forget (forgetL id G.muts) (norm (cooled G id) st'))) fun st'=>k pEx (norm G st')
def Yu (e:Ex):Bool:=Nat.beq e 0
def delC (G:Env) (t:Nat) (st:St):St:=bif memN (2000000000000+t) G.muts then st else ⟨del t st.slots,st.objs⟩
def VH:(ts:List Ty)→List At→Option (dens ts)
 | [],[]=>some ()
 | [t],[.fptr s d]=>if h:s=t then some (h▸d) else none
 | t::t'::ts,.fptr s d::r=>match VH (t'::ts) r with
   | some y=>if h:s=t then some (h▸d,y) else none
   | none=>none
 | _,_=>none
def seqOf (G:Env) (st:St):Operand→Option (IntKind×List Int)
 | .tmp t=>match look st.slots t with
   | some (.one (.clo id))=>match look st.objs id with
     | some (.clo f [] b)=>match look G.eqs.seqs f with
       | some sc=>bif Nat.beq sc.fn f then (VH sc.caps b).map fun x=>(sc.k,sc.L x) else none
       | none=>none
     | _=>none
   | _=>none
 | _=>none
def Hm:Code→Option (Nat×Nat)
 | .region _ ops false=>match ops.toList with
   | [⟨some t,.assign (.tmp p),_,_,_,none⟩]=>some (p,t)
   | _=>none
 | _=>none
def calmO:List (Nat×Ob)→Bool
 | []=>true
 | (_,.box _)::r=>calmO r
 | (_,.arr _ fz _ t _)::r=>!fz&&(!t.isMap&&calmO r)
 | (_,.clo _ _ _)::r=>calmO r
 | (_,.gone)::_=>false
def wrOps (ops:List Oper):List Nat:=ops.filterMap (·.dst)
def wrC:Code→List Nat
 | .region _ ops _=>wrOps ops.toList
 | .seq a b=>wrC a++wrC b
 | .cond _ a b=>wrC a++wrC b
 | .block _ c=>wrC c
 | .loop c=>wrC c
 | _=>[]
def kH:Nat:=10000000
def YK:Code→Bool
 | .seq a b=>YK a||YK b
 | .cond _ a b=>YK a||YK b
 | .block _ c=>YK c
 | .loop c=>YK c
 | .rangeFunc _ _ _ _=>true
 | _=>false
def keyRange (c:Code):Nat:=300000+YS c
def execK (G:Env):Code→(ρ:Type)→St→(Ex→St→Option ρ)→Option ρ
 | .skip,_,st,k=>k 0 st
 | .label _,_,st,k=>k 0 st
 | .region id ops d,ρ,st,k=>
   bif hasGuards ops||d then
    (match look G.cks id with
    | some s=>s.run ρ st k
    | none=>VK G id ops d ρ st k)
   else VK G id ops d ρ st k
 | .seq a b,ρ,st,k=>
   bif joins a b then
    (match look G.cks (Hg a) with
    | some s=>s.run ρ st fun e st'=>bif Yu e then execK G b ρ st' k else k e st'
    | none=>execK G a ρ st fun e st'=>bif Yu e then execK G b ρ (restrict (domJ G (Hg a) st) st') k else k e (restrict (domJ G (Hg a) st) st'))
   else execK G a ρ st fun e st'=>bif Yu e then execK G b ρ st' k else k e st'
 | .cond c a b,ρ,st,k=>match c with
   | .tmp t=>match look st.slots t with
     | some (.one (.val .bool x))=>br x (execK G a ρ (delC G t st) k) (execK G b ρ (delC G t st) k)
     | _=>none
   | .const (.bool true)=>execK G a ρ st k
   | .const (.bool false)=>execK G b ρ st k
   | _=>none
 | .block id c,ρ,st,k=>bif Nat.beq id pBad then none else execK G c ρ st fun e st'=>bif Nat.beq e (id+2) then k 0 st' else k e st'
 | .loop c,ρ,st,k=>match look G.cks (keyLoop c) with
   | some s=>s.run ρ st k
   | none=>bnd (iter (fun (s:St)=>execK G c (St⊕(Ex×St)) s fun e s'=>bif Yu e then some (.inl (restrict s s')) else some (.inr (e,restrict s s'))) st) fun p=>k p.1 p.2
 | .exit id,_,st,k=>bif Nat.beq id pBad then none else k (id+2) st
 | .ret,_,st,k=>k 1 st
 | .rangeFunc g ps asg body,ρ,st,k=>match seqOf G st g,Hm asg with
   | some (kd,xs),some (p,t)=>bif !YK body&&(ps.toList==[p])&&Nat.blt p G.n&&Nat.blt t G.n&&Nat.blt G.n kH&&calmO st.objs then
     (match look G.cks (keyRange body) with
     | some s=>s.run ρ ⟨ins kH (.one (.val (.sl (.int kd)) xs)) st.slots,st.objs⟩ k
     | none=>bnd (iter (fun (s:St)=>match look s.slots kH with
      | some (.one (.val (.sl (.int kd')) ys))=>br (List.isEmpty ys) (some (.inr (0,⟨del kH s.slots,s.objs⟩)))
        (bnd (idx ys 0) fun y=>execK G body (St⊕(Ex×St)) ⟨ins t (.one (.val (.int kd') y)) (ins p (.one (.val (.int kd') y)) (del kH s.slots)),s.objs⟩ fun e s'=>
         bif Yu e&&calmO (onlyO s.objs s'.objs) then some (.inl ⟨ins kH (.one (.val (.sl (.int kd')) (ys.drop 1))) (onlyP (fun t'=>!memN t' (p::t::kH::wrC body)) s'.slots),onlyO s.objs s'.objs⟩) else none)
      | _=>none) ⟨ins kH (.one (.val (.sl (.int kd)) xs)) st.slots,st.objs⟩) fun q=>k q.1 q.2)
     else none
   | _,_=>none
 | _,_,_,_=>none
def resK {ρ:Type} (G:Env) (st:St):List ResultVar→(List Dv→Option ρ)→Option ρ
 | [],k=>k []
 | .tmp t::r,k=>match look st.slots t with
   | some d=>resK G st r fun l=>k (d::l)
   | none=>none
 | .cell p t::r,k=>match look G.tab t,look st.slots p with
   | some ti,some (.one (.ref id 0))=>match look st.objs id with
     | some (.box cs)=>bif ti.ty.isSt then (bif Nat.ble ti.ty.cells cs.length then resK G st r fun l=>k (.agg (cs.take ti.ty.cells)::l) else none) else (match cs[0]? with
       | some a=>resK G st r fun l=>k (.one a::l)
       | none=>none)
     | _=>none
   | some ⟨.ar n s',.arr _ _⟩,some (.one (.aptr id ver))=>match look st.objs id with
     | some (.arr v _ _ s xs)=>if h:s=s' then (bif Nat.beq v ver then bnd (okIf (decide (xs.length=n))) fun _=>resK G st r fun l=>k (.one (.val (.ar n s') (h▸xs))::l) else none) else none
     | _=>none
   | some ⟨.st s',.struct _⟩,some (.one (.aptr id ver))=>match look st.objs id with
     | some (.arr v _ _ s xs)=>if h:s=.st s' then (bif Nat.beq v ver then bnd (idx xs 0) fun y=>resK G st r fun l=>k (.one (.val (.st s') (h▸y))::l) else none) else none
     | _=>none
   | _,_=>none
def finish (G:Env) (rv:List ResultVar) (ts:List Ty) (e:Ex) (st:St):Option (dens ts):=
 bif Nat.blt e 2 then resK G st rv fun l=>(match args (look st.objs) ts l with
  | some (x,_)=>some x
  | none=>none) else none
def Ho:Nat→(ts:List Ty)→dens ts→List (Nat×Dv)
 | _,[],_=>[]
 | i,[t],x=>[(i,.one (.val t x))]
 | i,t::t'::ts,x=>(i,.one (.val t x.1))::Ho (i+1) (t'::ts) x.2
def den (G:Env) (fn:Func) (ps rs:List Ty) (x:dens ps):Option (dens rs):=match fn.body with
 | some c=>execK G c (dens rs) ⟨Ho 0 ps x,[]⟩ (finish G fn.results.toList rs)
 | none=>none
def Vl:Nat→List (Nat×SD)→Bool
 | _,[]=>true
 | i,p::r=>Nat.beq i p.1&&Vl (i+1) r
def selfR:List (Nat×SO)→Ren
 | []=>[]
 | p::r=>(p.1,p.1)::selfR r
def Uz (ob:Objs) (σ:Ren):Bool:=σ.all fun p=>Nat.blt p.1 gBox||(Nat.beq p.1 p.2&&(Nat.blt p.1 gFix||(match ob p.2 with
 | some (.arr v _ _ _ _)=>Nat.beq v 0
 | _=>true)))
def finishM (G:Env) (pre post:Shape) (rv:List ResultVar) (e:Ex) (st:St):Option (densU post.tys):=
 bif Nat.blt e 2 then resK G st rv fun l=>(match Yh (look st.objs) (selfR pre.objs) post l with
  | some (y,_,σ)=>bif Uz (look st.objs) σ then some y else none
  | none=>none) else none
def denM (G:Env) (fn:Func) (pre post:Shape) (x:densU pre.tys):Option (densU post.tys):=match fn.body with
 | some c=>execK G c (densU post.tys) (pre.inj x) (finishM G pre post fn.results.toList)
 | none=>none
def HC (G:Env) (rv:List ResultVar) (ts:List Ty) (T:Nat) (p:Ty) (chk:St→Bool) (e:Ex) (st:St):Option (dens ts⊕p.den):=
 bif Nat.blt e 2 then resK G st rv fun l=>(match args (look st.objs) ts l with
  | some (x,_)=>some (.inl x)
  | none=>none)
 else bif Nat.beq e pEx&&chk st then (match look st.objs payId with
  | some (.clo 0 [] [.val s d])=>if h:s=.ifc T p then some (.inr (show p.den from (h▸d:(Ty.ifc T p).den))) else none
  | _=>none) else none
def finishA (G:Env) (pre post:Shape) (pan:Bool) (post2:Shape) (rv:List ResultVar) (e:Ex) (st:St):Option (densU post.tys⊕densU post2.tys):=
 bif Nat.blt e 2 then resK G st rv fun l=>(match Yh (look st.objs) (selfR pre.objs) post l with
  | some (y,_,σ)=>bif Uz (look st.objs) σ then some (.inl y) else none
  | none=>bif pan then none else (match Yh (look st.objs) (selfR pre.objs) post2 l with
    | some (y,_,σ)=>bif Uz (look st.objs) σ then some (.inr y) else none
    | none=>none))
 else bif pan&&Nat.beq e pEx then (match look st.objs payId with
  | some (.clo 0 [] [a])=>(match Yh (look st.objs) (selfR pre.objs) post2 [.one a] with
    | some (y,_,σ)=>bif Uz (look st.objs) σ then some (.inr y) else none
    | none=>none)
  | _=>none) else none
def denA (G:Env) (fn:Func) (pre post:Shape) (pan:Bool) (post2:Shape) (x:densU pre.tys):Option (densU post.tys⊕densU post2.tys):=match fn.body with
 | some c=>execK G c (densU post.tys⊕densU post2.tys) (pre.inj x) (finishA G pre post pan post2 fn.results.toList)
 | none=>none
end
end Go.Ql
end

section
namespace Go.Ql
def rowAt (w:World) (g:Nat) (cur:Array Value) (e:TypeId):Prop:=
 ∃fz:Nat×Nat,w.heap[g]?=some (.cells cur e fz)∧(fz=(0,0)∨cur.size≤fz.1)
section
variable {w w':World} {g:Nat} {cur:Array Value} {e:TypeId}
theorem rowAt.of (h:w.heap[g]?=some (.cells cur e (0,0))):rowAt w g cur e:=⟨_,h,.inl rfl⟩
theorem rowAt.lt (h:rowAt w g cur e):g<w.heap.size:=by
 obtain ⟨fz,h,_⟩:=h
 exact (Array.getElem?_eq_some_iff.1 h).1
theorem rowAt.cell (h:rowAt w g cur e) (j:Nat):w.cell? ⟨g,j,none⟩=cur[j]?:=by
 obtain ⟨fz,h,_⟩:=h
 exact cell_of_row w g j cur e fz h
theorem rowAt.set (h:rowAt w g cur e) {cs:Array Value} (hs:cs.size=cur.size):rowAt (w.setRow g cs) g cs e:=by
 obtain ⟨fz,h,hf⟩:=h
 exact ⟨fz,setRow_heap w g cur cs e fz h,hf.imp id fun hf=>by omega⟩
theorem rowAt.block (h:rowAt w g cur e) (hb:w'.heap[g]?=w.heap[g]?):rowAt w' g cur e:=by
 obtain ⟨fz,h,hf⟩:=h
 exact ⟨fz,by rw [hb];exact h,hf⟩
theorem rowAt.frozen (h:rowAt w g cur e) {j:Nat} (hj:j<cur.size):w.frozen? ⟨g,j,none⟩=false:=by
 obtain ⟨fz,h,hf⟩:=h
 rcases hf with rfl | hf
 ·exact frozen_of_row w g j cur e h
 ·simp only [World.frozen?,h]
  simp
  omega
end
section
variable {w:World} {g:Nat} {cur:Array Value} {e:TypeId}
theorem freeze_other (a:Addr) (n k:Nat) (h:k≠a.block):(w.freeze a n).heap[k]?=w.heap[k]?:=by
 unfold World.freeze
 split
 ·rfl
 ·simp [Array.getElem?_modify,Ne.symm h]
theorem rowAt.mark (h:rowAt w g cur e):rowAt (w.freeze ⟨g,cur.size,none⟩ 1) g cur e:=by
 have hlt:=h.lt
 obtain ⟨⟨lo,hi⟩,h,hf⟩:=h
 have hv:w.heap[g]=.cells cur e (lo,hi):=(Array.getElem?_eq_some_iff.1 h).2
 refine ⟨if lo==hi then (cur.size,cur.size+1) else (min lo cur.size,max hi (cur.size+1)),?_,.inr ?_⟩
 ·unfold World.freeze
  rw [if_neg (by decide)]
  show (Array.modify _ _ _)[g]?=_
  rw [Array.getElem?_modify,if_pos rfl,h]
  rfl
 ·by_cases hc:lo=hi
  ·simp [hc]
  ·simp only [beq_iff_eq,if_neg hc]
   rcases hf with hf | hf
   ·cases hf;exact absurd rfl hc
   ·have hf:cur.size≤lo:=hf
    show cur.size≤min lo cur.size
    omega
theorem run_convert_mark {P:Program} (h:rowAt w g cur e) {t u:TypeId} (hu:P.underlying t=some (.slice u)) (hb:P.underlying u=some (.int .u8)) (n c:Nat) :
 (convert t t (.slice (some ⟨g,0,none⟩) n c)).run P w=.ok (.slice (some ⟨g,0,none⟩) n c) (w.freeze ⟨g,cur.size,none⟩ 1):=by
 have hs:w.shape? g=some (e,cur.size):=by
  obtain ⟨fz,h,_⟩:=h
  simp [World.shape?,h]
 simp [convert,run_underlying hu,run_underlying hb,markStringish,hs]
end
def _root_.Go.World.ownsM (w:World) (e:TypeId) (size:Nat) (v:Value) (n:Nat) (xs:List Value):Prop:=
 xs.length=n*size ∧
 ((v=.slice none 0 0∧n=0) ∨
  ∃g cap cur,v=.slice (some ⟨g,0,none⟩) n cap∧rowAt w g cur e∧n≤cap∧cap≤maxLen∧cur.size=cap*size∧cur.toList.take (n*size)=xs)
section
variable {w:World} {e:TypeId} {size:Nat} {v:Value} {n:Nat} {xs:List Value}
theorem ownsM_nil (w:World) (e:TypeId) (size:Nat):w.ownsM e size (.slice none 0 0) 0 []:=⟨by simp,.inl ⟨rfl,rfl⟩⟩
theorem ownsM_cells {g m c:Nat} (h:w.ownsM e size (.slice (some ⟨g,0,none⟩) m c) n xs):∀j u,xs[j]?=some u→w.cell? ((⟨g,0,none⟩:Addr).add j)=some u:=by
 intro j u hj
 rcases h.2 with ⟨e1,_⟩ | ⟨g',cap,cur,e1,h2,_,_,_,h6⟩
 ·cases e1
 ·cases e1
  have:(⟨g,0,none⟩:Addr).add j=⟨g,j,none⟩:=by unfold Addr.add;split<;>simp_all
  rw [this,h2.cell,←Array.getElem?_toList]
  rw [←h6,List.getElem?_take] at hj
  split at hj
  ·exact hj
  ·cases hj
end
section
variable (P:Program)
theorem run_storeCells_own (g o:Nat) (t:TypeId):∀(vs:List Value) (i:Nat) (cur:Array Value) (w:World),rowAt w g cur t→o+i+vs.length≤cur.size→(∀v∈vs,v.oneCell'=true) →
 (storeCells ⟨g,o,none⟩ vs i).run P w=.ok () (w.setRow g (cur.toList.take (o+i)++vs++cur.toList.drop (o+i+vs.length)).toArray)
 | [],i,cur,w,hg,_,_=>by
   simp only [storeCells,List.append_nil,zb,Nat.add_zero,List.take_append_drop,Array.toArray_toList]
   obtain ⟨fz,hg,_⟩:=hg
   rw [setRow_self w g cur t fz hg]
   rfl
 | v::rest,i,cur,w,hg,hl,h1=>by
   have hi:o+i<cur.size:=by simp at hl;omega
   have hadd:(⟨g,o,none⟩:Addr).add i=⟨g,o+i,none⟩:=by unfold Addr.add;split<;>simp_all
   have hcell:w.cell? ⟨g,o+i,none⟩=some cur[o+i]:=by rw [hg.cell];simp [hi]
   have hfro:w.frozen? ⟨g,o+i,none⟩=false:=hg.frozen hi
   have hst:(store ((⟨g,o,none⟩:Addr).add i) v).run P w=.ok () (w.setRow g (cur.setIfInBounds (o+i) v)):=by
    obtain ⟨fz,hg',_⟩:=hg
    rw [hadd,run_store P w _ v _ (h1 v (by simp)),hcell]
    simp [hfro,setCell_eq_setRow w g (o+i) cur t fz v hg']
   have ih:=run_storeCells_own g o t rest (i+1) (cur.setIfInBounds (o+i) v) (w.setRow g (cur.setIfInBounds (o+i) v)) (hg.set (by simp)) (by simp at hl ⊢;omega) (fun x hx=>h1 x (by simp [hx]))
   simp only [storeCells,Sem.run_bind,hst,Result.andThen_ok,ih,setRow_setRow]
   congr 3
   have e:=list_seg_step cur.toList (o+i) v rest (by simp at hl ⊢;omega)
   simpa [Array.toList_setIfInBounds,Nat.add_assoc] using e
end
section
variable {P:Program} (w:World)
theorem run_append_none_own (t ty e:TypeId) (i:TypeInfo) (size:Nat) (ht:P.underlying t=some (.slice e)) (hi:P.info? e=some i)
 (v:Value) (n:Nat) (xs:List Value) (hown:w.ownsM e size v n xs) :
 (Builtin.append_ #[t,t] ty #[v,.slice none 0 0]).run P w=.ok v w:=by
 rcases hown.2 with ⟨rfl,rfl⟩ | ⟨g,cap,cur,rfl,_,hnc,_⟩
 ·simp [Builtin.append_,run_underlying ht,sizeOf,typeInfo,hi,Builtin.lenOf,Builtin.firstCells]
 ·simp [Builtin.append_,run_underlying ht,sizeOf,typeInfo,hi,Builtin.lenOf,Builtin.firstCells,hnc,storeCells]
theorem run_append_room_own (t ty e:TypeId) (i:TypeInfo) (ht:P.underlying t=some (.slice e)) (hi:P.info? e=some i)
 (g sLen sCap:Nat) (cur:Array Value) (hg:rowAt w g cur e)
 (a:Addr) (m c:Nat) (news:List Value) (hl:news.length=m*i.size) (hnews:∀j u,news[j]?=some u→w.cell? (a.add j)=some u) (h1:∀u∈news,u.oneCell'=true)
 (hroom:sLen+m≤sCap) (hfit:sLen*i.size+news.length≤cur.size) :
 (Builtin.append_ #[t,t] ty #[.slice (some ⟨g,0,none⟩) sLen sCap,.slice (some a) m c]).run P w =
  .ok (.slice (some ⟨g,0,none⟩) (sLen+m) sCap) (w.setRow g (cur.toList.take (sLen*i.size)++news++cur.toList.drop (sLen*i.size+news.length)).toArray):=by
 have hf:=run_firstCells_some (P:=P) w i.size m a m c news hl hnews
 have hst:=run_storeCells_own P g (sLen*i.size) e news 0 cur w hg (by simpa using hfit) h1
 simp only [Nat.add_zero] at hst
 simp [Builtin.append_,run_underlying ht,sizeOf,typeInfo,hi,Builtin.lenOf,hroom,hf,Addr.add_lit,hst]
theorem run_append_room_string_own (t u ty e:TypeId) (i:TypeInfo) (ht:P.underlying t=some (.slice e)) (hu:P.underlying u=some .string) (hi:P.info? e=some i) (hs1:i.size=1)
 (g sLen sCap:Nat) (cur:Array Value) (hg:rowAt w g cur e) (s:ByteArray)
 (hroom:sLen+s.size≤sCap) (hfit:sLen+s.size≤cur.size) :
 (Builtin.append_ #[t,u] ty #[.slice (some ⟨g,0,none⟩) sLen sCap,.string s]).run P w =
  .ok (.slice (some ⟨g,0,none⟩) (sLen+s.size) sCap) (w.setRow g (cur.toList.take sLen++Lib.strCells s++cur.toList.drop (sLen+s.size)).toArray):=by
 have hf:=Lib.run_firstCells_string (P:=P) w 1 s
 have hst:=run_storeCells_own P g sLen e (Lib.strCells s) 0 cur w hg (by simpa [Lib.strCells_length] using hfit) (Lib.strCells_oneCell s)
 simp only [Nat.add_zero,Lib.strCells_length] at hst
 simp [Builtin.append_,run_underlying ht,run_underlying hu,sizeOf,typeInfo,hi,hs1,Builtin.lenOf,hroom,hf,Addr.add_lit,hst]
theorem bytes_own (e:TypeId) (s:ByteArray) (hm:s.size≤maxLen) :
 (Lib.bytesWorld w e s).ownsM e 1 (.slice (some ⟨w.heap.size,0,none⟩) s.size (grownCap w s.size 0 e)) s.size (Lib.strCells s):=by
 have hge:=grownCap_ge w s.size 0 e
 have hcm:grownCap w s.size 0 e≤maxLen:=grownCap_le_maxLen w s.size 0 e hm
 have hsz:(Lib.bytesCells w e s).size=grownCap w s.size 0 e:=by
  simp only [Lib.bytesCells,Array.size_append,Array.size_map,Array.size_replicate]
  have:s.data.size=s.size:=rfl
  omega
 refine ⟨by rw [Lib.strCells_length,Nat.mul_one],.inr ⟨w.heap.size,_,_,rfl,⟨_,Lib.bytesWorld_at_new w e s,.inr (zt _)⟩,hge,hcm,by rw [hsz,Nat.mul_one],?_⟩⟩
 simp only [Lib.bytesCells,Array.toList_append,Nat.mul_one]
 have h1:(s.data.map fun b=>Value.int .u8 b.toNat).toList=Lib.strCells s:=by simp [Lib.strCells]
 rw [h1,←Lib.strCells_length s]
 exact List.take_left
end
end Go.Ql
end

section
namespace Go.Ql
universe u
section
variable {α:Type u}
theorem beqN {a b:Nat}:Nat.beq a b=true↔a=b:=by rw [Nat.beq_eq]
theorem JJ {a b:Nat}:Nat.beq a b=false↔a≠b:=by
 rw [←Bool.not_eq_true,beqN]
theorem Jm (t s:Nat) (v:α) (l:List (Nat×α)):look (ins t v l) s=if t=s then some v else look l s:=by
 induction l with
 | nil=>
   by_cases h:t=s
   ·simp [ins,look,h]
   ·simp [ins,look,h,JJ.2 h]
 | cons p r ih=>
   obtain ⟨q,x⟩:=p
   simp only [ins]
   cases h1:Nat.blt t q with
   | true=>
     by_cases h:t=s
     ·simp [look,h]
     ·simp [look,h,JJ.2 h]
   | false=>
     cases h2:Nat.beq t q with
     | true=>
       have:t=q:=beqN.1 h2
       subst this
       by_cases h:t=s
       ·simp [look,h]
       ·simp [look,h,JJ.2 h]
     | false=>
       have hne:=JJ.1 h2
       simp only [zf,look,ih]
       by_cases h3:q=s
       ·subst h3;simp [hne]
       ·simp [JJ.2 h3]
theorem UM (t s:Nat) (l:List (Nat×α)):look (del t l) s=if t=s then none else look l s:=by
 induction l with
 | nil=>simp [del,look]
 | cons p r ih=>
   obtain ⟨q,x⟩:=p
   simp only [del]
   cases h2:Nat.beq t q with
   | true=>
     have:t=q:=beqN.1 h2
     subst this
     simp only [ze,ih,look]
     by_cases h:t=s
     ·simp [h]
     ·simp [h,JJ.2 h]
   | false=>
     have hne:=JJ.1 h2
     simp only [zf,look,ih]
     by_cases h3:q=s
     ·subst h3;simp [hne]
     ·simp [JJ.2 h3]
theorem kV {t:Nat} {v:α} {l:List (Nat×α)} (h:look l t=some v):(t,v)∈l:=by
 induction l with
 | nil=>simp [look] at h
 | cons p r ih=>
   obtain ⟨q,x⟩:=p
   simp only [look] at h
   cases h2:Nat.beq q t with
   | true=>rw [h2] at h;simp at h;have:=beqN.1 h2;subst this;subst h;simp
   | false=>rw [h2] at h;simp at h;exact zv _ (ih h)
end
def rdAll {α:Type} (p:List Value→α→Prop):List Value→List α→Prop
 | cs,[]=>cs=[]
 | cs,x::r=>∃c1 c2,cs=c1++c2∧p c1 x∧rdAll p c2 r
def YJ:Nat→Value
 | 0=>.pointer none
 | 1=>.nilIface
 | 2=>.map none
 | _=>.nilFunc
theorem nilVal_one (k:Nat):(YJ k).oneCell'=true:=by
 unfold YJ
 split<;>rfl
mutual
def rdT {α:Type} (w:World) (Z:Nat→Prop) (p:List Value→α→Prop):Rose α→List Value→Prop
 | .mk a ks,cs=>∃c1 v,cs=c1++[v]∧p c1 a∧((v=.slice none 0 0∧ks=[]) ∨
  (∃b off cap cells,v=.slice (some ⟨b,off,none⟩) (List.length ks) cap∧List.length ks≤cap∧cap≤maxLen∧Z b∧rdTs w Z p ks cells ∧ ∀j u,cells[j]?=some u→w.cell? ⟨b,off+j,none⟩=some u) ∨
  ∃ad cap,v=.slice (some ad) 0 cap∧ks=[]∧cap≤maxLen)
def rdTs {α:Type} (w:World) (Z:Nat→Prop) (p:List Value→α→Prop):List (Rose α)→List Value→Prop
 | [],cs=>cs=[]
 | x::r,cs=>∃c1 c2,cs=c1++c2∧rdT w Z p x c1∧rdTs w Z p r c2
end
theorem rdTs_all {α:Type} {w:World} {Z:Nat→Prop} {p:List Value→α→Prop}:∀{ks:List (Rose α)} {cs:List Value},rdTs w Z p ks cs↔rdAll (fun cs d=>rdT w Z p d cs) cs ks
 | [],cs=>by rw [rdTs,rdAll]
 | x::r,cs=>by
   rw [rdTs,rdAll]
   constructor
   ·rintro ⟨c1,c2,e,h1,h2⟩;exact ⟨c1,c2,e,h1,rdTs_all.1 h2⟩
   ·rintro ⟨c1,c2,e,h1,h2⟩;exact ⟨c1,c2,e,h1,rdTs_all.2 h2⟩
def rdC (w:World) (Z:Nat→Prop):(t:Ty)→List Value→t.den→Prop
 | .bool,cs,d=>cs=[.bool d]
 | .int k,cs,d=>cs=[.int k d]
 | .str,cs,d=>cs=[.string ⟨List.toArray d⟩]
 | .sl t,cs,d=>∃v,cs=[v]∧((v=.slice none 0 0∧d=[]) ∨
  (∃b off cap cells,v=.slice (some ⟨b,off,none⟩) (List.length d) cap∧List.length d≤cap∧cap≤maxLen∧Z b∧rdAll (rdC w Z t) cells d ∧ ∀j u,cells[j]?=some u→w.cell? ⟨b,off+j,none⟩=some u) ∨
  ∃ad cap,v=.slice (some ad) 0 cap∧d=[]∧cap≤maxLen)
 | .st t,cs,d=>rdC w Z t cs d
 | .unit,cs,_=>cs=[]
 | .pair a b,cs,d=>∃c1 c2,cs=c1++c2∧rdC w Z a c1 d.1∧rdC w Z b c2 d.2
 | .ar n t,cs,d=>List.length d=n∧rdAll (rdC w Z t) cs d
 | .nilv k,cs,_=>cs=[YJ k]
 | .node t,cs,d=>rdT w Z (rdC w Z t) d cs
 | .ifc T t,cs,d=>∃u us,cs=[.iface T u]∧((t.isSt=true∧u=.agg us)∨(t.isSt=false∧us=#[u]))∧rdC w Z t us.toList d
 | .nn,cs,d=>∃v,cs=[v]∧(((d:Bool)=true ∧ ∃T u,v=.iface T u)∨((d:Bool)=false∧v=.nilIface))
 | .len,cs,d=>∃ad c,cs=[.slice ad (show Int from d).toNat c]∧0≤(show Int from d)∧(show Int from d).toNat≤maxLen
 | .fl t,cs,d=>(∃v,cs=[v]∧(((v=.slice none 0 0∧d=[]) ∨
  (∃b off cap cells,v=.slice (some ⟨b,off,none⟩) (List.length d) cap∧List.length d≤cap∧cap≤maxLen∧Z b∧rdAll (rdC w Z t) cells d ∧ ∀j u,cells[j]?=some u→w.cell? ⟨b,off+j,none⟩=some u) ∨
  ∃ad cap,v=.slice (some ad) 0 cap∧d=[]∧cap≤maxLen))) ∧ ∃ad m,cs=[.slice ad m m]
theorem Vz {w:World} {Z:Nat→Prop} {t:Ty} {cs:List Value}:∀{d:Rose t.den},rdC w Z (.node t) cs d ↔ ∃c1 c2,cs=c1++c2∧rdC w Z t c1 (Rose.head d)∧rdC w Z (.sl (.st (.node t))) c2 (show List (Rose t.den) from Rose.kids d)
 | .mk a ks=>by
   show rdT w Z (rdC w Z t) (.mk a ks) cs↔_
   rw [rdT]
   constructor
   ·rintro ⟨c1,v,e,h1,h2⟩
    refine ⟨c1,[v],e,h1,v,rfl,?_⟩
    rcases h2 with h2 | ⟨b,off,cap,cells,g1,g2,g3,g4,g5,g6⟩ | h2
    ·exact .inl h2
    ·exact .inr (.inl ⟨b,off,cap,cells,g1,g2,g3,g4,rdTs_all.1 g5,g6⟩)
    ·exact .inr (.inr h2)
   ·rintro ⟨c1,c2,e,h1,v,rfl,h2⟩
    refine ⟨c1,v,e,h1,?_⟩
    rcases h2 with h2 | ⟨b,off,cap,cells,g1,g2,g3,g4,g5,g6⟩ | h2
    ·exact .inl h2
    ·exact .inr (.inl ⟨b,off,cap,cells,g1,g2,g3,g4,rdTs_all.2 g5,g6⟩)
    ·exact .inr (.inr h2)
theorem kA {α:Type} {p q:List Value→α→Prop} (h:∀cs x,p cs x→q cs x):∀{cs l},rdAll p cs l→rdAll q cs l
 | _,[],hr=>hr
 | _,_::_,⟨c1,c2,e,h1,h2⟩=>⟨c1,c2,e,h _ _ h1,kA h h2⟩
def Kept (w w':World) (Z Z':Nat→Prop):Prop:=∀b,Z b→Z' b∧w'.heap[b]?=w.heap[b]?
def KeptW (w w':World) (Z Z':Nat→Prop):Prop:=∀b,Z b→Z' b ∧ ∀o u,w.cell? ⟨b,o,none⟩=some u→w'.cell? ⟨b,o,none⟩=some u
theorem Kept.cell {w w':World} {Z Z':Nat→Prop} (h:Kept w w' Z Z') {b o:Nat} (hz:Z b):w'.cell? ⟨b,o,none⟩=w.cell? ⟨b,o,none⟩:=by
 simp [World.cell?,(h b hz).2]
theorem HA {w w':World} {b:Nat} (h:w'.heap[b]?=w.heap[b]?):∀o u,w.cell? ⟨b,o,none⟩=some u→w'.cell? ⟨b,o,none⟩=some u:=fun o u hu=>by
 simpa [World.cell?,h] using hu
theorem Kept.weak {w w':World} {Z Z':Nat→Prop} (h:Kept w w' Z Z'):KeptW w w' Z Z':=fun b hb=>⟨(h b hb).1,fun _ _ hu=>(h.cell hb).trans hu⟩
instance {w w':World} {Z Z':Nat→Prop}:CoeOut (Kept w w' Z Z') (KeptW w w' Z Z'):=⟨Kept.weak⟩
theorem KeptW.cell {w w':World} {Z Z':Nat→Prop} (h:KeptW w w' Z Z') {b o:Nat} (hz:Z b) {u:Value} (hu:w.cell? ⟨b,o,none⟩=some u):w'.cell? ⟨b,o,none⟩=some u:=(h b hz).2 o u hu
mutual
theorem rdT_kept {α:Type} {w w':World} {Z Z':Nat→Prop} {p q:List Value→α→Prop} (h:KeptW w w' Z Z') (hp:∀cs x,p cs x→q cs x):∀(d:Rose α) {cs:List Value},rdT w Z p d cs→rdT w' Z' q d cs
 | .mk a ks,cs,hr=>by
   rw [rdT] at hr ⊢
   obtain ⟨c1,v,e,h1,h2⟩:=hr
   refine ⟨c1,v,e,hp _ _ h1,?_⟩
   rcases h2 with h2 | ⟨b,off,cap,cells,g1,g2,g3,g4,g5,g6⟩ | h2
   ·exact .inl h2
   ·exact .inr (.inl ⟨b,off,cap,cells,g1,g2,g3,(h b g4).1,rdTs_kept h hp ks g5,fun j u hj=>h.cell g4 (g6 j u hj)⟩)
   ·exact .inr (.inr h2)
theorem rdTs_kept {α:Type} {w w':World} {Z Z':Nat→Prop} {p q:List Value→α→Prop} (h:KeptW w w' Z Z') (hp:∀cs x,p cs x→q cs x):∀(ks:List (Rose α)) {cs:List Value},rdTs w Z p ks cs→rdTs w' Z' q ks cs
 | [],cs,hr=>by rw [rdTs] at hr ⊢;exact hr
 | x::r,cs,hr=>by
   rw [rdTs] at hr ⊢
   obtain ⟨c1,c2,e,h1,h2⟩:=hr
   exact ⟨c1,c2,e,rdT_kept h hp x h1,rdTs_kept h hp r h2⟩
end
theorem ka {w w':World} {Z Z':Nat→Prop} (h:KeptW w w' Z Z'):∀(t:Ty) {cs:List Value} {d:t.den},rdC w Z t cs d→rdC w' Z' t cs d
 | .bool,_,_,hr=>hr
 | .int _,_,_,hr=>hr
 | .str,_,_,hr=>hr
 | .sl t,_,_,⟨v,e,hr⟩=>⟨v,e,hr.imp id fun hr=>hr.imp (fun ⟨b,off,cap,cells,hv,h1,h2,hz,ha,hc⟩=>
  ⟨b,off,cap,cells,hv,h1,h2,(h b hz).1,kA (fun _ _=>ka h t) ha,fun j u hj=>h.cell hz (hc j u hj)⟩) id⟩
 | .st t,_,_,hr=>ka h t hr
 | .unit,_,_,hr=>hr
 | .pair a b,_,_,⟨c1,c2,e,h1,h2⟩=>⟨c1,c2,e,ka h a h1,ka h b h2⟩
 | .ar _ t,_,_,⟨h1,h2⟩=>⟨h1,kA (fun _ _=>ka h t) h2⟩
 | .nilv _,_,_,hr=>hr
 | .node t,_,d,hr=>rdT_kept h (fun _ _=>ka h t) d hr
 | .ifc _ t,_,_,⟨u,us,e,h1,h2⟩=>⟨u,us,e,h1,ka h t h2⟩
 | .nn,_,_,hr=>hr
 | .len,_,_,hr=>hr
 | .fl t,_,_,⟨⟨v,e,hr⟩,g⟩=>⟨⟨v,e,hr.imp id fun hr=>hr.imp (fun ⟨b,off,cap,cells,hv,h1,h2,hz,ha,hc⟩=>
  ⟨b,off,cap,cells,hv,h1,h2,(h b hz).1,kA (fun _ _=>ka h t) ha,fun j u hj=>h.cell hz (hc j u hj)⟩) id⟩,g⟩
theorem YB {α:Type} {p:List Value→α→Prop} {n:Nat} (h:∀cs x,p cs x→cs.length=n):∀{cs l},rdAll p cs l→cs.length=l.length*n
 | _,[],hr=>by simp [rdAll] at hr;simp [hr]
 | _,_::_,⟨c1,c2,e,h1,h2⟩=>by rw [e,z8,h _ _ h1,YB h h2,za,Nat.succ_mul,Nat.add_comm]
theorem JF {w:World} {Z:Nat→Prop}:∀(t:Ty) {cs:List Value} {d:t.den},rdC w Z t cs d→cs.length=t.cells
 | .bool,_,_,hr=>by simp [rdC] at hr;simp [hr,Ty.cells]
 | .int _,_,_,hr=>by simp [rdC] at hr;simp [hr,Ty.cells]
 | .str,_,_,hr=>by simp [rdC] at hr;simp [hr,Ty.cells]
 | .sl _,_,_,⟨v,e,_⟩=>by simp [e,Ty.cells]
 | .st t,_,_,hr=>JF t hr
 | .unit,_,_,hr=>by simp [rdC] at hr;simp [hr,Ty.cells]
 | .pair a b,_,_,⟨c1,c2,e,h1,h2⟩=>by rw [e,z8,JF a h1,JF b h2];rfl
 | .ar n t,_,_,⟨h1,h2⟩=>by rw [YB (fun _ _=>JF t) h2,h1];rfl
 | .nilv _,_,_,hr=>by simp [rdC] at hr;simp [hr,Ty.cells]
 | .node t,_,_,hr=>by
   obtain ⟨c1,c2,e,h1,v,h2,_⟩:=Vz.1 hr
   rw [e,h2,z8,JF t h1];rfl
 | .ifc _ t,_,_,⟨u,us,e,_⟩=>by rw [e];rfl
 | .nn,_,_,⟨v,e,_⟩=>by rw [e];rfl
 | .len,_,_,⟨ad,c,e,_⟩=>by rw [e];rfl
 | .fl _,_,_,⟨_,ad,m,e⟩=>by rw [e];rfl
theorem rdAll_one {α:Type} {p:List Value→α→Prop} (h:∀cs x,p cs x → ∀u∈cs,u.oneCell'=true):∀{cs l},rdAll p cs l → ∀u∈cs,u.oneCell'=true
 | _,[],hr,u,hu=>by simp only [rdAll] at hr;subst hr;cases hu
 | _,_::_,⟨c1,c2,e,h1,h2⟩,u,hu=>by
   rw [e,List.mem_append] at hu
   exact hu.elim (h _ _ h1 u) (rdAll_one h h2 u)
theorem Yw {w:World} {Z:Nat→Prop}:∀(t:Ty) {cs:List Value} {d:t.den},rdC w Z t cs d → ∀u∈cs,u.oneCell'=true
 | .bool,_,_,hr=>by simp [rdC] at hr;simp [hr,Value.oneCell']
 | .int _,_,_,hr=>by simp [rdC] at hr;simp [hr,Value.oneCell']
 | .str,_,_,hr=>by simp [rdC] at hr;simp [hr,Value.oneCell']
 | .sl _,_,_,⟨v,e,hr⟩=>by
   rcases hr with ⟨hv,_⟩ | ⟨b,off,cap,cells,hv,_⟩ | ⟨ad,cap,hv,_⟩<;>simp [e,hv,Value.oneCell']
 | .st t,_,_,hr=>Yw t hr
 | .unit,_,_,hr=>by simp [rdC] at hr;simp [hr]
 | .pair a b,_,_,⟨c1,c2,e,h1,h2⟩=>by
   intro u hu
   rw [e,List.mem_append] at hu
   exact hu.elim (Yw a h1 u) (Yw b h2 u)
 | .ar _ t,_,_,⟨_,h2⟩=>rdAll_one (fun _ _ h=>Yw t h) h2
 | .nilv k,_,_,hr=>by
   intro u hu
   have hr:_=[YJ k]:=hr
   rw [hr] at hu
   simp only [List.mem_singleton] at hu
   subst hu
   exact nilVal_one k
 | .node t,_,_,hr=>by
   obtain ⟨c1,c2,e,h1,v,h2,h3⟩:=Vz.1 hr
   intro u hu
   rw [e,h2,List.mem_append] at hu
   rcases hu with hu | hu
   ·exact Yw t h1 u hu
   ·rw [List.mem_singleton.1 hu]
    rcases h3 with ⟨hv,_⟩ | ⟨b,off,cap,cells,hv,_⟩ | ⟨ad,cap,hv,_⟩<;>simp [hv,Value.oneCell']
 | .ifc _ t,_,_,⟨u,us,e,_⟩=>by simp [e,Value.oneCell']
 | .nn,_,_,⟨v,e,h⟩=>by rcases h with ⟨_,T,u,h⟩ | ⟨_,h⟩<;>simp [e,h,Value.oneCell']
 | .len,_,_,⟨ad,c,e,_⟩=>by simp [e,Value.oneCell']
 | .fl _,_,_,⟨_,ad,m,e⟩=>by simp [e,Value.oneCell']
def rdV (w:World) (Z:Nat→Prop) (t:Ty) (v:Value) (d:t.den):Prop:=
 match t,d with
 | .st s,d=>∃cs,v=.agg cs∧rdC w Z s cs.toList d
 | .ar n s,d=>∃cs,v=.agg cs∧rdC w Z (.ar n s) cs.toList d
 | t,d=>rdC w Z t [v] d
theorem Yp {w:World} {Z:Nat→Prop} {t:Ty} {v:Value} {d:t.den} (h:rdV w Z t v d):rdC w Z t v.cells.toList d:=by
 cases t with
 | st s=>obtain ⟨cs,rfl,hr⟩:=h;exact hr
 | ar n s=>obtain ⟨cs,rfl,hr⟩:=h;exact hr
 | bool=>simp [rdV,rdC] at h;simp [h,Value.cells,rdC]
 | int k=>simp [rdV,rdC] at h;simp [h,Value.cells,rdC]
 | str=>simp [rdV,rdC] at h;simp [h,Value.cells,rdC]
 | sl s=>
   obtain ⟨u,e,hr⟩:=h
   simp only [List.cons.injEq,and_true] at e
   subst e
   refine ⟨v,?_,hr⟩
   rcases hr with ⟨hv,_⟩ | ⟨b,off,cap,cells,hv,_⟩ | ⟨ad,cap,hv,_⟩<;>simp [hv,Value.cells]
 | unit=>simp [rdV,rdC] at h
 | nilv k=>
   have h:[v]=[YJ k]:=h
   obtain rfl:=List.cons.inj h |>.1
   show (YJ k).cells.toList=[YJ k]
   unfold YJ
   split<;>rfl
 | ifc T a=>
   obtain ⟨u,us,e,h1,h2⟩:=h
   simp only [List.cons.injEq,and_true] at e
   subst e
   exact ⟨u,us,rfl,h1,h2⟩
 | nn=>
   obtain ⟨v,e,h⟩:=h
   simp only [List.cons.injEq,and_true] at e
   subst e
   rcases h with ⟨h1,T,u,h⟩ | ⟨h1,h⟩
   ·subst h;exact ⟨_,rfl,Or.inl ⟨h1,T,u,rfl⟩⟩
   ·subst h;exact ⟨_,rfl,Or.inr ⟨h1,rfl⟩⟩
 | len=>
   obtain ⟨ad,c,e,h1,h2⟩:=h
   simp only [List.cons.injEq,and_true] at e
   subst e
   exact ⟨ad,c,rfl,h1,h2⟩
 | fl s=>
   obtain ⟨h1,ad,m,e⟩:=h
   simp only [List.cons.injEq,and_true] at e
   subst e
   exact ⟨h1,ad,m,rfl⟩
 | pair a b=>
   have:=JF _ h
   have h1:=Yw _ h v (by simp)
   unfold rdV at h
   cases v<;>first | exact h | simp [Value.oneCell'] at h1
 | node a=>
   have h1:=Yw _ h v (by simp)
   unfold rdV at h
   cases v<;>first | exact h | simp [Value.oneCell'] at h1
theorem VM {w w':World} {Z Z':Nat→Prop} (h:KeptW w w' Z Z') {t:Ty} {v:Value} {d:t.den} (hr:rdV w Z t v d):rdV w' Z' t v d:=by
 cases t with
 | st s=>obtain ⟨cs,e,hr⟩:=hr;exact ⟨cs,e,ka h s hr⟩
 | ar n s=>obtain ⟨cs,e,hr⟩:=hr;exact ⟨cs,e,ka h (.ar n s) hr⟩
 | _=>exact ka h _ hr
abbrev Names:=Nat→Value
def blk:Value→Option Nat
 | .pointer (some a)=>some a.block
 | .slice (some a) _ _=>some a.block
 | .map (some b)=>some b
 | _=>none
def winOf (v:Value) (sz:Nat) (lo m:Int) (u:Value):Prop:=
 (v=.slice none 0 0∧u=.slice none 0 0∧m=0) ∨
  ∃b q c g c',v=.slice (some ⟨b,0,none⟩) q c∧u=.slice (some ⟨b,g,none⟩) m.toNat c'∧(0<m→g=lo.toNat*sz)∧m.toNat≤c'∧c'≤maxLen
def rdA (w:World) (Z:Nat→Prop) (nm:Names) (objs:List (Nat×Ob)):At→Value→Prop
 | .val t d,v=>rdV w Z t v d
 | .nilS,v=>v=.slice none 0 0
 | .ref id off,v=>v.oneCell'=true ∧ ∀cs,look objs id=some (.box cs) → ∃b,nm id=.pointer (some ⟨b,0,none⟩)∧v=.pointer (some ⟨b,off,none⟩)
 | .own id ver,v=>v.oneCell'=true ∧ ∀fz e t xs,look objs id=some (.arr ver fz e t xs)→v=nm id
 | .elem id ver i sz off,v=>v.oneCell'=true ∧ ∀fz e t xs,look objs id=some (.arr ver fz e t xs)→sz=t.cells∧0≤i∧i.toNat<xs.length ∧ ∃b n c,nm id=.slice (some ⟨b,0,none⟩) n c∧v=.pointer (some ⟨b,i.toNat*sz+off,none⟩)
 | .aptr id ver,v=>v.oneCell'=true ∧ ∀fz e t xs,look objs id=some (.arr ver fz e t xs) → ∃b n c,nm id=.slice (some ⟨b,0,none⟩) n c∧v=.pointer (some ⟨b,0,none⟩)
 | .aelem id ver i sz off n e j o,v=>v.oneCell'=true ∧ ∀fz e' t xs,look objs id=some (.arr ver fz e' t xs)→sz=t.cells∧0≤i∧i.toNat<xs.length∧0≤j∧j.toNat<n ∧
  ∃b m c,nm id=.slice (some ⟨b,0,none⟩) m c∧v=.pointer (some ⟨b,i.toNat*sz+off+j.toNat*e.cells+o,none⟩)
 | .fptr t d,v=>∃b off cs,v=.pointer (some ⟨b,off,none⟩)∧Z b∧rdC w Z t cs d ∧ ∀j u,cs[j]?=some u→w.cell? ⟨b,off+j,none⟩=some u
 | .fn f,v=>v=.func (.func f) #[] #[]
 | .win id ver lo m,v=>v.oneCell'=true ∧ ∀fz e t xs,look objs id=some (.arr ver fz e t xs)→winOf (nm id) t.cells lo m v∧inWin lo m (List.length xs)=true
 | .selfp id _,v=>v.oneCell'=true ∧ ∀cs,look objs id=some (.box cs)→v=.pointer none∨v=nm id
 | .clo id,v=>v.oneCell'=true ∧ ∀f x y,look objs id=some (.clo f x y)→v=nm id
 | .junk,v=>v.oneCell'=true
def rdAs (w:World) (Z:Nat→Prop) (nm:Names) (objs:List (Nat×Ob)) (cs:List At) (vs:List Value):Prop:=
 vs.length=cs.length ∧ ∀(i:Nat) a v,cs[i]?=some a→vs[i]?=some v→rdA w Z nm objs a v
def rdD (w:World) (Z:Nat→Prop) (nm:Names) (objs:List (Nat×Ob)):Dv→Value→Prop
 | .one a,v=>rdA w Z nm objs a v
 | .agg cs,v=>∃vs,v=.agg vs∧rdAs w Z nm objs cs vs.toList ∧ ∀u∈vs.toList,u.oneCell'=true
 | .tup cs,v=>∃vs,v=.tuple vs∧rdAs w Z nm objs cs vs.toList
def mapRd (w:World) (v:Value) (j u:IntKind) (l:List (Int×Int)):Prop:=
 ∃b es clock,v=.map (some b)∧w.heap[b]?=some (.map es clock)∧es.toList.map (fun x=>(x.key,x.val))=l.map fun p=>(Value.int j p.1,Value.int u p.2)
def rdArr (w:World) (Z:Nat→Prop) (v:Value) (e:TypeId) (t:Ty) (xs:List t.den):Prop:=
 (t.isMap=false ∧ ∃cells,w.ownsM e t.cells v (List.length xs) cells∧rdAll (rdC w Z t) cells xs) ∨
  ∃j u l,(⟨t,xs⟩:(t:Ty)×List t.den)=⟨mapTy j u,[l]⟩∧mapRd w v j u l
theorem rdArr.sl {w:World} {Z:Nat→Prop} {v:Value} {e:TypeId} {t:Ty} {xs:List t.den} (h:rdArr w Z v e t xs) (ht:t.isMap=false) :
 ∃cells,w.ownsM e t.cells v (List.length xs) cells∧rdAll (rdC w Z t) cells xs:=by
 rcases h with ⟨_,h⟩ | ⟨j,u,l,h,_⟩
 ·exact h
 ·cases h;cases ht
theorem rdArr.of {w:World} {Z:Nat→Prop} {v:Value} {e:TypeId} {t:Ty} {xs:List t.den} {ad:Option Addr} {m c:Nat} (h:rdArr w Z v e t xs) (hv:v=.slice ad m c) :
 t.isMap=false ∧ ∃cells,w.ownsM e t.cells v (List.length xs) cells∧rdAll (rdC w Z t) cells xs:=by
 rcases h with h | ⟨j,u,l,h,b,es,clock,h1,_⟩
 ·exact h
 ·rw [hv] at h1;cases h1
theorem rdArr.map {w:World} {Z:Nat→Prop} {v:Value} {e:TypeId} {j u:IntKind} {xs:List (List (Int×Int))} (h:rdArr w Z v e (mapTy j u) xs) :
 ∃l,xs=[l]∧mapRd w v j u l:=by
 rcases h with ⟨h,_⟩ | ⟨j',u',l,h,h'⟩
 ·cases h
 ·cases h;exact ⟨l,rfl,h'⟩
def rdO (w:World) (Z:Nat→Prop) (nm:Names) (objs:List (Nat×Ob)) (id:Nat):Ob→Prop
 | .box cs=>∃b vs T,nm id=.pointer (some ⟨b,0,none⟩)∧w.heap[b]?=some (.cells vs T (0,0))∧rdAs w Z nm objs cs vs.toList∧(∀u∈vs.toList,u.oneCell'=true) ∧ ∀T',At.selfp id T'∈cs→T'=T
 | .arr _ _ e t xs=>rdArr w Z (nm id) e t xs
 | .clo f x y=>∃vx vy,nm id=.func (.func f) vx vy∧rdAs w Z nm objs x vx.toList∧rdAs w Z nm objs y vy.toList
 | .gone=>True
def Ob.mine:Ob→Bool
 | .box _=>true
 | .arr _ fz _ _ _=>!fz
 | .clo _ _ _=>true
 | .gone=>false
def owned (nm:Names) (objs:List (Nat×Ob)) (b:Nat):Prop:=∃id ob,look objs id=some ob∧ob.mine=true∧blk (nm id)=some b
structure Same (w0 w:World):Prop where
 os:w.os=w0.os
 tape:w.tape=w0.tape
 output:w.output=w0.output
 size:w0.heap.size≤w.heap.size
 block:∀b,b<w0.heap.size→w.heap[b]?=w0.heap[b]?
theorem Same.refl (w:World):Same w w:=⟨rfl,rfl,rfl,zt _,fun _ _=>rfl⟩
theorem Same.trans {a b c:World} (h:Same a b) (k:Same b c):Same a c:=
 ⟨k.os.trans h.os,k.tape.trans h.tape,k.output.trans h.output,Nat.le_trans h.size k.size,fun x hx=>(k.block x (zw hx h.size)).trans (h.block x hx)⟩
structure SameBut (M:Nat→Prop) (w0 w:World):Prop where
 os:w.os=w0.os
 tape:w.tape=w0.tape
 output:w.output=w0.output
 size:w0.heap.size≤w.heap.size
 block:∀b,b<w0.heap.size → ¬M b→w.heap[b]?=w0.heap[b]?
theorem SameBut.refl (M:Nat→Prop) (w:World):SameBut M w w:=⟨rfl,rfl,rfl,zt _,fun _ _ _=>rfl⟩
theorem SameBut.trans {M:Nat→Prop} {a b c:World} (h:SameBut M a b) (k:Same b c):SameBut M a c:=
 ⟨k.os.trans h.os,k.tape.trans h.tape,k.output.trans h.output,Nat.le_trans h.size k.size,fun x hx hm=>(k.block x (zw hx h.size)).trans (h.block x hx hm)⟩
class GInv where
 ok:World→Prop
 n:Nat
 keep:∀{w w':World},(∀b,b<n→w'.heap[b]?=w.heap[b]?)→ok w→ok w'
 size:∀{w:World},ok w→n≤w.heap.size
structure Bs where
 z:Nat→Prop
 m:Nat→Prop
 nm:Names
 df:List Deferred:=[]
 calm:Bool:=false
def Zc (w0:World) (Z0:Bs) (nm:Names) (objs:List (Nat×Ob)) (w:World) (b:Nat):Prop:=
 b<w.heap.size∧(b<w0.heap.size→Z0.z b∨Z0.m b) ∧ ¬owned nm objs b
def held (id:Nat):Ob→Prop
 | .arr v _ _ _ _=>gFix≤id∧v=0
 | .gone=>False
 | _=>True
def Marks (w0 w:World) (Z:Nat→Prop) (l:List Deferred):Prop:=
 ∃ds:List Nat,l=ds.map (fun D=>({ target:=.collected D,args:=#[] }:Deferred))∧ds.Nodup ∧ ∀D:Nat,D∈ds→w0.heap.size≤D∧Z D∧w.heap[D]?=some (Obj.deferred (some []))
theorem Marks.nil (w0 w:World) (Z:Nat→Prop):Marks w0 w Z []:=⟨[],rfl,List.nodup_nil,fun _ h=>by cases h⟩
theorem Marks.kept {w0 w w':World} {Z Z':Nat→Prop} {l:List Deferred} (hk:Kept w w' Z Z') (h:Marks w0 w Z l):Marks w0 w' Z' l:=by
 obtain ⟨ds,e,hn,hd⟩:=h
 exact ⟨ds,e,hn,fun D hD=>⟨(hd D hD).1,(hk D (hd D hD).2.1).1,(hk D (hd D hD).2.1).2.trans (hd D hD).2.2⟩⟩
structure Rel [GInv] (n:Nat) (w0:World) (Z0:Bs) (st:St) (a:Act) (w:World) (nm:Names):Prop where
 defers:∃l,a.defers=l++Z0.df∧Marks w0 w (Zc w0 Z0 nm st.objs w) l
 size:a.tmps.size=n
 slots:∀t d,look st.slots t=some d → ∃v,a.tmps[t]?=some v∧rdD w (Zc w0 Z0 nm st.objs w) nm st.objs d v
 objs:∀id ob,look st.objs id=some ob→rdO w (Zc w0 Z0 nm st.objs w) nm st.objs id ob
 new:∀id ob b,look st.objs id=some ob→blk (nm id)=some b→(w0.heap.size≤b∨Z0.m b)∧b<w.heap.size
 inj:∀id id' ob ob' b,look st.objs id=some ob→look st.objs id'=some ob'→blk (nm id)=some b→blk (nm id')=some b→id=id'
 same:SameBut Z0.m w0 w
 given:∀id ob,gBox≤id→look st.objs id=some ob→held id ob→nm id=Z0.nm id
 glob:GInv.ok w0 ∧ ∀b,Z0.m b→GInv.n≤b
 calm:Z0.calm=true→a.defers=Z0.df
theorem Rel.defk [GInv] {n:Nat} {w0:World} {Z0:Bs} {st:St} {a:Act} {w w':World} {nm:Names} {Z':Nat→Prop} (h:Rel n w0 Z0 st a w nm) (hk:Kept w w' (Zc w0 Z0 nm st.objs w) Z') :
 ∃l,a.defers=l++Z0.df∧Marks w0 w' Z' l:=h.defers.imp fun _ hl=>⟨hl.1,hl.2.kept hk⟩
theorem Rel.gnow [GInv] {n:Nat} {w0:World} {Z0:Bs} {st:St} {a:Act} {w:World} {nm:Names} (h:Rel n w0 Z0 st a w nm):GInv.ok w:=
 GInv.keep (fun b hb=>h.same.block b (zw hb (GInv.size h.glob.1)) fun hm=>Nat.lt_irrefl _ (zw hb (h.glob.2 b hm))) h.glob.1
end Go.Ql
end

section
namespace Go.Ql
def setN (nm:Names) (id:Nat) (v:Value):Names:=fun j=>if j=id then v else nm j
theorem JG (nm:Names) (id:Nat) (v:Value):setN nm id v id=v:=by simp [setN]
theorem kU (nm:Names) {id j:Nat} (v:Value) (h:j≠id):setN nm id v j=nm j:=by simp [setN,h]
section
variable [GInv] {w w':World} {Z Z':Nat→Prop} {nm nm':Names} {objs objs':List (Nat×Ob)}
def AtOk (nm nm':Names) (objs objs':List (Nat×Ob)) (a:At):Prop:=
 ∀id,a.mentions id=true →
  (∀ver fz e t xs,look objs' id=some (.arr ver fz e t xs)→a.hasVer id ver=true →
   nm' id=nm id ∧ ∃fz' xs',look objs id=some (.arr ver fz' e t xs')∧List.length xs'=List.length xs) ∧
  (∀cs,look objs' id=some (.box cs)→nm' id=nm id ∧ ∃cs',look objs id=some (.box cs')) ∧
  (∀f x y,look objs' id=some (.clo f x y)→nm' id=nm id ∧ ∃f' x' y',look objs id=some (.clo f' x' y'))
theorem rdA_mono (hk:KeptW w w' Z Z') {a:At} (ha:AtOk nm nm' objs objs' a) {v:Value} (h:rdA w Z nm objs a v):rdA w' Z' nm' objs' a v:=by
 cases a with
 | val t d=>exact VM hk h
 | nilS=>exact h
 | ref id off=>
   refine ⟨h.1,fun cs hl=>?_⟩
   obtain ⟨h1,cs',h2⟩:=(ha id (by simp [At.mentions])).2.1 cs hl
   rw [h1];exact h.2 cs' h2
 | own id ver=>
   refine ⟨h.1,fun fz e t xs hl=>?_⟩
   obtain ⟨h1,fz',xs',h2,_⟩:=(ha id (by simp [At.mentions])).1 ver fz e t xs hl (by simp [At.hasVer])
   rw [h1];exact h.2 fz' e t xs' h2
 | elem id ver i sz off=>
   refine ⟨h.1,fun fz e t xs hl=>?_⟩
   obtain ⟨h1,fz',xs',h2,h3⟩:=(ha id (by simp [At.mentions])).1 ver fz e t xs hl (by simp [At.hasVer])
   rw [h1,←h3];exact h.2 fz' e t xs' h2
 | win id ver lo m=>
   refine ⟨h.1,fun fz e t xs hl=>?_⟩
   obtain ⟨h1,fz',xs',h2,h3⟩:=(ha id (by simp [At.mentions])).1 ver fz e t xs hl (by simp [At.hasVer])
   rw [h1,←h3];exact h.2 fz' e t xs' h2
 | aptr id ver=>
   refine ⟨h.1,fun fz e t xs hl=>?_⟩
   obtain ⟨h1,fz',xs',h2,h3⟩:=(ha id (by simp [At.mentions])).1 ver fz e t xs hl (by simp [At.hasVer])
   rw [h1];exact h.2 fz' e t xs' h2
 | aelem id ver i sz off m e' j o=>
   refine ⟨h.1,fun fz e t xs hl=>?_⟩
   obtain ⟨h1,fz',xs',h2,h3⟩:=(ha id (by simp [At.mentions])).1 ver fz e t xs hl (by simp [At.hasVer])
   rw [h1,←h3];exact h.2 fz' e t xs' h2
 | selfp id T=>
   refine ⟨h.1,fun cs hl=>?_⟩
   obtain ⟨h1,cs',h2⟩:=(ha id (by simp [At.mentions])).2.1 cs hl
   rw [h1];exact h.2 cs' h2
 | clo id=>
   refine ⟨h.1,fun f x y hl=>?_⟩
   obtain ⟨h1,f',x',y',h2⟩:=(ha id (by simp [At.mentions])).2.2 f x y hl
   rw [h1];exact h.2 f' x' y' h2
 | fptr t d=>
   obtain ⟨b,off,cs,h1,h2,h3,h4⟩:=h
   exact ⟨b,off,cs,h1,(hk b h2).1,ka hk t h3,fun j u hj=>hk.cell h2 (h4 j u hj)⟩
 | fn f=>exact h
 | junk=>exact h
theorem YV (hk:KeptW w w' Z Z') {cs:List At} (ha:∀a∈cs,AtOk nm nm' objs objs' a) {vs:List Value} (h:rdAs w Z nm objs cs vs):rdAs w' Z' nm' objs' cs vs:=
 ⟨h.1,fun i a v h1 h2=>rdA_mono hk (ha a (List.mem_of_getElem? h1)) (h.2 i a v h1 h2)⟩
def DvOk (nm nm':Names) (objs objs':List (Nat×Ob)):Dv→Prop
 | .one a=>AtOk nm nm' objs objs' a
 | .agg cs=>∀a∈cs,AtOk nm nm' objs objs' a
 | .tup cs=>∀a∈cs,AtOk nm nm' objs objs' a
theorem kI (hk:KeptW w w' Z Z') {d:Dv} (ha:DvOk nm nm' objs objs' d) {v:Value} (h:rdD w Z nm objs d v):rdD w' Z' nm' objs' d v:=by
 cases d with
 | one a=>exact rdA_mono hk ha h
 | agg cs=>obtain ⟨vs,e,h1,h2⟩:=h;exact ⟨vs,e,YV hk ha h1,h2⟩
 | tup cs=>obtain ⟨vs,e,h1⟩:=h;exact ⟨vs,e,YV hk ha h1⟩
theorem AtOk.refl (nm:Names) (objs:List (Nat×Ob)) (a:At):AtOk nm nm objs objs a:=
 fun _ _=>⟨fun _ fz _ _ xs hl _=>⟨rfl,fz,xs,hl,rfl⟩,fun cs hl=>⟨rfl,cs,hl⟩,fun f x y hl=>⟨rfl,f,x,y,hl⟩⟩
theorem DvOk.refl (nm:Names) (objs:List (Nat×Ob)) (d:Dv):DvOk nm nm objs objs d:=by
 cases d<;>simp only [DvOk]<;>first | exact AtOk.refl _ _ _ | exact fun a _=>AtOk.refl _ _ a
theorem ownsM_block {e:TypeId} {size:Nat} {v:Value} {m:Nat} {xs:List Value} (h:w.ownsM e size v m xs)
 (hb:∀b,blk v=some b→w'.heap[b]?=w.heap[b]?):w'.ownsM e size v m xs:=by
 refine ⟨h.1,?_⟩
 rcases h.2 with hn | ⟨g,cap,cur,rfl,h2,r⟩
 ·exact .inl hn
 ·exact .inr ⟨g,cap,cur,rfl,h2.block (hb g rfl),r⟩
theorem VT (hk:KeptW w w' Z Z') {v:Value} {e:TypeId} {t:Ty} {xs:List t.den} (hb:∀b,blk v=some b→w'.heap[b]?=w.heap[b]?) (h:rdArr w Z v e t xs):rdArr w' Z' v e t xs:=by
 rcases h with ⟨h0,cells,h1,h2⟩ | ⟨j,u,l,h1,b,es,clock,h2,h3,h4⟩
 ·exact .inl ⟨h0,cells,ownsM_block h1 hb,kA (fun _ _=>ka hk t) h2⟩
 ·exact .inr ⟨j,u,l,h1,b,es,clock,h2,by rw [hb b (by rw [h2];rfl)];exact h3,h4⟩
def ObOk (nm nm':Names) (objs objs':List (Nat×Ob)):Ob→Prop
 | .box cs=>∀a∈cs,AtOk nm nm' objs objs' a
 | .arr ..=>True
 | .clo _ x y=>(∀a∈x,AtOk nm nm' objs objs' a) ∧ ∀a∈y,AtOk nm nm' objs objs' a
 | .gone=>True
theorem ObOk.refl (nm:Names) (objs:List (Nat×Ob)) (ob:Ob):ObOk nm nm objs objs ob:=by
 cases ob with
 | box cs=>exact fun a _=>AtOk.refl _ _ a
 | arr=>trivial
 | gone=>trivial
 | clo f x y=>exact ⟨fun a _=>AtOk.refl _ _ a,fun a _=>AtOk.refl _ _ a⟩
theorem Yf (hk:KeptW w w' Z Z') {id:Nat} {ob:Ob} (hnm:nm' id=nm id) (hb:∀b,blk (nm id)=some b→w'.heap[b]?=w.heap[b]?)
 (ha:ObOk nm nm' objs objs' ob) (h:rdO w Z nm objs id ob):rdO w' Z' nm' objs' id ob:=by
 cases ob with
 | box cs=>
   obtain ⟨b,vs,T,h1,h2,h3,h4⟩:=h
   exact ⟨b,vs,T,by rw [hnm];exact h1,by rw [hb b (by rw [h1];rfl)];exact h2,YV hk ha h3,h4⟩
 | arr ver fz e t xs=>
   show rdArr w' Z' (nm' id) e t xs
   rw [hnm]
   exact VT hk hb h
 | clo f x y=>
   obtain ⟨vx,vy,h1,h2,h3⟩:=h
   exact ⟨vx,vy,by rw [hnm];exact h1,YV hk ha.1 h2,YV hk ha.2 h3⟩
 | gone=>trivial
end
section
variable [GInv] {n:Nat} {w0 w w':World} {Z0:Bs} {st:St} {a:Act} {nm:Names}
theorem Rel.grow (h:Rel n w0 Z0 st a w nm) (hs:Same w w'):Rel n w0 Z0 st a w' nm:=by
 have hk:Kept w w' (Zc w0 Z0 nm st.objs w) (Zc w0 Z0 nm st.objs w'):=fun b ⟨h1,h2,h3⟩=>⟨⟨zw h1 hs.size,h2,h3⟩,hs.block b h1⟩
 refine ⟨h.defk hk,h.size,fun t d ht=>?_,fun id ob ho=>?_,fun id ob b ho hb=>?_,h.inj,h.same.trans hs,h.given,h.glob,h.calm⟩
 ·obtain ⟨v,h1,h2⟩:=h.slots t d ht
  exact ⟨v,h1,kI hk (DvOk.refl ..) h2⟩
 ·exact Yf hk rfl (fun b hb=>hs.block b (h.new id ob b ho hb).2) (ObOk.refl _ _ _) (h.objs id ob ho)
 ·exact ⟨(h.new id ob b ho hb).1,zw (h.new id ob b ho hb).2 hs.size⟩
theorem Same.drew (w:World):Same w w.drew:=⟨rfl,rfl,rfl,zt _,fun _ _=>rfl⟩
theorem Same.alloc (w:World) (o:Obj):Same w (w.alloc o):=⟨rfl,rfl,rfl,by simp,fun b hb=>heap_alloc_old w o b hb⟩
theorem Rel.put (h:Rel n w0 Z0 st a w nm) {t:Nat} (ht:t<n) {d:Dv} {v:Value} (hd:rdD w (Zc w0 Z0 nm st.objs w) nm st.objs d v) :
 Rel n w0 Z0 ⟨ins t d st.slots,st.objs⟩ (a.put (some t) v) w nm:=by
 refine ⟨h.defers,by simp [Act.put,h.size],fun s d' hs=>?_,h.objs,h.new,h.inj,h.same,h.given,h.glob,h.calm⟩
 simp only [Jm] at hs
 by_cases he:t=s
 ·subst he
  simp only [if_true,z6] at hs
  subst hs
  exact ⟨v,by simp [Act.put,h.size,ht],hd⟩
 ·simp only [if_neg he] at hs
  obtain ⟨u,h1,h2⟩:=h.slots s d' hs
  exact ⟨u,by simp [Act.put,Array.getElem?_setIfInBounds_ne he,h1],h2⟩
theorem Rel.del (h:Rel n w0 Z0 st a w nm) (t:Nat):Rel n w0 Z0 ⟨Go.Ql.del t st.slots,st.objs⟩ a w nm:=by
 refine ⟨h.defers,h.size,fun s d' hs=>?_,h.objs,h.new,h.inj,h.same,h.given,h.glob,h.calm⟩
 simp only [UM] at hs
 by_cases he:t=s
 ·simp [he] at hs
 ·simp only [if_neg he] at hs
  exact h.slots s d' hs
theorem free_slot {st:St} {id t:Nat} {d:Dv} (h:st.free id=true) (hl:look st.slots t=some d):d.mentions id=false:=by
 simp only [St.free,z7,zu] at h
 simpa using h.1 _ (kV hl)
theorem free_obj {st:St} {id t:Nat} {ob:Ob} (h:st.free id=true) (hl:look st.objs t=some ob):t≠id∧ob.mentions id=false:=by
 simp only [St.free,z7,zu] at h
 have:=h.2 _ (kV hl)
 simp only [zx,z7] at this
 exact ⟨JJ.1 this.1,this.2⟩
theorem noVer_slot {st:St} {id ver t:Nat} {d:Dv} (h:st.noVer id ver=true) (hl:look st.slots t=some d):d.hasVer id ver=false:=by
 simp only [St.noVer,z7,zu] at h
 simpa using h.1 _ (kV hl)
theorem noVer_obj {st:St} {id ver t:Nat} {ob:Ob} (h:st.noVer id ver=true) (hl:look st.objs t=some ob):ob.hasVer id ver=false:=by
 simp only [St.noVer,z7,zu] at h
 simpa using h.2 _ (kV hl)
def Stays (nm:Names) (id:Nat) (nv:Value) (old:Option Ob) (ob:Ob):Prop:=
 match old,ob with
 | some (.box _),_=>nv=nm id
 | some (.arr v _ e t xs),.arr v' _ e' t' xs'=>v=v'→nv=nm id∧e'=e∧t'=t∧List.length xs'=List.length xs
 | _,_=>True
theorem Vw {id:Nat} {ob':Ob} {nv:Value} (hmay:mayOb st id ob'=true) (hst:Stays nm id nv (look st.objs id) ob') {x:At}
 (hfree:st.free id=true→x.mentions id=false) (hver:∀v,st.noVer id v=true→x.hasVer id v=false) :
 AtOk nm (setN nm id nv) st.objs (ins id ob' st.objs) x:=by
 intro j hj
 by_cases he:id=j
 ·subst he
  unfold mayOb at hmay
  unfold Stays at hst
  cases hl:look st.objs id with
  | none=>
    rw [hl] at hmay
    simp only [z7] at hmay
    rw [hfree hmay.2] at hj
    cases hj
  | some old=>
    rw [hl] at hmay hst
    cases old with
    | box cs=>
      cases ob' with
      | arr v' fz' e' t' xs'=>cases hmay
      | box cs'=>
        simp only at hst
        subst hst
        exact ⟨fun ver fz e t xs h1=>by simp [Jm] at h1,fun _ _=>⟨JG _ _ _,cs,rfl⟩,fun f x y h1=>by simp [Jm] at h1⟩
      | clo f x y=>cases hmay
      | gone=>cases hmay
    | gone=>
      cases ob' with
      | gone=>exact ⟨fun ver fz e t xs h1=>by simp [Jm] at h1,fun cs h1=>by simp [Jm] at h1,fun f x y h1=>by simp [Jm] at h1⟩
      | _=>cases hmay
    | arr v fz e t xs=>
      cases ob' with
      | gone=>exact ⟨fun ver fz e t xs h1=>by simp [Jm] at h1,fun cs h1=>by simp [Jm] at h1,fun f x y h1=>by simp [Jm] at h1⟩
      | box cs'=>cases hmay
      | arr v' fz' e' t' xs'=>
        simp only [Bool.or_eq_true,z7] at hmay
        refine ⟨?_,?_,?_⟩
        ·intro ver fz1 e1 t1 xs1 h1 h2
         simp only [Jm,if_true,z6,Ob.arr.injEq] at h1
         obtain ⟨rfl,rfl,rfl,rfl,h1⟩:=h1
         have h1:=eq_of_heq h1
         subst h1
         rcases hmay with hm | hm
         ·have:=beqN.1 hm
          obtain ⟨q1,q2,q3,q4⟩:=hst this
          subst this;subst q2;subst q3
          exact ⟨by rw [JG];exact q1,fz,xs,rfl,q4.symm⟩
         ·rw [hver _ hm.2] at h2;cases h2
        ·intro cs h1
         simp [Jm] at h1
        ·intro f x y h1
         simp [Jm] at h1
      | clo f x y=>cases hmay
    | clo f x y=>cases hmay
 ·refine ⟨fun ver fz e t xs h1 _=>?_,fun cs h1=>?_,fun f x y h1=>?_⟩
  ·rw [Jm,if_neg he] at h1
   exact ⟨kU _ _ (Ne.symm he),fz,xs,h1,rfl⟩
  ·rw [Jm,if_neg he] at h1
   exact ⟨kU _ _ (Ne.symm he),cs,h1⟩
  ·rw [Jm,if_neg he] at h1
   exact ⟨kU _ _ (Ne.symm he),f,x,y,h1⟩
theorem dvOk_upd {id:Nat} {ob':Ob} {nv:Value} (hmay:mayOb st id ob'=true) (hst:Stays nm id nv (look st.objs id) ob') {d:Dv}
 (hfree:st.free id=true→d.mentions id=false) (hver:∀v,st.noVer id v=true→d.hasVer id v=false) :
 DvOk nm (setN nm id nv) st.objs (ins id ob' st.objs) d:=by
 cases d with
 | one x=>exact Vw hmay hst hfree hver
 | agg cs=>
   intro x hx
   refine Vw hmay hst (fun h=>?_) (fun v h=>?_)
   ·have:=hfree h;simp only [Dv.mentions,List.any_eq_false] at this;simpa using this x hx
   ·have:=hver v h;simp only [Dv.hasVer,List.any_eq_false] at this;simpa using this x hx
 | tup cs=>
   intro x hx
   refine Vw hmay hst (fun h=>?_) (fun v h=>?_)
   ·have:=hfree h;simp only [Dv.mentions,List.any_eq_false] at this;simpa using this x hx
   ·have:=hver v h;simp only [Dv.hasVer,List.any_eq_false] at this;simpa using this x hx
theorem obOk_upd {id:Nat} {ob':Ob} {nv:Value} (hmay:mayOb st id ob'=true) (hst:Stays nm id nv (look st.objs id) ob') {ob:Ob}
 (hfree:st.free id=true→ob.mentions id=false) (hver:∀v,st.noVer id v=true→ob.hasVer id v=false) :
 ObOk nm (setN nm id nv) st.objs (ins id ob' st.objs) ob:=by
 cases ob with
 | arr=>trivial
 | gone=>trivial
 | box cs=>
   intro x hx
   refine Vw hmay hst (fun h=>?_) (fun v h=>?_)
   ·have:=hfree h;simp only [Ob.mentions,List.any_eq_false] at this;simpa using this x hx
   ·have:=hver v h;simp only [Ob.hasVer,List.any_eq_false] at this;simpa using this x hx
 | clo f p q=>
   refine ⟨fun x hx=>Vw hmay hst (fun h=>?_) (fun v h=>?_),fun x hx=>Vw hmay hst (fun h=>?_) (fun v h=>?_)⟩
   ·have:=hfree h;simp only [Ob.mentions,Bool.or_eq_false_iff,List.any_eq_false] at this;simpa using this.1 x hx
   ·have:=hver v h;simp only [Ob.hasVer,Bool.or_eq_false_iff,List.any_eq_false] at this;simpa using this.1 x hx
   ·have:=hfree h;simp only [Ob.mentions,Bool.or_eq_false_iff,List.any_eq_false] at this;simpa using this.2 x hx
   ·have:=hver v h;simp only [Ob.hasVer,Bool.or_eq_false_iff,List.any_eq_false] at this;simpa using this.2 x hx
theorem Rel.upd (h:Rel n w0 Z0 st a w nm) (id:Nat) (ob':Ob) (nv:Value)
 (hmay:mayOb st id ob'=true) (hst:Stays nm id nv (look st.objs id) ob')
 (hs:w'.os=w.os∧w'.tape=w.tape∧w'.output=w.output∧w.heap.size≤w'.heap.size)
 (hblock:∀b,b<w.heap.size→(∃ob,look st.objs id=some ob∧ob.mine=true∧blk (nm id)=some b)∨w'.heap[b]?=w.heap[b]?)
 (hnew:∀b,blk nv=some b→(blk (nm id)=some b ∧ ∃ob,look st.objs id=some ob∧(ob.mine=true∨ob'.mine=false))∨(w.heap.size≤b∧b<w'.heap.size))
 (hrd:rdO w' (Zc w0 Z0 (setN nm id nv) (ins id ob' st.objs) w') (setN nm id nv) (ins id ob' st.objs) id ob') :
 Rel n w0 Z0 ⟨st.slots,ins id ob' st.objs⟩ a w' (setN nm id nv):=by
 have hsz:=h.same.size
 have hk:Kept w w' (Zc w0 Z0 nm st.objs w) (Zc w0 Z0 (setN nm id nv) (ins id ob' st.objs) w'):=by
  rintro b ⟨h1,h2,h3⟩
  refine ⟨⟨zw h1 hs.2.2.2,h2,?_⟩,?_⟩
  ·rintro ⟨j,ob,hj,hm,hb⟩
   by_cases he:id=j
   ·subst he
    rw [Jm,if_pos rfl] at hj
    cases hj
    rw [JG] at hb
    rcases hnew b hb with ⟨q1,ob,q2,q3⟩ | ⟨q1,_⟩
    ·rcases q3 with q3 | q3
     ·exact h3 ⟨id,ob,q2,q3,q1⟩
     ·rw [hm] at q3;cases q3
    ·omega
   ·rw [Jm,if_neg he] at hj
    rw [kU _ _ (Ne.symm he)] at hb
    exact h3 ⟨j,ob,hj,hm,hb⟩
  ·rcases hblock b h1 with ⟨ob,q1,q2,q3⟩ | q
   ·exact absurd ⟨id,ob,q1,q2,q3⟩ h3
   ·exact q
 refine ⟨h.defk hk,h.size,fun t d ht=>?_,fun j ob hj=>?_,fun j ob b hj hb=>?_,fun j j' _ _ b hj hj' hb hb'=>?_,?_,?_,h.glob,h.calm⟩
 ·obtain ⟨v,h1,h2⟩:=h.slots t d ht
  exact ⟨v,h1,kI hk (dvOk_upd hmay hst (fun hf=>free_slot hf ht) (fun v hv=>noVer_slot hv ht)) h2⟩
 ·by_cases he:id=j
  ·subst he
   rw [Jm,if_pos rfl] at hj
   cases hj
   exact hrd
  ·rw [Jm,if_neg he] at hj
   refine Yf hk (kU _ _ (Ne.symm he)) (fun b hb=>?_) (obOk_upd hmay hst (fun hf=>(free_obj hf hj).2) (fun v hv=>noVer_obj hv hj)) (h.objs j ob hj)
   rcases hblock b (h.new j ob b hj hb).2 with ⟨ob2,q1,q2,q3⟩ | q
   ·exact absurd (h.inj id j ob2 ob b q1 hj q3 hb) he
   ·exact q
 ·by_cases he:id=j
  ·subst he
   rw [JG] at hb
   rcases hnew b hb with ⟨q1,ob2,q2,_⟩ | ⟨q1,q2⟩
   ·have:=h.new id ob2 b q2 q1
    exact ⟨this.1,zw this.2 hs.2.2.2⟩
   ·exact ⟨.inl (by omega),q2⟩
  ·rw [Jm,if_neg he] at hj
   rw [kU _ _ (Ne.symm he)] at hb
   have:=h.new j ob b hj hb
   exact ⟨this.1,zw this.2 hs.2.2.2⟩
 ·have key:∀j ob b,j≠id→look (ins id ob' st.objs) j=some ob→blk (setN nm id nv j)=some b→blk nv=some b→False:=by
   intro j ob b he hj hb hb'
   rw [Jm,if_neg (Ne.symm he)] at hj
   rw [kU _ _ he] at hb
   rcases hnew b hb' with ⟨q1,ob2,q2,_⟩ | ⟨q1,_⟩
   ·exact he (h.inj j id ob ob2 b hj q2 hb q1)
   ·have:=(h.new j ob b hj hb).2;omega
  by_cases he:j=id
  ·by_cases he':j'=id
   ·rw [he,he']
   ·subst he
    rw [JG] at hb
    exact (key j' _ b he' hj' hb' hb).elim
  ·by_cases he':j'=id
   ·subst he'
    rw [JG] at hb'
    exact (key j _ b he hj hb hb').elim
   ·rw [Jm,if_neg (Ne.symm he)] at hj
    rw [Jm,if_neg (Ne.symm he')] at hj'
    rw [kU _ _ he] at hb
    rw [kU _ _ he'] at hb'
    exact h.inj j j' _ _ b hj hj' hb hb'
 ·refine ⟨hs.1.trans h.same.os,hs.2.1.trans h.same.tape,hs.2.2.1.trans h.same.output,Nat.le_trans hsz hs.2.2.2,fun b hb hm=>?_⟩
  rcases hblock b (by omega) with ⟨ob2,q1,q2,q3⟩ | q
  ·rcases (h.new id ob2 b q1 q3).1 with hh | hh
   ·omega
   ·exact absurd hh hm
  ·exact q.trans (h.same.block b hb hm)
 ·intro j ob hg hj hh
  by_cases he:id=j
  ·subst he
   rw [Jm,if_pos rfl] at hj
   cases hj
   rw [JG]
   unfold mayOb at hmay
   unfold Stays at hst
   cases hl:look st.objs id with
   | none=>
     rw [hl] at hmay
     simp only [z7,Nat.blt_eq] at hmay
     omega
   | some old=>
     rw [hl] at hmay hst
     cases old with
     | clo f x y=>cases hmay
     | gone=>
       cases ob' with
       | gone=>exact hh.elim
       | _=>cases hmay
     | box cs=>
       cases ob' with
       | gone=>exact hh.elim
       | arr=>cases hmay
       | clo=>cases hmay
       | box cs'=>
       simp only at hst
       rw [hst]
       exact h.given id _ hg hl trivial
     | arr v fz e t xs=>
       cases ob' with
       | gone=>exact hh.elim
       | box cs'=>cases hmay
       | clo f x y=>cases hmay
       | arr v' fz' e' t' xs'=>
         simp only [Bool.or_eq_true,z7,zx] at hmay
         rcases hmay with hm | hm
         ·have:=beqN.1 hm
          subst this
          rw [(hst rfl).1]
          exact h.given id _ hg hl hh
         ·exact absurd hh.2 (JJ.1 hm.1)
  ·rw [Jm,if_neg he] at hj
   rw [kU _ _ (Ne.symm he)]
   exact h.given j ob hg hj hh
def Does (P:Program) (o:Oper) (a:Act) (w:World) (R:Value→World→Prop):Prop:=
 ∀(K:Act→World→Prop) (Q:Exit→Act→World→Prop),(∀v w',R v w'→K (a.put o.dst v) w')→o.wp P a w K Q
theorem Does.of_run {P:Program} {o:Oper} {R:Value→World→Prop} {v:Value} (h:(execOp a.eval o).run P w=.ok (.value v) w') (hr:R v w'):Does P o a w R:=by
 intro K Q hk
 unfold Oper.wp
 rw [h]
 exact hk _ _ hr
theorem Does.of_skip {P:Program} {o:Oper} {R:Value→World→Prop} (h:(execOp a.eval o).run P w=.ok .skip w') (hr:R undef w'):Does P o a w R:=by
 intro K Q hk
 unfold Oper.wp
 rw [h]
 exact hk _ _ hr
theorem Does.of_call {P:Program} {o:Oper} {R:Value→World→Prop} {f:FuncId} {args:Array Value} (h:(execOp a.eval o).run P w=.ok (.enter f args) w')
 (hr:Calls P f args w' fun e w''=>∃v,e=.returned v∧R v w''):Does P o a w R:=by
 intro K Q hk
 unfold Oper.wp
 rw [h]
 exact Calls.mono hr fun e w'' ⟨v,he,hv⟩=>by subst he;exact hk _ _ hv
end
end Go.Ql
end

section
namespace Go.Ql
def UE (p:List Value→Prop):Nat→List Value→Prop
 | 0,cs=>cs=[]
 | n+1,cs=>∃c1 c2,cs=c1++c2∧p c1∧UE p n c2
def kl:Ty→List Value→Prop
 | .bool,cs=>cs=[.bool false]
 | .int k,cs=>cs=[.int k 0]
 | .str,cs=>cs=[.string ⟨#[]⟩]
 | .sl t,cs=>cs=[.slice none 0 0]∧t.isPair=false
 | .st t,cs=>kl t cs
 | .unit,cs=>cs=[]
 | .pair a b,cs=>∃c1 c2,cs=c1++c2∧kl a c1∧kl b c2
 | .ar n t,cs=>UE (kl t) n cs
 | .nilv k,cs=>cs=[YJ k]
 | .node t,cs=>∃c1,cs=c1++[.slice none 0 0]∧kl t c1
 | .ifc _ _,_=>False
 | .nn,_=>False
 | .len,_=>False
 | .fl _,_=>False
theorem repAll_zero {p:List Value→Prop} {n:Nat} {cs:List Value} (h:UE p n cs):n=0 ∨ ∃c,p c:=by
 cases n with
 | zero=>exact .inl rfl
 | succ n=>obtain ⟨c1,_,_,h1,_⟩:=h;exact .inr ⟨c1,h1⟩
theorem isZero_noMap {t:Ty} {cs:List Value} (h:kl t cs):t.isMap=false:=by
 cases t with
 | sl t=>exact h.2
 | _=>rfl
structure TiOk (P:Program) (t:TypeId) (ti:TI):Prop where
 info:∃i z,P.info? t=some i∧i.size=ti.ty.cells∧i.zero=some z∧kl ti.ty z.cells.toList∧(ti.ty.isSt=true → ∃cs,z=.agg cs)
 kind:match ti.kind with
  | .scalar=>(ti.ty=.bool∧P.underlying t=some .bool)∨(∃k,ti.ty=.int k∧P.underlying t=some (.int k))∨(ti.ty=.str∧P.underlying t=some .string)
  | .nul=>∃k,ti.ty=.nilv k∧((∃e,P.underlying t=some (.pointer e))∨(∃ms,P.underlying t=some (.interface ms)) ∨ ∃a b c,P.underlying t=some (.func a b c))∧(k=1 → ∃ms,P.underlying t=some (.interface ms))
  | .struct fs=>∃s fields,ti.ty=.st s∧P.underlying t=some (.struct fields)∧fields.toList.map (fun f=>(f.offset,f.type))=fs ∧ ∀f∈fields.toList,∃fi,P.info? f.type=some fi
  | .slice e by_=>∃s i z,ti.ty=.sl s∧P.underlying t=some (.slice e)∧P.info? e=some i∧i.size=s.cells∧i.bytes=by_∧i.zero=some z∧kl s z.cells.toList∧0<s.cells
  | .arr n e=>∃s i z,ti.ty=.ar n s∧P.underlying t=some (.array n e)∧P.info? e=some i∧i.size=s.cells∧i.zero=some z∧kl s z.cells.toList
  | .map k e j u=>ti.ty=.nilv 2∧P.underlying t=some (.map k e)∧P.underlying k=some (.int j) ∧ ∃i,P.info? e=some i∧i.zero=some (.int u 0)
  | .other=>False
def TabOk (P:Program) (tab:List (Nat×TI)):Prop:=∀t ti,look tab t=some ti→TiOk P t ti
theorem TiOk.agg {P:Program} {t:TypeId} {ti:TI} (h:TiOk P t ti) (w:World):(isAgg t).run P w=.ok ti.ty.isSt w:=by
 obtain ⟨ty,kind⟩:=ti
 have hk:=h.kind
 cases kind with
 | scalar=>
   rcases hk with ⟨rfl,h1⟩ | ⟨k,rfl,h1⟩ | ⟨rfl,h1⟩<;>simp [isAgg,run_underlying h1,Ty.isSt]
 | nul=>obtain ⟨k,rfl,⟨e,h1⟩ | ⟨ms,h1⟩ | ⟨_,_,_,h1⟩,_⟩:=hk<;>simp [isAgg,run_underlying h1,Ty.isSt]
 | map k e j u=>obtain ⟨rfl,h1,_⟩:=hk;simp [isAgg,run_underlying h1,Ty.isSt]
 | struct fs=>obtain ⟨s,fields,rfl,h1,_⟩:=hk;simp [isAgg,run_underlying h1,Ty.isSt]
 | slice e b=>obtain ⟨s,i,z,rfl,h1,_⟩:=hk;simp [isAgg,run_underlying h1,Ty.isSt]
 | arr n e=>obtain ⟨s,i,z,rfl,h1,_⟩:=hk;simp [isAgg,run_underlying h1,Ty.isSt]
 | other=>exact hk.elim
theorem TiOk.sizeOf {P:Program} {t:TypeId} {ti:TI} (h:TiOk P t ti) (w:World):(sizeOf t).run P w=.ok ti.ty.cells w:=by
 obtain ⟨i,z,h1,h2,_⟩:=h.info
 simp [Go.sizeOf,typeInfo,h1,h2]
theorem constAt_rd {w:World} {Z:Nat→Prop} {nm:Names} {objs:List (Nat×Ob)} {v:Value} {x:At} (h:constAt v=some x):rdA w Z nm objs x v∧v.oneCell'=true:=by
 unfold constAt at h
 split at h
 ·cases h;exact ⟨by simp [rdA,rdV,rdC],rfl⟩
 ·cases h;exact ⟨by simp [rdA,rdV,rdC],rfl⟩
 ·cases h;exact ⟨by simp [rdA,rdV,rdC],rfl⟩
 ·cases h;exact ⟨by simp [rdA],rfl⟩
 ·cases h
theorem constAts_rd {w:World} {Z:Nat→Prop} {nm:Names} {objs:List (Nat×Ob)}:∀{vs:List Value} {cs:List At},UJ vs=some cs→rdAs w Z nm objs cs vs ∧ ∀u∈vs,u.oneCell'=true
 | [],cs,h=>by cases h;exact ⟨⟨rfl,fun i a v h1 _=>by simp at h1⟩,fun u hu=>by cases hu⟩
 | v::r,cs,h=>by
   unfold UJ at h
   split at h
   ·rename_i a l h1 h2
    cases h
    obtain ⟨⟨g1,g2⟩,g3⟩:=constAts_rd h2
    obtain ⟨k1,k2⟩:=constAt_rd h1
    refine ⟨⟨by simp [g1],fun i x y hx hy=>?_⟩,fun u hu=>?_⟩
    ·cases i with
     | zero=>simp only [List.getElem?_cons_zero,z6] at hx hy;subst hx;subst hy;exact k1
     | succ i=>simp only [List.getElem?_cons_succ] at hx hy;exact g2 i x y hx hy
    ·rcases zz.1 hu with rfl | hu
     ·exact k2
     ·exact g3 u hu
   ·cases h
section
variable [GInv] {P:Program} {G:Env} {n:Nat} {w0 w:World} {Z0:Bs} {st:St} {a:Act} {nm:Names} {o:Oper} {dst:Nat} {ρ:Type} {k:Eff→Option ρ} {r:ρ}
abbrev zc (w0:World) (Z0:Bs) (nm:Names) (st:St) (w:World):Nat→Prop:=Zc w0 Z0 nm st.objs w
def Good (P:Program) (n:Nat) (w0:World) (Z0:Bs) (st:St) (a:Act) (w:World) (o:Oper) (e:Eff):Prop:=
 ∀st',JE st e.upd=some st'→Does P o a w fun v w'=>∃nm',Rel n w0 Z0 st' a w' nm'∧rdD w' (Zc w0 Z0 nm' st'.objs w') nm' st'.objs e.dv v
theorem Good.pure (h:Rel n w0 Z0 st a w nm) {d:Dv} {v:Value} (hrun:(execOp a.eval o).run P w=.ok (.value v) w) (hd:rdD w (Zc w0 Z0 nm st.objs w) nm st.objs d v) :
 Good P n w0 Z0 st a w o ⟨d,[]⟩:=by
 intro st' hl
 simp only [JE,z6] at hl
 subst hl
 exact Does.of_run hrun ⟨nm,h,hd⟩
theorem Good.grow (h:Rel n w0 Z0 st a w nm) {d:Dv} {v:Value} {w':World} (hrun:(execOp a.eval o).run P w=.ok (.value v) w') (hs:Same w w')
 (hd:rdD w' (Zc w0 Z0 nm st.objs w') nm st.objs d v):Good P n w0 Z0 st a w o ⟨d,[]⟩:=by
 intro st' hl
 simp only [JE,z6] at hl
 subst hl
 exact Does.of_run hrun ⟨nm,h.grow hs,hd⟩
theorem ev_rd (h:Rel n w0 Z0 st a w nm) {x:Operand} {d:Dv} (hx:evSt st x=some d):rdD w (Zc w0 Z0 nm st.objs w) nm st.objs d (a.eval x):=by
 cases x with
 | tmp t=>
   obtain ⟨v,h1,h2⟩:=h.slots t d hx
   simp only [Act.eval,Array.getD_eq_getD_getElem?,h1,Option.getD_some]
   exact h2
 | const v=>
   cases v with
   | int j m=>simp only [evSt,z6] at hx;subst hx;simp [Act.eval,vI,rdD,rdA,rdV,rdC]
   | bool b=>simp only [evSt,z6] at hx;subst hx;simp [Act.eval,vB,rdD,rdA,rdV,rdC]
   | string s=>simp only [evSt,z6] at hx;subst hx;simp [Act.eval,vS,rdD,rdA,rdV,rdC]
   | slice b l c=>
     cases b with
     | some b=>simp [evSt] at hx
     | none=>
       cases l with
       | succ l=>simp [evSt] at hx
       | zero=>cases c with
         | succ c=>simp [evSt] at hx
         | zero=>simp only [evSt,z6] at hx;subst hx;simp [Act.eval,rdD,rdA]
   | pointer q=>
     cases q with
     | some q=>simp [evSt] at hx
     | none=>
       simp only [evSt,z6] at hx
       subst hx
       exact (show [Value.pointer none]=[YJ 0] from rfl)
   | map q=>
     cases q with
     | some q=>simp [evSt] at hx
     | none=>
       simp only [evSt,z6] at hx
       subst hx
       exact (show [Value.map none]=[YJ 2] from rfl)
   | nilIface=>
     simp only [evSt,z6] at hx
     subst hx
     exact (show [Value.nilIface]=[YJ 1] from rfl)
   | nilFunc=>
     simp only [evSt,z6] at hx
     subst hx
     exact (show [Value.nilFunc]=[YJ 3] from rfl)
   | agg vs=>
     simp only [evSt] at hx
     split at hx
     ·rename_i cs hcs
      simp only [z6] at hx
      subst hx
      have hh:=constAts_rd (w:=w) (Z:=Zc w0 Z0 nm st.objs w) (nm:=nm) (objs:=st.objs) hcs
      exact ⟨vs,rfl,hh.1,hh.2⟩
     ·cases hx
   | _=>simp [evSt] at hx
 | global g=>simp [evSt] at hx
 | func f=>
   simp only [evSt,z6] at hx
   subst hx
   simp [rdD,rdA,Act.eval]
theorem YI (h:Rel n w0 Z0 st a w nm) {x:Operand} {j:IntKind} {m:Int} (hx:evSt st x=some (.one (.val (.int j) m))):a.eval x=.int j m:=by
 have:=ev_rd h hx
 simpa [rdD,rdA,rdV,rdC] using this
theorem HB (h:Rel n w0 Z0 st a w nm) {x:Operand} {b:Bool} (hx:evSt st x=some (.one (.val .bool b))):a.eval x=.bool b:=by
 have:=ev_rd h hx
 simpa [rdD,rdA,rdV,rdC] using this
theorem UU (h:Rel n w0 Z0 st a w nm) {x:Operand} {s:Z6} (hx:evSt st x=some (.one (.val .str s))):a.eval x=.string ⟨s.toArray⟩:=by
 have:=ev_rd h hx
 simpa [rdD,rdA,rdV,rdC] using this
theorem rd_vI (Z:Nat→Prop) (objs:List (Nat×Ob)) (j:IntKind) (m:Int):rdD w Z nm objs (vI j m) (.int j m):=by simp [vI,rdD,rdA,rdV,rdC]
theorem rd_vB (Z:Nat→Prop) (objs:List (Nat×Ob)) (b:Bool):rdD w Z nm objs (vB b) (.bool b):=by simp [vB,rdD,rdA,rdV,rdC]
theorem rd_vS (Z:Nat→Prop) (objs:List (Nat×Ob)) (s:Z6):rdD w Z nm objs (vS s) (.string ⟨s.toArray⟩):=by simp [vS,rdD,rdA,rdV,rdC]
theorem jQ {α β:Type} {p:Option α} {f:α→Option β} {x:β} (h:bnd p f=some x):∃y,p=some y∧f y=some x:=by
 cases p with
 | none=>simp [bnd] at h
 | some y=>exact ⟨y,rfl,h⟩
theorem JS {b:Bool} {u:Unit} (h:okIf b=some u):b=true:=by cases b<;>simp [okIf] at h ⊢
abbrev EffOk (P:Program) (G:Env) (o:Oper):Prop:=
 TabOk P G.tab → ∀{n:Nat} {w0 w:World} {Z0:Bs} {st:St} {a:Act} {nm:Names} {dst:Nat} {ρ:Type} {k:Eff→Option ρ} {r:ρ},
  Rel n w0 Z0 st a w nm→effK G o dst (evSt st) (look st.objs) k=some r → ∃e,k e=some r∧Good P n w0 Z0 st a w o e
theorem eff_pick {c x y:Operand} (ho:o.op=.pick c x y):EffOk P G o:=by
 intro hT n w0 w Z0 st a nm dst ρ k r h he
 unfold effK at he
 rw [ho] at he
 simp only at he
 split at he
 ·rename_i b hb
  have hc:=HB h hb
  cases b with
  | true=>
    simp only [br] at he
    split at he
    ·rename_i d hd
     exact ⟨_,he,Good.pure h (v:=a.eval x) (by simp [execOp,ho,hc,asBool]) (ev_rd h hd)⟩
    ·cases he
  | false=>
    simp only [br] at he
    split at he
    ·rename_i d hd
     exact ⟨_,he,Good.pure h (v:=a.eval y) (by simp [execOp,ho,hc,asBool]) (ev_rd h hd)⟩
    ·cases he
 ·cases he
theorem run_eqGuard_no {op:BinOp} {t:TypeId} {x y:Operand} {u v:Value} (h:(∀cs,u ≠ .agg cs)∧u ≠ .nilIface):(eqGuard op t x y u v).run P w=.ok () w:=by
 cases u with
 | nilIface=>exact absurd rfl h.2
 | agg cs=>exact absurd rfl (h.1 cs)
 | _=>cases op<;>simp [eqGuard]
theorem run_eqGuard_nil {op:BinOp} {t:TypeId} {x:Operand} {c v:Value} (h:∀cs,v ≠ .agg cs):(eqGuard op t x (.const c) v .nilIface).run P w=.ok () w:=by
 cases v with
 | agg cs=>exact absurd rfl (h cs)
 | _=>cases op<;>simp [eqGuard]
theorem run_equalIn_nil (d:Nat) {t:TypeId} {ms} (hu:P.underlying t=some (.interface ms)):(Op.equalIn (d+1) t .nilIface .nilIface).run P w=.ok true w:=by
 simp [Op.equalIn,run_underlying hu]
theorem run_equalIn_nn (d:Nat) {t:TypeId} {ms} (hu:P.underlying t=some (.interface ms)) (T:TypeId) (u:Value):(Op.equalIn (d+1) t (.iface T u) .nilIface).run P w=.ok false w:=by
 simp [Op.equalIn,run_underlying hu]
theorem VQ (s:Z6):(⟨s.toArray⟩:ByteArray).toList=s:=by rw [ByteArray.toList_eq]
theorem VG:∀s t:Z6,Op.bytesLess s t=UI s t
 | [],[]=>rfl
 | [],_::_=>rfl
 | _::_,[]=>rfl
 | a::s,b::t=>by simp only [Op.bytesLess,UI,VG s t]
theorem Ur (s:Z6):(⟨s.toArray⟩:ByteArray).size=s.length:=by simp [ByteArray.size]
theorem append_mk (s t:Z6):(⟨s.toArray⟩:ByteArray)++⟨t.toArray⟩=⟨(s++t).toArray⟩:=by
 apply ByteArray.ext
 simp [ByteArray.data_append]
theorem binI_run {op:BinOp} {j:IntKind} {m q:Int} {kk:Dv→Option ρ} {xt:TypeId} (n1:op ≠ .shl) (n2:op ≠ .shr) (hs:binI op j m q kk=some r) :
 ∃d v,kk d=some r∧(binOp op xt (.int j m) (.int j q)).run P w=.ok v w ∧ ∀nm Z objs,rdD w Z nm objs d v:=by
 cases op<;>simp only [binI] at hs
 case shl=>exact absurd rfl n1
 case shr=>exact absurd rfl n2
 case quo=>
  obtain ⟨_,hb,hs⟩:=jQ hs
  have hb:q≠0:=by simpa using JS hb
  exact ⟨_,_,hs,by simp only [binOp,ne_eq,not_true_eq_false,if_false,Op.intDiv,if_neg hb];rfl,fun _ _ _=>rd_vI _ _ _ _⟩
 case rem=>
  obtain ⟨_,hb,hs⟩:=jQ hs
  have hb:q≠0:=by simpa using JS hb
  exact ⟨_,_,hs,by simp only [binOp,ne_eq,not_true_eq_false,if_false,Op.intDiv,if_neg hb];rfl,fun _ _ _=>rd_vI _ _ _ _⟩
 case eql=>exact ⟨_,_,hs,by simp only [binOp,ne_eq,not_true_eq_false,if_false];rfl,fun _ _ _=>rd_vB _ _ _⟩
 case neq=>exact ⟨_,_,hs,by simp only [binOp,ne_eq,not_true_eq_false,if_false];rfl,fun _ _ _=>rd_vB _ _ _⟩
 case lss=>exact ⟨_,_,hs,by simp only [binOp,ne_eq,not_true_eq_false,if_false];rfl,fun _ _ _=>rd_vB _ _ _⟩
 case leq=>exact ⟨_,_,hs,by simp only [binOp,ne_eq,not_true_eq_false,if_false];rfl,fun _ _ _=>rd_vB _ _ _⟩
 case gtr=>exact ⟨_,_,hs,by simp only [binOp,ne_eq,not_true_eq_false,if_false];rfl,fun _ _ _=>rd_vB _ _ _⟩
 case geq=>exact ⟨_,_,hs,by simp only [binOp,ne_eq,not_true_eq_false,if_false];rfl,fun _ _ _=>rd_vB _ _ _⟩
 all_goals exact ⟨_,_,hs,by simp only [binOp,ne_eq,not_true_eq_false,if_false];rfl,fun _ _ _=>rd_vI _ _ _ _⟩
theorem binS_run {op:BinOp} {s t:Z6} {kk:Dv→Option ρ} {xt:TypeId} (hs:binS op s t kk=some r) :
 ∃d v,kk d=some r∧(binOp op xt (.string ⟨s.toArray⟩) (.string ⟨t.toArray⟩)).run P w=.ok v w ∧ ∀nm Z objs,rdD w Z nm objs d v:=by
 cases op<;>simp only [binS] at hs
 case add=>
  obtain ⟨_,hb,hs⟩:=jQ hs
  have hb:=zr (JS hb)
  refine ⟨_,.string ⟨(s++t).toArray⟩,hs,?_,fun _ _ _=>rd_vS _ _ _⟩
  have hm:¬(((s.length+t.length:Nat):Int)>IntKind.i64.max):=by
   have:IntKind.i64.max=9223372036854775807:=rfl
   omega
  simp only [binOp,Op.stringOp,Ur,if_neg hm,append_mk]
  rfl
 case eql=>exact ⟨_,_,hs,by simp only [binOp,Op.stringOp,VQ];rfl,fun _ _ _=>rd_vB _ _ _⟩
 case neq=>exact ⟨_,_,hs,by simp only [binOp,Op.stringOp,VQ];rfl,fun _ _ _=>rd_vB _ _ _⟩
 case lss=>exact ⟨_,_,hs,by simp only [binOp,Op.stringOp,VQ,VG];rfl,fun _ _ _=>rd_vB _ _ _⟩
 case leq=>exact ⟨_,_,hs,by simp only [binOp,Op.stringOp,VQ,VG];rfl,fun _ _ _=>rd_vB _ _ _⟩
 case gtr=>exact ⟨_,_,hs,by simp only [binOp,Op.stringOp,VQ,VG];rfl,fun _ _ _=>rd_vB _ _ _⟩
 case geq=>exact ⟨_,_,hs,by simp only [binOp,Op.stringOp,VQ,VG];rfl,fun _ _ _=>rd_vB _ _ _⟩
 all_goals cases hs
theorem run_equalIn_bool (d:Nat) {t:TypeId} (hu:P.underlying t=some .bool) (x y:Bool):(Op.equalIn (d+1) t (.bool x) (.bool y)).run P w=.ok (x==y) w:=by
 simp [Op.equalIn,run_underlying hu]
end
end Go.Ql
end

section
namespace Go.Ql
theorem Uq {w:World} {Z:Nat→Prop} {s:Ty}:∀{t:Ty} {d:t.den} {off:Nat} {y:s.den} {cs:List Value},Ty.sub s t d off=some y→rdC w Z t cs d →
 ∃c1 c2 c3,cs=c1++c2++c3∧c1.length=off∧rdC w Z s c2 y:=by
 intro t
 induction t with
 | st t ih=>
   intro d off y cs hs hr
   simp only [Ty.sub] at hs
   split at hs
   ·rename_i h
    subst h
    split at hs
    ·rename_i h0
     cases hs
     exact ⟨[],cs,[],by simp,by simp [h0],hr⟩
    ·cases hs
   ·exact ih hs hr
 | pair a b iha ihb=>
   intro d off y cs hs hr
   obtain ⟨c1,c2,rfl,h1,h2⟩:=hr
   have l1:=JF _ h1
   simp only [Ty.sub] at hs
   split at hs
   ·obtain ⟨x1,x2,x3,e,e1,e2⟩:=iha hs h1
    exact ⟨x1,x2,x3++c2,by rw [e];simp,e1,e2⟩
   ·obtain ⟨x1,x2,x3,e,e1,e2⟩:=ihb hs h2
    exact ⟨c1++x1,x2,x3,by rw [e];simp,by rw [z8,l1,e1];omega,e2⟩
 | node t ih=>
   intro d off y cs hs hr
   obtain ⟨c1,c2,rfl,h1,h2⟩:=Vz.1 hr
   have l1:=JF _ h1
   simp only [Ty.sub] at hs
   split at hs
   ·obtain ⟨x1,x2,x3,e,e1,e2⟩:=ih hs h1
    exact ⟨x1,x2,x3++c2,by rw [e];simp,e1,e2⟩
   ·split at hs
    ·rename_i h
     subst h
     split at hs
     ·rename_i h0
      cases hs
      exact ⟨c1,c2,[],by simp,by rw [l1,h0],h2⟩
     ·cases hs
    ·cases hs
 | _=>
   intro d off y cs hs hr
   simp only [Ty.sub] at hs
   split at hs
   ·rename_i h
    subst h
    split at hs
    ·rename_i h0
     cases hs
     exact ⟨[],cs,[],by simp,by simp [h0],hr⟩
    ·cases hs
   ·cases hs
theorem take_drop_mid {α:Type} (c1 c2 c3 x:List α) (off n:Nat) (h1:c1.length=off) (h2:c2.length=n) :
 (c1++c2++c3).take off++x++(c1++c2++c3).drop (off+n)=c1++x++c3:=by
 subst h1;subst h2
 simp [zl]
theorem HI {w:World} {Z:Nat→Prop} {s:Ty} {x:s.den} {cx:List Value} (hx:rdC w Z s cx x):∀{t:Ty} {d d':t.den} {off:Nat} {cs:List Value},Ty.upd s x t d off=some d'→rdC w Z t cs d →
 ∃c1 c2 c3,cs=c1++c2++c3∧c1.length=off∧c2.length=s.cells∧rdC w Z t (c1++cx++c3) d':=by
 intro t
 induction t with
 | st t ih=>
   intro d d' off cs hs hr
   simp only [Ty.upd] at hs
   split at hs
   ·rename_i h
    subst h
    split at hs
    ·rename_i h0
     cases hs
     exact ⟨[],cs,[],by simp,by simp [h0],JF _ hr,by simpa using hx⟩
    ·cases hs
   ·exact ih hs hr
 | pair a b iha ihb=>
   intro d d' off cs hs hr
   obtain ⟨c1,c2,rfl,h1,h2⟩:=hr
   have l1:=JF _ h1
   simp only [Ty.upd] at hs
   split at hs
   ·simp only [Z4] at hs
    obtain ⟨y,hy,rfl⟩:=hs
    obtain ⟨x1,x2,x3,e,e1,e2,e3⟩:=iha hy h1
    exact ⟨x1,x2,x3++c2,by rw [e];simp,e1,e2,x1++cx++x3,c2,by simp,e3,h2⟩
   ·simp only [Z4] at hs
    obtain ⟨y,hy,rfl⟩:=hs
    obtain ⟨x1,x2,x3,e,e1,e2,e3⟩:=ihb hy h2
    exact ⟨c1++x1,x2,x3,by rw [e];simp,by rw [z8,l1,e1];omega,e2,c1,x1++cx++x3,by simp,h1,e3⟩
 | node t ih=>
   intro d d' off cs hs hr
   obtain ⟨c1,c2,rfl,h1,h2⟩:=Vz.1 hr
   have l1:=JF _ h1
   simp only [Ty.upd] at hs
   split at hs
   ·simp only [Z4] at hs
    obtain ⟨y,hy,rfl⟩:=hs
    obtain ⟨x1,x2,x3,e,e1,e2,e3⟩:=ih hy h1
    exact ⟨x1,x2,x3++c2,by rw [e];simp,e1,e2,Vz.2 ⟨x1++cx++x3,c2,by simp,e3,h2⟩⟩
   ·split at hs
    ·rename_i h
     subst h
     split at hs
     ·rename_i h0
      cases hs
      exact ⟨c1,c2,[],by simp,by rw [l1,h0],JF _ h2,Vz.2 ⟨c1,cx,by simp,h1,hx⟩⟩
     ·cases hs
    ·cases hs
 | _=>
   intro d d' off cs hs hr
   simp only [Ty.upd] at hs
   split at hs
   ·rename_i h
    subst h
    split at hs
    ·rename_i h0
     cases hs
     exact ⟨[],cs,[],by simp,by simp [h0],JF _ hr,by simpa using hx⟩
    ·cases hs
   ·cases hs
theorem km {α:Type} {p:List Value→α→Prop}:∀{l1 l2:List α} {cs:List Value},rdAll p cs (l1++l2) ↔ ∃c1 c2,cs=c1++c2∧rdAll p c1 l1∧rdAll p c2 l2
 | [],l2,cs=>⟨fun h=>⟨[],cs,rfl,rfl,h⟩,fun ⟨c1,c2,e,h1,h2⟩=>by simp only [rdAll] at h1;subst h1;simpa [e] using h2⟩
 | x::l1,l2,cs=>by
   constructor
   ·rintro ⟨c1,c2,e,h1,h2⟩
    obtain ⟨d1,d2,e',h3,h4⟩:=km.1 h2
    exact ⟨c1++d1,d2,by rw [e,e',zl],⟨c1,d1,rfl,h1,h3⟩,h4⟩
   ·rintro ⟨c1,c2,e,⟨d1,d2,e',h1,h2⟩,h3⟩
    exact ⟨d1,d2++c2,by rw [e,e',zl],h1,km.2 ⟨d2,c2,rfl,h2,h3⟩⟩
theorem Yv {α:Type} {p:List Value→α→Prop} {n:Nat} (hp:∀cs x,p cs x→cs.length=n) {l:List α} {cs:List Value} (h:rdAll p cs l) {i:Nat} {x:α} (hx:l[i]?=some x) :
 ∃c1 c2 c3,cs=c1++c2++c3∧c1.length=i*n∧p c2 x∧rdAll p c1 (l.take i)∧rdAll p c3 (l.drop (i+1)):=by
 have hi:i<l.length:=(Z2.1 hx).1
 have hl:l=l.take i++(x::l.drop (i+1)):=by
  have:l[i]=x:=(Z2.1 hx).2
  rw [←this,List.getElem_cons_drop,List.take_append_drop]
 rw [hl] at h
 obtain ⟨c1,c2,e,h1,c3,c4,e',h2,h3⟩:=km.1 h
 refine ⟨c1,c3,c4,by rw [e,e',zl],?_,h2,h1,h3⟩
 rw [YB hp h1,List.length_take]
 congr 1
 omega
theorem Yt {α:Type} {xs:List α} {i:Int} {x:α} (h:idx xs i=some x):0≤i∧i.toNat<xs.length∧xs[i.toNat]?=some x:=by
 unfold idx at h
 by_cases h0:0≤i
 ·simp only [h0,decide_true,ze] at h
  exact ⟨h0,(Z2.1 h).1,h⟩
 ·simp [h0] at h
def rdS (w:World) (Z:Nat→Prop) (t:Ty) (v:Value) (xs:List t.den):Prop:=
 (v=.slice none 0 0∧xs=[]) ∨
 (∃b off cap cells,v=.slice (some ⟨b,off,none⟩) xs.length cap∧xs.length≤cap∧cap≤maxLen∧rdAll (rdC w Z t) cells xs ∧ ∀j u,cells[j]?=some u→w.cell? ⟨b,off+j,none⟩=some u) ∨
 ∃ad cap,v=.slice (some ad) 0 cap∧xs=[]∧cap≤maxLen
theorem rdS_val {w:World} {Z:Nat→Prop} {t:Ty} {v:Value} {xs:List t.den} (h:rdV w Z (.sl t) v xs):rdS w Z t v xs:=by
 obtain ⟨u,e,hr⟩:=h
 simp only [List.cons.injEq,and_true] at e
 subst e
 rcases hr with ⟨h1,h2⟩ | ⟨b,off,cap,cells,h1,h2,h3,h4,h5,h6⟩ | h
 ·exact .inl ⟨h1,h2⟩
 ·exact .inr (.inl ⟨b,off,cap,cells,h1,h2,h3,h5,h6⟩)
 ·exact .inr (.inr h)
theorem ownsM_rdS {w:World} {Z:Nat→Prop} {t:Ty} {v:Value} {xs:List t.den} {e:TypeId} {cells:List Value} (h:w.ownsM e t.cells v xs.length cells) (hr:rdAll (rdC w Z t) cells xs):rdS w Z t v xs:=by
 rcases h.2 with ⟨h1,h2⟩ | ⟨g,cap,cur,h1,h3,h4,h5,h6,h7⟩
 ·exact .inl ⟨h1,zg h2⟩
 ·refine .inr (.inl ⟨g,0,cap,cells,h1,h4,h5,hr,fun j u hj=>?_⟩)
  rw [zq,h3.cell]
  rw [←h7,List.getElem?_take] at hj
  split at hj
  ·simpa using hj
  ·cases hj
theorem UW {lo m:Int} {l:Nat} (h:inWin lo m l=true):0≤lo∧0≤m∧lo.toNat+m.toNat≤l:=by
 unfold inWin at h
 simp only [z7,zi] at h
 exact ⟨h.1.1,h.1.2,Nat.le_of_ble_eq_true h.2⟩
theorem part_len {α:Type} {lo m:Int} {xs:List α} (h:inWin lo m xs.length=true):(part lo m xs).length=m.toNat:=by
 obtain ⟨_,_,h3⟩:=UW h
 unfold part
 rw [List.length_take,zo];omega
theorem win_rd {w:World} {Z:Nat→Prop} {t:Ty} {v u:Value} {lo m:Int} {xs:List t.den} {e:TypeId} {cells:List Value} (h:w.ownsM e t.cells v xs.length cells) (hr:rdAll (rdC w Z t) cells xs)
 (hw:winOf v t.cells lo m u) (hi:inWin lo m xs.length=true) :
 (u=.slice none 0 0∧part lo m xs=[]) ∨ ∃b g c cs,u=.slice (some ⟨b,g,none⟩) (part lo m xs).length c∧(part lo m xs).length≤c∧c≤maxLen∧blk v=some b ∧
  rdAll (rdC w Z t) cs (part lo m xs) ∧ ∀j x,cs[j]?=some x→w.cell? ⟨b,g+j,none⟩=some x:=by
 obtain ⟨i1,i2,i3⟩:=UW hi
 have hl:=part_len hi
 rcases hw with ⟨_,h2,h3⟩ | ⟨b,q,c,g,c',h1,h2,h3,h4,h5⟩
 ·refine .inl ⟨h2,zg (by rw [hl,h3];rfl)⟩
 ·right
  rcases h.2 with ⟨e1,_⟩ | ⟨g',cap,cur,e1,e3,e4,e5,e6,e7⟩
  ·rw [e1] at h1;cases h1
  ·rw [e1] at h1
   cases h1
   have hsplit:xs=xs.take lo.toNat++(part lo m xs++(xs.drop lo.toNat).drop m.toNat):=by
    unfold part
    rw [List.take_append_drop,List.take_append_drop]
   have hr':=hr
   rw [hsplit] at hr'
   obtain ⟨c1,c2,f1,r1,r2⟩:=km.1 hr'
   obtain ⟨c3,c4,f2,r3,r4⟩:=km.1 r2
   have l1:c1.length=lo.toNat*t.cells:=by
    rw [YB (fun _ _=>JF t) r1,List.length_take]
    congr 1;omega
   refine ⟨b,g,c',c3,by rw [h2,hl],by rw [hl];exact h4,h5,by rw [e1];rfl,r3,fun j x hj=>?_⟩
   have l3:c3.length=m.toNat*t.cells:=by rw [YB (fun _ _=>JF t) r3,hl]
   have hm:0<m:=by
    have:=(Z2.1 hj).1
    rw [l3] at this
    rcases Nat.eq_zero_or_pos m.toNat with h0 | h0
    ·rw [h0,Nat.zero_mul] at this;omega
    ·omega
   rw [h3 hm,e3.cell]
   have:cells[lo.toNat*t.cells+j]?=some x:=by
    rw [f1,f2,←l1,zn (by omega),Nat.add_sub_cancel_left,List.getElem?_append_left (Z2.1 hj).1]
    exact hj
   rw [←e7,List.getElem?_take] at this
   split at this
   ·simpa using this
   ·cases this
section
variable [GInv] {P:Program} {G:Env} {n:Nat} {w0 w:World} {Z0:Bs} {st:St} {a:Act} {nm:Names} {o:Oper} {dst:Nat} {ρ:Type} {k:Eff→Option ρ} {r:ρ}
theorem Vm (h:Rel n w0 Z0 st a w nm) {kk:(t:Ty)→List t.den→Option ρ} {x:Operand} {d:Dv} (hx:evSt st x=some d) (ha:Yq (look st.objs) kk d=some r) :
 ∃t xs,kk t xs=some r∧rdS w (Zc w0 Z0 nm st.objs w) t (a.eval x) xs:=by
 have hr:=ev_rd h hx
 unfold Yq at ha
 split at ha
 ·exact ⟨_,_,ha,rdS_val hr⟩
 ·rename_i id ver
  split at ha
  ·rename_i v fz e t xs hl
   cases hv:(Nat.beq v ver && !t.isMap) with
   | false=>rw [hv] at ha;cases ha
   | true=>
     rw [hv] at ha
     rw [z7,zx] at hv
     obtain ⟨hv,hmap⟩:=hv
     have:=beqN.1 hv
     subst this
     have hv:=hr.2 fz e t xs hl
     obtain ⟨cells,h1,h2⟩:=(h.objs id _ hl).sl hmap
     refine ⟨t,xs,ha,?_⟩
     rw [hv]
     exact ownsM_rdS h1 h2
  ·cases ha
 ·rename_i id ver lo m
  split at ha
  ·rename_i v fz e t xs hl
   cases hv:(Nat.beq v ver && !t.isMap) with
   | false=>rw [hv] at ha;cases ha
   | true=>
     rw [hv] at ha
     rw [z7,zx] at hv
     obtain ⟨hv,hmap⟩:=hv
     have:=beqN.1 hv
     subst this
     obtain ⟨hw,hi⟩:=hr.2 fz e t xs hl
     obtain ⟨cells,h1,h2⟩:=(h.objs id _ hl).sl hmap
     refine ⟨t,_,ha,?_⟩
     rcases win_rd h1 h2 hw hi with hh | ⟨b,g,c,cs,q1,q2,q3,_,q4,q5⟩
     ·exact .inl hh
     ·exact .inr (.inl ⟨b,g,c,cs,q1,q2,q3,q4,q5⟩)
  ·cases ha
 ·cases ha
theorem eff_unOp {op:UnOp} {xt:TypeId} {x:Operand} (ho:o.op=.unOp op xt x):EffOk P G o:=by
 intro hT n w0 w Z0 st a nm dst ρ k r h he
 unfold effK at he
 rw [ho] at he
 simp only at he
 split at he
 ·rename_i b hb
  have e1:=HB h hb
  cases op<;>simp only at he
  case not=>exact ⟨_,he,Good.pure h (v:=.bool (!b)) (by simp [execOp,ho,e1,Op.unary]) (rd_vB ..)⟩
  all_goals cases he
 ·rename_i j m hb
  have e1:=YI h hb
  cases op<;>simp only at he
  case neg=>exact ⟨_,he,Good.pure h (v:=.int j (j.wrap (0-m))) (by simp [execOp,ho,e1,Op.unary,Op.intArith]) (rd_vI ..)⟩
  case xor=>
   refine ⟨_,he,Good.pure h (v:=.int j (ibits .xor j (bif j.signed then -1 else j.max) m)) ?_ (rd_vI ..)⟩
   have:(if j.signed=true then (-1:Int) else j.max)=(bif j.signed then -1 else j.max):=by cases j.signed<;>rfl
   simp only [execOp,ho,e1,Op.unary,this]
   rfl
  all_goals cases he
 ·cases he
theorem eff_extract {x:Operand} {i:Nat} (ho:o.op=.extract x i):EffOk P G o:=by
 intro hT n w0 w Z0 st a nm dst ρ k r h he
 unfold effK at he
 rw [ho] at he
 simp only at he
 split at he
 ·rename_i l hl
  split at he
  ·rename_i q hq
   obtain ⟨vs,e,h1,h2⟩:=ev_rd h hl
   have hi:i<vs.toList.length:=by rw [h1];exact (Z2.1 hq).1
   have hv:vs[i]?=some vs.toList[i]:=by rw [←Array.getElem?_toList];exact Z3 hi
   exact ⟨_,he,Good.pure h (v:=vs.toList[i]) (by simp [execOp,ho,e,Instr.extract,hv]) (h2 i q _ hq (by rw [Z3 hi]))⟩
  ·cases he
 ·cases he
end
end Go.Ql
end
