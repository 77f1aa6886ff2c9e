/- Part of the lifter: data, effects, code and its meaning, for any program. -/
import GoSem.Core.Code
import GoSem.Core.View
import Derived.Laws.AppendOwn
import Derived.Laws.OwnMore
import Derived.Lib.AppendStr
import Derived.Lib.ConvBytes
import Derived.Tactics
set_option linter.all false
section
namespace Go.Ql
universe u
inductive Rose (α:Type) where
 | mk (head:α) (kids:List (Rose α))
def Rose.head {α:Type}:Rose α→α
 | .mk a _=>a
def Rose.kids {α:Type}:Rose α→List (Rose α)
 | .mk _ l=>l
inductive Ty where
 | bool | int (k:IntKind) | str | sl (t:Ty) | st (t:Ty) | unit | pair (a b:Ty) | ar (n:Nat) (t:Ty) | nilv (k:Nat) | node (t:Ty) | ifc (T:Nat) (t:Ty) | nn | len | fl (t:Ty) | raw
 deriving DecidableEq
@[reducible] def Ty.den:Ty→Type
 | .bool=>Bool
 | .int _=>Int
 | .str=>List UInt8
 | .sl t=>List t.den
 | .st t=>t.den
 | .unit=>Unit
 | .pair a b=>a.den×b.den
 | .ar _ t=>List t.den
 | .nilv _=>Unit
 | .node t=>Rose t.den
 | .ifc _ t=>t.den
 | .nn=>Bool
 | .len=>Int
 | .fl t=>List t.den
 | .raw=>Value
@[reducible] def mapTy (j u:IntKind):Ty:=.sl (.pair (.int j) (.int u))
def Ty.isPair:Ty→Bool
 | .pair _ _=>true
 | _=>false
def Ty.isMap:Ty→Bool
 | .sl t=>t.isPair
 | _=>false
def mfind:List (Int×Int)→Int→Option Int
 | [],_=>none
 | p::r,n=>bif decide (p.1=n) then some p.2 else mfind r n
def mset:List (Int×Int)→Int→Int→List (Int×Int)
 | [],n,y=>[(n,y)]
 | p::r,n,y=>bif decide (p.1=n) then (n,y)::r else p::mset r n y
def mget (m:List (List (Int×Int))) (n:Int):Option Int:=mfind (m.headD []) n
def mput (m:List (List (Int×Int))) (n y:Int):List (List (Int×Int)):=[mset (m.headD []) n y]
def mzero (o:Option Int):Int:=o.getD 0
def mempty:List (List (Int×Int)):=[[]]
def Ty.cells:Ty→Nat
 | .st t=>t.cells
 | .unit=>0
 | .pair a b=>a.cells+b.cells
 | .ar n t=>n*t.cells
 | .node t=>t.cells+1
 | _=>1
def Ty.isSt:Ty→Bool
 | .st _=>true
 | .ar _ _=>true
 | _=>false
def Ty.flat:Ty→Bool
 | .st t=>t.flat
 | .pair a b=>a.flat && b.flat
 | .ar _ _=>false
 | .node t=>t.flat
 | _=>true
def Ty.zero:(t:Ty)→t.den
 | .bool=>false
 | .int _=>(0:Int)
 | .str=>[]
 | .sl _=>[]
 | .st t=>t.zero
 | .unit=>()
 | .pair a b=>(a.zero,b.zero)
 | .ar n t=>List.replicate n t.zero
 | .nilv _=>()
 | .node t => .mk t.zero []
 | .ifc _ t=>t.zero
 | .nn=>false
 | .len=>(0:Int)
 | .fl _=>[]
 | .raw => .slice none 0 0
def Ty.sub (s:Ty):(t:Ty)→t.den→Nat→Option s.den
 | .st t,d,off=>if h:Ty.st t=s then (if off=0 then some (h ▸ (show (Ty.st t).den from d)) else none) else Ty.sub s t d off
 | .pair a b,d,off=>if off < a.cells then Ty.sub s a d.1 off else Ty.sub s b d.2 (off - a.cells)
 | .node t,d,off=>if off < t.cells then Ty.sub s t (Rose.head d) off else if h:Ty.sl (.st (.node t))=s then (if off=t.cells then some (h ▸ (show List (Rose t.den) from Rose.kids d)) else none) else none
 | t,d,off=>if h:t=s then (if off=0 then some (h ▸ d) else none) else none
def Ty.upd (s:Ty) (x:s.den):(t:Ty)→t.den→Nat→Option t.den
 | .st t,d,off=>if h:s=Ty.st t then (if off=0 then some (h ▸ x) else none) else (Ty.upd s x t d off:Option t.den)
 | .pair a b,d,off=>if off < a.cells then (Ty.upd s x a d.1 off).map (fun y=>(y,d.2)) else (Ty.upd s x b d.2 (off - a.cells)).map (fun y=>(d.1,y))
 | .node t,d,off=>if off < t.cells then (Ty.upd s x t (Rose.head d) off).map (fun y=>(Rose.mk y (Rose.kids d):Rose t.den)) else if h:s=Ty.sl (.st (.node t)) then (if off=t.cells then some (Rose.mk (Rose.head d) (show List (Rose t.den) from (h ▸ x:(Ty.sl (.st (.node t))).den)):Rose t.den) else none) else none
 | t,_,off=>if h:s=t then (if off=0 then some (h ▸ x) else none) else none
inductive At where
 | val (t:Ty) (d:t.den)
 | nilS
 | ref (id off:Nat)
 | own (id ver:Nat)
 | win (id ver:Nat) (lo n:Int)
 | elem (id ver:Nat) (i:Int) (sz off:Nat)
 | aptr (id ver:Nat)
 | aelem (id ver:Nat) (i:Int) (sz off n:Nat) (e:Ty) (j:Int) (o:Nat)
 | down (id ver:Nat)
 | delem (id ver:Nat) (i:Int) (off:Nat)
 | din (id ver:Nat) (i:Int) (off:Nat)
 | dinel (id ver:Nat) (i:Int) (off:Nat) (s:Ty) (j:Int) (o:Nat)
 | fptr (t:Ty) (d:t.den)
 | fn (f:Nat)
 | clo (id:Nat)
 | selfp (id:Nat) (T:TypeId)
 | junk
inductive Dv where
 | one (a:At)
 | agg (cs:List At)
 | tup (cs:List At)
 | tgg (k:Nat) (cs:List At)
inductive Ob where
 | box (cs:List At)
 | arr (ver:Nat) (fz:Bool) (e:TypeId) (t:Ty) (xs:List t.den)
 | clo (f:Nat) (fst caps:List At)
 | gone
 | deep (ver:Nat) (fz:Bool) (e te:TypeId) (t:Ty) (xs:List t.den) (hole:Option (Option (Int×Nat×Ty×Nat×Nat)))
structure St where
 slots:List (Nat×Dv)
 objs:List (Nat×Ob)
section
variable {α:Type u}
def look:List (Nat×α)→Nat→Option α
 | [],_=>none
 | (s,v)::r,t=>bif Nat.beq s t then some v else look r t
def ins (t:Nat) (v:α):List (Nat×α)→List (Nat×α)
 | []=>[(t,v)]
 | (s,u)::r=>bif Nat.blt t s then (t,v)::(s,u)::r else bif Nat.beq t s then (t,v)::r else (s,u)::ins t v r
def del (t:Nat):List (Nat×α)→List (Nat×α)
 | []=>[]
 | (s,u)::r=>bif Nat.beq t s then del t r else (s,u)::del t r
end
def memN (t:Nat):List Nat→Bool
 | []=>false
 | s::r=>Nat.beq s t || memN t r
inductive TK where
 | scalar | nul | struct (fs:List (Nat×TypeId)) | slice (e:TypeId) (bytes:Nat) | arr (n:Nat) (e:TypeId) | map (k e:TypeId) (j u:IntKind) | other
structure TI where
 ty:Ty
 kind:TK
@[reducible] def dens:List Ty→Type
 | []=>Unit
 | [t]=>t.den
 | t::r=>t.den×dens r
structure Callee where
 params:List Ty
 res:List Ty
 F:dens params→Option (dens res)
def VG (raw:Bool):Ty→List At
 | .st t=>VG raw t
 | .pair a b=>VG raw a++VG raw b
 | .unit=>[]
 | .sl t=>[bif raw then .nilS else .val (.sl t) []]
 | .node t=>VG raw t++[bif raw then .nilS else .val (.sl (.st (.node t))) []]
 | t=>[.val t t.zero]
def split:(t:Ty)→t.den→List At
 | .st t,d=>split t d
 | .pair a b,d=>split a d.1++split b d.2
 | .unit,_=>[]
 | .node t,d=>split t (Rose.head d)++[.val (.sl (.st (.node t))) (show List (Rose t.den) from Rose.kids d)]
 | t,d=>[.val t d]
abbrev Objs:=Nat→Option Ob
abbrev Upd:=List (Nat×Ob)
def inWin (lo n:Int) (len:Nat):Bool:=decide (0≤lo) && decide (0≤n) && Nat.ble (lo.toNat+n.toNat) len
def part {α:Type} (lo n:Int) (xs:List α):List α:=(xs.drop lo.toNat).take n.toNat
def atV (ob:Objs) (t:Ty):At→Option (t.den×Upd)
 | .val s d=>if h:s=t then some (h ▸ d,[]) else none
 | .nilS=>match t with
   | .sl _=>some ([],[])
   | _=>none
 | .own id ver=>match ob id with
   | some (.arr v fz e s xs)=>if h:Ty.sl s=t then (bif Nat.beq v ver && !s.isMap then some (h ▸ (show (Ty.sl s).den from xs),bif fz then [] else [(id,.arr v true e s xs)]) else none) else none
   | _=>none
 | .win id ver lo n=>match ob id with
   | some (.arr v fz e s xs)=>if h:Ty.sl s=t then (bif Nat.beq v ver && !s.isMap then some (h ▸ (show (Ty.sl s).den from part lo n xs),bif fz then [] else [(id,.arr v true e s xs)]) else none) else none
   | _=>none
 | .down id ver=>match ob id with
   | some (.deep v fz e te s xs none)=>if h:Ty.sl s=t then (bif Nat.beq v ver then some (h ▸ (show (Ty.sl s).den from xs),bif fz then [] else [(id,.deep v true e te s xs none)]) else none) else none
   | _=>none
 | _=>none
def joinV (ob:Objs):(t:Ty)→List At→Option (t.den×Upd×List At)
 | .st t,cs=>joinV ob t cs
 | .pair a b,cs=>match joinV ob a cs with
   | some (x,u,r)=>match joinV ob b r with
     | some (y,v,r')=>some ((x,y),u++v,r')
     | none=>none
   | none=>none
 | .unit,cs=>some ((),[],cs)
 | .ar _ _,_=>none
 | .node t,cs=>match joinV ob t cs with
   | some (x,u,c::r)=>match atV ob (.sl (.st (.node t))) c with
     | some (y,v)=>some ((Rose.mk x (show List (Rose t.den) from y):Rose t.den),u++v,r)
     | none=>none
   | _=>none
 | t,c::r=>match atV ob t c with
   | some (x,u)=>some (x,u,r)
   | none=>none
 | _,[]=>none
def dvV (ob:Objs) (t:Ty):Dv→Option (t.den×Upd)
 | .one a=>atV ob t a
 | .agg cs=>match t with
   | .st s=>match joinV ob s cs with
     | some (x,u,[])=>some (x,u)
     | _=>none
   | _=>none
 | .tup _=>none
 | .tgg _ _=>none
def Yq:Dv→Option (List At)
 | .one (.val (.st t) d)=>bif t.flat then some (split t d) else none
 | .one (.val (.ar _ _) _)=>none
 | .one a=>some [a]
 | .agg cs=>some cs
 | .tup _=>none
 | .tgg _ _=>none
structure Eff where
 dv:Dv
 upd:Upd
def sel {α β γ:Type} (r:α⊕β) (f:α→γ) (g:β→γ):γ:=match r with
 | .inl x=>f x
 | .inr y=>g y
inductive SA where
 | val (t:Ty) | nilS | ref (id off:Nat) | own (id ver:Nat) | win (id ver:Nat) | fptr (t:Ty) | fn (f:Nat) | clo (id:Nat) | aptr (id ver:Nat) | selfp (id:Nat) (T:TypeId) | junk | down (id ver:Nat)
inductive SD where
 | one (a:SA) | agg (cs:List SA) | tup (cs:List SA)
inductive SO where
 | box (cs:List SA) | arr (ver:Nat) (fz:Bool) (e:TypeId) (t:Ty) | clo (f:Nat) (fst caps:List SA) | gone | deep (ver:Nat) (e te:TypeId) (t:Ty)
structure Shape where
 slots:List (Nat×SD)
 objs:List (Nat×SO)
@[reducible] def densU:List Ty→Type
 | []=>Unit
 | t::r=>t.den×densU r
noncomputable section
abbrev uP {A B R:Type} (x:A×B) (f:A→B→R):R:=Prod.rec (motive:=fun _=>R) f x
abbrev appU (a b:List Ty):densU a→densU b→densU (a++b):=
 List.rec (motive:=fun a=>densU a→densU b→densU (a++b)) (fun _ y=>y) (fun _ _ ih x y=>uP x fun u r=>(u,ih r y)) a
abbrev fstU (a b:List Ty):densU (a++b)→densU a:=
 List.rec (motive:=fun a=>densU (a++b)→densU a) (fun _=>()) (fun _ _ ih x=>uP x fun u r=>(u,ih r)) a
abbrev sndU (a b:List Ty):densU (a++b)→densU b:=
 List.rec (motive:=fun a=>densU (a++b)→densU b) (fun x=>x) (fun _ _ ih x=>uP x fun _ r=>ih r) a
def SA.tys:SA→List Ty
 | .val t=>[t]
 | .fptr t=>[t]
 | .win _ _=>[.int .i64,.int .i64]
 | _=>[]
abbrev SA.inj:(s:SA)→densU s.tys→At
 | .val t,x=>uP x fun d _ => .val t d
 | .fptr t,x=>uP x fun d _ => .fptr t d
 | .nilS,_ => .nilS
 | .ref i o,_ => .ref i o
 | .own i v,_ => .own i v
 | .win i v,x=>uP x fun lo r=>uP r fun n _ => .win i v lo n
 | .fn f,_ => .fn f
 | .clo i,_ => .clo i
 | .aptr i v,_ => .aptr i v
 | .selfp i T,_ => .selfp i T
 | .junk,_ => .junk
 | .down i v,_ => .down i v
def SA.proj:(s:SA)→At→Option (densU s.tys)
 | .val t,.val s d=>if h:s=t then some (h ▸ d,()) else none
 | .fptr t,.fptr s d=>if h:s=t then some (h ▸ d,()) else none
 | .nilS,.nilS=>some ()
 | .ref i o,.ref j p=>bif Nat.beq i j && Nat.beq o p then some () else none
 | .own i o,.own j p=>bif Nat.beq i j && Nat.beq o p then some () else none
 | .win i o,.win j p lo n=>bif Nat.beq i j && Nat.beq o p then some (lo,n,()) else none
 | .fn f,.fn g=>bif Nat.beq f g then some () else none
 | .clo i,.clo j=>bif Nat.beq i j then some () else none
 | .aptr i o,.aptr j p=>bif Nat.beq i j && Nat.beq o p then some () else none
 | .selfp i T,.selfp j T'=>bif Nat.beq i j && Nat.beq T T' then some () else none
 | .junk,.junk=>some ()
 | .down i o,.down j p=>bif Nat.beq i j && Nat.beq o p then some () else none
 | _,_=>none
def SL.tys:List SA→List Ty
 | []=>[]
 | s::r=>s.tys++SL.tys r
abbrev SL.inj (s:List SA):densU (SL.tys s)→List At:=
 List.rec (motive:=fun s=>densU (SL.tys s)→List At) (fun _=>[]) (fun s r ih x=>s.inj (fstU s.tys (SL.tys r) x)::ih (sndU s.tys (SL.tys r) x)) s
theorem SL.inj_nil {x:densU (SL.tys [])}:SL.inj [] x=[]:=rfl
def SL.proj:(s:List SA)→List At→Option (densU (SL.tys s))
 | [],[]=>some ()
 | s::r,a::b=>match s.proj a,SL.proj r b with
   | some x,some y=>some (appU s.tys (SL.tys r) x y)
   | _,_=>none
 | _,_=>none
def SD.tys:SD→List Ty
 | .one a=>a.tys
 | .agg cs=>SL.tys cs
 | .tup cs=>SL.tys cs
abbrev SD.inj:(s:SD)→densU s.tys→Dv
 | .one a,x => .one (a.inj x)
 | .agg cs,x => .agg (SL.inj cs x)
 | .tup cs,x => .tup (SL.inj cs x)
def SD.proj:(s:SD)→Dv→Option (densU s.tys)
 | .one a,.one b=>a.proj b
 | .agg cs,.agg ds=>SL.proj cs ds
 | .tup cs,.tup ds=>SL.proj cs ds
 | _,_=>none
def SO.tys:SO→List Ty
 | .box cs=>SL.tys cs
 | .arr _ _ _ t=>[.sl t]
 | .clo _ a b=>SL.tys a++SL.tys b
 | .gone=>[]
 | .deep _ _ _ t=>[.sl t]
abbrev SO.inj:(s:SO)→densU s.tys→Ob
 | .box cs,x => .box (SL.inj cs x)
 | .arr v f e t,x=>uP x fun d _ => .arr v f e t d
 | .clo f a b,x => .clo f (SL.inj a (fstU (SL.tys a) (SL.tys b) x)) (SL.inj b (sndU (SL.tys a) (SL.tys b) x))
 | .gone,_ => .gone
 | .deep v e te t,x=>uP x fun d _ => .deep v false e te t d none
def SO.proj:(s:SO)→Ob→Option (densU s.tys)
 | .box cs,.box ds=>SL.proj cs ds
 | .clo f a b,.clo g c d=>bif Nat.beq f g then (match SL.proj a c,SL.proj b d with
   | some x,some y=>some (appU (SL.tys a) (SL.tys b) x y)
   | _,_=>none) else none
 | .gone,.gone=>some ()
 | .arr v f e t,.arr v' f' e' t' xs=>if h:t'=t then (bif Nat.beq v v' && (f == f') && Nat.beq e e' then some (h ▸ xs,()) else none) else none
 | .deep v e te t,.deep v' false e' te' t' xs none=>if h:t'=t then (bif Nat.beq v v' && Nat.beq e e' && Nat.beq te te' then some (h ▸ xs,()) else none) else none
 | _,_=>none
def SS.tys:List (Nat×SD)→List Ty
 | []=>[]
 | p::r=>p.2.tys++SS.tys r
abbrev SS.inj (s:List (Nat×SD)):densU (SS.tys s)→List (Nat×Dv):=
 List.rec (motive:=fun s=>densU (SS.tys s)→List (Nat×Dv)) (fun _=>[]) (fun p r ih x=>(p.1,p.2.inj (fstU p.2.tys (SS.tys r) x))::ih (sndU p.2.tys (SS.tys r) x)) s
theorem SS.inj_nil {x:densU (SS.tys [])}:SS.inj [] x=[]:=rfl
theorem SS.inj_cons {p:Nat×SD} {r:List (Nat×SD)} {x:densU (SS.tys (p::r))}:SS.inj (p::r) x=(p.1,p.2.inj (fstU p.2.tys (SS.tys r) x))::SS.inj r (sndU p.2.tys (SS.tys r) x):=rfl
def SS.proj:(s:List (Nat×SD))→List (Nat×Dv)→Option (densU (SS.tys s))
 | [],[]=>some ()
 | p::r,a::b=>bif Nat.beq p.1 a.1 then (match p.2.proj a.2,SS.proj r b with
   | some x,some y=>some (appU p.2.tys (SS.tys r) x y)
   | _,_=>none) else none
 | _,_=>none
def SP.tys:List (Nat×SO)→List Ty
 | []=>[]
 | p::r=>p.2.tys++SP.tys r
abbrev SP.inj (s:List (Nat×SO)):densU (SP.tys s)→List (Nat×Ob):=
 List.rec (motive:=fun s=>densU (SP.tys s)→List (Nat×Ob)) (fun _=>[]) (fun p r ih x=>(p.1,p.2.inj (fstU p.2.tys (SP.tys r) x))::ih (sndU p.2.tys (SP.tys r) x)) s
theorem SP.inj_nil {x:densU (SP.tys [])}:SP.inj [] x=[]:=rfl
theorem SP.inj_cons {p:Nat×SO} {r:List (Nat×SO)} {x:densU (SP.tys (p::r))}:SP.inj (p::r) x=(p.1,p.2.inj (fstU p.2.tys (SP.tys r) x))::SP.inj r (sndU p.2.tys (SP.tys r) x):=rfl
def SP.proj:(s:List (Nat×SO))→List (Nat×Ob)→Option (densU (SP.tys s))
 | [],[]=>some ()
 | p::r,a::b=>bif Nat.beq p.1 a.1 then (match p.2.proj a.2,SP.proj r b with
   | some x,some y=>some (appU p.2.tys (SP.tys r) x y)
   | _,_=>none) else none
 | _,_=>none
def Shape.tys (s:Shape):List Ty:=SS.tys s.slots++SP.tys s.objs
abbrev Shape.inj (s:Shape) (x:densU s.tys):St:=⟨SS.inj s.slots (fstU _ _ x),SP.inj s.objs (sndU (SS.tys s.slots) _ x)⟩
def Shape.proj (s:Shape) (st:St):Option (densU s.tys):=match SS.proj s.slots st.slots,SP.proj s.objs st.objs with
 | some x,some y=>some (appU _ _ x y)
 | _,_=>none
structure Ck where
 run:(ρ:Type)→St→(Nat→St→Option ρ)→Option ρ
structure Hint where
 pre:List Nat
 wr:List Nat
 hideS:List Nat
 hideO:List Nat
structure MCallee where
 fn:Nat
 pre:Shape
 post:Shape
 F:densU pre.tys→Option (densU post.tys)
structure MAlt where
 fn:Nat
 pre:Shape
 post:Shape
 pan:Bool
 post2:Shape
 F:densU pre.tys→Option (densU post.tys⊕densU post2.tys)
structure SeqC where
 fn:Nat
 caps:List Ty
 k:IntKind
 L:dens caps→List Int
structure Eqs where
 l:List Nat
 seqs:List (Nat×SeqC)
structure Env where
 n:Nat
 tab:List (Nat×TI)
 fns:List (Nat×Callee)
 keep:List Nat
 muts:List Nat
 fps:List (Nat×List Hint)
 cks:List (Nat×Ck)
 mfns:List (Nat×MCallee)
 eqs:Eqs
 alts:List (Nat×MAlt)
def gBox:Nat:=1000000
def gFix:Nat:=2000000
def bnd {α β:Type} (p:Option α) (f:α→Option β):Option β:=match p with
 | some x=>f x
 | none=>none
def br {α:Type} (b:Bool) (x y:α):α:=match b with | true=>x | false=>y
section
variable {ρ:Type}
def idx {α:Type} (xs:List α) (i:Int):Option α:=bif decide (0≤i) then xs[i.toNat]? else none
def inR (n:Nat) (i:Int):Option Unit:=bif decide (0≤i) && decide (i < (n:Int)) then some () else none
def okIf (b:Bool):Option Unit:=bif b then some () else none
def ibits (op:BinOp) (k:IntKind) (x y:Int):Int:=
 let a:=BitVec.ofInt k.bits x
 let b:=BitVec.ofInt k.bits y
 match op with
 | .and=>k.wrap (a &&& b).toNat
 | .or=>k.wrap (a ||| b).toNat
 | .xor=>k.wrap (a ^^^ b).toNat
 | _=>k.wrap (a &&& ~~~b).toNat
def VT:List UInt8→List UInt8→Bool
 | _,[]=>false
 | [],_::_=>true
 | a::x,b::y=>a < b || (a == b && VT x y)
def vI (k:IntKind) (n:Int):Dv:=.one (.val (.int k) n)
def vB (b:Bool):Dv:=.one (.val .bool b)
def vS (s:List UInt8):Dv:=.one (.val .str s)
def Ty.eqT:(t:Ty)→t.den→t.den→Bool
 | .bool,x,y=>(show Bool from x) == y
 | .int _,x,y=>(show Int from x) == y
 | .str,x,y=>(show List UInt8 from x) == y
 | .st t,x,y=>Ty.eqT t x y
 | .pair a b,x,y=>Ty.eqT a x.1 y.1 && Ty.eqT b x.2 y.2
 | .unit,_,_=>true
 | .sl _,_,_=>false
 | .ar _ _,_,_=>false
 | .nilv _,_,_=>false
 | .node _,_,_=>false
 | .ifc _ _,_,_=>false
 | .nn,_,_=>false
 | .len,_,_=>false
 | .fl _,_,_=>false
 | .raw,_,_=>false
def binI (op:BinOp) (k:IntKind) (x y:Int) (kk:Dv→Option ρ):Option ρ:=
 match op with
 | .add=>kk (vI k (k.wrap (x+y)))
 | .sub=>kk (vI k (k.wrap (x - y)))
 | .mul=>kk (vI k (k.wrap (x*y)))
 | .quo=>bnd (okIf (y != 0)) fun _=>kk (vI k (k.wrap (x.tdiv y)))
 | .rem=>bnd (okIf (y != 0)) fun _=>kk (vI k (x.tmod y))
 | .and=>kk (vI k (ibits .and k x y))
 | .or=>kk (vI k (ibits .or k x y))
 | .xor=>kk (vI k (ibits .xor k x y))
 | .andNot=>kk (vI k (ibits .andNot k x y))
 | .eql=>kk (vB (x == y))
 | .neq=>kk (vB (x != y))
 | .lss=>kk (vB (decide (x < y)))
 | .leq=>kk (vB (decide (x≤y)))
 | .gtr=>kk (vB (decide (x > y)))
 | .geq=>kk (vB (decide (x≥y)))
 | _=>none
def binS (op:BinOp) (x y:List UInt8) (kk:Dv→Option ρ):Option ρ:=
 match op with
 | .add=>bnd (okIf (decide (x.length+y.length≤9223372036854775807))) fun _=>kk (vS (x++y))
 | .eql=>kk (vB (x == y))
 | .neq=>kk (vB (!(x == y)))
 | .lss=>kk (vB (VT x y))
 | .leq=>kk (vB (VT x y || x == y))
 | .gtr=>kk (vB (!(VT x y || x == y)))
 | .geq=>kk (vB (!VT x y))
 | _=>none
def shI (op:BinOp) (k:IntKind) (x y:Int) (kk:Dv→Option ρ):Option ρ:=
 match op with
 | .shl=>bnd (okIf (decide (0≤y))) fun _=>kk (vI k (k.wrap (x*2 ^ (min y.toNat k.bits))))
 | .shr=>bnd (okIf (decide (0≤y))) fun _=>kk (vI k (x.fdiv (2 ^ (min y.toNat k.bits))))
 | _=>none
def nilK (tab:List (Nat×TI)) (op:BinOp) (xt:TypeId) (y:Operand) (b:Bool) (kk:Dv→Option ρ):Option ρ:=match y,look tab xt with
 | .const .nilIface,some ⟨.nilv 1,.nul⟩=>(match op with
   | .eql=>kk (vB b)
   | .neq=>kk (vB (!b))
   | _=>none)
 | _,_=>none
def kP (ob:Objs) (kk:(t:Ty)→List t.den→Option ρ):Dv→Option ρ
 | .one (.val (.sl t) xs)=>kk t xs
 | .one (.own id ver)=>match ob id with
   | some (.arr v _ _ t xs)=>bif Nat.beq v ver && !t.isMap then kk t xs else none
   | _=>none
 | .one (.win id ver lo n)=>match ob id with
   | some (.arr v _ _ t xs)=>bif Nat.beq v ver && !t.isMap then kk t (part lo n xs) else none
   | _=>none
 | _=>none
def optK (ev:Operand→Option Dv) (x:Option Operand) (dflt:Int) (kk:Int→Option ρ):Option ρ:=match x with
 | none=>kk dflt
 | some y=>match ev y with
   | some (.one (.val (.int _) l))=>kk l
   | _=>none
def args (ob:Objs):(ts:List Ty)→List Dv→Option (dens ts×Upd)
 | [],[]=>some ((),[])
 | [t],[v]=>match dvV ob t v with
   | some (x,u)=>some (x,u)
   | none=>none
 | t::t'::ts,v::vs=>match dvV ob t v with
   | some (x,u)=>match args ob (t'::ts) vs with
     | some (y,u')=>some ((x,y),u++u')
     | none=>none
   | none=>none
 | _,_=>none
def resAts:(ts:List Ty)→dens ts→List At
 | [],_=>[]
 | [t],x=>[.val t x]
 | t::t'::ts,x => .val t x.1::resAts (t'::ts) x.2
def resDv:(ts:List Ty)→dens ts→Dv
 | [t],x => .one (.val t x)
 | ts,x => .tup (resAts ts x)
def Ty.free:Ty→Bool
 | .sl _=>false
 | .fl _=>false
 | .st t=>t.free
 | .pair a b=>a.free && b.free
 | .ar _ t=>t.free
 | .node _=>false
 | .ifc _ t=>t.free
 | _=>true
def kz:Nat:=140737488355328
def evAll (ev:Operand→Option Dv):List Operand→Option (List Dv)
 | []=>some []
 | x::r=>match ev x,evAll ev r with
   | some d,some l=>some (d::l)
   | _,_=>none
def verOf (ob:Objs) (id:Nat):Option Nat:=match ob id with
 | none=>some 0
 | some (.arr v _ _ _ _)=>some (v+1)
 | _=>none
def verD (ob:Objs) (id:Nat):Option Nat:=match ob id with
 | none=>some 0
 | some (.deep v _ _ _ _ _ _)=>some (v+1)
 | _=>none
abbrev Ren:=List (Nat×Nat)
def hasV (i:Nat):Ren→Bool
 | []=>false
 | (_,j)::r=>Nat.beq i j || hasV i r
def bindId (σ:Ren) (j i:Nat):Option Ren:=match look σ j with
 | some i'=>bif Nat.beq i' i then some σ else none
 | none=>bif hasV i σ then none else some ((j,i)::σ)
def bindU (σ:Ren) (j i:Nat) {α:Type} (x:α):Option (α×Upd×Ren):=match bindId σ j i with
 | some σ'=>some (x,[],σ')
 | none=>none
def bindA (ob:Objs) (σ:Ren):(s:SA)→At→Option (densU s.tys×Upd×Ren)
 | .val t,a=>match atV ob t a with
   | some (d,u)=>some ((d,()),u,σ)
   | none=>none
 | .nilS,.nilS=>some ((),[],σ)
 | .own j v,.own id ver=>match ob id with
   | some (.arr v' _ _ _ _)=>bif Nat.beq v' ver && Nat.beq v 0 then bindU σ j id () else none
   | _=>none
 | .win j v,.win id ver lo n=>match ob id with
   | some (.arr v' _ _ _ _)=>bif Nat.beq v' ver && Nat.beq v 0 then bindU σ j id (lo,n,()) else none
   | _=>none
 | .win j v,.own id ver=>match ob id with
   | some (.arr v' _ _ t xs)=>bif Nat.beq v' ver && Nat.beq v 0 && !t.isMap then bindU σ j id ((0:Int),(xs.length:Int),()) else none
   | _=>none
 | .ref j o,.ref id o'=>match ob id with
   | some (.box _)=>bif Nat.beq o o' then bindU σ j id () else none
   | _=>none
 | .fn f,.fn g=>bif Nat.beq f g then some ((),[],σ) else none
 | .clo j,.clo id=>match ob id with
   | some (.clo _ _ _)=>bindU σ j id ()
   | _=>none
 | .fptr t,.fptr s d=>if h:s=t then some ((h ▸ d,()),[],σ) else none
 | .aptr j v,.aptr id ver=>match ob id with
   | some (.arr v' _ _ _ _)=>bif Nat.beq v' ver && Nat.beq v 0 then bindU σ j id () else none
   | _=>none
 | .selfp j T,.selfp id T'=>match ob id with
   | some (.box _)=>bif Nat.beq T T' then bindU σ j id () else none
   | _=>none
 | .aptr j v,.elem id ver i _ o=>match ob id with
   | some (.arr v' _ _ _ _)=>bif Nat.beq v' ver && Nat.beq v 0 && (decide (i=0) && Nat.beq o 0) then bindU σ j id () else none
   | _=>none
 | .junk,.val (.sl _) _=>some ((),[],σ)
 | .junk,.own _ _=>some ((),[],σ)
 | .junk,.junk=>some ((),[],σ)
 | .down j v,.down id ver=>match ob id with
   | some (.deep v' _ _ _ _ _ _)=>bif Nat.beq v' ver && Nat.beq v 0 then bindU σ j id () else none
   | _=>none
 | _,_=>none
def bindL (ob:Objs):Ren→(s:List SA)→List At→Option (densU (SL.tys s)×Upd×Ren)
 | σ,[],[]=>some ((),[],σ)
 | σ,s::r,a::b=>match bindA ob σ s a with
   | some (x,u,σ1)=>match bindL ob σ1 r b with
     | some (y,v,σ2)=>some (appU s.tys (SL.tys r) x y,u++v,σ2)
     | none=>none
   | none=>none
 | _,_,_=>none
def bindV (ob:Objs) (σ:Ren):(s:SA)→Dv→Option (densU s.tys×Upd×Ren)
 | .val t,d=>(dvV ob t d).map fun p=>((p.1,()),p.2,σ)
 | _,_=>none
def oneAt:Dv→Option At
 | .one a=>some a
 | _=>none
def bindD (ob:Objs) (σ:Ren):(s:SD)→Dv→Option (densU s.tys×Upd×Ren)
 | .one s,d=>match oneAt d with
   | some a=>bindA ob σ s a
   | none=>bindV ob σ s d
 | .agg ss,.agg cs=>bindL ob σ ss cs
 | .agg ss,.one (.val (.st t) d)=>bif t.flat then bindL ob σ ss (split t d) else none
 | _,_=>none
def bindS (ob:Objs):Ren→(s:List (Nat×SD))→List Dv→Option (densU (SS.tys s)×Upd×Ren)
 | σ,[],[]=>some ((),[],σ)
 | σ,p::r,d::ds=>match bindD ob σ p.2 d with
   | some (x,u,σ1)=>match bindS ob σ1 r ds with
     | some (y,v,σ2)=>some (appU p.2.tys (SS.tys r) x y,u++v,σ2)
     | none=>none
   | none=>none
 | _,_,_=>none
def bindO (ob:Objs) (σ:Ren) (i:Nat):(s:SO)→Option (densU s.tys×Upd×Ren)
 | .box ss=>match ob i with
   | some (.box cs)=>bindL ob σ ss cs
   | _=>none
 | .arr v f e t=>match ob i with
   | some (.arr _ false e' t' xs)=>if h:t'=t then (bif Nat.beq v 0 && !f && Nat.beq e e' then some ((h ▸ xs,()),[],σ) else none) else none
   | _=>none
 | .gone=>match ob i with
   | some .gone=>some ((),[],σ)
   | some (.arr _ _ _ _ _)=>some ((),[],σ)
   | _=>none
 | .deep v e te t=>match ob i with
   | some (.deep _ false e' te' t' xs none)=>if h:t'=t then (bif Nat.beq v 0 && Nat.beq e e' && Nat.beq te te' then some ((h ▸ xs,()),[],σ) else none) else none
   | _=>none
 | .clo f sa sb=>match ob i with
   | some (.clo g a b)=>bif Nat.beq f g then (match bindL ob σ sa a with
     | some (x,u,σ1)=>match bindL ob σ1 sb b with
       | some (y,v,σ2)=>some (appU (SL.tys sa) (SL.tys sb) x y,u++v,σ2)
       | none=>none
     | none=>none) else none
   | _=>none
def bindP (ob:Objs):Ren→(s:List (Nat×SO))→Option (densU (SP.tys s)×Upd×Ren)
 | σ,[]=>some ((),[],σ)
 | σ,p::r=>match look σ p.1 with
   | some i=>match bindO ob σ i p.2 with
     | some (x,u,σ1)=>match bindP ob σ1 r with
       | some (y,v,σ2)=>some (appU p.2.tys (SP.tys r) x y,u++v,σ2)
       | none=>none
     | none=>none
   | none=>none
def noneOf (u:Upd) (σ:Ren):Bool:=u.all fun p => !hasV p.1 σ
def Ye (ob:Objs) (σ:Ren) (sh:Shape) (ds:List Dv):Option (densU sh.tys×Upd×Ren):=match bindS ob σ sh.slots ds with
 | some (x,u,σ1)=>match bindP ob σ1 sh.objs with
   | some (y,v,σ2)=>bif noneOf (u++v) σ2 then some (appU (SS.tys sh.slots) (SP.tys sh.objs) x y,u++v,σ2) else none
   | none=>none
 | none=>none
abbrev Tau:=List (Nat×(Nat×Nat))
def kl (dst j:Nat):Nat:=dst+1000*j
def backN (ob:Objs) (dst:Nat) (σ:Ren) (j:Nat):Ob→Option (Nat×Nat)
 | .arr v0 _ e t _=>match look σ j with
   | some i=>match ob i with
     | some (.arr v _ e' t' _)=>bif Nat.ble gBox j && Nat.beq e e' && decide (t=t') && (Nat.blt j gFix || Nat.beq v0 0) then some (i,bif Nat.ble gFix j then v else v+1) else none
     | _=>none
   | none=>match verOf ob (kl dst j) with
     | some v=>some (kl dst j,v)
     | none=>none
 | .deep v0 _ e te t _ _=>match look σ j with
   | some i=>match ob i with
     | some (.deep v _ e' te' t' _ _)=>bif Nat.ble gBox j && Nat.beq e e' && Nat.beq te te' && decide (t=t') && (Nat.blt j gFix || Nat.beq v0 0) then some (i,bif Nat.ble gFix j then v else v+1) else none
     | _=>none
   | none=>match verD ob (kl dst j) with
     | some v=>some (kl dst j,v)
     | none=>none
 | _=>match look σ j with
   | some i=>bif Nat.ble gBox j then some (i,0) else none
   | none=>match ob (kl dst j) with
     | none=>some (kl dst j,0)
     | some _=>none
def backT (ob:Objs) (dst:Nat) (σ:Ren):List (Nat×Ob)→Option Tau
 | []=>some []
 | (j,o)::r=>match backN ob dst σ j o,backT ob dst σ r with
   | some p,some l=>some ((j,p)::l)
   | _,_=>none
def hasT (i:Nat):Tau→Bool
 | []=>false
 | (_,p)::r=>Nat.beq i p.1 || hasT i r
def hasK (j:Nat):Tau→Bool
 | []=>false
 | (k,_)::r=>Nat.beq j k || hasK j r
def Vp:Tau→Bool
 | []=>true
 | (j,p)::r => !hasT p.1 r && !hasK j r && Vp r
def renA (objs:List (Nat×Ob)) (τ:Tau):At→At
 | .own j v=>match look objs j,look τ j with
   | some (.arr v' _ _ _ _),some p=>bif Nat.beq v v' then .own p.1 p.2 else .junk
   | _,_ => .junk
 | .win j v lo n=>match look objs j,look τ j with
   | some (.arr v' _ _ _ _),some p=>bif Nat.beq v v' then .win p.1 p.2 lo n else .junk
   | _,_ => .junk
 | .ref j o=>match look objs j,look τ j with
   | some (.box _),some p => .ref p.1 o
   | _,_ => .junk
 | .clo j=>match look objs j,look τ j with
   | some (.clo _ _ _),some p => .clo p.1
   | _,_ => .junk
 | .aptr j v=>match look objs j,look τ j with
   | some (.arr v' _ _ _ _),some p=>bif Nat.beq v v' then .aptr p.1 p.2 else .junk
   | _,_ => .junk
 | .selfp j T=>match look objs j,look τ j with
   | some (.box _),some p => .selfp p.1 T
   | _,_ => .junk
 | .down j v=>match look objs j,look τ j with
   | some (.deep v' _ _ _ _ _ _),some p=>bif Nat.beq v v' then .down p.1 p.2 else .junk
   | _,_ => .junk
 | .elem _ _ _ _ _ => .junk
 | .aelem .. => .junk
 | .delem .. => .junk
 | .din .. => .junk
 | .dinel .. => .junk
 | a=>a
def renD (objs:List (Nat×Ob)) (τ:Tau):Dv→Dv
 | .one a => .one (renA objs τ a)
 | .agg cs => .agg (cs.map (renA objs τ))
 | .tup cs => .tup (cs.map (renA objs τ))
 | .tgg k cs => .tgg k (cs.map (renA objs τ))
def backU (objs:List (Nat×Ob)) (τ:Tau) (σ:Ren):List (Nat×Ob)→Option Upd
 | []=>some []
 | (j,o)::r=>match look τ j,backU objs τ σ r with
   | some p,some l=>(match o with
     | .box cs=>some ((p.1,.box (cs.map (renA objs τ)))::l)
     | .arr _ fz e t xs=>bif fz then none else some ((p.1,.arr p.2 false e t xs)::l)
     | .gone=>some ((p.1,.gone)::l)
     | .deep _ fz e te t xs h=>bif fz || h.isSome then none else some ((p.1,.deep p.2 false e te t xs (some none))::l)
     | .clo f a b=>match look σ j with
       | some _=>some l
       | none=>some ((p.1,.clo f (a.map (renA objs τ)) (b.map (renA objs τ)))::l))
   | _,_=>none
def VP:List (Nat×Dv)→Option (List At)
 | []=>some []
 | (_,.one a)::r=>match VP r with
   | some l=>some (a::l)
   | none=>none
 | _=>none
def ansOf:List (Nat×Dv)→Option Dv
 | [(_,d)]=>match d with
   | .tup _=>none
   | d=>some d
 | l=>match l with
   | (_,.agg cs)::r=>(match VP r with
     | some l=>some (.tgg cs.length (cs++l))
     | none=>none)
   | l=>match VP l with
     | some cs=>some (.tup cs)
     | none=>none
def isFlatOb:Ob→Bool
 | .arr _ _ _ _ _=>true
 | .deep .. => true
 | .gone=>true
 | _=>false
def JL (v:Upd):Upd:=(v.filter fun p=>isFlatOb p.2)++v.filter fun p => !isFlatOb p.2
def backK (ob:Objs) (dst:Nat) (σ:Ren) (st:St):Option (Dv×Upd):=match backT ob dst σ st.objs with
 | some τ=>bif Vp τ && (σ.all fun p=>hasK p.1 τ) then (match backU st.objs τ σ st.objs,ansOf st.slots with
   | some v,some d=>some (renD st.objs τ d,JL v)
   | _,_=>none) else none
 | none=>none
def mcallOf (l:List (Nat×MCallee)) (dst f:Nat):Option MCallee:=match look l (1000000+dst) with
 | some mc=>bif Nat.beq mc.fn f then some mc else look l f
 | none=>look l f
def calmP (l:List (Nat×SO)):Bool:=l.all fun p=>match p.2 with
 | .gone=>false
 | _=>true
def UQ (ob:Objs) (dst f:Nat) (ds:List Dv) (k:Eff→Option ρ) (l:List (Nat×MCallee)):Option ρ:=match mcallOf l dst f with
 | some mc=>bif Nat.beq mc.fn f && calmP mc.pre.objs then (match Ye ob [] mc.pre ds with
   | some (x,u,σ)=>bnd (mc.F x) fun y=>(match backK ob dst σ (mc.post.inj y) with
     | some (d,v)=>k ⟨d,u++v⟩
     | none=>none)
   | none=>none) else none
 | none=>none
def Vu (ob:Objs):Option Dv→Option (Nat×List Dv×List Dv)
 | some (.one (.fn f))=>some (f,[],[])
 | some (.one (.clo id))=>match ob id with
   | some (.clo f a b)=>some (f,a.map .one,b.map .one)
   | _=>none
 | _=>none
def onesD:List Dv→Option (List At)
 | []=>some []
 | .one a::r=>match onesD r with
   | some l=>some (a::l)
   | none=>none
 | _=>none
def isNil:List At→Bool
 | []=>true
 | _=>false
def fillA (tab:List (Nat×TI)) (fs:List (Nat×TypeId)) (ev:Operand→Option Dv):List (Nat×Operand)→List At→Option (List At)
 | [],cs=>some cs
 | (i,x)::r,cs=>match fs[i]?,ev x with
   | some (off,ft),some d=>match Yq d,look tab ft with
     | some ds,some fi=>bif Nat.beq ds.length fi.ty.cells && Nat.ble (off+ds.length) cs.length then fillA tab fs ev r (cs.take off++ds++cs.drop (off+ds.length)) else none
     | _,_=>none
   | _,_=>none
def fillS (ob:Objs) (tab:List (Nat×TI)) (fs:List (Nat×TypeId)) (ev:Operand→Option Dv) (s:Ty):List (Nat×Operand)→s.den→Option (s.den×Upd)
 | [],y=>some (y,[])
 | (i,x)::r,y=>match fs[i]?,ev x with
   | some (off,ft),some d=>match look tab ft with
     | some fi=>match dvV ob fi.ty d with
       | some (z,u)=>match Ty.upd fi.ty z s y off with
         | some y'=>match fillS ob tab fs ev s r y' with
           | some (y2,u')=>some (y2,u++u')
           | none=>none
         | none=>none
       | none=>none
     | none=>none
   | _,_=>none
def fillE (ob:Objs) (ev:Operand→Option Dv) (s:Ty) (n:Nat):List (Nat×Operand)→List s.den→Option (List s.den×Upd)
 | [],y=>some (y,[])
 | (i,x)::r,y=>match ev x with
   | some d=>match dvV ob s d with
     | some (z,u)=>bif Nat.blt i n then (match fillE ob ev s n r (y.set i z) with
       | some (y2,u')=>some (y2,u++u')
       | none=>none) else none
     | none=>none
   | none=>none
def At.mentions (id:Nat):At→Bool
 | .ref i _=>Nat.beq i id
 | .own i _=>Nat.beq i id
 | .win i _ _ _=>Nat.beq i id
 | .elem i _ _ _ _=>Nat.beq i id
 | .aptr i _=>Nat.beq i id
 | .aelem i _ _ _ _ _ _ _ _=>Nat.beq i id
 | .clo i=>Nat.beq i id
 | .selfp i _=>Nat.beq i id
 | .down i _=>Nat.beq i id
 | .delem i _ _ _=>Nat.beq i id
 | .din i _ _ _=>Nat.beq i id
 | .dinel i _ _ _ _ _ _=>Nat.beq i id
 | _=>false
def At.isSelf:At→Bool
 | .selfp _ _=>true
 | _=>false
def UR (tab:List (Nat×TI)) (ti:TI):List (Nat×(TypeId×Ty)):=match ti with
 | ⟨.sl s,.slice e _⟩=>[(0,e,s)]
 | ⟨.st _,.struct fs⟩=>fs.flatMap fun p=>match look tab p.2 with
   | some ⟨.sl s,.slice e _⟩=>[(p.1,e,s)]
   | some ⟨.st _,.struct gs⟩=>gs.filterMap fun q=>match look tab q.2 with
     | some ⟨.sl s,.slice e _⟩=>some (p.1+q.1,e,s)
     | _=>none
   | _=>[]
 | _=>[]
def verK (fr:Bool) (ob:Objs) (id:Nat):Option Nat:=match ob id with
 | none=>bif fr then some 0 else none
 | some (.arr v _ _ _ _)=>some (v+1)
 | _=>none
def verKD (fr:Bool) (ob:Objs) (id:Nat):Option Nat:=match ob id with
 | none=>bif fr then some 0 else none
 | some (.deep v _ _ _ _ _ _)=>some (v+1)
 | _=>none
def kj:Upd→Bool
 | []=>true
 | (id,_)::r=>(r.all fun p => !Nat.beq p.1 id) && kj r
def Ty.dpo:Ty→Bool
 | .sl s => !s.isMap
 | .st t=>t.dpo
 | .pair a b=>a.dpo && b.dpo
 | t=>t.free
def teOf (tab:List (Nat×TI)) (e:TypeId):Option TypeId:=match look tab e with
 | some ⟨.sl _,.slice e2 _⟩=>some e2
 | some ⟨.st _,.struct fs⟩=>fs.findSome? fun p=>match look tab p.2 with
   | some ⟨.sl _,.slice e2 _⟩=>some e2
   | _=>none
 | _=>none
def deepQ (G:Env) (id:Nat) (e:TypeId):Option TypeId:=bif memN (30000000+id) G.muts then teOf G.tab e else none
def deepV (ob:Objs) (te:TypeId):(t:Ty)→List At→Option (t.den×Upd×List At)
 | .st t,cs=>deepV ob te t cs
 | .pair a b,cs=>match deepV ob te a cs with
   | some (x,u,r)=>match deepV ob te b r with
     | some (y,v,r')=>some ((x,y),u++v,r')
     | none=>none
   | none=>none
 | .unit,cs=>some ((),[],cs)
 | .sl s,c::r=>match c with
   | .nilS=>bif s.isMap then none else some (([]:List s.den),[],r)
   | .own id ver=>match ob id with
     | some (.arr v false e s' ys)=>if h:s'=s then (bif Nat.beq v ver && Nat.beq e te && !s'.isMap then some ((h ▸ ys:List s.den),[(id,.gone)],r) else none) else none
     | _=>none
   | _=>none
 | t,c::r=>match t.free && !t.isSt,c with
   | true,.val s d=>if h:s=t then some (h ▸ d,[],r) else none
   | _,_=>none
 | _,[]=>none
def Yb (fr:Bool) (dq:Nat→TypeId→Option TypeId) (ob:Objs) (idf:Nat→Nat):List (Nat×(TypeId×Ty))→List At→Option (List At×Upd)
 | [],ds=>some (ds,[])
 | (j,e,s)::r,ds=>match ds[j]? with
   | some .nilS=>match dq (idf j) e with
    | some te=>(match verKD fr ob (idf j) with
     | some ver=>bif ds.all (fun x => !x.mentions (idf j)) then (match Yb fr dq ob idf r (ds.set j (.down (idf j) ver)) with
       | some (ds',u)=>bif u.all (fun q => !Nat.beq q.1 (idf j)) then some (ds',(idf j,.deep ver false e te s [] none)::u) else none
       | none=>none) else none
     | none=>none)
    | none=>match verK fr ob (idf j) with
     | some ver=>bif ds.all (fun x => !x.mentions (idf j)) && !s.isMap then (match Yb fr dq ob idf r (ds.set j (.own (idf j) ver)) with
       | some (ds',u)=>bif u.all (fun q => !Nat.beq q.1 (idf j)) then some (ds',(idf j,.arr ver false e s [])::u) else none
       | none=>none) else none
     | none=>none
   | _=>Yb fr dq ob idf r ds
def YQ (b:Bool) (dst:Nat) (T:TypeId) (ty:Ty) (cs:List At):List At:=bif b then (match ty,cs with
 | .st (.pair (.nilv 0) (.sl (.int .u8))),.val (.nilv 0) _::r => .selfp dst T::r
 | .st (.pair (.st (.pair (.nilv 0) (.sl (.int .u8)))) _),.val (.nilv 0) _::r => .selfp dst T::r
 | _,cs=>cs) else cs
def Ug (ob:Objs) (ev:Operand→Option Dv) (s:Ty):Nat→List (Nat×Operand)→Option (List s.den×Upd)
 | _,[]=>some ([],[])
 | i,(j,x)::r=>bif Nat.beq i j then (match ev x with
  | some d=>match dvV ob s d with
    | some (y,u)=>match Ug ob ev s (i+1) r with
      | some (ys,u')=>some (y::ys,u++u')
      | none=>none
    | none=>none
  | none=>none) else none
def lenOf (ob:Objs):Dv→Option Int
 | .one .nilS=>some 0
 | .one (.val (.sl _) xs)=>some (xs.length:Int)
 | .one (.own id ver)=>match ob id with
   | some (.arr v _ _ t xs)=>bif Nat.beq v ver && !t.isMap then some (xs.length:Int) else none
   | _=>none
 | .one (.win id ver _ n)=>match ob id with
   | some (.arr v _ _ t _)=>bif Nat.beq v ver && !t.isMap then some n else none
   | _=>none
 | .one (.down id ver)=>match ob id with
   | some (.deep v _ _ _ _ xs _)=>bif Nat.beq v ver then some (xs.length:Int) else none
   | _=>none
 | _=>none
def coldId (dst:Nat):Nat:=5000000+dst
def keepNil (G:Env) (x:Operand) (dst:Nat):Bool:=match x with
 | .tmp s=>memN (45000000+s) G.muts
 | _=>memN (45500000+dst) G.muts
def effK (G:Env) (o:Oper) (dst:Nat) (ev:Operand→Option Dv) (ob:Objs) (k:Eff→Option ρ):Option ρ:=
 let pureK (d:Dv):Option ρ:=k ⟨d,[]⟩
 match o.op with
 | .move x=>match ev x with
   | some (.one (.own id ver))=>bif memN (coldId dst) G.muts then (match ob id with
     | some (.arr v _ e s xs)=>bif Nat.beq v ver && !s.isMap then k ⟨.one (.val (.sl s) xs),[(id,.arr v true e s xs)]⟩ else none
     | _=>none) else pureK (.one (.own id ver))
   | some d=>pureK d
   | none=>none
 | .assign x=>match ev x with
   | some (.one .nilS)=>bif keepNil G x dst then pureK (.one .nilS) else (match look G.tab o.type with
     | some ⟨.sl t,.slice e _⟩=>(match deepQ G dst e with
       | some te=>(match verD ob dst with
         | some ver=>k ⟨.one (.down dst ver),[(dst,.deep ver false e te t [] none)]⟩
         | none=>none)
       | none=>(match verOf ob dst with
       | some ver=>k ⟨.one (.own dst ver),[(dst,.arr ver false e t [])]⟩
       | none=>none))
     | _=>none)
   | some d=>pureK d
   | none=>none
 | .pick c a b=>match ev c with
   | some (.one (.val .bool x))=>br x (match ev a with | some d=>pureK d | none=>none) (match ev b with | some d=>pureK d | none=>none)
   | _=>none
 | .alloc t=>match look G.tab t with
   | some ti=>bif ti.ty.flat then (match ob dst with
     | none=>(match Yb true (deepQ G) ob (fun j=>kl dst (j+1)) (bif memN dst G.muts then UR G.tab ti else []) (VG (memN dst G.muts) ti.ty) with
       | some (cs,u)=>bif u.all (fun q => !Nat.beq q.1 dst) && cs.all (fun x => !x.mentions dst) then k ⟨.one (.ref dst 0),u++[(dst,.box (YQ (memN dst G.muts) dst t ti.ty cs))]⟩ else none
       | none=>none)
     | some _=>none) else (match verOf ob dst with
     | some ver=>(match ti with
       | ⟨.ar n s,.arr _ _⟩=>bif Nat.blt 0 n && Nat.ble n 1048576 then k ⟨.one (.aptr dst ver),[(dst,.arr ver false t s (List.replicate n s.zero))]⟩ else none
       | ⟨.st s,.struct _⟩=>k ⟨.one (.aptr dst ver),[(dst,.arr ver false t (.st s) [Ty.zero (.st s)])]⟩
       | _=>none)
     | none=>none)
   | none=>none
 | .box t x=>match look G.tab t,ev x with
   | some ti,some d=>bif memN (8500000+dst) G.muts then (match lenOf ob d with
     | some m=>k ⟨.one (.fptr .len m),[]⟩
     | none=>none) else bif memN (8600000+dst) G.muts then (match dvV ob ti.ty d with
     | some (y,[])=>k ⟨.one (.fptr ti.ty y),[]⟩
     | _=>none) else bif ti.ty.flat then (match Yq d with
     | some cs=>(match ob dst with
       | none=>bif memN dst G.muts then (match Yb true (deepQ G) ob (fun j=>kl dst (j+1)) (UR G.tab ti) cs with
         | some (cs',u)=>bif Nat.beq cs.length ti.ty.cells && u.all (fun q => !Nat.beq q.1 dst) && cs'.all (fun x => !x.mentions dst) then k ⟨.one (.ref dst 0),u++[(dst,.box (YQ true dst t ti.ty cs'))]⟩ else none
         | none=>none) else bif Nat.beq cs.length ti.ty.cells then k ⟨.one (.ref dst 0),[(dst,.box cs)]⟩ else none
       | some _=>none)
     | none=>none) else bif memN (8000000+dst) G.muts then (match dvV ob ti.ty d with
     | some (y,[])=>k ⟨.one (.fptr ti.ty y),[]⟩
     | _=>none) else (match verOf ob dst,dvV ob ti.ty d with
     | some ver,some (y,u)=>bif u.all fun q => !Nat.beq q.1 dst then (match ti,y with
       | ⟨.ar n s,.arr _ _⟩,y=>bif Nat.blt 0 n && Nat.ble n 1048576 then k ⟨.one (.aptr dst ver),u++[(dst,.arr ver false t s y)]⟩ else none
       | ⟨.st s,.struct _⟩,y=>k ⟨.one (.aptr dst ver),u++[(dst,.arr ver false t (.st s) [y])]⟩
       | _,_=>none) else none
     | _,_=>none)
   | _,_=>none
 | .fieldAddr t x f=>match look G.tab t,ev x with
   | some ⟨_,.struct fs⟩,some (.one p)=>match fs[f]? with
     | some (off,ft)=>match look G.tab ft with
       | some fi=>bif Nat.beq fi.ty.cells 0 then none else (match p with
         | .ref id o=>match ob id with
           | some (.box _)=>pureK (.one (.ref id (o+off)))
           | _=>none
         | .elem id ver i sz o=>match ob id with
           | some (.arr v _ _ _ _)=>bif Nat.beq v ver then pureK (.one (.elem id ver i sz (o+off))) else none
           | _=>none
         | .aptr id ver=>match ob id with
           | some (.arr v _ _ s xs)=>bif Nat.beq v ver then bnd (inR xs.length 0) fun _=>pureK (.one (.elem id ver 0 s.cells off)) else none
           | _=>none
         | .aelem id ver i sz q n e j o=>match ob id with
           | some (.arr v _ _ _ _)=>bif Nat.beq v ver then pureK (.one (.aelem id ver i sz q n e j (o+off))) else none
           | _=>none
         | .delem id ver i o=>match ob id with
           | some (.deep v _ _ _ _ _ _)=>bif Nat.beq v ver then pureK (.one (.delem id ver i (o+off))) else none
           | _=>none
         | .dinel id ver i o1 s j o=>match ob id with
           | some (.deep v _ _ _ _ _ none)=>bif Nat.beq v ver then pureK (.one (.dinel id ver i o1 s j (o+off))) else none
           | _=>none
         | .fptr s d=>match Ty.sub fi.ty s d off with
           | some y=>pureK (.one (.fptr fi.ty y))
           | none=>none
         | _=>none)
       | none=>none
     | none=>none
   | _,_=>none
 | .load t x=>match look G.tab t,ev x with
   | some ti,some (.one p)=>match p with
     | .ref id off=>match ob id with
       | some (.box cs)=>
         bif ti.ty.isSt then (bif Nat.ble (off+ti.ty.cells) cs.length then pureK (.agg ((cs.drop off).take ti.ty.cells)) else none)
         else match cs[off]? with
          | some a=>pureK (.one a)
          | none=>none
       | _=>none
     | .elem id ver i _ off=>match ob id with
       | some (.arr v _ _ s xs)=>bif Nat.beq v ver then bnd (idx xs i) fun y=>(match Ty.sub ti.ty s y off with
        | some z=>pureK (.one (.val ti.ty z))
        | none=>none) else none
       | _=>none
     | .aelem id ver i _ q n e j off=>match ob id with
       | some (.arr v _ _ s xs)=>bif Nat.beq v ver then bnd (idx xs i) fun y=>(match Ty.sub (.ar n e) s y q with
        | some zs=>bnd (idx zs j) fun y'=>(match Ty.sub ti.ty e y' off with
          | some z=>pureK (.one (.val ti.ty z))
          | none=>none)
        | none=>none) else none
       | _=>none
     | .aptr id ver=>match ob id with
       | some (.arr v _ _ s xs)=>bif Nat.beq v ver then (match ti with
        | ⟨.ar n s',.arr _ _⟩=>if h:s=s' then bnd (okIf (decide (xs.length=n))) fun _=>pureK (.one (.val (.ar n s') (h ▸ xs))) else none
        | ⟨ty,_⟩=>bnd (idx xs 0) fun y=>(match Ty.sub ty s y 0 with
          | some z=>pureK (.one (.val ty z))
          | none=>none)) else none
       | _=>none
     | .fptr s d=>match Ty.sub ti.ty s d 0 with
       | some z=>pureK (.one (.val ti.ty z))
       | none=>none
     | .delem id ver i off=>match ob id with
       | some (.deep v false e te s xs hole)=>bif Nat.beq v ver then (match ti,hole with
         | ⟨.sl s',.slice e' _⟩,none=>bif Nat.beq e' te && !s'.isMap then (bif memN (31000000+dst) G.muts then bnd (idx xs i) fun x=>(match Ty.sub (.sl s') s x off,verOf ob dst with
          | some ys,some dv=>k ⟨.one (.own dst dv),[(dst,.arr dv false te s' ys),(id,.deep v false e te s xs (some (some (i,off,s',dst,dv))))]⟩
          | _,_=>none) else bnd (idx xs i) fun x=>(match Ty.sub (.sl s') s x off with
          | some _=>pureK (.one (.din id ver i off))
          | none=>none)) else none
         | ⟨ty,_⟩,none=>bif ty.free then bnd (idx xs i) fun x=>(match Ty.sub ty s x off with
          | some z=>pureK (.one (.val ty z))
          | none=>none) else none
         | _,_=>none) else none
       | _=>none
     | .dinel id ver i off s' j o=>match ob id with
       | some (.deep v false _ _ s xs none)=>bif Nat.beq v ver then bnd (idx xs i) fun x=>(match Ty.sub (.sl s') s x off with
         | some ys=>bnd (idx (show List s'.den from ys) j) fun y=>(match Ty.sub ti.ty s' y o with
           | some z=>pureK (.one (.val ti.ty z))
           | none=>none)
         | none=>none) else none
       | _=>none
     | _=>none
   | _,_=>none
 | .store t x y=>match look G.tab t,ev x,ev y with
   | some ti,some (.one p),some d=>match p with
     | .ref id off=>match ob id,Yq d with
       | some (.box cs),some ds0=>(match Yb false (deepQ G) ob (fun j=>kl id (off+j+1)) (bif memN id G.muts then UR G.tab ti else []) ds0 with
         | some (ds,u)=>bif Nat.beq ds.length ti.ty.cells && Nat.ble (off+ds.length) cs.length && u.all (fun q => !Nat.beq q.1 id) && ds.all (fun x => !x.isSelf) then
           k ⟨.tup [],u++[(id,.box (cs.take off++ds++cs.drop (off+ds.length)))]⟩ else none
         | none=>none)
       | _,_=>none
     | .elem id ver i _ off=>match dvV ob ti.ty d with
       | some (z,u)=>match ob id with
         | some (.arr v false e s xs)=>bif Nat.beq v ver && (u.all fun q => !Nat.beq q.1 id) then bnd (idx xs i) fun y=>(match Ty.upd ti.ty z s y off with
          | some y'=>k ⟨.tup [],u++[(id,.arr v false e s (xs.set i.toNat y'))]⟩
          | none=>none) else none
         | _=>none
       | none=>none
     | .aelem id ver i _ q n e' j off=>match dvV ob ti.ty d with
       | some (z,u)=>match ob id with
         | some (.arr v false e s xs)=>bif Nat.beq v ver && (u.all fun q => !Nat.beq q.1 id) then bnd (idx xs i) fun y=>(match Ty.sub (.ar n e') s y q with
          | some zs=>bnd (idx zs j) fun y1=>(match Ty.upd ti.ty z e' y1 off with
            | some y2=>(match Ty.upd (.ar n e') (zs.set j.toNat y2) s y q with
              | some y'=>k ⟨.tup [],u++[(id,.arr v false e s (xs.set i.toNat y'))]⟩
              | none=>none)
            | none=>none)
          | none=>none) else none
         | _=>none
       | none=>none
     | .aptr id ver=>match dvV ob ti.ty d with
       | some (z,u)=>match ob id with
         | some (.arr v false e s xs)=>bif Nat.beq v ver && (u.all fun q => !Nat.beq q.1 id) then (match ti,z with
          | ⟨.ar _ s',.arr _ _⟩,zs=>if h:s'=s then bnd (okIf (decide (List.length (show List s'.den from zs)=xs.length))) fun _=>k ⟨.tup [],u++[(id,.arr v false e s (h ▸ (show List s'.den from zs)))]⟩ else none
          | ⟨ty,_⟩,z=>bnd (idx xs 0) fun y=>(match Ty.upd ty z s y 0 with
            | some y'=>k ⟨.tup [],u++[(id,.arr v false e s (xs.set 0 y'))]⟩
            | none=>none)) else none
         | _=>none
       | none=>none
     | .delem id ver i off=>match ob id with
       | some (.deep v false e te s xs hole)=>bif Nat.beq v ver then (match ti,d with
         | ⟨.sl s',.slice e' _⟩,.one (.own oid v1)=>(match ob oid with
           | some (.arr v2 false te' s2 _)=>bif decide (s2=s') && Nat.beq v2 v1 && Nat.beq te' te && Nat.beq e' te && !s'.isMap && !Nat.beq oid id then
            bnd (match hole with
             | none=>some ()
             | some (some (i',off',s3,oid',_))=>bif Nat.beq off off' && Nat.beq oid oid' && decide (s3=s') then okIf (decide (i=i')) else none
             | some none=>none) fun _=>bnd (idx xs i) fun x=>(match Ty.sub (.sl s') s x off with
             | some _=>k ⟨.tup [],[(id,.deep v false e te s xs (some (some (i,off,s',oid,v1))))]⟩
             | none=>none) else none
           | _=>none)
         | ⟨ty,_⟩,d=>(match hole with
           | none=>bif ty.free then (match dvV ob ty d with
             | some (z,[])=>bnd (idx xs i) fun x=>(match Ty.upd ty z s x off with
               | some x'=>k ⟨.tup [],[(id,.deep v false e te s (xs.set i.toNat x') none)]⟩
               | none=>none)
             | _=>none) else none
           | some _=>none)) else none
       | _=>none
     | .dinel id ver i off s' j o=>match dvV ob ti.ty d with
       | some (z,u)=>(match ob id with
         | some (.deep v false e te s xs none)=>bif Nat.beq v ver && (u.all fun q => !Nat.beq q.1 id) then bnd (idx xs i) fun x=>(match Ty.sub (.sl s') s x off with
           | some ys=>bnd (idx (show List s'.den from ys) j) fun y=>(match Ty.upd ti.ty z s' y o with
             | some y'=>(match Ty.upd (.sl s') (show (Ty.sl s').den from List.set (show List s'.den from ys) j.toNat y') s x off with
               | some x'=>k ⟨.tup [],u++[(id,.deep v false e te s (xs.set i.toNat x') none)]⟩
               | none=>none)
             | none=>none)
           | none=>none) else none
         | _=>none)
       | none=>none
     | _=>none
   | _,_,_=>none
 | .binOp op xt x y _=>match ev x,ev y with
   | some a,some b=>match a,b with
     | .one (.val (.int j) m),.one (.val (.int l) n)=>match op with
       | .shl | .shr=>shI op j m n pureK
       | _=>bif decide (j=l) then binI op j m n pureK else none
     | .one (.val .str s),.one (.val .str t)=>binS op s t pureK
     | .one (.val .bool s),.one (.val .bool t)=>match look G.tab xt with
       | some ⟨.bool,.scalar⟩=>match op with
         | .eql=>pureK (vB (s == t))
         | .neq=>pureK (vB (!(s == t)))
         | _=>none
       | _=>none
     | .one (.val (.nilv 1) _),.one (.val (.nilv 1) _)=>nilK G.tab op xt y true pureK
     | .one (.val .nn d),.one (.val (.nilv 1) _)=>nilK G.tab op xt y (!d) pureK
     | .one .nilS,.one .nilS=>(match look G.tab xt with
       | some ⟨.sl _,.slice _ _⟩=>(match op with
         | .eql=>pureK (vB true)
         | .neq=>pureK (vB false)
         | _=>none)
       | _=>none)
     | a,b=>bif memN xt G.eqs.l then (match look G.tab xt with
       | some ⟨.st s,_⟩=>(match dvV ob (.st s) a,dvV ob (.st s) b with
         | some (x,[]),some (y,[])=>(match op with
           | .eql=>pureK (vB (Ty.eqT s x y))
           | .neq=>pureK (vB (!Ty.eqT s x y))
           | _=>none)
         | _,_=>none)
       | _=>none) else none
   | _,_=>none
 | .unOp op _ x=>match ev x with
   | some (.one (.val .bool b))=>match op with
     | .not=>pureK (vB (!b))
     | _=>none
   | some (.one (.val (.int j) n))=>match op with
     | .neg=>pureK (vI j (j.wrap (0 - n)))
     | .xor=>pureK (vI j (ibits .xor j (bif j.signed then -1 else j.max) n))
     | _=>none
   | _=>none
 | .convert srcT dstT x=>match look G.tab srcT,look G.tab dstT,ev x with
   | some ⟨.int _,_⟩,some ⟨.int j,_⟩,some (.one (.val (.int _) n))=>pureK (vI j (j.wrap n))
   | some ⟨.str,_⟩,some ⟨.str,_⟩,some (.one (.val .str s))=>pureK (vS s)
   | some ⟨.sl (.int .u8),.slice e _⟩,some ⟨.str,_⟩,some d=>match look G.tab e with
     | some ⟨.int .u8,_⟩=>(match d with
       | .one .nilS=>pureK (vS [])
       | d=>kP ob (fun t xs=>match t,xs with
         | .int .u8,xs=>pureK (vS (List.map (fun n=>UInt8.ofNat n.toNat) (show List Int from xs)))
         | _,_=>none) d)
     | _=>none
   | some ⟨.sl (.int .u8),.slice e _⟩,some ⟨.sl (.int .u8),_⟩,some (.one (.own id ver))=>match look G.tab e,ob id with
     | some ⟨.int .u8,_⟩,some (.arr v false e' s xs)=>bif Nat.beq srcT dstT && Nat.beq v ver && !s.isMap then bnd (okIf (!xs.isEmpty)) fun _=>k ⟨.one (.own id ver),[(id,.arr v false e' s xs)]⟩ else none
     | _,_=>none
   | some ⟨.str,_⟩,some ⟨.sl (.int .u8),.slice e _⟩,some (.one (.val .str s))=>match look G.tab e with
     | some ⟨.int .u8,_⟩=>bnd (okIf (decide (s.length≤kz))) fun _=>
       (bif memN dst G.muts then (match verOf ob dst with
        | some ver=>k ⟨.one (.own dst ver),[(dst,.arr ver false e (.int .u8) (s.map fun b=>(b.toNat:Int)))]⟩
        | none=>none) else pureK (.one (.val (.sl (.int .u8)) (s.map fun b=>(b.toNat:Int)))))
     | _=>none
   | _,_,_=>none
 | .build t ps=>match look G.tab t with
   | some ⟨.st s,.struct fs⟩=>
     bif s.flat then (match fillA G.tab fs ev ps.toList (VG (memN dst G.muts) s) with
     | some cs=>pureK (.agg cs)
     | none=>none) else (match fillS ob G.tab fs ev s ps.toList s.zero with
     | some (y,u)=>k ⟨.one (.val (.st s) y),u⟩
     | none=>none)
   | some ⟨.ar n s,.arr _ _⟩=>(match fillE ob ev s n ps.toList (List.replicate n s.zero) with
     | some (y,u)=>k ⟨.one (.val (.ar n s) y),u⟩
     | none=>none)
   | _=>none
 | .extract x i=>match ev x with
   | some (.tup l)=>match l[i]? with
     | some a=>pureK (.one a)
     | none=>none
   | some (.tgg m l)=>(match i with
     | 0=>pureK (.agg (l.take m))
     | i+1=>match (l.drop m)[i]? with
       | some a=>pureK (.one a)
       | none=>none)
   | _=>none
 | .indexAddr t x ix=>match look G.tab t,ev x,ev ix with
   | some ⟨.sl s,.slice eT _⟩,some d,some (.one (.val (.int _) i))=>match d with
     | .one (.val (.sl s') xs)=>bif decide (s'=s) then bnd (idx xs i) fun y=>pureK (.one (.fptr s' y)) else none
     | .one (.own id ver)=>match ob id with
       | some (.arr v _ _ s' xs)=>bif Nat.beq v ver && decide (s'=s) then bnd (inR xs.length i) fun _=>pureK (.one (.elem id ver i s.cells 0)) else none
       | _=>none
     | .one (.win id ver lo n)=>match ob id with
       | some (.arr v _ _ s' xs)=>bif Nat.beq v ver && decide (s'=s) then bnd (okIf (decide (0≤i) && decide (i < n))) fun _=>pureK (.one (.elem id ver (lo+i) s.cells 0)) else none
       | _=>none
     | .one (.down id ver)=>match ob id with
       | some (.deep v _ _ _ s' xs _)=>bif Nat.beq v ver && decide (s'=s) then bnd (inR xs.length i) fun _=>pureK (.one (.delem id ver i 0)) else none
       | _=>none
     | .one (.din id ver i0 off)=>match ob id with
       | some (.deep v false _ te s' xs none)=>bif Nat.beq v ver && Nat.beq eT te then bnd (idx xs i0) fun x=>(match Ty.sub (.sl s) s' x off with
        | some ys=>bnd (inR (List.length (show List s.den from ys)) i) fun _=>pureK (.one (.dinel id ver i0 off s i 0))
        | none=>none) else none
       | _=>none
     | _=>none
   | some ⟨.ar n s,.arr _ _⟩,some (.one p),some (.one (.val (.int _) i))=>match p with
     | .aptr id ver=>match ob id with
       | some (.arr v _ _ s' xs)=>bif Nat.beq v ver && decide (s'=s) then bnd (okIf (decide (0≤i) && decide (i < (n:Int)))) fun _=>bnd (inR xs.length i) fun _=>pureK (.one (.elem id ver i s.cells 0)) else
        (bif Nat.beq v ver then bnd (okIf (decide (0≤i) && decide (i < (n:Int)))) fun _=>bnd (inR xs.length 0) fun _=>pureK (.one (.aelem id ver 0 s'.cells 0 n s i 0)) else none)
       | _=>none
     | .elem id ver i0 sz off=>match ob id with
       | some (.arr v _ _ _ _)=>bif Nat.beq v ver then bnd (okIf (decide (0≤i) && decide (i < (n:Int)))) fun _=>pureK (.one (.aelem id ver i0 sz off n s i 0)) else none
       | _=>none
     | .fptr (.ar n' s') xs=>bif decide (s'=s) && Nat.beq n' n then bnd (idx xs i) fun y=>pureK (.one (.fptr s' y)) else none
     | _=>none
   | _,_,_=>none
 | .index t x ix=>match look G.tab t,ev x,ev ix with
   | some ⟨.str,_⟩,some (.one (.val .str s)),some (.one (.val (.int _) i))=>bnd (idx s i) fun b=>pureK (vI .u8 (b.toNat:Int))
   | some ⟨.ar n s,.arr _ e⟩,some (.one (.val (.ar n' s') xs)),some (.one (.val (.int _) i))=>match look G.tab e with
     | some ei=>bif decide (s'=s) && Nat.beq n' n && decide (ei.ty=s) then bnd (idx xs i) fun y=>pureK (.one (.val s' y)) else none
     | none=>none
   | _,_,_=>none
 | .makeInterface t x=>match look G.tab t,ev x with
   | some ⟨.st s,.struct _⟩,some d=>match dvV ob (.st s) d with
     | some (y,u)=>k ⟨.one (.val (.ifc t (.st s)) y),u⟩
     | none=>none
   | _,_=>none
 | .field t x f=>match look G.tab t,ev x with
   | some ⟨_,.struct fs⟩,some (.one (.val (.st s) y))=>match fs[f]? with
     | some (off,ft)=>match look G.tab ft with
       | some fi=>match Ty.sub fi.ty s y off with
         | some z=>pureK (.one (.val fi.ty z))
         | none=>none
       | none=>none
     | none=>none
   | _,_=>none
 | .slice t x lo hi mx=>
   match look G.tab t,ev x with
   | some ⟨.str,_⟩,some (.one (.val .str s))=>match mx with
     | none=>optK ev lo 0 fun l=>optK ev hi (s.length:Int) fun h=>bnd (okIf (decide (0≤l) && decide (l≤h) && decide (h≤(s.length:Int)))) fun _=>pureK (vS ((s.take h.toNat).drop l.toNat))
     | some _=>none
   | some ⟨.sl s',.slice _ _⟩,some (.one (.val (.sl s) xs))=>bif decide (s=s') then (match mx with
     | none=>optK ev lo 0 fun l=>optK ev hi (xs.length:Int) fun h=>bnd (okIf (decide (0≤l) && decide (l≤h) && decide (h≤(xs.length:Int)))) fun _=>pureK (.one (.val (.sl s) ((xs.take h.toNat).drop l.toNat)))
     | some y=>match hi with
       | some _=>bif memN (8700000+dst) G.muts then (optK ev (some y) 0 fun m=>optK ev lo 0 fun l=>optK ev hi (xs.length:Int) fun h=>bnd (okIf (decide (0≤l) && decide (l≤h) && decide (h=m) && decide (m≤(xs.length:Int)))) fun _=>pureK (.one (.val (.fl s) (show (Ty.fl s).den from (xs.take h.toNat).drop l.toNat)))) else optK ev (some y) 0 fun m=>optK ev lo 0 fun l=>optK ev hi (xs.length:Int) fun h=>bnd (okIf (decide (0≤l) && decide (l≤h) && decide (h≤m) && decide (m≤(xs.length:Int)))) fun _=>pureK (.one (.val (.sl s) ((xs.take h.toNat).drop l.toNat)))
       | none=>none) else none
   | some ⟨.sl s',.slice _ _⟩,some (.one (.own id ver))=>match ob id,lo,mx with
     | some (.arr v false e s xs),none,none=>bif Nat.beq v ver && decide (s=s') then optK ev hi (xs.length:Int) fun h=>bnd (okIf (decide (0≤h) && decide (h≤(xs.length:Int)))) fun _=>
      k ⟨.one (.own id (ver+1)),[(id,.arr (ver+1) false e s (xs.take h.toNat))]⟩ else none
     | some (.arr v _ _ s xs),some y,none=>bif Nat.beq v ver && decide (s=s') then optK ev (some y) 0 fun l=>optK ev hi (xs.length:Int) fun h=>bnd (okIf (decide (0≤l) && decide (l≤h) && decide (h≤(xs.length:Int)))) fun _=>
      pureK (.one (.win id ver l (h - l))) else none
     | _,_,_=>none
   | some ⟨.ar n s',.arr _ _⟩,some (.one (.aptr id ver))=>match ob id,mx with
     | some (.arr v _ _ s xs),none=>bif Nat.beq v ver && decide (s=s') then bnd (okIf (decide (xs.length=n))) fun _=>optK ev lo 0 fun l=>optK ev hi (n:Int) fun h=>bnd (okIf (decide (0≤l) && decide (l≤h) && decide (h≤(n:Int)))) fun _=>
      pureK (.one (.win id ver l (h - l))) else none
     | _,_=>none
   | some ⟨.ar n s',.arr _ _⟩,some (.one (.fptr (.ar n2 s) xs))=>match mx with
     | none=>bif decide (s=s') && Nat.beq n2 n && Nat.ble n 1048576 then optK ev lo 0 fun l=>optK ev hi (n:Int) fun h=>bnd (okIf (decide (0≤l) && decide (l≤h) && decide (h≤(n:Int)))) fun _=>
      pureK (.one (.val (.sl s) (List.drop l.toNat (List.take h.toNat (show List s.den from xs))))) else none
     | some _=>none
   | some ⟨.sl s',.slice _ _⟩,some (.one (.win id ver lo0 n0))=>match ob id,mx with
     | some (.arr v _ _ s _),none=>bif Nat.beq v ver && decide (s=s') then optK ev lo 0 fun l=>optK ev hi n0 fun h=>bnd (okIf (decide (0≤l) && decide (l≤h) && decide (h≤n0))) fun _=>
      pureK (.one (.win id ver (lo0+l) (h - l))) else none
     | _,_=>none
   | _,_=>none
 | .makeMap t none=>match look G.tab t with
   | some ⟨.nilv 2,.map _ _ j u⟩=>(match verOf ob dst with
     | some ver=>k ⟨.one (.own dst ver),[(dst,.arr ver false t (mapTy j u) mempty)]⟩
     | none=>none)
   | _=>none
 | .lookup t x ix ok=>match look G.tab t,ev x,ev ix with
   | some ⟨.nilv 2,.map _ _ j u⟩,some (.one (.own id ver)),some (.one (.val (.int j') n))=>(match ob id with
     | some (.arr v _ _ s xs)=>if h:s=mapTy j u then (bif Nat.beq v ver && decide (j'=j) then
      (bif ok then pureK (.tup [.val (.int u) (mzero (mget (show List (mapTy j u).den from h ▸ xs) n)),.val .bool (mget (show List (mapTy j u).den from h ▸ xs) n).isSome]) else pureK (vI u (mzero (mget (show List (mapTy j u).den from h ▸ xs) n)))) else none) else none
     | _=>none)
   | _,_,_=>none
 | .mapUpdate t m kx vx=>match look G.tab t,ev m,ev kx,ev vx with
   | some ⟨.nilv 2,.map _ _ j u⟩,some (.one (.own id ver)),some (.one (.val (.int j') n)),some (.one (.val (.int u') y))=>(match ob id with
     | some (.arr v false e s xs)=>if h:s=mapTy j u then (bif Nat.beq v ver && decide (j'=j) && decide (u'=u) then
      k ⟨.tup [],[(id,.arr v false e (mapTy j u) (mput (show List (mapTy j u).den from h ▸ xs) n y))]⟩ else none) else none
     | _=>none)
   | _,_,_,_=>none
 | .makeSlice t l c=>match look G.tab t with
   | some ⟨.sl s,.slice e by_⟩=>optK ev (some l) 0 fun n=>optK ev (some c) 0 fun m=>
     bnd (okIf (decide (0≤n) && decide (n≤m) && decide (m*(by_:Int)≤140737488355328) && decide (m≤140737488355328))) fun _=>
      (match deepQ G dst e with
      | some te=>(match verD ob dst with
        | some ver=>bif s.dpo then k ⟨.one (.down dst ver),[(dst,.deep ver false e te s (List.replicate n.toNat s.zero) none)]⟩ else none
        | none=>none)
      | none=>(match verOf ob dst with
      | some ver=>k ⟨.one (.own dst ver),[(dst,.arr ver false e s (List.replicate n.toNat s.zero))]⟩
      | none=>none))
   | _=>none
 | .buildSlice t n ps=>match look G.tab t with
   | some ⟨.sl s,.slice e _⟩=>match deepQ G dst e with
    | some te=>(match ps.toList,s with
     | [(0,x)],.st s1=>(match (ev x).bind Yq with
       | some cs=>(match deepV ob te s1 cs,verD ob dst with
         | some (y,u,[]),some ver=>bif Nat.beq n 1 && kj u && u.all (fun q => !Nat.beq q.1 dst) && Nat.ble s1.cells 65536 then k ⟨.one (.down dst ver),u++[(dst,.deep ver false e te (.st s1) [y] none)]⟩ else none
         | _,_=>none)
       | none=>none)
     | _,_=>none)
    | none=>
     match Ug ob ev s 0 ps.toList with
     | some (ys,u)=>bif Nat.beq ys.length n && Nat.ble (n*s.cells) 65536 then (match verOf ob dst with
       | some ver=>k ⟨.one (.own dst ver),u++[(dst,.arr ver false e s ys)]⟩
       | none=>none) else none
     | none=>none
   | _=>none
 | .call c=>match c.callee with
   | .builtin .len=>match c.args.toList,c.argTypes.toList with
     | [x],[t]=>match look G.tab t,ev x with
       | some ⟨.str,_⟩,some (.one (.val .str s))=>pureK (vI .i64 (s.length:Int))
       | some ⟨.sl _,.slice _ _⟩,some (.one .nilS)=>pureK (vI .i64 0)
       | some ⟨.sl _,.slice _ _⟩,some (.one (.down id ver))=>(match ob id with
         | some (.deep v _ _ _ _ xs _)=>bif Nat.beq v ver then pureK (vI .i64 (xs.length:Int)) else none
         | _=>none)
       | some ⟨.sl s,.slice _ _⟩,some (.one (.din id ver i off))=>(match ob id with
         | some (.deep v false _ _ s' xs none)=>bif Nat.beq v ver then bnd (idx xs i) fun x=>(match Ty.sub (.sl s) s' x off with
           | some ys=>pureK (vI .i64 (List.length (show List s.den from ys):Int))
           | none=>none) else none
         | _=>none)
       | some ⟨.sl _,.slice _ _⟩,some d=>kP ob (fun _ xs=>pureK (vI .i64 (xs.length:Int))) d
       | _,_=>none
     | _,_=>none
   | .builtin .min=>match c.args.toList with
     | [x,y]=>match ev x,ev y with
       | some (.one (.val (.int j) m)),some (.one (.val (.int _) n))=>pureK (vI j (min m n))
       | _,_=>none
     | _=>none
   | .builtin .max=>match c.args.toList with
     | [x,y]=>match ev x,ev y with
       | some (.one (.val (.int j) m)),some (.one (.val (.int _) n))=>pureK (vI j (max m n))
       | _,_=>none
     | _=>none
   | .builtin .append=>match c.args.toList,c.argTypes.toList with
     | [x,y],[t,t']=>bif Nat.beq t t' then (match look G.tab t,ev x,ev y with
       | some ⟨.sl s,.slice e by_⟩,some dx,some (.one (.down id2 ver2))=>(match ob id2 with
         | some (.deep v2 false e2 te2 s2 ys none)=>if h2:s2=s then (bif Nat.beq v2 ver2 && Nat.beq e2 e then (match dx with
           | .one .nilS=>(match verD ob dst with
             | some ver=>bif !Nat.beq id2 dst then bnd (okIf (decide (ys.length*by_≤kz) && decide (ys.length≤kz))) fun _=>
              k ⟨.one (.down dst ver),[(dst,.deep ver false e te2 s (h2 ▸ ys) none),(id2,.gone)]⟩ else none
             | none=>none)
           | .one (.down id ver)=>(match ob id with
             | some (.deep v false e' te s' xs none)=>if h:s'=s then (bif Nat.beq v ver && Nat.beq e' e && Nat.beq te te2 && !Nat.beq id2 id then bnd (okIf (decide ((xs.length+ys.length)*by_≤kz) && decide (xs.length+ys.length≤kz))) fun _=>
              k ⟨.one (.down id (ver+1)),[(id,.deep (ver+1) false e te s ((h ▸ xs)++(h2 ▸ ys)) none),(id2,.gone)]⟩ else none) else none
             | _=>none)
           | _=>none) else none) else none
         | _=>none)
       | some ⟨.sl s,.slice e by_⟩,some dx,some dy=>
         let app (id ver:Nat) (xs:List s.den):Option ρ:=
          kP ob (fun s' ys=>if h:s'=s then
           bnd (okIf (decide ((xs.length+ys.length)*by_≤kz) && decide (xs.length+ys.length≤kz))) fun _=>
            k ⟨.one (.own id ver),[(id,.arr ver false e s (xs++(h ▸ ys)))]⟩ else none) dy
         match dx with
         | .one .nilS=>(match verOf ob dst with
           | some ver=>app dst ver []
           | none=>none)
         | .one (.own id ver)=>match ob id with
           | some (.arr v false e' s' xs)=>if h:s'=s then (bif Nat.beq v ver && Nat.beq e' e then app id (ver+1) (h ▸ xs) else none) else none
           | _=>none
         | .one (.val (.fl s') xs)=>if h:s'=s then (match verOf ob dst with
           | some ver=>kP ob (fun s2 ys=>if h2:s2=s then
            bnd (okIf (decide (0 < ys.length) && (decide (((show List s'.den from xs).length+ys.length)*by_≤kz) && decide ((show List s'.den from xs).length+ys.length≤kz)))) fun _=>
             k ⟨.one (.own dst ver),[(dst,.arr ver false e s ((h ▸ (show List s'.den from xs))++(h2 ▸ ys)))]⟩ else none) dy
           | none=>none) else none
         | _=>none
       | _,_,_=>none) else (match look G.tab t,look G.tab t',ev x,ev y with
       | some ⟨.sl (.int .u8),.slice e by_⟩,some ⟨.str,_⟩,some dx,some (.one (.val .str bs))=>bif Nat.beq by_ 1 then (match dx with
         | .one .nilS=>(match verOf ob dst with
           | some ver=>bnd (okIf (decide (bs.length≤kz))) fun _=>k ⟨.one (.own dst ver),[(dst,.arr ver false e (.int .u8) (show List (Ty.int .u8).den from bs.map fun b=>(b.toNat:Int)))]⟩
           | none=>none)
         | .one (.own id ver)=>match ob id with
           | some (.arr v false e' s' xs)=>if h:s' = .int .u8 then (bif Nat.beq v ver && Nat.beq e' e then bnd (okIf (decide (xs.length+bs.length≤kz))) fun _=>
            k ⟨.one (.own id (ver+1)),[(id,.arr (ver+1) false e (.int .u8) ((show List (Ty.int .u8).den from h ▸ xs)++(show List (Ty.int .u8).den from bs.map fun b=>(b.toNat:Int))))]⟩ else none) else none
           | _=>none
         | _=>none) else none
       | _,_,_,_=>none)
     | _,_=>none
   | .value x=>match Vu ob (ev x),evAll ev c.args.toList with
     | some (f,fs,cs),some as=>match look G.fns f with
       | some ce=>match args ob ce.params (fs++as++cs) with
         | some (xs,u)=>bnd (ce.F xs) fun r=>k ⟨resDv ce.res r,bif ce.res.all Ty.free then [] else u⟩
         | none=>none
       | none=>UQ ob dst f (fs++as++cs) k G.mfns
     | _,_=>none
   | _=>none
 | .makeFunc (.func f) first caps=>match evAll ev first.toList,evAll ev caps.toList with
   | some fs,some cs=>match onesD fs,onesD cs with
     | some a,some b=>bif isNil a && isNil b then pureK (.one (.fn f)) else (match ob dst with
       | none=>k ⟨.one (.clo dst),[(dst,.clo f a b)]⟩
       | some _=>none)
     | _,_=>none
   | _,_=>none
 | .nilCheck x=>match ev x with
   | some (.one (.ref id off))=>match ob id with
     | some (.box _)=>pureK (.one (.ref id off))
     | _=>none
   | some (.one (.fptr t d))=>pureK (.one (.fptr t d))
   | some (.one (.aptr id ver))=>match ob id with
     | some (.arr v _ _ _ _)=>bif Nat.beq v ver then pureK (.one (.aptr id ver)) else none
     | _=>none
   | some (.one (.elem id ver i sz off))=>match ob id with
     | some (.arr v _ _ _ _)=>bif Nat.beq v ver then pureK (.one (.elem id ver i sz off)) else none
     | _=>none
   | some (.one (.delem id ver i off))=>match ob id with
     | some (.deep v _ _ _ _ _ _)=>bif Nat.beq v ver then pureK (.one (.delem id ver i off)) else none
     | _=>none
   | some (.one (.fn f))=>pureK (.one (.fn f))
   | some (.one (.clo id))=>match ob id with
     | some (.clo _ _ _)=>pureK (.one (.clo id))
     | _=>none
   | _=>none
 | _=>none
abbrev Ex:=Nat
def constAt:Value→Option At
 | .int k n=>some (.val (.int k) n)
 | .bool b=>some (.val .bool b)
 | .string s=>some (.val .str s.data.toList)
 | .slice none 0 0=>some .nilS
 | _=>none
def VU:List Value→Option (List At)
 | []=>some []
 | v::r=>match constAt v,VU r with
   | some a,some l=>some (a::l)
   | _,_=>none
def evSt (st:St):Operand→Option Dv
 | .tmp t=>look st.slots t
 | .const (.agg vs)=>match VU vs.toList with
   | some cs=>some (.agg cs)
   | none=>none
 | .const (.int k n)=>some (vI k n)
 | .const (.bool b)=>some (vB b)
 | .const (.string s)=>some (vS s.data.toList)
 | .const (.slice none 0 0)=>some (.one .nilS)
 | .const (.pointer none)=>some (.one (.val (.nilv 0) ()))
 | .const (.map none)=>some (.one (.val (.nilv 2) ()))
 | .const .nilIface=>some (.one (.val (.nilv 1) ()))
 | .const .nilFunc=>some (.one (.val (.nilv 3) ()))
 | .func f=>some (.one (.fn f))
 | _=>none
def Dv.mentions (id:Nat):Dv→Bool
 | .one a=>a.mentions id
 | .agg cs=>cs.any (·.mentions id)
 | .tup cs=>cs.any (·.mentions id)
 | .tgg _ cs=>cs.any (·.mentions id)
def Ob.mentions (id:Nat):Ob→Bool
 | .box cs=>cs.any (·.mentions id)
 | .arr .. => false
 | .gone=>false
 | .clo _ a b=>a.any (·.mentions id) || b.any (·.mentions id)
 | .deep _ _ _ _ _ _ h=>match h with
   | some (some (_,_,_,o,v))=>(At.own o v).mentions id
   | _=>false
def St.free (st:St) (id:Nat):Bool:=
 (st.slots.all fun p => !p.2.mentions id) && (st.objs.all fun p => !Nat.beq p.1 id && !p.2.mentions id)
def At.hasVer (id ver:Nat):At→Bool
 | .own i v=>Nat.beq i id && Nat.beq v ver
 | .win i v _ _=>Nat.beq i id && Nat.beq v ver
 | .elem i v _ _ _=>Nat.beq i id && Nat.beq v ver
 | .aptr i v=>Nat.beq i id && Nat.beq v ver
 | .aelem i v _ _ _ _ _ _ _=>Nat.beq i id && Nat.beq v ver
 | .down i v=>Nat.beq i id && Nat.beq v ver
 | .delem i v _ _=>Nat.beq i id && Nat.beq v ver
 | .din i v _ _=>Nat.beq i id && Nat.beq v ver
 | .dinel i v _ _ _ _ _=>Nat.beq i id && Nat.beq v ver
 | _=>false
def At.isDin (id:Nat):At→Bool
 | .din i _ _ _=>Nat.beq i id
 | .dinel i _ _ _ _ _ _=>Nat.beq i id
 | _=>false
def Dv.isDin (id:Nat):Dv→Bool
 | .one a=>a.isDin id
 | .agg cs=>cs.any (·.isDin id)
 | .tup cs=>cs.any (·.isDin id)
 | .tgg _ cs=>cs.any (·.isDin id)
def Ob.isDin (id:Nat):Ob→Bool
 | .box cs=>cs.any (·.isDin id)
 | .clo _ a b=>a.any (·.isDin id) || b.any (·.isDin id)
 | _=>false
def Dv.hasVer (id ver:Nat):Dv→Bool
 | .one a=>a.hasVer id ver
 | .agg cs=>cs.any (·.hasVer id ver)
 | .tup cs=>cs.any (·.hasVer id ver)
 | .tgg _ cs=>cs.any (·.hasVer id ver)
def Ob.hasVer (id ver:Nat):Ob→Bool
 | .box cs=>cs.any (·.hasVer id ver)
 | .arr .. => false
 | .gone=>false
 | .clo _ a b=>a.any (·.hasVer id ver) || b.any (·.hasVer id ver)
 | .deep _ _ _ _ _ _ h=>match h with
   | some (some (_,_,_,o,v))=>(At.own o v).hasVer id ver
   | _=>false
def St.noDin (st:St) (id:Nat):Bool:=
 (st.slots.all fun p => !p.2.isDin id) && (st.objs.all fun p => !p.2.isDin id)
def St.noVer (st:St) (id ver:Nat):Bool:=
 (st.slots.all fun p => !p.2.hasVer id ver) && (st.objs.all fun p => !p.2.hasVer id ver)
def mayOb (st:St) (id:Nat) (ob:Ob):Bool:=match look st.objs id with
 | none=>Nat.blt id gBox && st.free id
 | some (.box _)=>match ob with
   | .box _=>true
   | _=>false
 | some (.arr v _ _ _ _)=>match ob with
   | .arr v' _ _ _ _=>Nat.beq v v' || (!Nat.beq v' 0 && st.noVer id v')
   | .gone=>true
   | _=>false
 | some .gone=>match ob with
   | .gone=>true
   | _=>false
 | some (.clo _ _ _)=>false
 | some (.deep v _ _ _ _ _ h)=>match ob with
   | .deep v' _ _ _ _ _ h'=>(Nat.beq v v' && ((!h.isSome && !h'.isSome) || st.noDin id)) || (!Nat.beq v' 0 && st.noVer id v')
   | .gone=>true
   | _=>false
def Jh (st:St):Upd→Option St
 | []=>some st
 | (id,ob)::r=>bif mayOb st id ob then Jh ⟨st.slots,ins id ob st.objs⟩ r else none
def lay (n:Nat) (st:St) (dst:Option Nat) (d:Dv) (u:Upd):Option St:=match Jh st u with
 | some st'=>match dst with
   | some t=>bif Nat.blt t n then some ⟨ins t d st'.slots,st'.objs⟩ else none
   | none=>some st'
 | none=>none
def guardSlots (ops:List Oper):List Nat:=
 ops.filterMap fun o=>o.guard.bind fun g=>(ops[g.1]?).bind (·.dst)
def layK (n:Nat) (st:St) (dst:Option Nat) (d:Dv) (u:Upd) (k:St→Option ρ):Option ρ:=match lay n st dst d u with
 | some st'=>k st'
 | none=>none
def partK (gs:List Nat) (dst:Option Nat) (d:Dv) (k:Dv→Option ρ):Option ρ:=match dst with
 | some t=>bif memN t gs then (match d with
  | .one (.val .bool b)=>br b (k (vB true)) (k (vB false))
  | _=>none) else k d
 | none=>k d
open Classical in
def both {α:Type} (x y:Option α):Option α:=if x=y then x else none
def YH (tab:List (Nat×TI)) (o:Oper) (ev:Operand→Option Dv) (ob:Objs):Option (Bool×Bool):=match o.op with
 | .binOp op xt x y _=>match look tab xt,ev x,ev y with
   | some ⟨.sl _,.slice _ _⟩,some d,some (.one .nilS)=>(match op with
     | .eql=>kP ob (fun _ xs=>some (true,xs.isEmpty)) d
     | .neq=>kP ob (fun _ xs=>some (false,xs.isEmpty)) d
     | _=>none)
   | _,_,_=>none
 | _=>none
def payId:Nat:=900001
def pEx:Ex:=1000000
def pBad:Nat:=999998
def thrown (st:St) (a:At):Option St:=bif mayOb st payId (.clo 0 [] [a]) && !a.mentions payId then some ⟨st.slots,ins payId (.clo 0 [] [a]) st.objs⟩ else none
def maltOf (alts:List (Nat×MAlt)) (dst f:Nat):Option MAlt:=match look alts (1000000+dst) with
 | some ma=>bif Nat.beq ma.fn f then some ma else look alts f
 | none=>look alts f
def altOf (G:Env) (o:Oper) (ev:Operand→Option Dv) (ob:Objs):Option (MAlt×List Dv):=match o.op with
 | .call c=>match c.callee with
   | .value x=>match Vu ob (ev x),evAll ev c.args.toList with
     | some (f,fs,cs),some as=>match look G.fns f,mcallOf G.mfns (o.dst.getD 0) f,maltOf G.alts (o.dst.getD 0) f with
       | none,none,some ma=>bif Nat.beq ma.fn f && calmP ma.pre.objs then some (ma,fs++as++cs) else none
       | _,_,_=>none
     | _,_=>none
   | _=>none
 | _=>none
def altK (G:Env) (gs:List Nat) (o:Oper) (st:St) (ma:MAlt) (ds:List Dv) (k kp:St→Option ρ):Option ρ:=match Ye (look st.objs) [] ma.pre ds with
 | some (x,u,σ)=>bnd (ma.F x) fun r=>sel r
   (fun y=>match backK (look st.objs) (o.dst.getD 0) σ (ma.post.inj y) with
    | some (d,v)=>partK gs o.dst d fun d=>layK G.n st o.dst d (u++v) k
    | none=>none)
   (fun y=>match backK (look st.objs) (o.dst.getD 0) σ (ma.post2.inj y) with
    | some (d,v)=>bif ma.pan then (match Jh st (u++v),d with
     | some st',.one a=>(match thrown st' a with
       | some s=>kp s
       | none=>none)
     | _,_=>none) else partK gs o.dst d fun d=>layK G.n st o.dst d (u++v) k
    | none=>none)
 | none=>none
def stepK (G:Env) (ops:List Oper) (gs:List Nat) (o:Oper) (st:St) (k kp:St→Option ρ):Option ρ:=
 let run (_:Unit):Option ρ:=match YH G.tab o (evSt st) (look st.objs) with
  | some (q,emp)=>
    br emp (bif memN (46000000+o.dst.getD 0) G.muts then none else both (partK gs o.dst (vB q) fun d=>layK G.n st o.dst d [] k) (partK gs o.dst (vB !q) fun d=>layK G.n st o.dst d [] k))
     (partK gs o.dst (vB !q) fun d=>layK G.n st o.dst d [] k)
  | none=>match o.op with
    | .panic x=>match evSt st x with
      | some (.one (.val (.ifc T s) y))=>(match thrown st (.val (.ifc T s) y) with
        | some s=>kp s
        | none=>none)
      | _=>none
    | _=>match altOf G o (evSt st) (look st.objs) with
      | some (ma,ds)=>altK G gs o st ma ds k kp
      | none=>effK G o (o.dst.getD 0) (evSt st) (look st.objs) fun e=>
        partK gs o.dst e.dv fun d=>layK G.n st o.dst d e.upd k
 match o.guard with
 | none=>run ()
 | some (j,want)=>match (ops[j]?).bind (·.dst) with
   | some g=>match look st.slots g with
     | some (.one (.val .bool b))=>br (b == want) (run ()) (layK G.n st o.dst (.tup []) [] k)
     | some (.tup [])=>layK G.n st o.dst (.tup []) [] k
     | _=>none
   | none=>none
def opsK (G:Env) (ops:List Oper) (gs:List Nat):List Oper→St→(k kp:St→Option ρ)→Option ρ
 | [],st,k,_=>k st
 | o::r,st,k,kp=>stepK G ops gs o st (fun st'=>opsK G ops gs r st' k kp) kp
def Yx (id ver:Nat):Nat:=bif Nat.ble gFix id then ver else 0
def kK (muts:List Nat) (objs:List (Nat×Ob)):At→At
 | .own id ver=>match look objs id with
   | some (.arr v fz _ t xs)=>bif Nat.beq v ver then (bif fz || !memN id muts then (bif t.isMap then .junk else .val (.sl t) xs) else .own id (Yx id ver)) else .junk
   | _ => .junk
 | .win id ver lo n=>match look objs id with
   | some (.arr v fz _ t xs)=>bif Nat.beq v ver then (bif fz || !memN id muts then (bif t.isMap then .junk else .val (.sl t) (part lo n xs)) else .win id (Yx id ver) lo n) else .junk
   | _ => .junk
 | .aptr id ver=>match look objs id with
   | some (.arr v fz _ _ _)=>bif Nat.beq v ver then (bif fz || !memN id muts then .junk else .aptr id (Yx id ver)) else .junk
   | _ => .junk
 | .down id ver=>match look objs id with
   | some (.deep v fz _ _ t xs h)=>bif Nat.beq v ver && !h.isSome then (bif fz || !memN id muts then .val (.sl t) xs else .down id (Yx id ver)) else .junk
   | _ => .junk
 | .elem .. => .junk
 | .aelem .. => .junk
 | .delem .. => .junk
 | .din .. => .junk
 | .dinel .. => .junk
 | a=>a
def convDv (muts:List Nat) (objs:List (Nat×Ob)):Dv→Dv
 | .one a => .one (kK muts objs a)
 | .agg cs => .agg (cs.map (kK muts objs))
 | .tup cs => .tup (cs.map (kK muts objs))
 | .tgg k cs => .tgg k (cs.map (kK muts objs))
def YL (G:Env) (objs:List (Nat×Ob)):List (Nat×Dv)→List (Nat×Dv)
 | []=>[]
 | (t,d)::r=>bif memN t G.keep then (t,convDv G.muts objs d)::YL G objs r else YL G objs r
def kg (G:Env) (objs:List (Nat×Ob)):List (Nat×Ob)→List (Nat×Ob)
 | []=>[]
 | (id,.box cs)::r=>(id,.box (cs.map (kK G.muts objs)))::kg G objs r
 | (id,.arr v fz e t xs)::r=>bif fz || !memN id G.muts then (bif fz && memN (20000000+id) G.muts then (id,.gone)::kg G objs r else del id (kg G objs r)) else (id,.arr (Yx id v) false e t xs)::kg G objs r
 | (id,.clo f a b)::r=>(id,.clo f (a.map (kK G.muts objs)) (b.map (kK G.muts objs)))::kg G objs r
 | (id,.gone)::r=>(id,.gone)::kg G objs r
 | (id,.deep v fz e te t xs h)::r=>bif fz || !memN id G.muts || h.isSome then del id (kg G objs r) else (id,.deep (Yx id v) false e te t xs none)::kg G objs r
def norm (G:Env) (st:St):St:=⟨YL G st.objs st.slots,kg G st.objs st.objs⟩
def onlyP {α:Type} (p:Nat→Bool):List (Nat×α)→List (Nat×α)
 | []=>[]
 | (t,d)::r=>bif p t then (t,d)::onlyP p r else onlyP p r
def only {α β:Type} (dom:List (Nat×β)) (l:List (Nat×α)):List (Nat×α):=onlyP (fun t=>(look dom t).isSome) l
def onlyO {α β:Type} (dom:List (Nat×β)) (l:List (Nat×α)):List (Nat×α):=onlyP (fun t=>(look dom t).isSome || (Nat.ble 900000 t && Nat.blt t gBox)) l
def restrict (dom st:St):St:=⟨only dom.slots st.slots,onlyO dom.objs st.objs⟩
def domJ (G:Env) (key:Nat) (st:St):St:=⟨st.slots++(G.keep.filter fun t=>memN (1000000000000+key*10000+t) G.muts).map fun t=>(t,Dv.tup []),st.objs++(G.muts.filter fun m=>Nat.beq (m / 100000) (100000000000+key)).map fun m=>(m % 100000,Ob.gone)⟩
def iterN {S R:Type} (f:S→Option (S⊕R)):Nat→S→Option R
 | 0,_=>none
 | n+1,s=>match f s with
   | some (.inl s')=>iterN f n s'
   | some (.inr r)=>some r
   | none=>none
open Classical in
def iter {S R:Type} (f:S→Option (S⊕R)) (s:S):Option R:=
 if h : ∃ n r,iterN f n s=some r then some (Classical.choose (Classical.choose_spec h)) else none
def VW (id:Nat):Code→Nat
 | .seq a b=>VW id a+VW id b
 | .cond _ a b=>VW id a+VW id b
 | .block _ c=>VW id c
 | .loop c=>min 1 (VW id c)
 | .exit j=>bif Nat.beq j id then 1 else 0
 | _=>0
def isSkip:Code→Bool
 | .skip=>true
 | _=>false
def ways:Code→Nat
 | .seq a b=>(bif !isSkip b && Nat.ble 2 (ways a) then 1 else ways a)*ways b
 | .cond _ a b=>ways a+ways b
 | .block id c=>ways c+VW id c
 | .loop _=>0
 | .exit _=>0
 | .ret=>0
 | _=>1
def nodes:Code→Nat
 | .seq a b=>nodes a+nodes b+1
 | .cond _ a b=>nodes a+nodes b+1
 | .block _ c=>nodes c+1
 | .loop c=>nodes c+1
 | _=>1
def Yo:Code→Nat
 | .seq a _=>Yo a
 | .cond _ a b=>let x:=Yo a;bif Nat.beq x 99999 then Yo b else x
 | .block _ c=>Yo c
 | .loop c=>Yo c
 | .region id _ _=>id
 | _=>99999
def joins (a b:Code):Bool:=!isSkip b && Nat.ble 2 (ways a)
def hasGuards (ops:Array Oper):Bool:=ops.toList.any fun o=>o.guard.isSome
def keyLoop (c:Code):Nat:=100000+Yo c
def Uq (c:Code):Nat:=200000+4096*Yo c+nodes c
end
structure Tr where
 dst:Option Nat
 dv:Option Dv
 upd:Upd
 need:List Nat
def evM (st:St) (hide:List Nat):Operand→Option Dv
 | .tmp t=>bif memN t hide then none else look st.slots t
 | x=>evSt st x
def obM (st:St) (hide:List Nat) (id:Nat):Option Ob:=bif memN id hide then none else look st.objs id
def okUpd (wr:List Nat) (u:Upd):Bool:=(u.all fun p=>memN p.1 wr) && kj u
def need1 (st:St) (id:Nat) (ob:Ob):Nat:=match look st.objs id with
 | none=>1
 | some (.box _)=>0
 | some (.arr v _ _ _ _)=>match ob with
   | .arr v' _ _ _ _=>bif Nat.beq v v' then 0 else 2
   | _=>0
 | some (.clo _ _ _)=>0
 | some .gone=>0
 | some (.deep v _ _ _ _ _ h)=>match ob with
   | .deep v' _ _ _ _ _ h'=>bif Nat.beq v v' then (bif !h.isSome && !h'.isSome then 0 else 3) else 2
   | _=>0
def VO (st:St):Upd→List Nat
 | []=>[]
 | (id,ob)::r=>need1 st id ob::VO st r
def altD {ρ:Type} (ma:MAlt) (ds:List Dv) (dst:Nat) (ob:Objs) (k:Eff→Option ρ) (kp:At→Upd→Option ρ):Option ρ:=match Ye ob [] ma.pre ds with
 | some (x,u,σ)=>bnd (ma.F x) fun r=>sel r
   (fun y=>match backK ob dst σ (ma.post.inj y) with
    | some (d,v)=>k ⟨d,u++v⟩
    | none=>none)
   (fun y=>match backK ob dst σ (ma.post2.inj y) with
    | some (.one a,v)=>bif ma.pan then kp a (u++v) else none
    | _=>none)
 | none=>none
abbrev Pm:=Nat×At×Upd
def hangs (pm:Option Pm) (h:Hint):Bool:=match pm with
 | some q=>memN q.1 h.pre
 | none=>false
def altD? (G:Env) (pm:Option Pm) (o:Oper) (ev:Operand→Option Dv) (ob:Objs):Option (MAlt×List Dv):=match pm with
 | none=>altOf G o ev ob
 | some _=>none
def idle (o:Oper):Tr:=⟨o.dst,none,[],[]⟩
def drawK {ρ:Type} (G:Env) (ops:List Oper) (gs:List Nat):List (Oper×Hint)→St→List Tr→Option Pm→(Option Pm→St→List Tr→Option ρ)→Option ρ
 | [],st,tr,pm,k=>k pm st tr
 | (o,h)::r,st,tr,pm,k=>
   let done (e:Eff):Option ρ:=bif okUpd h.wr e.upd then partK gs o.dst e.dv fun d=>layK G.n st o.dst d e.upd fun st'=>drawK G ops gs r st' (tr++[⟨o.dst,some d,e.upd,VO st e.upd⟩]) pm k else none
   let run (_:Unit):Option ρ:=match altD? G pm o (evM st h.hideS) (obM st h.hideO) with
    | some (ma,ds)=>altD ma ds (o.dst.getD 0) (obM st h.hideO) done fun a u=>drawK G ops gs r st (tr++[idle o]) (some (tr.length,a,u)) k
    | none=>effK G o (o.dst.getD 0) (evM st h.hideS) (obM st h.hideO) done
   bif hangs pm h then drawK G ops gs r st (tr++[idle o]) pm k else
   match o.guard with
   | none=>run ()
   | some (j,want)=>match (ops[j]?).bind (·.dst) with
     | some g=>bif memN g h.hideS then none else match look st.slots g with
       | some (.one (.val .bool b))=>br (b == want) (run ()) (layK G.n st o.dst (.tup []) [] fun st'=>drawK G ops gs r st' (tr++[⟨o.dst,some (.tup []),[],[]⟩]) pm k)
       | some (.tup [])=>layK G.n st o.dst (.tup []) [] fun st'=>drawK G ops gs r st' (tr++[⟨o.dst,some (.tup []),[],[]⟩]) pm k
       | _=>none
     | none=>none
def Tr.noMention (id:Nat) (t:Tr):Bool:=
 (match t.dv with | some d => !d.mentions id | none=>true) && t.upd.all fun p => !Nat.beq p.1 id && !p.2.mentions id
def Tr.noVer (id ver:Nat) (t:Tr):Bool:=
 (match t.dv with | some d => !d.hasVer id ver | none=>true) && t.upd.all fun p => !p.2.hasVer id ver
def preOf (hs:List Hint) (j:Nat):List Nat:=match hs[j]? with
 | some h=>h.pre
 | none=>[]
def Tr.noDin (id:Nat) (t:Tr):Bool:=
 (match t.dv with | some d => !d.isDin id | none=>true) && t.upd.all fun p => !p.2.isDin id
def Vi (hs:List Hint) (i:Nat) (p:Tr→Bool):Nat→List Tr→Bool
 | _,[]=>true
 | j,t::r=>(Nat.beq i j || memN i (preOf hs j) || p t) && Vi hs i p (j+1) r
def UE (hs:List Hint) (st0:St) (trs:List Tr) (i:Nat) (ahead:Upd) (id:Nat) (ob:Ob):Nat→Bool
 | 0=>true
 | 1=>st0.free id && (ahead.all fun p => !Nat.beq p.1 id && !p.2.mentions id) && Vi hs i (Tr.noMention id) 0 trs
 | 3=>st0.noDin id && (ahead.all fun p => !p.2.isDin id) && Vi hs i (Tr.noDin id) 0 trs
 | _=>match ob with
   | .arr v _ _ _ _=>st0.noVer id v && (ahead.all fun p => !p.2.hasVer id v) && Vi hs i (Tr.noVer id v) 0 trs
   | .deep v _ _ _ _ _ _=>st0.noVer id v && (ahead.all fun p => !p.2.hasVer id v) && Vi hs i (Tr.noVer id v) 0 trs
   | _=>false
def cleanU (hs:List Hint) (st0:St) (trs:List Tr) (i:Nat):Upd→Upd→List Nat→Bool
 | _,[],_=>true
 | ahead,(id,ob)::r,n::ns=>UE hs st0 trs i ahead id ob n && cleanU hs st0 trs i (ahead++[(id,ob)]) r ns
 | _,_::_,[]=>false
def cleanI (hs:List Hint) (st0:St) (trs:List Tr) (i:Nat) (t:Tr):Bool:=cleanU hs st0 trs i [] t.upd t.need
def Vf (hs:List Hint) (st0:St) (trs:List Tr):Nat→List Tr→Bool
 | _,[]=>true
 | i,t::r=>cleanI hs st0 trs i t && Vf hs st0 trs (i+1) r
def JM:Upd→List (Nat×Ob)→List (Nat×Ob)
 | [],l=>l
 | (id,ob)::r,l=>JM r (ins id ob l)
def sameOb:Option Ob→Ob→Bool
 | some (.box _),.box _=>true
 | some (.arr v _ _ _ _),.arr v' _ _ _ _=>Nat.beq v v'
 | some (.arr ..),.gone=>true
 | some .gone,.gone=>true
 | some (.deep v _ _ _ _ _ h),.deep v' _ _ _ _ _ h'=>Nat.beq v v' && (!h.isSome && !h'.isSome)
 | some (.deep ..),.gone=>true
 | _,_=>false
def Tr.lay (t:Tr) (st:St):St:=
 ⟨match t.dst with
  | some s=>(match t.dv with
    | some d=>ins s d st.slots
    | none=>st.slots)
  | none=>st.slots,
  JM t.upd st.objs⟩
def foldS (S:Nat→Bool):Nat→List Tr→St→St
 | _,[],st=>st
 | i,t::r,st=>foldS S (i+1) r (bif S i then t.lay st else st)
def preSt (hs:List Hint) (m:Nat) (tr:List Tr) (st:St):St:=foldS (fun k=>memN k (preOf hs m)) 0 tr st
def othersNew (pre:List Nat) (objs:List (Nat×Ob)):Nat→List Tr→Bool
 | _,[]=>true
 | i,t::r=>(memN i pre || t.upd.all fun p=>(look objs p.1).isNone) && othersNew pre objs (i+1) r
def panOk (hs:List Hint) (m:Nat) (st:St) (tr:List Tr) (a:At) (u:Upd):Bool:=
 st.free payId && (tr.all fun t=>t.noMention payId) && othersNew (preOf hs m) (preSt hs m tr st).objs 0 tr && kj u &&
  (u.all fun p=>sameOb (look (preSt hs m tr st).objs p.1) p.2 && !Nat.beq p.1 payId && !p.2.mentions payId) && !a.mentions payId
def panKeep (G:Env):List Nat:=(G.muts.filter fun m=>Nat.ble 48000000 m && Nat.blt m 48100000).map (· - 48000000)
def Yz (ks:List Nat) (tr:List Tr):List (Nat×Dv)→List (Nat×Dv)
 | []=>[]
 | p::r=>bif memN p.1 ks && tr.all (fun t=>match t.dst with | some s => !Nat.beq s p.1 | none=>true) then p::Yz ks tr r else Yz ks tr r
def panSt (ks:List Nat) (hs:List Hint) (m:Nat) (tr:List Tr) (st:St) (a:At) (u:Upd):St:=⟨Yz ks tr st.slots,ins payId (.clo 0 [] [a]) (JM u (preSt hs m tr st).objs)⟩
def forgetL (id:Nat):List Nat→List Nat
 | []=>[]
 | m::r=>bif Nat.ble 7000000 m && Nat.beq ((m - 7000000) / 1000) id then (m - 7000000) % 1000::forgetL id r else bif Nat.ble 40000000 m && Nat.beq ((m - 40000000) / 100000) id then (m - 40000000) % 100000::forgetL id r else forgetL id r
def dels {α:Type}:List Nat→List (Nat×α)→List (Nat×α)
 | _,[]=>[]
 | l,(s,u)::r=>bif memN s l then dels l r else (s,u)::dels l r
def forget (l:List Nat) (st:St):St:=match l with
 | []=>st
 | l=>restrict ⟨dels l st.slots,dels l st.objs⟩ st
def coldL (id:Nat):List Nat→List Nat
 | []=>[]
 | m::r=>bif Nat.ble 900000000 m && Nat.beq ((m - 900000000) / 100000) id then (m - 900000000) % 100000::coldL id r else coldL id r
def cooled (G:Env) (id:Nat):Env:=match coldL id G.muts with
 | []=>G
 | l=>{ G with muts:=G.muts.filter fun m => !memN m l }
def shutK {ρ:Type}:List (Nat×Ob)→St→(St→Option ρ)→Option ρ
 | [],st,k=>k st
 | p::r,st,k=>match look st.objs p.1 with
   | some (.deep v false e te t xs (some hole))=>bif st.noDin p.1 then (match hole with
     | none=>shutK r ⟨st.slots,ins p.1 (.deep v false e te t xs none) st.objs⟩ k
     | some (i,off,s,oid,v0)=>(match look st.objs oid with
       | some (.arr v1 false te1 s1 ys)=>if h:s1=s then (bif Nat.beq v1 v0 && Nat.beq te1 te && !Nat.beq oid p.1 && !s.isMap then bnd (idx xs i) fun x=>(match Ty.upd (.sl s) (show (Ty.sl s).den from h ▸ ys) t x off with
         | some x'=>shutK r ⟨st.slots,ins oid .gone (ins p.1 (.deep v false e te t (xs.set i.toNat x') none) st.objs)⟩ k
         | none=>none) else none) else none
       | _=>none)) else none
   | _=>shutK r st k
def VC (G:Env) (id:Nat) (ops:Array Oper) (draws:Bool) (ρ:Type) (st:St) (k:Ex→St→Option ρ):Option ρ:=
 bif draws then (match look G.fps id with
  | some hs=>drawK G ops.toList (guardSlots ops.toList) (ops.toList.zip hs) st [] none fun pm st' tr=>bif Vf hs st tr 0 tr then (match pm with
    | none=>shutK st'.objs st' fun st'=>k 0 (norm G st')
    | some q=>bif panOk hs q.1 st tr q.2.1 q.2.2 then k pEx (norm G (panSt (panKeep G) hs q.1 tr st q.2.1 q.2.2)) else none) else none
  | none=>none)
 else opsK G ops.toList (guardSlots ops.toList) ops.toList st (fun st'=>shutK st'.objs st' fun st'=>k 0 (forget (forgetL id G.muts) (norm (cooled G id) st'))) fun st'=>k pEx (norm G st')
def kR (e:Ex):Bool:=Nat.beq e 0
def delC (G:Env) (t:Nat) (st:St):St:=bif memN (2000000000000+t) G.muts then st else ⟨del t st.slots,st.objs⟩
def Ve:(ts:List Ty)→List At→Option (dens ts)
 | [],[]=>some ()
 | [t],[.fptr s d]=>if h:s=t then some (h ▸ d) else none
 | t::t'::ts,.fptr s d::r=>match Ve (t'::ts) r with
   | some y=>if h:s=t then some (h ▸ d,y) else none
   | none=>none
 | _,_=>none
def seqOf (G:Env) (st:St):Operand→Option (IntKind×List Int)
 | .tmp t=>match look st.slots t with
   | some (.one (.clo id))=>match look st.objs id with
     | some (.clo f [] b)=>match look G.eqs.seqs f with
       | some sc=>bif Nat.beq sc.fn f then (Ve sc.caps b).map fun x=>(sc.k,sc.L x) else none
       | none=>none
     | _=>none
   | _=>none
 | _=>none
def Ur:Code→Option (Nat×Nat)
 | .region _ ops false=>match ops.toList with
   | [⟨some t,.assign (.tmp p),_,_,_,none⟩]=>some (p,t)
   | _=>none
 | _=>none
def calmO:List (Nat×Ob)→Bool
 | []=>true
 | (_,.box _)::r=>calmO r
 | (_,.arr _ fz _ t _)::r => !fz && (!t.isMap && calmO r)
 | (_,.clo _ _ _)::r=>calmO r
 | (_,.gone)::_=>false
 | (_,.deep ..)::_=>false
def wrOps (ops:List Oper):List Nat:=ops.filterMap (·.dst)
def wrC:Code→List Nat
 | .region _ ops _=>wrOps ops.toList
 | .seq a b=>wrC a++wrC b
 | .cond _ a b=>wrC a++wrC b
 | .block _ c=>wrC c
 | .loop c=>wrC c
 | _=>[]
def JV:Nat:=10000000
def Ym:Code→Bool
 | .seq a b=>Ym a || Ym b
 | .cond _ a b=>Ym a || Ym b
 | .block _ c=>Ym c
 | .loop c=>Ym c
 | .rangeFunc _ _ _ _=>true
 | _=>false
def keyRange (c:Code):Nat:=300000+Yo c
def execK (G:Env):Code→(ρ:Type)→St→(Ex→St→Option ρ)→Option ρ
 | .skip,_,st,k=>k 0 st
 | .label _,_,st,k=>k 0 st
 | .region id ops d,ρ,st,k=>
   bif hasGuards ops || d then
    (match look G.cks id with
    | some s=>s.run ρ st k
    | none=>VC G id ops d ρ st k)
   else VC G id ops d ρ st k
 | .seq a b,ρ,st,k=>
   bif joins a b then
    (match look G.cks (Uq a) with
    | some s=>s.run ρ st fun e st'=>bif kR e then execK G b ρ st' k else k e st'
    | none=>execK G a ρ st fun e st'=>bif kR e then execK G b ρ (restrict (domJ G (Uq a) st) st') k else k e (restrict (domJ G (Uq a) st) st'))
   else execK G a ρ st fun e st'=>bif kR e then execK G b ρ st' k else k e st'
 | .cond c a b,ρ,st,k=>match c with
   | .tmp t=>match look st.slots t with
     | some (.one (.val .bool x))=>br x (execK G a ρ (delC G t st) k) (execK G b ρ (delC G t st) k)
     | _=>none
   | .const (.bool true)=>execK G a ρ st k
   | .const (.bool false)=>execK G b ρ st k
   | _=>none
 | .block id c,ρ,st,k=>bif Nat.beq id pBad then none else execK G c ρ st fun e st'=>bif Nat.beq e (id+2) then k 0 st' else k e st'
 | .loop c,ρ,st,k=>match look G.cks (keyLoop c) with
   | some s=>s.run ρ st k
   | none=>bnd (iter (fun (s:St)=>execK G c (St⊕(Ex×St)) s fun e s'=>bif kR e then some (.inl (restrict s s')) else some (.inr (e,restrict s s'))) st) fun p=>k p.1 p.2
 | .exit id,_,st,k=>bif Nat.beq id pBad then none else k (id+2) st
 | .ret,_,st,k=>k 1 st
 | .rangeFunc g ps asg body,ρ,st,k=>match seqOf G st g,Ur asg with
   | some (kd,xs),some (p,t)=>bif !Ym body && (ps.toList == [p]) && Nat.blt p G.n && Nat.blt t G.n && Nat.blt G.n JV && calmO st.objs then
     (match look G.cks (keyRange body) with
     | some s=>s.run ρ ⟨ins JV (.one (.val (.sl (.int kd)) xs)) st.slots,st.objs⟩ k
     | none=>bnd (iter (fun (s:St)=>match look s.slots JV with
      | some (.one (.val (.sl (.int kd')) ys))=>br (List.isEmpty ys) (some (.inr (0,⟨del JV s.slots,s.objs⟩)))
        (bnd (idx ys 0) fun y=>execK G body (St⊕(Ex×St)) ⟨ins t (.one (.val (.int kd') y)) (ins p (.one (.val (.int kd') y)) (del JV s.slots)),s.objs⟩ fun e s'=>
         bif kR e && calmO (onlyO s.objs s'.objs) then some (.inl ⟨ins JV (.one (.val (.sl (.int kd')) (ys.drop 1))) (onlyP (fun t' => !memN t' (p::t::JV::wrC body)) s'.slots),onlyO s.objs s'.objs⟩) else none)
      | _=>none) ⟨ins JV (.one (.val (.sl (.int kd)) xs)) st.slots,st.objs⟩) fun q=>k q.1 q.2)
     else none
   | _,_=>none
 | _,_,_,_=>none
def resK {ρ:Type} (G:Env) (st:St):List ResultVar→(List Dv→Option ρ)→Option ρ
 | [],k=>k []
 | .tmp t::r,k=>match look st.slots t with
   | some d=>resK G st r fun l=>k (d::l)
   | none=>none
 | .cell p t::r,k=>match look G.tab t,look st.slots p with
   | some ti,some (.one (.ref id 0))=>match look st.objs id with
     | some (.box cs)=>bif ti.ty.isSt then (bif Nat.ble ti.ty.cells cs.length then resK G st r fun l=>k (.agg (cs.take ti.ty.cells)::l) else none) else (match cs[0]? with
       | some a=>resK G st r fun l=>k (.one a::l)
       | none=>none)
     | _=>none
   | some ⟨.ar n s',.arr _ _⟩,some (.one (.aptr id ver))=>match look st.objs id with
     | some (.arr v _ _ s xs)=>if h:s=s' then (bif Nat.beq v ver then bnd (okIf (decide (xs.length=n))) fun _=>resK G st r fun l=>k (.one (.val (.ar n s') (h ▸ xs))::l) else none) else none
     | _=>none
   | some ⟨.st s',.struct _⟩,some (.one (.aptr id ver))=>match look st.objs id with
     | some (.arr v _ _ s xs)=>if h:s = .st s' then (bif Nat.beq v ver then bnd (idx xs 0) fun y=>resK G st r fun l=>k (.one (.val (.st s') (h ▸ y))::l) else none) else none
     | _=>none
   | _,_=>none
def finish (G:Env) (rv:List ResultVar) (ts:List Ty) (e:Ex) (st:St):Option (dens ts):=
 bif Nat.blt e 2 then resK G st rv fun l=>(match args (look st.objs) ts l with
  | some (x,_)=>some x
  | none=>none) else none
def Ut:Nat→(ts:List Ty)→dens ts→List (Nat×Dv)
 | _,[],_=>[]
 | i,[t],x=>[(i,.one (.val t x))]
 | i,t::t'::ts,x=>(i,.one (.val t x.1))::Ut (i+1) (t'::ts) x.2
def den (G:Env) (fn:Func) (ps rs:List Ty) (x:dens ps):Option (dens rs):=match fn.body with
 | some c=>execK G c (dens rs) ⟨Ut 0 ps x,[]⟩ (finish G fn.results.toList rs)
 | none=>none
def Un:Nat→List (Nat×SD)→Bool
 | _,[]=>true
 | i,p::r=>Nat.beq i p.1 && Un (i+1) r
def selfR:List (Nat×SO)→Ren
 | []=>[]
 | p::r=>(p.1,p.1)::selfR r
def keepOk (ob:Objs) (σ:Ren):Bool:=σ.all fun p=>Nat.blt p.1 gBox || (Nat.beq p.1 p.2 && (Nat.blt p.1 gFix || (match ob p.2 with
 | some (.arr v _ _ _ _)=>Nat.beq v 0
 | some (.deep v _ _ _ _ _ _)=>Nat.beq v 0
 | _=>true)))
def finishM (G:Env) (pre post:Shape) (rv:List ResultVar) (e:Ex) (st:St):Option (densU post.tys):=
 bif Nat.blt e 2 then resK G st rv fun l=>(match Ye (look st.objs) (selfR pre.objs) post l with
  | some (y,_,σ)=>bif keepOk (look st.objs) σ then some y else none
  | none=>none) else none
def denM (G:Env) (fn:Func) (pre post:Shape) (x:densU pre.tys):Option (densU post.tys):=match fn.body with
 | some c=>execK G c (densU post.tys) (pre.inj x) (finishM G pre post fn.results.toList)
 | none=>none
end
end Go.Ql
end

section
namespace Go.Ql
def rowAt (w:World) (g:Nat) (cur:Array Value) (e:TypeId):Prop:=
 ∃ fz:Nat×Nat,w.heap[g]? = some (.cells cur e fz)∧(fz=(0,0)∨cur.size≤fz.1)
section
variable {w w':World} {g:Nat} {cur:Array Value} {e:TypeId}
theorem rowAt.of (h:w.heap[g]? = some (.cells cur e (0,0))):rowAt w g cur e:=⟨_,h,.inl rfl⟩
theorem rowAt.lt (h:rowAt w g cur e):g < w.heap.size:=by
 obtain ⟨fz,h,_⟩:=h
 exact (Array.getElem?_eq_some_iff.1 h).1
theorem rowAt.cell (h:rowAt w g cur e) (j:Nat):w.cell? ⟨g,j,none⟩=cur[j]?:=by
 obtain ⟨fz,h,_⟩:=h
 exact cell_of_row w g j cur e fz h
theorem rowAt.set (h:rowAt w g cur e) {cs:Array Value} (hs:cs.size=cur.size):rowAt (w.setRow g cs) g cs e:=by
 obtain ⟨fz,h,hf⟩:=h
 exact ⟨fz,setRow_heap w g cur cs e fz h,hf.imp id fun hf=>by omega⟩
theorem rowAt.block (h:rowAt w g cur e) (hb:w'.heap[g]? = w.heap[g]?):rowAt w' g cur e:=by
 obtain ⟨fz,h,hf⟩:=h
 exact ⟨fz,by rw [hb];exact h,hf⟩
theorem rowAt.frozen (h:rowAt w g cur e) {j:Nat} (hj:j < cur.size):w.frozen? ⟨g,j,none⟩=false:=by
 obtain ⟨fz,h,hf⟩:=h
 rcases hf with rfl | hf
 ·exact frozen_of_row w g j cur e h
 ·simp only [World.frozen?,h]
  simp
  omega
end
section
variable {w:World} {g:Nat} {cur:Array Value} {e:TypeId}
theorem freeze_other (a:Addr) (n k:Nat) (h:k≠a.block):(w.freeze a n).heap[k]? = w.heap[k]?:=by
 unfold World.freeze
 split
 ·rfl
 ·simp [Array.getElem?_modify,Ne.symm h]
theorem rowAt.mark (h:rowAt w g cur e):rowAt (w.freeze ⟨g,cur.size,none⟩ 1) g cur e:=by
 have hlt:=h.lt
 obtain ⟨⟨lo,hi⟩,h,hf⟩:=h
 have hv:w.heap[g] = .cells cur e (lo,hi):=(Array.getElem?_eq_some_iff.1 h).2
 refine ⟨if lo == hi then (cur.size,cur.size+1) else (min lo cur.size,max hi (cur.size+1)),?_,.inr ?_⟩
 ·unfold World.freeze
  rw [if_neg (by decide)]
  show (Array.modify _ _ _)[g]? = _
  rw [Array.getElem?_modify,if_pos rfl,h]
  rfl
 ·by_cases hc:lo=hi
  ·simp [hc]
  ·simp only [beq_iff_eq,if_neg hc]
   rcases hf with hf | hf
   ·cases hf;exact absurd rfl hc
   ·have hf:cur.size≤lo:=hf
    show cur.size≤min lo cur.size
    omega
theorem run_convert_mark {P:Program} (h:rowAt w g cur e) {t u:TypeId} (hu:P.underlying t=some (.slice u)) (hb:P.underlying u=some (.int .u8)) (n c:Nat) :
 (convert t t (.slice (some ⟨g,0,none⟩) n c)).run P w = .ok (.slice (some ⟨g,0,none⟩) n c) (w.freeze ⟨g,cur.size,none⟩ 1):=by
 have hs:w.shape? g=some (e,cur.size):=by
  obtain ⟨fz,h,_⟩:=h
  simp [World.shape?,h]
 simp [convert,run_underlying hu,run_underlying hb,markStringish,hs]
end
def _root_.Go.World.ownsM (w:World) (e:TypeId) (size:Nat) (v:Value) (n:Nat) (xs:List Value):Prop:=
 xs.length=n*size ∧
 ((v = .slice none 0 0∧n=0) ∨
  ∃ g cap cur,v = .slice (some ⟨g,0,none⟩) n cap∧rowAt w g cur e∧n≤cap∧cap≤maxLen∧cur.size=cap*size∧cur.toList.take (n*size)=xs)
section
variable {w:World} {e:TypeId} {size:Nat} {v:Value} {n:Nat} {xs:List Value}
theorem Vj (w:World) (e:TypeId) (size:Nat):w.ownsM e size (.slice none 0 0) 0 []:=⟨by simp,.inl ⟨rfl,rfl⟩⟩
theorem ownsM_cells {g m c:Nat} (h:w.ownsM e size (.slice (some ⟨g,0,none⟩) m c) n xs) : ∀ j u,xs[j]? = some u→w.cell? ((⟨g,0,none⟩:Addr).add j)=some u:=by
 intro j u hj
 rcases h.2 with ⟨e1,_⟩ | ⟨g',cap,cur,e1,h2,_,_,_,h6⟩
 ·cases e1
 ·cases e1
  have:(⟨g,0,none⟩:Addr).add j=⟨g,j,none⟩:=by unfold Addr.add;split <;> simp_all
  rw [this,h2.cell,← Array.getElem?_toList]
  rw [← h6,List.getElem?_take] at hj
  split at hj
  ·exact hj
  ·cases hj
end
section
variable (P:Program)
theorem run_storeCells_own (g o:Nat) (t:TypeId) : ∀ (vs:List Value) (i:Nat) (cur:Array Value) (w:World),rowAt w g cur t→o+i+vs.length≤cur.size→(∀ v∈vs,v.oneCell'=true) →
 (storeCells ⟨g,o,none⟩ vs i).run P w = .ok () (w.setRow g (cur.toList.take (o+i)++vs++cur.toList.drop (o+i+vs.length)).toArray)
 | [],i,cur,w,hg,_,_=>by
   simp only [storeCells,List.append_nil,List.length_nil,Nat.add_zero,List.take_append_drop,Array.toArray_toList]
   obtain ⟨fz,hg,_⟩:=hg
   rw [setRow_self w g cur t fz hg]
   rfl
 | v::rest,i,cur,w,hg,hl,h1=>by
   have hi:o+i < cur.size:=by simp at hl;omega
   have hadd:(⟨g,o,none⟩:Addr).add i=⟨g,o+i,none⟩:=by unfold Addr.add;split <;> simp_all
   have hcell:w.cell? ⟨g,o+i,none⟩=some cur[o+i]:=by rw [hg.cell];simp [hi]
   have hfro:w.frozen? ⟨g,o+i,none⟩=false:=hg.frozen hi
   have hst:(store ((⟨g,o,none⟩:Addr).add i) v).run P w = .ok () (w.setRow g (cur.setIfInBounds (o+i) v)):=by
    obtain ⟨fz,hg',_⟩:=hg
    rw [hadd,run_store P w _ v _ (h1 v (by simp)),hcell]
    simp [hfro,setCell_eq_setRow w g (o+i) cur t fz v hg']
   have ih:=run_storeCells_own g o t rest (i+1) (cur.setIfInBounds (o+i) v) (w.setRow g (cur.setIfInBounds (o+i) v)) (hg.set (by simp)) (by simp at hl ⊢;omega) (fun x hx=>h1 x (by simp [hx]))
   simp only [storeCells,Sem.run_bind,hst,Result.andThen_ok,ih,setRow_setRow]
   congr 3
   have e:=list_seg_step cur.toList (o+i) v rest (by simp at hl ⊢;omega)
   simpa [Array.toList_setIfInBounds,Nat.add_assoc] using e
end
section
variable {P:Program} (w:World)
theorem run_append_none_own (t ty e:TypeId) (i:TypeInfo) (size:Nat) (ht:P.underlying t=some (.slice e)) (hi:P.info? e=some i)
 (v:Value) (n:Nat) (xs:List Value) (hown:w.ownsM e size v n xs) :
 (Builtin.append_ #[t,t] ty #[v,.slice none 0 0]).run P w = .ok v w:=by
 rcases hown.2 with ⟨rfl,rfl⟩ | ⟨g,cap,cur,rfl,_,hnc,_⟩
 ·simp [Builtin.append_,run_underlying ht,sizeOf,typeInfo,hi,Builtin.lenOf,Builtin.firstCells]
 ·simp [Builtin.append_,run_underlying ht,sizeOf,typeInfo,hi,Builtin.lenOf,Builtin.firstCells,hnc,storeCells]
theorem run_append_room_own (t ty e:TypeId) (i:TypeInfo) (ht:P.underlying t=some (.slice e)) (hi:P.info? e=some i)
 (g sLen sCap:Nat) (cur:Array Value) (hg:rowAt w g cur e)
 (a:Addr) (m c:Nat) (news:List Value) (hl:news.length=m*i.size) (hnews : ∀ j u,news[j]? = some u→w.cell? (a.add j)=some u) (h1 : ∀ u∈news,u.oneCell'=true)
 (hroom:sLen+m≤sCap) (hfit:sLen*i.size+news.length≤cur.size) :
 (Builtin.append_ #[t,t] ty #[.slice (some ⟨g,0,none⟩) sLen sCap,.slice (some a) m c]).run P w =
  .ok (.slice (some ⟨g,0,none⟩) (sLen+m) sCap) (w.setRow g (cur.toList.take (sLen*i.size)++news++cur.toList.drop (sLen*i.size+news.length)).toArray):=by
 have hf:=run_firstCells_some (P:=P) w i.size m a m c news hl hnews
 have hst:=run_storeCells_own P g (sLen*i.size) e news 0 cur w hg (by simpa using hfit) h1
 simp only [Nat.add_zero] at hst
 simp [Builtin.append_,run_underlying ht,sizeOf,typeInfo,hi,Builtin.lenOf,hroom,hf,Addr.add_lit,hst]
theorem run_append_room_string_own (t u ty e:TypeId) (i:TypeInfo) (ht:P.underlying t=some (.slice e)) (hu:P.underlying u=some .string) (hi:P.info? e=some i) (hs1:i.size=1)
 (g sLen sCap:Nat) (cur:Array Value) (hg:rowAt w g cur e) (s:ByteArray)
 (hroom:sLen+s.size≤sCap) (hfit:sLen+s.size≤cur.size) :
 (Builtin.append_ #[t,u] ty #[.slice (some ⟨g,0,none⟩) sLen sCap,.string s]).run P w =
  .ok (.slice (some ⟨g,0,none⟩) (sLen+s.size) sCap) (w.setRow g (cur.toList.take sLen++Lib.strCells s++cur.toList.drop (sLen+s.size)).toArray):=by
 have hf:=Lib.run_firstCells_string (P:=P) w 1 s
 have hst:=run_storeCells_own P g sLen e (Lib.strCells s) 0 cur w hg (by simpa [Lib.strCells_length] using hfit) (Lib.strCells_oneCell s)
 simp only [Nat.add_zero,Lib.strCells_length] at hst
 simp [Builtin.append_,run_underlying ht,run_underlying hu,sizeOf,typeInfo,hi,hs1,Builtin.lenOf,hroom,hf,Addr.add_lit,hst]
theorem bytes_own (e:TypeId) (s:ByteArray) (hm:s.size≤maxLen) :
 (Lib.bytesWorld w e s).ownsM e 1 (.slice (some ⟨w.heap.size,0,none⟩) s.size (grownCap w s.size 0 e)) s.size (Lib.strCells s):=by
 have hge:=grownCap_ge w s.size 0 e
 have hcm:grownCap w s.size 0 e≤maxLen:=grownCap_le_maxLen w s.size 0 e hm
 have hsz:(Lib.bytesCells w e s).size=grownCap w s.size 0 e:=by
  simp only [Lib.bytesCells,Array.size_append,Array.size_map,Array.size_replicate]
  have:s.data.size=s.size:=rfl
  omega
 refine ⟨by rw [Lib.strCells_length,Nat.mul_one],.inr ⟨w.heap.size,_,_,rfl,⟨_,Lib.bytesWorld_at_new w e s,.inr (Nat.le_refl _)⟩,hge,hcm,by rw [hsz,Nat.mul_one],?_⟩⟩
 simp only [Lib.bytesCells,Array.toList_append,Nat.mul_one]
 have h1:(s.data.map fun b=>Value.int .u8 b.toNat).toList=Lib.strCells s:=by simp [Lib.strCells]
 rw [h1,← Lib.strCells_length s]
 exact List.take_left
end
end Go.Ql
end
