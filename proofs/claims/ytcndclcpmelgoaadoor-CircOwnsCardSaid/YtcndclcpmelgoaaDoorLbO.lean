/- Part of the lifter: values and memory, for any program. -/
import Derived.Test.YtcndclcpmelgoaaDoorLaO
import Derived.Tactics
import Derived.Laws.Cells
import Derived.Laws.MakeOwn
import Derived.Laws.BitsLemmas
import Derived.Laws.Strings
import Derived.Laws.BytesString
import Derived.Lib.ConvBytes
set_option linter.all false
section
namespace Go.Ql
universe u
section
variable {α:Type u}
theorem beqN {a b:Nat}:Nat.beq a b=true↔a=b:=by rw [Nat.beq_eq]
theorem Jb {a b:Nat}:Nat.beq a b=false↔a≠b:=by
 rw [← Bool.not_eq_true,beqN]
theorem Jl (t s:Nat) (v:α) (l:List (Nat×α)):look (ins t v l) s=if t=s then some v else look l s:=by
 induction l with
 | nil=>
   by_cases h:t=s
   ·simp [ins,look,h]
   ·simp [ins,look,h,Jb.2 h]
 | cons p r ih=>
   obtain ⟨q,x⟩:=p
   simp only [ins]
   cases h1:Nat.blt t q with
   | true=>
     by_cases h:t=s
     ·simp [look,h]
     ·simp [look,h,Jb.2 h]
   | false=>
     cases h2:Nat.beq t q with
     | true=>
       have:t=q:=beqN.1 h2
       subst this
       by_cases h:t=s
       ·simp [look,h]
       ·simp [look,h,Jb.2 h]
     | false=>
       have hne:=Jb.1 h2
       simp only [cond_false,look,ih]
       by_cases h3:q=s
       ·subst h3;simp [hne]
       ·simp [Jb.2 h3]
theorem Vv (t s:Nat) (l:List (Nat×α)):look (del t l) s=if t=s then none else look l s:=by
 induction l with
 | nil=>simp [del,look]
 | cons p r ih=>
   obtain ⟨q,x⟩:=p
   simp only [del]
   cases h2:Nat.beq t q with
   | true=>
     have:t=q:=beqN.1 h2
     subst this
     simp only [cond_true,ih,look]
     by_cases h:t=s
     ·simp [h]
     ·simp [h,Jb.2 h]
   | false=>
     have hne:=Jb.1 h2
     simp only [cond_false,look,ih]
     by_cases h3:q=s
     ·subst h3;simp [hne]
     ·simp [Jb.2 h3]
theorem ky {t:Nat} {v:α} {l:List (Nat×α)} (h:look l t=some v):(t,v)∈l:=by
 induction l with
 | nil=>simp [look] at h
 | cons p r ih=>
   obtain ⟨q,x⟩:=p
   simp only [look] at h
   cases h2:Nat.beq q t with
   | true=>rw [h2] at h;simp at h;have:=beqN.1 h2;subst this;subst h;simp
   | false=>rw [h2] at h;simp at h;exact List.mem_cons_of_mem _ (ih h)
end
def rdAll {α:Type} (p:List Value→α→Prop):List Value→List α→Prop
 | cs,[]=>cs=[]
 | cs,x::r => ∃ c1 c2,cs=c1++c2∧p c1 x∧rdAll p c2 r
def Yl:Nat→Value
 | 0 => .pointer none
 | 1 => .nilIface
 | 2 => .map none
 | _ => .nilFunc
theorem nilVal_one (k:Nat):(Yl k).oneCell'=true:=by
 unfold Yl
 split <;> rfl
mutual
def rdT {α:Type} (w:World) (Z:Nat→Prop) (p:List Value→α→Prop):Rose α→List Value→Prop
 | .mk a ks,cs => ∃ c1 v,cs=c1++[v]∧p c1 a∧((v = .slice none 0 0∧ks=[]) ∨
  (∃ b off cap cells,v = .slice (some ⟨b,off,none⟩) (List.length ks) cap∧List.length ks≤cap∧cap≤maxLen∧Z b∧rdTs w Z p ks cells ∧ ∀ j u,cells[j]? = some u→w.cell? ⟨b,off+j,none⟩=some u) ∨
  ∃ ad cap,v = .slice (some ad) 0 cap∧ks=[]∧cap≤maxLen)
def rdTs {α:Type} (w:World) (Z:Nat→Prop) (p:List Value→α→Prop):List (Rose α)→List Value→Prop
 | [],cs=>cs=[]
 | x::r,cs => ∃ c1 c2,cs=c1++c2∧rdT w Z p x c1∧rdTs w Z p r c2
end
theorem rdTs_all {α:Type} {w:World} {Z:Nat→Prop} {p:List Value→α→Prop} : ∀ {ks:List (Rose α)} {cs:List Value},rdTs w Z p ks cs↔rdAll (fun cs d=>rdT w Z p d cs) cs ks
 | [],cs=>by rw [rdTs,rdAll]
 | x::r,cs=>by
   rw [rdTs,rdAll]
   constructor
   ·rintro ⟨c1,c2,e,h1,h2⟩;exact ⟨c1,c2,e,h1,rdTs_all.1 h2⟩
   ·rintro ⟨c1,c2,e,h1,h2⟩;exact ⟨c1,c2,e,h1,rdTs_all.2 h2⟩
def rdC (w:World) (Z:Nat→Prop):(t:Ty)→List Value→t.den→Prop
 | .bool,cs,d=>cs=[.bool d]
 | .int k,cs,d=>cs=[.int k d]
 | .str,cs,d=>cs=[.string ⟨List.toArray d⟩]
 | .sl t,cs,d => ∃ v,cs=[v]∧((v = .slice none 0 0∧d=[]) ∨
  (∃ b off cap cells,v = .slice (some ⟨b,off,none⟩) (List.length d) cap∧List.length d≤cap∧cap≤maxLen∧Z b∧rdAll (rdC w Z t) cells d ∧ ∀ j u,cells[j]? = some u→w.cell? ⟨b,off+j,none⟩=some u) ∨
  ∃ ad cap,v = .slice (some ad) 0 cap∧d=[]∧cap≤maxLen)
 | .st t,cs,d=>rdC w Z t cs d
 | .unit,cs,_=>cs=[]
 | .pair a b,cs,d => ∃ c1 c2,cs=c1++c2∧rdC w Z a c1 d.1∧rdC w Z b c2 d.2
 | .ar n t,cs,d=>List.length d=n∧rdAll (rdC w Z t) cs d
 | .nilv k,cs,_=>cs=[Yl k]
 | .node t,cs,d=>rdT w Z (rdC w Z t) d cs
 | .ifc T t,cs,d => ∃ u us,cs=[.iface T u]∧((t.isSt=true∧u = .agg us)∨(t.isSt=false∧us = #[u]))∧rdC w Z t us.toList d
 | .nn,cs,d => ∃ v,cs=[v]∧(((d:Bool)=true ∧ ∃ T u,v = .iface T u)∨((d:Bool)=false∧v = .nilIface))
 | .len,cs,d => ∃ ad c,cs=[.slice ad (show Int from d).toNat c]∧0≤(show Int from d)∧(show Int from d).toNat≤maxLen
 | .fl t,cs,d=>(∃ v,cs=[v]∧(((v = .slice none 0 0∧d=[]) ∨
  (∃ b off cap cells,v = .slice (some ⟨b,off,none⟩) (List.length d) cap∧List.length d≤cap∧cap≤maxLen∧Z b∧rdAll (rdC w Z t) cells d ∧ ∀ j u,cells[j]? = some u→w.cell? ⟨b,off+j,none⟩=some u) ∨
  ∃ ad cap,v = .slice (some ad) 0 cap∧d=[]∧cap≤maxLen))) ∧ ∃ ad m,cs=[.slice ad m m]
 | .raw,cs,d=>cs=[(show Value from d)]∧(show Value from d).oneCell'=true
theorem YV {w:World} {Z:Nat→Prop} {t:Ty} {cs:List Value} : ∀ {d:Rose t.den},rdC w Z (.node t) cs d ↔ ∃ c1 c2,cs=c1++c2∧rdC w Z t c1 (Rose.head d)∧rdC w Z (.sl (.st (.node t))) c2 (show List (Rose t.den) from Rose.kids d)
 | .mk a ks=>by
   show rdT w Z (rdC w Z t) (.mk a ks) cs↔_
   rw [rdT]
   constructor
   ·rintro ⟨c1,v,e,h1,h2⟩
    refine ⟨c1,[v],e,h1,v,rfl,?_⟩
    rcases h2 with h2 | ⟨b,off,cap,cells,g1,g2,g3,g4,g5,g6⟩ | h2
    ·exact .inl h2
    ·exact .inr (.inl ⟨b,off,cap,cells,g1,g2,g3,g4,rdTs_all.1 g5,g6⟩)
    ·exact .inr (.inr h2)
   ·rintro ⟨c1,c2,e,h1,v,rfl,h2⟩
    refine ⟨c1,v,e,h1,?_⟩
    rcases h2 with h2 | ⟨b,off,cap,cells,g1,g2,g3,g4,g5,g6⟩ | h2
    ·exact .inl h2
    ·exact .inr (.inl ⟨b,off,cap,cells,g1,g2,g3,g4,rdTs_all.2 g5,g6⟩)
    ·exact .inr (.inr h2)
theorem JK {α:Type} {p q:List Value→α→Prop} (h : ∀ cs x,p cs x→q cs x) : ∀ {cs l},rdAll p cs l→rdAll q cs l
 | _,[],hr=>hr
 | _,_::_,⟨c1,c2,e,h1,h2⟩=>⟨c1,c2,e,h _ _ h1,JK h h2⟩
def Kept (w w':World) (Z Z':Nat→Prop):Prop:=∀ b,Z b→Z' b∧w'.heap[b]? = w.heap[b]?
def KeptW (w w':World) (Z Z':Nat→Prop):Prop:=∀ b,Z b→Z' b ∧ ∀ o u,w.cell? ⟨b,o,none⟩=some u→w'.cell? ⟨b,o,none⟩=some u
theorem Kept.cell {w w':World} {Z Z':Nat→Prop} (h:Kept w w' Z Z') {b o:Nat} (hz:Z b):w'.cell? ⟨b,o,none⟩=w.cell? ⟨b,o,none⟩:=by
 simp [World.cell?,(h b hz).2]
theorem UD {w w':World} {b:Nat} (h:w'.heap[b]? = w.heap[b]?) : ∀ o u,w.cell? ⟨b,o,none⟩=some u→w'.cell? ⟨b,o,none⟩=some u:=fun o u hu=>by
 simpa [World.cell?,h] using hu
theorem Kept.weak {w w':World} {Z Z':Nat→Prop} (h:Kept w w' Z Z'):KeptW w w' Z Z':=fun b hb=>⟨(h b hb).1,fun _ _ hu=>(h.cell hb).trans hu⟩
instance {w w':World} {Z Z':Nat→Prop}:CoeOut (Kept w w' Z Z') (KeptW w w' Z Z'):=⟨Kept.weak⟩
theorem KeptW.cell {w w':World} {Z Z':Nat→Prop} (h:KeptW w w' Z Z') {b o:Nat} (hz:Z b) {u:Value} (hu:w.cell? ⟨b,o,none⟩=some u):w'.cell? ⟨b,o,none⟩=some u:=(h b hz).2 o u hu
mutual
theorem rdT_kept {α:Type} {w w':World} {Z Z':Nat→Prop} {p q:List Value→α→Prop} (h:KeptW w w' Z Z') (hp : ∀ cs x,p cs x→q cs x) : ∀ (d:Rose α) {cs:List Value},rdT w Z p d cs→rdT w' Z' q d cs
 | .mk a ks,cs,hr=>by
   rw [rdT] at hr ⊢
   obtain ⟨c1,v,e,h1,h2⟩:=hr
   refine ⟨c1,v,e,hp _ _ h1,?_⟩
   rcases h2 with h2 | ⟨b,off,cap,cells,g1,g2,g3,g4,g5,g6⟩ | h2
   ·exact .inl h2
   ·exact .inr (.inl ⟨b,off,cap,cells,g1,g2,g3,(h b g4).1,rdTs_kept h hp ks g5,fun j u hj=>h.cell g4 (g6 j u hj)⟩)
   ·exact .inr (.inr h2)
theorem rdTs_kept {α:Type} {w w':World} {Z Z':Nat→Prop} {p q:List Value→α→Prop} (h:KeptW w w' Z Z') (hp : ∀ cs x,p cs x→q cs x) : ∀ (ks:List (Rose α)) {cs:List Value},rdTs w Z p ks cs→rdTs w' Z' q ks cs
 | [],cs,hr=>by rw [rdTs] at hr ⊢;exact hr
 | x::r,cs,hr=>by
   rw [rdTs] at hr ⊢
   obtain ⟨c1,c2,e,h1,h2⟩:=hr
   exact ⟨c1,c2,e,rdT_kept h hp x h1,rdTs_kept h hp r h2⟩
end
theorem JD {w w':World} {Z Z':Nat→Prop} (h:KeptW w w' Z Z') : ∀ (t:Ty) {cs:List Value} {d:t.den},rdC w Z t cs d→rdC w' Z' t cs d
 | .bool,_,_,hr=>hr
 | .int _,_,_,hr=>hr
 | .str,_,_,hr=>hr
 | .sl t,_,_,⟨v,e,hr⟩=>⟨v,e,hr.imp id fun hr=>hr.imp (fun ⟨b,off,cap,cells,hv,h1,h2,hz,ha,hc⟩=>
  ⟨b,off,cap,cells,hv,h1,h2,(h b hz).1,JK (fun _ _=>JD h t) ha,fun j u hj=>h.cell hz (hc j u hj)⟩) id⟩
 | .st t,_,_,hr=>JD h t hr
 | .unit,_,_,hr=>hr
 | .pair a b,_,_,⟨c1,c2,e,h1,h2⟩=>⟨c1,c2,e,JD h a h1,JD h b h2⟩
 | .ar _ t,_,_,⟨h1,h2⟩=>⟨h1,JK (fun _ _=>JD h t) h2⟩
 | .nilv _,_,_,hr=>hr
 | .node t,_,d,hr=>rdT_kept h (fun _ _=>JD h t) d hr
 | .ifc _ t,_,_,⟨u,us,e,h1,h2⟩=>⟨u,us,e,h1,JD h t h2⟩
 | .nn,_,_,hr=>hr
 | .len,_,_,hr=>hr
 | .fl t,_,_,⟨⟨v,e,hr⟩,g⟩=>⟨⟨v,e,hr.imp id fun hr=>hr.imp (fun ⟨b,off,cap,cells,hv,h1,h2,hz,ha,hc⟩=>
  ⟨b,off,cap,cells,hv,h1,h2,(h b hz).1,JK (fun _ _=>JD h t) ha,fun j u hj=>h.cell hz (hc j u hj)⟩) id⟩,g⟩
 | .raw,_,_,hr=>hr
theorem Yc {α:Type} {p:List Value→α→Prop} {n:Nat} (h : ∀ cs x,p cs x→cs.length=n) : ∀ {cs l},rdAll p cs l→cs.length=l.length*n
 | _,[],hr=>by simp [rdAll] at hr;simp [hr]
 | _,_::_,⟨c1,c2,e,h1,h2⟩=>by rw [e,List.length_append,h _ _ h1,Yc h h2,List.length_cons,Nat.succ_mul,Nat.add_comm]
theorem Ji {w:World} {Z:Nat→Prop} : ∀ (t:Ty) {cs:List Value} {d:t.den},rdC w Z t cs d→cs.length=t.cells
 | .bool,_,_,hr=>by simp [rdC] at hr;simp [hr,Ty.cells]
 | .int _,_,_,hr=>by simp [rdC] at hr;simp [hr,Ty.cells]
 | .str,_,_,hr=>by simp [rdC] at hr;simp [hr,Ty.cells]
 | .sl _,_,_,⟨v,e,_⟩=>by simp [e,Ty.cells]
 | .st t,_,_,hr=>Ji t hr
 | .unit,_,_,hr=>by simp [rdC] at hr;simp [hr,Ty.cells]
 | .pair a b,_,_,⟨c1,c2,e,h1,h2⟩=>by rw [e,List.length_append,Ji a h1,Ji b h2];rfl
 | .ar n t,_,_,⟨h1,h2⟩=>by rw [Yc (fun _ _=>Ji t) h2,h1];rfl
 | .nilv _,_,_,hr=>by simp [rdC] at hr;simp [hr,Ty.cells]
 | .node t,_,_,hr=>by
   obtain ⟨c1,c2,e,h1,v,h2,_⟩:=YV.1 hr
   rw [e,h2,List.length_append,Ji t h1];rfl
 | .ifc _ t,_,_,⟨u,us,e,_⟩=>by rw [e];rfl
 | .nn,_,_,⟨v,e,_⟩=>by rw [e];rfl
 | .len,_,_,⟨ad,c,e,_⟩=>by rw [e];rfl
 | .fl _,_,_,⟨_,ad,m,e⟩=>by rw [e];rfl
 | .raw,_,_,⟨e,_⟩=>by rw [e];rfl
theorem rdAll_one {α:Type} {p:List Value→α→Prop} (h : ∀ cs x,p cs x → ∀ u∈cs,u.oneCell'=true) : ∀ {cs l},rdAll p cs l → ∀ u∈cs,u.oneCell'=true
 | _,[],hr,u,hu=>by simp only [rdAll] at hr;subst hr;cases hu
 | _,_::_,⟨c1,c2,e,h1,h2⟩,u,hu=>by
   rw [e,List.mem_append] at hu
   exact hu.elim (h _ _ h1 u) (rdAll_one h h2 u)
theorem kC {w:World} {Z:Nat→Prop} : ∀ (t:Ty) {cs:List Value} {d:t.den},rdC w Z t cs d → ∀ u∈cs,u.oneCell'=true
 | .bool,_,_,hr=>by simp [rdC] at hr;simp [hr,Value.oneCell']
 | .int _,_,_,hr=>by simp [rdC] at hr;simp [hr,Value.oneCell']
 | .str,_,_,hr=>by simp [rdC] at hr;simp [hr,Value.oneCell']
 | .sl _,_,_,⟨v,e,hr⟩=>by
   rcases hr with ⟨hv,_⟩ | ⟨b,off,cap,cells,hv,_⟩ | ⟨ad,cap,hv,_⟩ <;> simp [e,hv,Value.oneCell']
 | .st t,_,_,hr=>kC t hr
 | .unit,_,_,hr=>by simp [rdC] at hr;simp [hr]
 | .pair a b,_,_,⟨c1,c2,e,h1,h2⟩=>by
   intro u hu
   rw [e,List.mem_append] at hu
   exact hu.elim (kC a h1 u) (kC b h2 u)
 | .ar _ t,_,_,⟨_,h2⟩=>rdAll_one (fun _ _ h=>kC t h) h2
 | .nilv k,_,_,hr=>by
   intro u hu
   have hr:_=[Yl k]:=hr
   rw [hr] at hu
   simp only [List.mem_singleton] at hu
   subst hu
   exact nilVal_one k
 | .node t,_,_,hr=>by
   obtain ⟨c1,c2,e,h1,v,h2,h3⟩:=YV.1 hr
   intro u hu
   rw [e,h2,List.mem_append] at hu
   rcases hu with hu | hu
   ·exact kC t h1 u hu
   ·rw [List.mem_singleton.1 hu]
    rcases h3 with ⟨hv,_⟩ | ⟨b,off,cap,cells,hv,_⟩ | ⟨ad,cap,hv,_⟩ <;> simp [hv,Value.oneCell']
 | .ifc _ t,_,_,⟨u,us,e,_⟩=>by simp [e,Value.oneCell']
 | .nn,_,_,⟨v,e,h⟩=>by rcases h with ⟨_,T,u,h⟩ | ⟨_,h⟩ <;> simp [e,h,Value.oneCell']
 | .len,_,_,⟨ad,c,e,_⟩=>by simp [e,Value.oneCell']
 | .fl _,_,_,⟨_,ad,m,e⟩=>by simp [e,Value.oneCell']
 | .raw,_,_,⟨e,h⟩=>by intro u hu;rw [e,List.mem_singleton] at hu;rw [hu];exact h
def rdV (w:World) (Z:Nat→Prop) (t:Ty) (v:Value) (d:t.den):Prop:=
 match t,d with
 | .st s,d => ∃ cs,v = .agg cs∧rdC w Z s cs.toList d
 | .ar n s,d => ∃ cs,v = .agg cs∧rdC w Z (.ar n s) cs.toList d
 | t,d=>rdC w Z t [v] d
theorem kA {w:World} {Z:Nat→Prop} {t:Ty} {v:Value} {d:t.den} (h:rdV w Z t v d):rdC w Z t v.cells.toList d:=by
 cases t with
 | st s=>obtain ⟨cs,rfl,hr⟩:=h;exact hr
 | ar n s=>obtain ⟨cs,rfl,hr⟩:=h;exact hr
 | bool=>simp [rdV,rdC] at h;simp [h,Value.cells,rdC]
 | int k=>simp [rdV,rdC] at h;simp [h,Value.cells,rdC]
 | str=>simp [rdV,rdC] at h;simp [h,Value.cells,rdC]
 | sl s=>
   obtain ⟨u,e,hr⟩:=h
   simp only [List.cons.injEq,and_true] at e
   subst e
   refine ⟨v,?_,hr⟩
   rcases hr with ⟨hv,_⟩ | ⟨b,off,cap,cells,hv,_⟩ | ⟨ad,cap,hv,_⟩ <;> simp [hv,Value.cells]
 | unit=>simp [rdV,rdC] at h
 | nilv k=>
   have h:[v]=[Yl k]:=h
   obtain rfl:=List.cons.inj h |>.1
   show (Yl k).cells.toList=[Yl k]
   unfold Yl
   split <;> rfl
 | ifc T a=>
   obtain ⟨u,us,e,h1,h2⟩:=h
   simp only [List.cons.injEq,and_true] at e
   subst e
   exact ⟨u,us,rfl,h1,h2⟩
 | nn=>
   obtain ⟨v,e,h⟩:=h
   simp only [List.cons.injEq,and_true] at e
   subst e
   rcases h with ⟨h1,T,u,h⟩ | ⟨h1,h⟩
   ·subst h;exact ⟨_,rfl,Or.inl ⟨h1,T,u,rfl⟩⟩
   ·subst h;exact ⟨_,rfl,Or.inr ⟨h1,rfl⟩⟩
 | len=>
   obtain ⟨ad,c,e,h1,h2⟩:=h
   simp only [List.cons.injEq,and_true] at e
   subst e
   exact ⟨ad,c,rfl,h1,h2⟩
 | fl s=>
   obtain ⟨h1,ad,m,e⟩:=h
   simp only [List.cons.injEq,and_true] at e
   subst e
   exact ⟨h1,ad,m,rfl⟩
 | raw=>
   obtain ⟨e,h1⟩:=h
   simp only [List.cons.injEq,and_true] at e
   subst e
   refine ⟨?_,h1⟩
   cases v <;> first | rfl | cases h1
 | pair a b=>
   have:=Ji _ h
   have h1:=kC _ h v (by simp)
   unfold rdV at h
   cases v <;> first | exact h | simp [Value.oneCell'] at h1
 | node a=>
   have h1:=kC _ h v (by simp)
   unfold rdV at h
   cases v <;> first | exact h | simp [Value.oneCell'] at h1
theorem Vx {w w':World} {Z Z':Nat→Prop} (h:KeptW w w' Z Z') {t:Ty} {v:Value} {d:t.den} (hr:rdV w Z t v d):rdV w' Z' t v d:=by
 cases t with
 | st s=>obtain ⟨cs,e,hr⟩:=hr;exact ⟨cs,e,JD h s hr⟩
 | ar n s=>obtain ⟨cs,e,hr⟩:=hr;exact ⟨cs,e,JD h (.ar n s) hr⟩
 | _=>exact JD h _ hr
abbrev Names:=Nat→Value
def blk:Value→Option Nat
 | .pointer (some a)=>some a.block
 | .slice (some a) _ _=>some a.block
 | .map (some b)=>some b
 | _=>none
def hasB:Value→Nat→Prop
 | .tuple vs,b => ∃ v∈vs.toList,blk v=some b
 | v,b=>blk v=some b
theorem Yw {v:Value} {b:Nat} (h:blk v=some b):hasB v b:=by
 cases v <;> first | exact h | cases h
def hdr:Value→Value
 | .tuple vs=>vs.getD 0 .nilIface
 | v=>v
def winOf (v:Value) (sz:Nat) (lo m:Int) (u:Value):Prop:=
 (v = .slice none 0 0∧u = .slice none 0 0∧m=0) ∨
  ∃ b q c g c',v = .slice (some ⟨b,0,none⟩) q c∧u = .slice (some ⟨b,g,none⟩) m.toNat c'∧(0 < m→g=lo.toNat*sz)∧m.toNat≤c'∧c'≤maxLen
def rdA (w:World) (Z:Nat→Prop) (nm:Names) (objs:List (Nat×Ob)):At→Value→Prop
 | .val t d,v=>rdV w Z t v d
 | .nilS,v=>v = .slice none 0 0
 | .ref id off,v=>v.oneCell'=true ∧ ∀ cs,look objs id=some (.box cs) → ∃ b,nm id = .pointer (some ⟨b,0,none⟩)∧v = .pointer (some ⟨b,off,none⟩)
 | .own id ver,v=>v.oneCell'=true ∧ ∀ fz e t xs,look objs id=some (.arr ver fz e t xs)→v=nm id
 | .elem id ver i sz off,v=>v.oneCell'=true ∧ ∀ fz e t xs,look objs id=some (.arr ver fz e t xs)→sz=t.cells∧0≤i∧i.toNat < xs.length ∧ ∃ b n c,nm id = .slice (some ⟨b,0,none⟩) n c∧v = .pointer (some ⟨b,i.toNat*sz+off,none⟩)
 | .aptr id ver,v=>v.oneCell'=true ∧ ∀ fz e t xs,look objs id=some (.arr ver fz e t xs) → ∃ b n c,nm id = .slice (some ⟨b,0,none⟩) n c∧v = .pointer (some ⟨b,0,none⟩)
 | .aelem id ver i sz off n e j o,v=>v.oneCell'=true ∧ ∀ fz e' t xs,look objs id=some (.arr ver fz e' t xs)→sz=t.cells∧0≤i∧i.toNat < xs.length∧0≤j∧j.toNat < n ∧
  ∃ b m c,nm id = .slice (some ⟨b,0,none⟩) m c∧v = .pointer (some ⟨b,i.toNat*sz+off+j.toNat*e.cells+o,none⟩)
 | .fptr t d,v => ∃ b off cs,v = .pointer (some ⟨b,off,none⟩)∧Z b∧rdC w Z t cs d ∧ ∀ j u,cs[j]? = some u→w.cell? ⟨b,off+j,none⟩=some u
 | .fn f,v=>v = .func (.func f) #[] #[]
 | .win id ver lo m,v=>v.oneCell'=true ∧ ∀ fz e t xs,look objs id=some (.arr ver fz e t xs)→winOf (nm id) t.cells lo m v∧inWin lo m (List.length xs)=true
 | .selfp id _,v=>v.oneCell'=true ∧ ∀ cs,look objs id=some (.box cs)→v = .pointer none∨v=nm id
 | .clo id,v=>v.oneCell'=true ∧ ∀ f x y,look objs id=some (.clo f x y)→v=nm id
 | .junk,v=>v.oneCell'=true
 | .down id ver,v=>v.oneCell'=true ∧ ∀ fz e te t xs h,look objs id=some (.deep ver fz e te t xs h)→v=hdr (nm id)
 | .din id ver i off,v=>v.oneCell'=true ∧ ∀ fz e te t xs,look objs id=some (.deep ver fz e te t xs none)→0≤i∧i.toNat < List.length xs ∧ ∃ hd us,nm id = .tuple (hd::us).toArray∧us[i.toNat*t.cells+off]? = some v
 | .dinel id ver i off s j o,v=>v.oneCell'=true ∧ ∀ fz e te t xs,look objs id=some (.deep ver fz e te t xs none)→0≤i∧i.toNat < List.length xs ∧
  ∃ hd us b m c,nm id = .tuple (hd::us).toArray∧us[i.toNat*t.cells+off]? = some (.slice (some ⟨b,0,none⟩) m c)∧v = .pointer (some ⟨b,j.toNat*s.cells+o,none⟩)
 | .delem id ver i off,v=>v.oneCell'=true ∧ ∀ fz e te t xs h,look objs id=some (.deep ver fz e te t xs h)→0≤i∧i.toNat < List.length xs ∧ ∃ b n c,hdr (nm id) = .slice (some ⟨b,0,none⟩) n c∧v = .pointer (some ⟨b,i.toNat*t.cells+off,none⟩)
def rdAs (w:World) (Z:Nat→Prop) (nm:Names) (objs:List (Nat×Ob)) (cs:List At) (vs:List Value):Prop:=
 vs.length=cs.length ∧ ∀ (i:Nat) a v,cs[i]? = some a→vs[i]? = some v→rdA w Z nm objs a v
def rdD (w:World) (Z:Nat→Prop) (nm:Names) (objs:List (Nat×Ob)):Dv→Value→Prop
 | .one a,v=>rdA w Z nm objs a v
 | .agg cs,v => ∃ vs,v = .agg vs∧rdAs w Z nm objs cs vs.toList ∧ ∀ u∈vs.toList,u.oneCell'=true
 | .tup cs,v => ∃ vs,v = .tuple vs∧rdAs w Z nm objs cs vs.toList
 | .tgg k cs,v => ∃ vs c0 r,v = .tuple vs∧vs.toList = .agg c0::r∧c0.toList.length=k∧rdAs w Z nm objs cs (c0.toList++r) ∧ ∀ u∈c0.toList,u.oneCell'=true
def mapRd (w:World) (v:Value) (j u:IntKind) (l:List (Int×Int)):Prop:=
 ∃ b es clock,v = .map (some b)∧w.heap[b]? = some (.map es clock)∧es.toList.map (fun x=>(x.key,x.val))=l.map fun p=>(Value.int j p.1,Value.int u p.2)
def rdArr (w:World) (Z:Nat→Prop) (v:Value) (e:TypeId) (t:Ty) (xs:List t.den):Prop:=
 (t.isMap=false ∧ ∃ cells,w.ownsM e t.cells v (List.length xs) cells∧rdAll (rdC w Z t) cells xs) ∨
  ∃ j u l,(⟨t,xs⟩:(t:Ty)×List t.den)=⟨mapTy j u,[l]⟩∧mapRd w v j u l
theorem rdArr.sl {w:World} {Z:Nat→Prop} {v:Value} {e:TypeId} {t:Ty} {xs:List t.den} (h:rdArr w Z v e t xs) (ht:t.isMap=false) :
 ∃ cells,w.ownsM e t.cells v (List.length xs) cells∧rdAll (rdC w Z t) cells xs:=by
 rcases h with ⟨_,h⟩ | ⟨j,u,l,h,_⟩
 ·exact h
 ·cases h;cases ht
theorem rdArr.of {w:World} {Z:Nat→Prop} {v:Value} {e:TypeId} {t:Ty} {xs:List t.den} {ad:Option Addr} {m c:Nat} (h:rdArr w Z v e t xs) (hv:v = .slice ad m c) :
 t.isMap=false ∧ ∃ cells,w.ownsM e t.cells v (List.length xs) cells∧rdAll (rdC w Z t) cells xs:=by
 rcases h with h | ⟨j,u,l,h,b,es,clock,h1,_⟩
 ·exact h
 ·rw [hv] at h1;cases h1
theorem rdArr.map {w:World} {Z:Nat→Prop} {v:Value} {e:TypeId} {j u:IntKind} {xs:List (List (Int×Int))} (h:rdArr w Z v e (mapTy j u) xs) :
 ∃ l,xs=[l]∧mapRd w v j u l:=by
 rcases h with ⟨h,_⟩ | ⟨j',u',l,h,h'⟩
 ·cases h
 ·cases h;exact ⟨l,rfl,h'⟩
def rdI (w:World) (Z:Nat→Prop) (te:TypeId):(t:Ty)→List Value→t.den→List Value→Prop
 | .sl s,cs,d,us=>s.isMap=false ∧ ∃ v es,cs=[v]∧us=[v]∧w.ownsM te s.cells v (List.length d) es∧rdAll (rdC w Z s) es d
 | .st t,cs,d,us=>rdI w Z te t cs d us
 | .pair a b,cs,d,us => ∃ c1 c2 u1 u2,cs=c1++c2∧us=u1++u2∧rdI w Z te a c1 d.1 u1∧rdI w Z te b c2 d.2 u2
 | t,cs,d,us=>t.free=true∧rdC w Z t cs d∧us=cs.map fun _ => .nilIface
def rdIs (w:World) (Z:Nat→Prop) (te:TypeId) (t:Ty):List Value→List t.den→List Value→Prop
 | cs,[],us=>cs=[]∧us=[]
 | cs,x::r,us => ∃ c1 c2 u1 u2,cs=c1++c2∧us=u1++u2∧rdI w Z te t c1 x u1∧rdIs w Z te t c2 r u2
def kD (l:List Value):Prop:=l.Pairwise fun v u => ∀ b,blk v=some b→blk u≠some b
def rdDeep (w:World) (Z:Nat→Prop) (v:Value) (e te:TypeId) (t:Ty) (xs:List t.den):Prop:=
 ∃ hd us cells,v = .tuple (hd::us).toArray∧w.ownsM e t.cells hd (List.length xs) cells∧rdIs w Z te t cells xs us∧kD (hd::us)
def rdHole (w:World) (Z:Nat→Prop) (v:Value) (e te:TypeId) (t:Ty) (xs:List t.den) (i:Int) (off:Nat) (s:Ty) (u:Value):Prop:=
 ∃ hd us cells x x0,v = .tuple (hd::us).toArray∧0≤i∧xs[i.toNat]? = some x∧Ty.upd (.sl s) (show (Ty.sl s).den from ([]:List s.den)) t x off=some x0 ∧
  w.ownsM e t.cells hd (List.length xs) (cells.set (i.toNat*t.cells+off) u)∧rdIs w Z te t cells (xs.set i.toNat x0) us∧kD (hd::us)
def rdO (w:World) (Z:Nat→Prop) (nm:Names) (objs:List (Nat×Ob)) (id:Nat):Ob→Prop
 | .box cs => ∃ b vs T,nm id = .pointer (some ⟨b,0,none⟩)∧w.heap[b]? = some (.cells vs T (0,0))∧rdAs w Z nm objs cs vs.toList∧(∀ u∈vs.toList,u.oneCell'=true) ∧ ∀ T',At.selfp id T'∈cs→T'=T
 | .arr _ _ e t xs=>rdArr w Z (nm id) e t xs
 | .clo f x y => ∃ vx vy,nm id = .func (.func f) vx vy∧rdAs w Z nm objs x vx.toList∧rdAs w Z nm objs y vy.toList
 | .gone=>True
 | .deep _ _ e te t xs none=>rdDeep w Z (nm id) e te t xs
 | .deep _ _ e te t xs (some none)=>rdDeep w Z (nm id) e te t xs
 | .deep _ _ e te t xs (some (some (i,off,s,oid,v0))) => ∃ u,u.oneCell'=true∧rdA w Z nm objs (.own oid v0) u∧rdHole w Z (nm id) e te t xs i off s u
def Ob.mine:Ob→Bool
 | .box _=>true
 | .arr _ fz _ _ _ => !fz
 | .clo _ _ _=>true
 | .gone=>false
 | .deep _ fz _ _ _ _ _ => !fz
def owned (nm:Names) (objs:List (Nat×Ob)) (b:Nat):Prop:=∃ id ob,look objs id=some ob∧ob.mine=true∧hasB (nm id) b
structure Same (w0 w:World):Prop where
 os:w.os=w0.os
 tape:w.tape=w0.tape
 output:w.output=w0.output
 size:w0.heap.size≤w.heap.size
 block : ∀ b,b < w0.heap.size→w.heap[b]? = w0.heap[b]?
theorem Same.refl (w:World):Same w w:=⟨rfl,rfl,rfl,Nat.le_refl _,fun _ _=>rfl⟩
theorem Same.trans {a b c:World} (h:Same a b) (k:Same b c):Same a c:=
 ⟨k.os.trans h.os,k.tape.trans h.tape,k.output.trans h.output,Nat.le_trans h.size k.size,fun x hx=>(k.block x (Nat.lt_of_lt_of_le hx h.size)).trans (h.block x hx)⟩
structure SameBut (M:Nat→Prop) (w0 w:World):Prop where
 os:w.os=w0.os
 tape:w.tape=w0.tape
 output:w.output=w0.output
 size:w0.heap.size≤w.heap.size
 block : ∀ b,b < w0.heap.size → ¬ M b→w.heap[b]? = w0.heap[b]?
theorem SameBut.refl (M:Nat→Prop) (w:World):SameBut M w w:=⟨rfl,rfl,rfl,Nat.le_refl _,fun _ _ _=>rfl⟩
theorem SameBut.trans {M:Nat→Prop} {a b c:World} (h:SameBut M a b) (k:Same b c):SameBut M a c:=
 ⟨k.os.trans h.os,k.tape.trans h.tape,k.output.trans h.output,Nat.le_trans h.size k.size,fun x hx hm=>(k.block x (Nat.lt_of_lt_of_le hx h.size)).trans (h.block x hx hm)⟩
class GInv where
 ok:World→Prop
 n:Nat
 keep : ∀ {w w':World},(∀ b,b < n→w'.heap[b]? = w.heap[b]?)→ok w→ok w'
 size : ∀ {w:World},ok w→n≤w.heap.size
structure Bs where
 z:Nat→Prop
 m:Nat→Prop
 nm:Names
 df:List Deferred:=[]
 calm:Bool:=false
def Zc (w0:World) (Z0:Bs) (nm:Names) (objs:List (Nat×Ob)) (w:World) (b:Nat):Prop:=
 b < w.heap.size∧(b < w0.heap.size→Z0.z b∨Z0.m b) ∧ ¬ owned nm objs b
def held (id:Nat):Ob→Prop
 | .arr v _ _ _ _=>gFix≤id∧v=0
 | .gone=>False
 | .deep .. => False
 | _=>True
def heldD (id:Nat):Ob→Prop
 | .deep v _ _ _ _ _ _=>gFix≤id∧v=0
 | _=>False
def Marks (w0 w:World) (Z:Nat→Prop) (l:List Deferred):Prop:=
 ∃ ds:List Nat,l=ds.map (fun D=>({ target:=.collected D,args:=#[] }:Deferred))∧ds.Nodup ∧ ∀ D:Nat,D∈ds→w0.heap.size≤D∧Z D∧w.heap[D]? = some (Obj.deferred (some []))
theorem Marks.nil (w0 w:World) (Z:Nat→Prop):Marks w0 w Z []:=⟨[],rfl,List.nodup_nil,fun _ h=>by cases h⟩
theorem Marks.kept {w0 w w':World} {Z Z':Nat→Prop} {l:List Deferred} (hk:Kept w w' Z Z') (h:Marks w0 w Z l):Marks w0 w' Z' l:=by
 obtain ⟨ds,e,hn,hd⟩:=h
 exact ⟨ds,e,hn,fun D hD=>⟨(hd D hD).1,(hk D (hd D hD).2.1).1,(hk D (hd D hD).2.1).2.trans (hd D hD).2.2⟩⟩
structure Rel [GInv] (n:Nat) (w0:World) (Z0:Bs) (st:St) (a:Act) (w:World) (nm:Names):Prop where
 defers : ∃ l,a.defers=l++Z0.df∧Marks w0 w (Zc w0 Z0 nm st.objs w) l
 size:a.tmps.size=n
 slots : ∀ t d,look st.slots t=some d → ∃ v,a.tmps[t]? = some v∧rdD w (Zc w0 Z0 nm st.objs w) nm st.objs d v
 objs : ∀ id ob,look st.objs id=some ob→rdO w (Zc w0 Z0 nm st.objs w) nm st.objs id ob
 new : ∀ id ob b,look st.objs id=some ob→hasB (nm id) b→(w0.heap.size≤b∨Z0.m b)∧b < w.heap.size
 inj : ∀ id id' ob ob' b,look st.objs id=some ob→look st.objs id'=some ob'→hasB (nm id) b→hasB (nm id') b→id=id'
 same:SameBut Z0.m w0 w
 given : ∀ id ob,gBox≤id→look st.objs id=some ob→(held id ob→nm id=Z0.nm id)∧(heldD id ob→hdr (nm id)=hdr (Z0.nm id))
 glob:GInv.ok w0 ∧ ∀ b,Z0.m b→GInv.n≤b
 calm:Z0.calm=true→a.defers=Z0.df
theorem Rel.defk [GInv] {n:Nat} {w0:World} {Z0:Bs} {st:St} {a:Act} {w w':World} {nm:Names} {Z':Nat→Prop} (h:Rel n w0 Z0 st a w nm) (hk:Kept w w' (Zc w0 Z0 nm st.objs w) Z') :
 ∃ l,a.defers=l++Z0.df∧Marks w0 w' Z' l:=h.defers.imp fun _ hl=>⟨hl.1,hl.2.kept hk⟩
theorem Rel.gnow [GInv] {n:Nat} {w0:World} {Z0:Bs} {st:St} {a:Act} {w:World} {nm:Names} (h:Rel n w0 Z0 st a w nm):GInv.ok w:=
 GInv.keep (fun b hb=>h.same.block b (Nat.lt_of_lt_of_le hb (GInv.size h.glob.1)) fun hm=>Nat.lt_irrefl _ (Nat.lt_of_lt_of_le hb (h.glob.2 b hm))) h.glob.1
end Go.Ql
end

section
set_option linter.unusedSectionVars false
namespace Go.Ql
def setN (nm:Names) (id:Nat) (v:Value):Names:=fun j=>if j=id then v else nm j
theorem jW (nm:Names) (id:Nat) (v:Value):setN nm id v id=v:=by simp [setN]
theorem ka (nm:Names) {id j:Nat} (v:Value) (h:j≠id):setN nm id v j=nm j:=by simp [setN,h]
section
variable [GInv] {w w':World} {Z Z':Nat→Prop} {nm nm':Names} {objs objs':List (Nat×Ob)}
def AtOk (nm nm':Names) (objs objs':List (Nat×Ob)) (a:At):Prop:=
 ∀ id,a.mentions id=true →
  (∀ ver fz e t xs,look objs' id=some (.arr ver fz e t xs)→a.hasVer id ver=true →
   nm' id=nm id ∧ ∃ fz' xs',look objs id=some (.arr ver fz' e t xs')∧List.length xs'=List.length xs) ∧
  (∀ cs,look objs' id=some (.box cs)→nm' id=nm id ∧ ∃ cs',look objs id=some (.box cs')) ∧
  (∀ f x y,look objs' id=some (.clo f x y)→nm' id=nm id ∧ ∃ f' x' y',look objs id=some (.clo f' x' y')) ∧
  (∀ ver fz e te t xs h,look objs' id=some (.deep ver fz e te t xs h)→a.hasVer id ver=true →
   hdr (nm' id)=hdr (nm id) ∧ ∃ fz' xs' h',look objs id=some (.deep ver fz' e te t xs' h')∧List.length xs'=List.length xs∧(a.isDin id=true→h=none→h'=none∧nm' id=nm id))
theorem Uz (hk:KeptW w w' Z Z') {a:At} (ha:AtOk nm nm' objs objs' a) {v:Value} (h:rdA w Z nm objs a v):rdA w' Z' nm' objs' a v:=by
 cases a with
 | val t d=>exact Vx hk h
 | nilS=>exact h
 | ref id off=>
   refine ⟨h.1,fun cs hl => ?_⟩
   obtain ⟨h1,cs',h2⟩:=(ha id (by simp [At.mentions])).2.1 cs hl
   rw [h1];exact h.2 cs' h2
 | own id ver=>
   refine ⟨h.1,fun fz e t xs hl => ?_⟩
   obtain ⟨h1,fz',xs',h2,_⟩:=(ha id (by simp [At.mentions])).1 ver fz e t xs hl (by simp [At.hasVer])
   rw [h1];exact h.2 fz' e t xs' h2
 | elem id ver i sz off=>
   refine ⟨h.1,fun fz e t xs hl => ?_⟩
   obtain ⟨h1,fz',xs',h2,h3⟩:=(ha id (by simp [At.mentions])).1 ver fz e t xs hl (by simp [At.hasVer])
   rw [h1,← h3];exact h.2 fz' e t xs' h2
 | win id ver lo m=>
   refine ⟨h.1,fun fz e t xs hl => ?_⟩
   obtain ⟨h1,fz',xs',h2,h3⟩:=(ha id (by simp [At.mentions])).1 ver fz e t xs hl (by simp [At.hasVer])
   rw [h1,← h3];exact h.2 fz' e t xs' h2
 | aptr id ver=>
   refine ⟨h.1,fun fz e t xs hl => ?_⟩
   obtain ⟨h1,fz',xs',h2,h3⟩:=(ha id (by simp [At.mentions])).1 ver fz e t xs hl (by simp [At.hasVer])
   rw [h1];exact h.2 fz' e t xs' h2
 | aelem id ver i sz off m e' j o=>
   refine ⟨h.1,fun fz e t xs hl => ?_⟩
   obtain ⟨h1,fz',xs',h2,h3⟩:=(ha id (by simp [At.mentions])).1 ver fz e t xs hl (by simp [At.hasVer])
   rw [h1,← h3];exact h.2 fz' e t xs' h2
 | selfp id T=>
   refine ⟨h.1,fun cs hl => ?_⟩
   obtain ⟨h1,cs',h2⟩:=(ha id (by simp [At.mentions])).2.1 cs hl
   rw [h1];exact h.2 cs' h2
 | clo id=>
   refine ⟨h.1,fun f x y hl => ?_⟩
   obtain ⟨h1,f',x',y',h2⟩:=(ha id (by simp [At.mentions])).2.2.1 f x y hl
   rw [h1];exact h.2 f' x' y' h2
 | down id ver=>
   refine ⟨h.1,fun fz e te t xs hh hl => ?_⟩
   obtain ⟨h1,fz',xs',h',h2,_⟩:=(ha id (by simp [At.mentions])).2.2.2 ver fz e te t xs hh hl (by simp [At.hasVer])
   rw [h1];exact h.2 fz' e te t xs' h' h2
 | din id ver i off=>
   refine ⟨h.1,fun fz e te t xs hl => ?_⟩
   obtain ⟨_,fz',xs',h',h2,h3,h4⟩:=(ha id (by simp [At.mentions])).2.2.2 ver fz e te t xs none hl (by simp [At.hasVer])
   obtain ⟨rfl,h5⟩:=h4 (by simp [At.isDin]) rfl
   rw [h5,← h3];exact h.2 fz' e te t xs' h2
 | dinel id ver i off s j o=>
   refine ⟨h.1,fun fz e te t xs hl => ?_⟩
   obtain ⟨_,fz',xs',h',h2,h3,h4⟩:=(ha id (by simp [At.mentions])).2.2.2 ver fz e te t xs none hl (by simp [At.hasVer])
   obtain ⟨rfl,h5⟩:=h4 (by simp [At.isDin]) rfl
   rw [h5,← h3];exact h.2 fz' e te t xs' h2
 | delem id ver i off=>
   refine ⟨h.1,fun fz e te t xs hh hl => ?_⟩
   obtain ⟨h1,fz',xs',h',h2,h3,_⟩:=(ha id (by simp [At.mentions])).2.2.2 ver fz e te t xs hh hl (by simp [At.hasVer])
   rw [h1,← h3];exact h.2 fz' e te t xs' h' h2
 | fptr t d=>
   obtain ⟨b,off,cs,h1,h2,h3,h4⟩:=h
   exact ⟨b,off,cs,h1,(hk b h2).1,JD hk t h3,fun j u hj=>hk.cell h2 (h4 j u hj)⟩
 | fn f=>exact h
 | junk=>exact h
theorem Yd (hk:KeptW w w' Z Z') {cs:List At} (ha : ∀ a∈cs,AtOk nm nm' objs objs' a) {vs:List Value} (h:rdAs w Z nm objs cs vs):rdAs w' Z' nm' objs' cs vs:=
 ⟨h.1,fun i a v h1 h2=>Uz hk (ha a (List.mem_of_getElem? h1)) (h.2 i a v h1 h2)⟩
def DvOk (nm nm':Names) (objs objs':List (Nat×Ob)):Dv→Prop
 | .one a=>AtOk nm nm' objs objs' a
 | .agg cs => ∀ a∈cs,AtOk nm nm' objs objs' a
 | .tup cs => ∀ a∈cs,AtOk nm nm' objs objs' a
 | .tgg _ cs => ∀ a∈cs,AtOk nm nm' objs objs' a
theorem JU (hk:KeptW w w' Z Z') {d:Dv} (ha:DvOk nm nm' objs objs' d) {v:Value} (h:rdD w Z nm objs d v):rdD w' Z' nm' objs' d v:=by
 cases d with
 | one a=>exact Uz hk ha h
 | agg cs=>obtain ⟨vs,e,h1,h2⟩:=h;exact ⟨vs,e,Yd hk ha h1,h2⟩
 | tup cs=>obtain ⟨vs,e,h1⟩:=h;exact ⟨vs,e,Yd hk ha h1⟩
 | tgg k cs=>obtain ⟨vs,c0,r,e,e1,e2,h1,h2⟩:=h;exact ⟨vs,c0,r,e,e1,e2,Yd hk ha h1,h2⟩
theorem AtOk.refl (nm:Names) (objs:List (Nat×Ob)) (a:At):AtOk nm nm objs objs a:=
 fun _ _=>⟨fun _ fz _ _ xs hl _=>⟨rfl,fz,xs,hl,rfl⟩,fun cs hl=>⟨rfl,cs,hl⟩,fun f x y hl=>⟨rfl,f,x,y,hl⟩,fun _ fz _ _ _ xs h hl _=>⟨rfl,fz,xs,h,hl,rfl,fun _ hh=>⟨hh,rfl⟩⟩⟩
theorem DvOk.refl (nm:Names) (objs:List (Nat×Ob)) (d:Dv):DvOk nm nm objs objs d:=by
 cases d <;> simp only [DvOk] <;> first | exact AtOk.refl _ _ _ | exact fun a _=>AtOk.refl _ _ a
theorem ownsM_block {e:TypeId} {size:Nat} {v:Value} {m:Nat} {xs:List Value} (h:w.ownsM e size v m xs)
 (hb : ∀ b,blk v=some b→w'.heap[b]? = w.heap[b]?):w'.ownsM e size v m xs:=by
 refine ⟨h.1,?_⟩
 rcases h.2 with hn | ⟨g,cap,cur,rfl,h2,r⟩
 ·exact .inl hn
 ·exact .inr ⟨g,cap,cur,rfl,h2.block (hb g rfl),r⟩
theorem VQ (hk:KeptW w w' Z Z') {v:Value} {e:TypeId} {t:Ty} {xs:List t.den} (hb : ∀ b,blk v=some b→w'.heap[b]? = w.heap[b]?) (h:rdArr w Z v e t xs):rdArr w' Z' v e t xs:=by
 rcases h with ⟨h0,cells,h1,h2⟩ | ⟨j,u,l,h1,b,es,clock,h2,h3,h4⟩
 ·exact .inl ⟨h0,cells,ownsM_block h1 hb,JK (fun _ _=>JD hk t) h2⟩
 ·exact .inr ⟨j,u,l,h1,b,es,clock,h2,by rw [hb b (by rw [h2];rfl)];exact h3,h4⟩
def ObOk (nm nm':Names) (objs objs':List (Nat×Ob)):Ob→Prop
 | .box cs => ∀ a∈cs,AtOk nm nm' objs objs' a
 | .arr .. => True
 | .clo _ x y=>(∀ a∈x,AtOk nm nm' objs objs' a) ∧ ∀ a∈y,AtOk nm nm' objs objs' a
 | .gone=>True
 | .deep _ _ _ _ _ _ h=>match h with
   | some (some (_,_,_,o,v))=>AtOk nm nm' objs objs' (.own o v)
   | _=>True
theorem ObOk.refl (nm:Names) (objs:List (Nat×Ob)) (ob:Ob):ObOk nm nm objs objs ob:=by
 cases ob with
 | box cs=>exact fun a _=>AtOk.refl _ _ a
 | arr=>trivial
 | gone=>trivial
 | clo f x y=>exact ⟨fun a _=>AtOk.refl _ _ a,fun a _=>AtOk.refl _ _ a⟩
 | deep v fz e te t xs h=>
   match h with
   | none=>trivial
   | some none=>trivial
   | some (some q)=>exact AtOk.refl _ _ _
theorem rdI_mono (hk:KeptW w w' Z Z') {te:TypeId} : ∀ {t:Ty} {cs:List Value} {d:t.den} {us:List Value},(∀ u∈us,∀ b,blk u=some b→w'.heap[b]? = w.heap[b]?)→rdI w Z te t cs d us→rdI w' Z' te t cs d us:=by
 intro t
 induction t with
 | sl s ih=>
   rintro cs d us hb ⟨h0,v,es,h1,h2,h3,h4⟩
   exact ⟨h0,v,es,h1,h2,ownsM_block h3 (hb v (by simp [h2])),JK (fun _ _=>JD hk s) h4⟩
 | st t ih=>exact fun hb h=>ih hb h
 | pair a b iha ihb=>
   rintro cs d us hb ⟨c1,c2,u1,u2,h1,h2,h3,h4⟩
   exact ⟨c1,c2,u1,u2,h1,h2,iha (fun u hu=>hb u (by simp [h2,hu])) h3,ihb (fun u hu=>hb u (by simp [h2,hu])) h4⟩
 | _=>exact fun _ h=>⟨h.1,JD hk _ h.2.1,h.2.2⟩
theorem YM (hk:KeptW w w' Z Z') {te:TypeId} {t:Ty} : ∀ {xs:List t.den} {cs:List Value} {us:List Value},(∀ u∈us,∀ b,blk u=some b→w'.heap[b]? = w.heap[b]?)→rdIs w Z te t cs xs us→rdIs w' Z' te t cs xs us
 | [],_,_,_,h=>h
 | _::_,_,_,hb,⟨c1,c2,u1,u2,h1,h2,h3,h4⟩=>⟨c1,c2,u1,u2,h1,h2,rdI_mono hk (fun u hu=>hb u (by simp [h2,hu])) h3,YM hk (fun u hu=>hb u (by simp [h2,hu])) h4⟩
theorem hasB_hd {hd:Value} {us:List Value} {u:Value} (hu:u=hd∨u∈us) {b:Nat} (hb:blk u=some b):hasB (.tuple (hd::us).toArray) b:=
 ⟨u,by simpa using hu,hb⟩
theorem kX (hk:KeptW w w' Z Z') {v:Value} {e te:TypeId} {t:Ty} {xs:List t.den} (hb : ∀ b,hasB v b→w'.heap[b]? = w.heap[b]?) (h:rdDeep w Z v e te t xs):rdDeep w' Z' v e te t xs:=by
 obtain ⟨hd,us,cells,rfl,h2,h3,h4⟩:=h
 exact ⟨hd,us,cells,rfl,ownsM_block h2 (fun b h=>hb b (hasB_hd (.inl rfl) h)),YM hk (fun u hu b h=>hb b (hasB_hd (.inr hu) h)) h3,h4⟩
theorem rdHole_mono (hk:KeptW w w' Z Z') {v:Value} {e te:TypeId} {t:Ty} {xs:List t.den} {i:Int} {off:Nat} {s:Ty} {u:Value} (hb : ∀ b,hasB v b→w'.heap[b]? = w.heap[b]?) (h:rdHole w Z v e te t xs i off s u):rdHole w' Z' v e te t xs i off s u:=by
 obtain ⟨hd,us,cells,x,x0,rfl,h0,h1,h1',h2,h3,h4⟩:=h
 exact ⟨hd,us,cells,x,x0,rfl,h0,h1,h1',ownsM_block h2 (fun b h=>hb b (hasB_hd (.inl rfl) h)),YM hk (fun u hu b h=>hb b (hasB_hd (.inr hu) h)) h3,h4⟩
theorem kL (hk:KeptW w w' Z Z') {id:Nat} {ob:Ob} (hnm:nm' id=nm id) (hb : ∀ b,hasB (nm id) b→w'.heap[b]? = w.heap[b]?)
 (ha:ObOk nm nm' objs objs' ob) (h:rdO w Z nm objs id ob):rdO w' Z' nm' objs' id ob:=by
 cases ob with
 | box cs=>
   obtain ⟨b,vs,T,h1,h2,h3,h4⟩:=h
   exact ⟨b,vs,T,by rw [hnm];exact h1,by rw [hb b (Yw (by rw [h1];rfl))];exact h2,Yd hk ha h3,h4⟩
 | arr ver fz e t xs=>
   show rdArr w' Z' (nm' id) e t xs
   rw [hnm]
   exact VQ hk (fun b h=>hb b (Yw h)) h
 | clo f x y=>
   obtain ⟨vx,vy,h1,h2,h3⟩:=h
   exact ⟨vx,vy,by rw [hnm];exact h1,Yd hk ha.1 h2,Yd hk ha.2 h3⟩
 | gone=>trivial
 | deep v fz e te t xs hole=>
   match hole with
   | none=>
     show rdDeep w' Z' (nm' id) e te t xs
     rw [hnm]
     exact kX hk hb h
   | some none=>
     show rdDeep w' Z' (nm' id) e te t xs
     rw [hnm]
     exact kX hk hb h
   | some (some q)=>
     obtain ⟨i,off,s,oid,v0⟩:=q
     obtain ⟨u,h0,h1,h2⟩:=h
     refine ⟨u,h0,Uz hk ha h1,?_⟩
     rw [hnm]
     exact rdHole_mono hk hb h2
end
section
variable [GInv] {n:Nat} {w0 w w':World} {Z0:Bs} {st:St} {a:Act} {nm:Names}
theorem Rel.grow (h:Rel n w0 Z0 st a w nm) (hs:Same w w'):Rel n w0 Z0 st a w' nm:=by
 have hk:Kept w w' (Zc w0 Z0 nm st.objs w) (Zc w0 Z0 nm st.objs w'):=fun b ⟨h1,h2,h3⟩=>⟨⟨Nat.lt_of_lt_of_le h1 hs.size,h2,h3⟩,hs.block b h1⟩
 refine ⟨h.defk hk,h.size,fun t d ht => ?_,fun id ob ho => ?_,fun id ob b ho hb => ?_,h.inj,h.same.trans hs,h.given,h.glob,h.calm⟩
 ·obtain ⟨v,h1,h2⟩:=h.slots t d ht
  exact ⟨v,h1,JU hk (DvOk.refl ..) h2⟩
 ·exact kL hk rfl (fun b hb=>hs.block b (h.new id ob b ho hb).2) (ObOk.refl _ _ _) (h.objs id ob ho)
 ·exact ⟨(h.new id ob b ho hb).1,Nat.lt_of_lt_of_le (h.new id ob b ho hb).2 hs.size⟩
theorem Same.drew (w:World):Same w w.drew:=⟨rfl,rfl,rfl,Nat.le_refl _,fun _ _=>rfl⟩
theorem Same.alloc (w:World) (o:Obj):Same w (w.alloc o):=⟨rfl,rfl,rfl,by simp,fun b hb=>heap_alloc_old w o b hb⟩
theorem Rel.put (h:Rel n w0 Z0 st a w nm) {t:Nat} (ht:t < n) {d:Dv} {v:Value} (hd:rdD w (Zc w0 Z0 nm st.objs w) nm st.objs d v) :
 Rel n w0 Z0 ⟨ins t d st.slots,st.objs⟩ (a.put (some t) v) w nm:=by
 refine ⟨h.defers,by simp [Act.put,h.size],fun s d' hs => ?_,h.objs,h.new,h.inj,h.same,h.given,h.glob,h.calm⟩
 simp only [Jl] at hs
 by_cases he:t=s
 ·subst he
  simp only [if_true,Option.some.injEq] at hs
  subst hs
  exact ⟨v,by simp [Act.put,h.size,ht],hd⟩
 ·simp only [if_neg he] at hs
  obtain ⟨u,h1,h2⟩:=h.slots s d' hs
  exact ⟨u,by simp [Act.put,Array.getElem?_setIfInBounds_ne he,h1],h2⟩
theorem Rel.del (h:Rel n w0 Z0 st a w nm) (t:Nat):Rel n w0 Z0 ⟨Go.Ql.del t st.slots,st.objs⟩ a w nm:=by
 refine ⟨h.defers,h.size,fun s d' hs => ?_,h.objs,h.new,h.inj,h.same,h.given,h.glob,h.calm⟩
 simp only [Vv] at hs
 by_cases he:t=s
 ·simp [he] at hs
 ·simp only [if_neg he] at hs
  exact h.slots s d' hs
theorem free_slot {st:St} {id t:Nat} {d:Dv} (h:st.free id=true) (hl:look st.slots t=some d):d.mentions id=false:=by
 simp only [St.free,Bool.and_eq_true,List.all_eq_true] at h
 simpa using h.1 _ (ky hl)
theorem free_obj {st:St} {id t:Nat} {ob:Ob} (h:st.free id=true) (hl:look st.objs t=some ob):t≠id∧ob.mentions id=false:=by
 simp only [St.free,Bool.and_eq_true,List.all_eq_true] at h
 have:=h.2 _ (ky hl)
 simp only [Bool.not_eq_true',Bool.and_eq_true] at this
 exact ⟨Jb.1 this.1,this.2⟩
theorem noVer_slot {st:St} {id ver t:Nat} {d:Dv} (h:st.noVer id ver=true) (hl:look st.slots t=some d):d.hasVer id ver=false:=by
 simp only [St.noVer,Bool.and_eq_true,List.all_eq_true] at h
 simpa using h.1 _ (ky hl)
theorem noVer_obj {st:St} {id ver t:Nat} {ob:Ob} (h:st.noVer id ver=true) (hl:look st.objs t=some ob):ob.hasVer id ver=false:=by
 simp only [St.noVer,Bool.and_eq_true,List.all_eq_true] at h
 simpa using h.2 _ (ky hl)
theorem noDin_slot {st:St} {id t:Nat} {d:Dv} (h:st.noDin id=true) (hl:look st.slots t=some d):d.isDin id=false:=by
 simp only [St.noDin,Bool.and_eq_true,List.all_eq_true] at h
 simpa using h.1 _ (ky hl)
theorem noDin_obj {st:St} {id t:Nat} {ob:Ob} (h:st.noDin id=true) (hl:look st.objs t=some ob):ob.isDin id=false:=by
 simp only [St.noDin,Bool.and_eq_true,List.all_eq_true] at h
 simpa using h.2 _ (ky hl)
def Stays (nm:Names) (id:Nat) (nv:Value) (old:Option Ob) (ob:Ob):Prop:=
 match old,ob with
 | some (.box _),_=>nv=nm id
 | some (.arr v _ e t xs),.arr v' _ e' t' xs'=>v=v'→nv=nm id∧e'=e∧t'=t∧List.length xs'=List.length xs
 | some (.deep v _ e te t xs h),.deep v' _ e' te' t' xs' h'=>v=v'→hdr nv=hdr (nm id)∧e'=e∧te'=te∧t'=t∧List.length xs'=List.length xs∧(h=none→h'=none→nv=nm id)
 | _,_=>True
theorem atOk_upd {id:Nat} {ob':Ob} {nv:Value} (hmay:mayOb st id ob'=true) (hst:Stays nm id nv (look st.objs id) ob') {x:At}
 (hfree:st.free id=true→x.mentions id=false) (hver : ∀ v,st.noVer id v=true→x.hasVer id v=false) (hdin:st.noDin id=true→x.isDin id=false) :
 AtOk nm (setN nm id nv) st.objs (ins id ob' st.objs) x:=by
 intro j hj
 by_cases he:id=j
 ·subst he
  unfold mayOb at hmay
  unfold Stays at hst
  simp only [Jl,if_true,Option.some.injEq,jW]
  cases hl:look st.objs id with
  | none=>
    rw [hl] at hmay
    simp only [Bool.and_eq_true] at hmay
    rw [hfree hmay.2] at hj
    cases hj
  | some old=>
    rw [hl] at hmay hst
    refine ⟨?_,?_,?_,?_⟩
    ·rintro ver fz1 e1 t1 xs1 rfl h2
     cases old with
     | arr v fz e t xs=>
       simp only [Bool.or_eq_true,Bool.and_eq_true] at hmay
       rcases hmay with hm | hm
       ·have:=beqN.1 hm
        obtain ⟨q1,q2,q3,q4⟩:=hst this
        subst this;subst q2;subst q3
        exact ⟨q1,fz,xs,rfl,q4.symm⟩
       ·rw [hver _ hm.2] at h2;cases h2
     | _=>cases hmay
    ·rintro cs rfl
     cases old with
     | box cs'=>exact ⟨hst,cs',rfl⟩
     | _=>cases hmay
    ·rintro f p q rfl
     cases old <;> cases hmay
    ·rintro ver fz1 e1 te1 t1 xs1 h1 rfl h2
     cases old with
     | deep v fz e te t xs h=>
       rw [Bool.or_eq_true,Bool.and_eq_true,Bool.and_eq_true] at hmay
       rcases hmay with hm | hm
       ·have:=beqN.1 hm.1
        obtain ⟨q1,q2,q2',q3,q4,q5⟩:=hst this
        subst this;subst q2;subst q2';subst q3
        refine ⟨q1,fz,xs,h,rfl,q4.symm,fun hd hn => ?_⟩
        cases hnd:st.noDin id with
        | true=>rw [hdin hnd] at hd;cases hd
        | false=>
          rw [hnd,Bool.or_false,Bool.and_eq_true] at hm
          have hh:h=none:=by have:=hm.2.1;cases h <;> simp_all
          exact ⟨hh,q5 hh hn⟩
       ·rw [hver _ hm.2] at h2;cases h2
     | _=>cases hmay
 ·have:=AtOk.refl nm st.objs x j hj
  simpa only [Jl,if_neg he,ka nm nv (Ne.symm he)] using this
def Does (P:Program) (o:Oper) (a:Act) (w:World) (R:Value→World→Prop):Prop:=
 ∀ (K:Act→World→Prop) (Q:Exit→Act→World→Prop),(∀ v w',R v w'→K (a.put o.dst v) w')→o.wp P a w K Q
theorem Does.of_run {P:Program} {o:Oper} {R:Value→World→Prop} {v:Value} (h:(execOp a.eval o).run P w = .ok (.value v) w') (hr:R v w'):Does P o a w R:=by
 intro K Q hk
 unfold Oper.wp
 rw [h]
 exact hk _ _ hr
theorem Does.of_skip {P:Program} {o:Oper} {R:Value→World→Prop} (h:(execOp a.eval o).run P w = .ok .skip w') (hr:R undef w'):Does P o a w R:=by
 intro K Q hk
 unfold Oper.wp
 rw [h]
 exact hk _ _ hr
theorem Does.of_call {P:Program} {o:Oper} {R:Value→World→Prop} {f:FuncId} {args:Array Value} (h:(execOp a.eval o).run P w = .ok (.enter f args) w')
 (hr:Calls P f args w' fun e w'' => ∃ v,e = .returned v∧R v w''):Does P o a w R:=by
 intro K Q hk
 unfold Oper.wp
 rw [h]
 exact Calls.mono hr fun e w'' ⟨v,he,hv⟩=>by subst he;exact hk _ _ hv
end
section
variable {st st1:St}
theorem layObs_append : ∀ (u1:Upd) {u2:Upd} {st st':St},Jh st (u1++u2)=some st' → ∃ s,Jh st u1=some s∧Jh s u2=some st'
 | [],u2,st,st',h=>⟨st,rfl,h⟩
 | (id,ob)::u1,u2,st,st',h=>by
   simp only [List.cons_append,Jh] at h ⊢
   cases hm:mayOb st id ob with
   | false=>rw [hm] at h;cases h
   | true=>rw [hm] at h;exact layObs_append u1 h
theorem JI : ∀ (u:Upd) {st st1:St} {id:Nat},Jh st u=some st1→(∀ p∈u,p.1≠id)→look st1.objs id=look st.objs id
 | [],st,st1,id,h,_=>by simp only [Jh,Option.some.injEq] at h;subst h;rfl
 | (j,ob)::u,st,st1,id,h,hn=>by
   simp only [Jh] at h
   cases hm:mayOb st j ob with
   | false=>rw [hm] at h;cases h
   | true=>
     rw [hm] at h
     simp only [cond_true] at h
     rw [JI u h (fun p hp=>hn p (by simp [hp]))]
     simp only [Jl,if_neg (hn (j,ob) (by simp))]
theorem layObs_slots : ∀ (u:Upd) {st st1:St},Jh st u=some st1→st1.slots=st.slots
 | [],st,st1,h=>by simp only [Jh,Option.some.injEq] at h;subst h;rfl
 | (j,ob)::u,st,st1,h=>by
   simp only [Jh] at h
   cases hm:mayOb st j ob with
   | false=>rw [hm] at h;cases h
   | true=>rw [hm] at h;simp only [cond_true] at h;have:=layObs_slots u h;exact this
theorem Uk : ∀ (u:Upd) {st st':St},Jh st u=some st'→kj u=true → ∀ p∈u,look st'.objs p.1=some p.2 ∧
 ∃ st1,mayOb st1 p.1 p.2=true∧st1.slots=st.slots∧look st1.objs p.1=look st.objs p.1 ∧ ∀ j,(∀ q∈u,q.1≠j)→look st1.objs j=look st.objs j
 | [],_,_,_,_,p,hp=>by cases hp
 | (id,ob)::u,st,st',h,ha,p,hp=>by
   simp only [Jh] at h
   cases hm:mayOb st id ob with
   | false=>rw [hm] at h;cases h
   | true=>
     rw [hm] at h
     simp only [cond_true] at h
     simp only [kj,Bool.and_eq_true] at ha
     have hne : ∀ q∈u,q.1≠id:=fun q hq=>by
      have:=List.all_eq_true.1 ha.1 q hq
      simpa [Jb] using this
     rcases List.mem_cons.1 hp with rfl | hp
     ·exact ⟨by rw [JI u h hne,Jl,if_pos rfl],st,hm,rfl,rfl,fun _ _=>rfl⟩
     ·obtain ⟨h1,s,h2,h3,h4,h5⟩:=Uk u h ha.2 p hp
      have hp1:=hne p hp
      refine ⟨h1,s,h2,h3,?_,fun j hj => ?_⟩
      ·rw [h4,Jl,if_neg (Ne.symm hp1)]
      ·rw [h5 j (fun q hq=>hj q (by simp [hq])),Jl,if_neg (hj (id,ob) (by simp))]
end
section
variable [GInv] {n:Nat} {w0 w w':World} {Z0:Bs} {st st1 st':St} {a:Act} {nm nm':Names} {objs:List (Nat×Ob)}
theorem given_upd {id:Nat} {ob':Ob} {nv:Value} (hmay:mayOb st1 id ob'=true) (h1:look st1.objs id=look objs id) (hst:Stays nm id nv (look objs id) ob') (hg:gBox≤id)
 (hgiv : ∀ ob,look objs id=some ob→(held id ob→nm id=Z0.nm id)∧(heldD id ob→hdr (nm id)=hdr (Z0.nm id))):(held id ob'→nv=Z0.nm id)∧(heldD id ob'→hdr nv=hdr (Z0.nm id)):=by
 unfold mayOb at hmay
 unfold Stays at hst
 cases hl:look objs id with
 | none=>
   rw [h1,hl] at hmay
   simp only [Bool.and_eq_true,Nat.blt_eq] at hmay
   omega
 | some old=>
   rw [h1,hl] at hmay
   rw [hl] at hst
   have hg0:=hgiv _ hl
   cases old with
   | clo f x y=>cases hmay
   | gone=>
     cases ob' with
     | gone=>exact ⟨fun hh=>hh.elim,fun hh=>hh.elim⟩
     | _=>cases hmay
   | box cs=>
     cases ob' with
     | box cs'=>
       simp only at hst
       rw [hst]
       exact hg0
     | _=>cases hmay
   | deep v fz e te t xs hole=>
     cases ob' with
     | gone=>exact ⟨fun hh=>hh.elim,fun hh=>hh.elim⟩
     | deep v' fz' e' te' t' xs' hole'=>
       refine ⟨fun hh=>hh.elim,fun hh => ?_⟩
       rw [Bool.or_eq_true,Bool.and_eq_true,Bool.and_eq_true,Bool.not_eq_true'] at hmay
       rcases hmay with hm | hm
       ·have:=beqN.1 hm.1
        subst this
        rw [(hst rfl).1]
        exact hg0.2 hh
       ·exact absurd hh.2 (Jb.1 hm.1)
     | _=>cases hmay
   | arr v fz e t xs=>
     cases ob' with
     | gone=>exact ⟨fun hh=>hh.elim,fun hh=>hh.elim⟩
     | arr v' fz' e' t' xs'=>
       refine ⟨fun hh => ?_,fun hh=>hh.elim⟩
       simp only [Bool.or_eq_true,Bool.and_eq_true,Bool.not_eq_true'] at hmay
       rcases hmay with hm | hm
       ·have:=beqN.1 hm
        subst this
        rw [(hst rfl).1]
        exact hg0.1 hh
       ·exact absurd hh.2 (Jb.1 hm.1)
     | _=>cases hmay
theorem atOk_at {id:Nat} {ob':Ob} {objs':List (Nat×Ob)} (hmay:mayOb st1 id ob'=true) (h1:look st1.objs id=look objs id) (hl':look objs' id=some ob') (hst:Stays nm id (nm' id) (look objs id) ob') {x:At}
 (hfree:st1.free id=true→x.mentions id=false) (hver : ∀ v,st1.noVer id v=true→x.hasVer id v=false) (hdin:st1.noDin id=true→x.isDin id=false) (hj:x.mentions id=true) :
 (∀ ver fz e t xs,look objs' id=some (.arr ver fz e t xs)→x.hasVer id ver=true→nm' id=nm id ∧ ∃ fz' xs',look objs id=some (.arr ver fz' e t xs')∧List.length xs'=List.length xs) ∧
 (∀ cs,look objs' id=some (.box cs)→nm' id=nm id ∧ ∃ cs',look objs id=some (.box cs')) ∧
 (∀ f p q,look objs' id=some (.clo f p q)→nm' id=nm id ∧ ∃ f' p' q',look objs id=some (.clo f' p' q')) ∧
 (∀ ver fz e te t xs h,look objs' id=some (.deep ver fz e te t xs h)→x.hasVer id ver=true →
  hdr (nm' id)=hdr (nm id) ∧ ∃ fz' xs' h',look objs id=some (.deep ver fz' e te t xs' h')∧List.length xs'=List.length xs∧(x.isDin id=true→h=none→h'=none∧nm' id=nm id)):=by
 have:=atOk_upd (st:=⟨st1.slots,st1.objs⟩) (nm:=nm) hmay (by rw [h1];exact hst) hfree hver hdin id hj
 simp only [Jl,if_true,jW,h1] at this
 rw [hl']
 exact this
theorem atOk_updM {u:Upd} (hl:Jh st u=some st') (hap:kj u=true) (hn : ∀ j,(∀ p∈u,p.1≠j)→nm' j=nm j)
 (hst : ∀ p∈u,Stays nm p.1 (nm' p.1) (look st.objs p.1) p.2) {x:At}
 (hx : ∀ st1:St,st1.slots=st.slots→(∀ j,(∀ q∈u,q.1≠j)→look st1.objs j=look st.objs j) → ∀ id,(st1.free id=true→x.mentions id=false)∧(∀ v,st1.noVer id v=true→x.hasVer id v=false)∧(st1.noDin id=true→x.isDin id=false)) :
 AtOk nm nm' st.objs st'.objs x:=by
 intro id hj
 by_cases hm : ∃ p∈u,p.1=id
 ·obtain ⟨p,hp,rfl⟩:=hm
  obtain ⟨h1,s,h2,h3,h4,h5⟩:=Uk u hl hap p hp
  exact atOk_at h2 h4 h1 (hst p hp) (hx s h3 h5 p.1).1 (hx s h3 h5 p.1).2.1 (hx s h3 h5 p.1).2.2 hj
 ·have hne : ∀ p∈u,p.1≠id:=fun p hp e=>hm ⟨p,hp,e⟩
  have:=AtOk.refl nm st.objs x id hj
  rw [JI u hl hne,hn id hne]
  exact this
theorem Rel.updM (h:Rel n w0 Z0 st a w nm) {u:Upd} (nm':Names) (hl:Jh st u=some st') (hap:kj u=true)
 (hn : ∀ j,(∀ p∈u,p.1≠j)→nm' j=nm j)
 (hst : ∀ p∈u,Stays nm p.1 (nm' p.1) (look st.objs p.1) p.2)
 (hs:w'.os=w.os∧w'.tape=w.tape∧w'.output=w.output∧w.heap.size≤w'.heap.size)
 (hblock : ∀ b,b < w.heap.size→(∃ p∈u,∃ ob,look st.objs p.1=some ob∧ob.mine=true∧hasB (nm p.1) b)∨w'.heap[b]? = w.heap[b]?)
 (hnew : ∀ p∈u,∀ b,hasB (nm' p.1) b→(∃ q∈u,∃ ob,look st.objs q.1=some ob∧(ob.mine=true∨p.2.mine=false)∧hasB (nm q.1) b)∨(w.heap.size≤b∧b < w'.heap.size))
 (hinj : ∀ p∈u,∀ q∈u,∀ b,hasB (nm' p.1) b→hasB (nm' q.1) b→p.1=q.1)
 (hrd:Kept w w' (Zc w0 Z0 nm st.objs w) (Zc w0 Z0 nm' st'.objs w') → ∀ p∈u,rdO w' (Zc w0 Z0 nm' st'.objs w') nm' st'.objs p.1 p.2):Rel n w0 Z0 st' a w' nm':=by
 have hin : ∀ j,(∃ p∈u,p.1=j) ∨ ∀ p∈u,p.1≠j:=fun j=>by
  by_cases hm : ∃ p∈u,p.1=j
  ·exact .inl hm
  ·exact .inr fun p hp e=>hm ⟨p,hp,e⟩
 have hk:Kept w w' (Zc w0 Z0 nm st.objs w) (Zc w0 Z0 nm' st'.objs w'):=by
  rintro b ⟨h1,h2,h3⟩
  refine ⟨⟨Nat.lt_of_lt_of_le h1 hs.2.2.2,h2,?_⟩,?_⟩
  ·rintro ⟨j,ob,hj,hm,hb⟩
   rcases hin j with ⟨p,hp,rfl⟩ | hne
   ·rw [(Uk u hl hap p hp).1] at hj
    cases hj
    rcases hnew p hp b hb with ⟨q,_,ob,q2,q3,q4⟩ | ⟨q1,_⟩
    ·rcases q3 with q3 | q3
     ·exact h3 ⟨q.1,ob,q2,q3,q4⟩
     ·rw [hm] at q3;cases q3
    ·omega
   ·rw [JI u hl hne] at hj
    rw [hn j hne] at hb
    exact h3 ⟨j,ob,hj,hm,hb⟩
  ·rcases hblock b h1 with ⟨p,_,ob,q1,q2,q3⟩ | q
   ·exact absurd ⟨p.1,ob,q1,q2,q3⟩ h3
   ·exact q
 have hsl:=layObs_slots u hl
 refine ⟨h.defk hk,h.size,fun t d ht => ?_,fun j ob hj => ?_,fun j ob b hj hb => ?_,fun j j' ob ob' b hj hj' hb hb' => ?_,?_,?_,h.glob,h.calm⟩
 ·rw [hsl] at ht
  obtain ⟨v,h1,h2⟩:=h.slots t d ht
  have hx : ∀ x:At,(∀ id,(d.mentions id=false→x.mentions id=false)∧(∀ v,d.hasVer id v=false→x.hasVer id v=false)∧(d.isDin id=false→x.isDin id=false))→AtOk nm nm' st.objs st'.objs x:=fun x hx=>
   atOk_updM hl hap hn hst fun s hs1 _ id=>⟨fun hf=>(hx id).1 (free_slot hf (by rw [hs1];exact ht)),fun v hv=>(hx id).2.1 v (noVer_slot hv (by rw [hs1];exact ht)),fun hv=>(hx id).2.2 (noDin_slot hv (by rw [hs1];exact ht))⟩
  refine ⟨v,h1,JU hk ?_ h2⟩
  cases d with
  | one x=>exact hx x fun _=>⟨id,fun _=>id,id⟩
  | agg cs=>exact fun x hm=>hx x fun id=>⟨fun h=>by simp only [Dv.mentions,List.any_eq_false] at h;simpa using h x hm,fun v h=>by simp only [Dv.hasVer,List.any_eq_false] at h;simpa using h x hm,fun h=>by simp only [Dv.isDin,List.any_eq_false] at h;simpa using h x hm⟩
  | tup cs=>exact fun x hm=>hx x fun id=>⟨fun h=>by simp only [Dv.mentions,List.any_eq_false] at h;simpa using h x hm,fun v h=>by simp only [Dv.hasVer,List.any_eq_false] at h;simpa using h x hm,fun h=>by simp only [Dv.isDin,List.any_eq_false] at h;simpa using h x hm⟩
  | tgg k cs=>exact fun x hm=>hx x fun id=>⟨fun h=>by simp only [Dv.mentions,List.any_eq_false] at h;simpa using h x hm,fun v h=>by simp only [Dv.hasVer,List.any_eq_false] at h;simpa using h x hm,fun h=>by simp only [Dv.isDin,List.any_eq_false] at h;simpa using h x hm⟩
 ·rcases hin j with ⟨p,hp,rfl⟩ | hne
  ·rw [(Uk u hl hap p hp).1] at hj
   cases hj
   exact hrd hk p hp
  ·rw [JI u hl hne] at hj
   have hx : ∀ x:At,(∀ id,(ob.mentions id=false→x.mentions id=false)∧(∀ v,ob.hasVer id v=false→x.hasVer id v=false)∧(ob.isDin id=false→x.isDin id=false))→AtOk nm nm' st.objs st'.objs x:=fun x hx=>
    atOk_updM hl hap hn hst fun s _ hs2 id=>⟨fun hf=>(hx id).1 (free_obj hf ((hs2 j hne).trans hj)).2,fun v hv=>(hx id).2.1 v (noVer_obj hv ((hs2 j hne).trans hj)),fun hv=>(hx id).2.2 (noDin_obj hv ((hs2 j hne).trans hj))⟩
   refine kL hk (hn j hne) (fun b hb => ?_) ?_ (h.objs j ob hj)
   ·rcases hblock b (h.new j ob b hj hb).2 with ⟨p,hp,ob2,q1,q2,q3⟩ | q
    ·exact absurd (h.inj p.1 j ob2 ob b q1 hj q3 hb) (hne p hp)
    ·exact q
   ·cases ob with
    | arr=>trivial
    | gone=>trivial
    | box cs=>exact fun x hm=>hx x fun id=>⟨fun h=>by simp only [Ob.mentions,List.any_eq_false] at h;simpa using h x hm,fun v h=>by simp only [Ob.hasVer,List.any_eq_false] at h;simpa using h x hm,fun h=>by simp only [Ob.isDin,List.any_eq_false] at h;simpa using h x hm⟩
    | clo f p q=>
      exact ⟨fun x hm=>hx x fun id=>⟨fun h=>by simp only [Ob.mentions,Bool.or_eq_false_iff,List.any_eq_false] at h;simpa using h.1 x hm,fun v h=>by simp only [Ob.hasVer,Bool.or_eq_false_iff,List.any_eq_false] at h;simpa using h.1 x hm,fun h=>by simp only [Ob.isDin,Bool.or_eq_false_iff,List.any_eq_false] at h;simpa using h.1 x hm⟩,
       fun x hm=>hx x fun id=>⟨fun h=>by simp only [Ob.mentions,Bool.or_eq_false_iff,List.any_eq_false] at h;simpa using h.2 x hm,fun v h=>by simp only [Ob.hasVer,Bool.or_eq_false_iff,List.any_eq_false] at h;simpa using h.2 x hm,fun h=>by simp only [Ob.isDin,Bool.or_eq_false_iff,List.any_eq_false] at h;simpa using h.2 x hm⟩⟩
    | deep v fz e te t xs hole=>
      match hole with
      | none=>trivial
      | some none=>trivial
      | some (some q)=>exact hx _ fun _=>⟨fun h=>h,fun _ h=>h,fun _=>rfl⟩
 ·rcases hin j with ⟨p,hp,rfl⟩ | hne
  ·rcases hnew p hp b hb with ⟨q,_,ob2,q2,_,q4⟩ | ⟨q1,q2⟩
   ·have:=h.new q.1 ob2 b q2 q4
    exact ⟨this.1,Nat.lt_of_lt_of_le this.2 hs.2.2.2⟩
   ·exact ⟨.inl (Nat.le_trans h.same.size q1),q2⟩
  ·rw [JI u hl hne] at hj
   rw [hn j hne] at hb
   have:=h.new j ob b hj hb
   exact ⟨this.1,Nat.lt_of_lt_of_le this.2 hs.2.2.2⟩
 ·have key : ∀ j ob,(∀ p∈u,p.1≠j)→look st'.objs j=some ob→hasB (nm' j) b → ∀ p∈u,hasB (nm' p.1) b→False:=by
   intro j ob hne hj hb p hp hb'
   rw [JI u hl hne] at hj
   rw [hn j hne] at hb
   rcases hnew p hp b hb' with ⟨q,hq,ob2,q2,_,q4⟩ | ⟨q1,_⟩
   ·exact hne q hq (h.inj q.1 j ob2 ob b q2 hj q4 hb)
   ·have:=(h.new j ob b hj hb).2;omega
  rcases hin j with ⟨p,hp,rfl⟩ | hne
  ·rcases hin j' with ⟨q,hq,rfl⟩ | hne'
   ·exact hinj p hp q hq b hb hb'
   ·exact (key j' ob' hne' hj' hb' p hp hb).elim
  ·rcases hin j' with ⟨q,hq,rfl⟩ | hne'
   ·exact (key j ob hne hj hb q hq hb').elim
   ·rw [JI u hl hne] at hj
    rw [JI u hl hne'] at hj'
    rw [hn j hne] at hb
    rw [hn j' hne'] at hb'
    exact h.inj j j' ob ob' b hj hj' hb hb'
 ·refine ⟨hs.1.trans h.same.os,hs.2.1.trans h.same.tape,hs.2.2.1.trans h.same.output,Nat.le_trans h.same.size hs.2.2.2,fun b hb hm => ?_⟩
  have hsz:=h.same.size
  rcases hblock b (by omega) with ⟨p,_,ob2,q1,q2,q3⟩ | q
  ·rcases (h.new p.1 ob2 b q1 q3).1 with hh | hh
   ·omega
   ·exact absurd hh hm
  ·exact q.trans (h.same.block b hb hm)
 ·intro j ob hg hj
  rcases hin j with ⟨p,hp,rfl⟩ | hne
  ·obtain ⟨h1,s,h2,h3,h4,h5⟩:=Uk u hl hap p hp
   rw [h1] at hj
   cases hj
   exact given_upd h2 h4 (hst p hp) hg fun ob ho=>h.given p.1 ob hg ho
  ·rw [JI u hl hne] at hj
   rw [hn j hne]
   exact h.given j ob hg hj
theorem Rel.upd (h:Rel n w0 Z0 st a w nm) (id:Nat) (ob':Ob) (nv:Value)
 (hmay:mayOb st id ob'=true) (hst:Stays nm id nv (look st.objs id) ob')
 (hs:w'.os=w.os∧w'.tape=w.tape∧w'.output=w.output∧w.heap.size≤w'.heap.size)
 (hblock : ∀ b,b < w.heap.size→(∃ ob,look st.objs id=some ob∧ob.mine=true∧hasB (nm id) b)∨w'.heap[b]? = w.heap[b]?)
 (hnew : ∀ b,hasB nv b→(hasB (nm id) b ∧ ∃ ob,look st.objs id=some ob∧(ob.mine=true∨ob'.mine=false))∨(w.heap.size≤b∧b < w'.heap.size))
 (hrd:rdO w' (Zc w0 Z0 (setN nm id nv) (ins id ob' st.objs) w') (setN nm id nv) (ins id ob' st.objs) id ob') :
 Rel n w0 Z0 ⟨st.slots,ins id ob' st.objs⟩ a w' (setN nm id nv):=by
 have hl:Jh st [(id,ob')]=some ⟨st.slots,ins id ob' st.objs⟩:=by simp only [Jh,hmay,cond_true]
 refine h.updM _ hl rfl (fun j hj=>ka _ _ (Ne.symm (hj _ (List.mem_cons_self ..)))) ?_ hs (fun b hb => ?_) ?_ ?_ (fun _ => ?_)
 ·simp only [List.forall_mem_cons,List.not_mem_nil,false_imp_iff,implies_true,and_true,jW]
  exact hst
 ·rcases hblock b hb with ⟨ob,q⟩ | q
  ·exact .inl ⟨_,List.mem_cons_self ..,ob,q⟩
  ·exact .inr q
 ·simp only [List.forall_mem_cons,List.not_mem_nil,false_imp_iff,implies_true,and_true,jW]
  intro b hb
  rcases hnew b hb with ⟨q1,ob,q2,q3⟩ | q
  ·exact .inl ⟨_,List.mem_cons_self ..,ob,q2,q3,q1⟩
  ·exact .inr q
 ·simp
 ·simp only [List.forall_mem_cons,List.not_mem_nil,false_imp_iff,implies_true,and_true]
  exact hrd
end
end Go.Ql
end

section
set_option linter.unusedSectionVars false
namespace Go.Ql
def VR (p:List Value→Prop):Nat→List Value→Prop
 | 0,cs=>cs=[]
 | n+1,cs => ∃ c1 c2,cs=c1++c2∧p c1∧VR p n c2
def JJ:Ty→List Value→Prop
 | .bool,cs=>cs=[.bool false]
 | .int k,cs=>cs=[.int k 0]
 | .str,cs=>cs=[.string ⟨#[]⟩]
 | .sl t,cs=>cs=[.slice none 0 0]∧t.isPair=false
 | .st t,cs=>JJ t cs
 | .unit,cs=>cs=[]
 | .pair a b,cs => ∃ c1 c2,cs=c1++c2∧JJ a c1∧JJ b c2
 | .ar n t,cs=>VR (JJ t) n cs
 | .nilv k,cs=>cs=[Yl k]
 | .node t,cs => ∃ c1,cs=c1++[.slice none 0 0]∧JJ t c1
 | .ifc _ _,_=>False
 | .nn,_=>False
 | .len,_=>False
 | .fl _,_=>False
 | .raw,cs=>cs=[.slice none 0 0]
theorem repAll_zero {p:List Value→Prop} {n:Nat} {cs:List Value} (h:VR p n cs):n=0 ∨ ∃ c,p c:=by
 cases n with
 | zero=>exact .inl rfl
 | succ n=>obtain ⟨c1,_,_,h1,_⟩:=h;exact .inr ⟨c1,h1⟩
theorem isZero_noMap {t:Ty} {cs:List Value} (h:JJ t cs):t.isMap=false:=by
 cases t with
 | sl t=>exact h.2
 | _=>rfl
structure TiOk (P:Program) (t:TypeId) (ti:TI):Prop where
 info : ∃ i z,P.info? t=some i∧i.size=ti.ty.cells∧i.zero=some z∧JJ ti.ty z.cells.toList∧(ti.ty.isSt=true → ∃ cs,z = .agg cs)
 kind:match ti.kind with
  | .scalar=>(ti.ty = .bool∧P.underlying t=some .bool)∨(∃ k,ti.ty = .int k∧P.underlying t=some (.int k))∨(ti.ty = .str∧P.underlying t=some .string)
  | .nul => ∃ k,ti.ty = .nilv k∧((∃ e,P.underlying t=some (.pointer e))∨(∃ ms,P.underlying t=some (.interface ms)) ∨ ∃ a b c,P.underlying t=some (.func a b c))∧(k=1 → ∃ ms,P.underlying t=some (.interface ms))
  | .struct fs => ∃ s fields,ti.ty = .st s∧P.underlying t=some (.struct fields)∧fields.toList.map (fun f=>(f.offset,f.type))=fs ∧ ∀ f∈fields.toList,∃ fi,P.info? f.type=some fi
  | .slice e by_ => ∃ s i z,ti.ty = .sl s∧P.underlying t=some (.slice e)∧P.info? e=some i∧i.size=s.cells∧i.bytes=by_∧i.zero=some z∧JJ s z.cells.toList∧0 < s.cells
  | .arr n e => ∃ s i z,ti.ty = .ar n s∧P.underlying t=some (.array n e)∧P.info? e=some i∧i.size=s.cells∧i.zero=some z∧JJ s z.cells.toList
  | .map k e j u=>ti.ty = .nilv 2∧P.underlying t=some (.map k e)∧P.underlying k=some (.int j) ∧ ∃ i,P.info? e=some i∧i.zero=some (.int u 0)
  | .other=>False
def TabOk (P:Program) (tab:List (Nat×TI)):Prop:=∀ t ti,look tab t=some ti→TiOk P t ti
theorem TiOk.agg {P:Program} {t:TypeId} {ti:TI} (h:TiOk P t ti) (w:World):(isAgg t).run P w = .ok ti.ty.isSt w:=by
 obtain ⟨ty,kind⟩:=ti
 have hk:=h.kind
 cases kind with
 | scalar=>
   rcases hk with ⟨rfl,h1⟩ | ⟨k,rfl,h1⟩ | ⟨rfl,h1⟩ <;> simp [isAgg,run_underlying h1,Ty.isSt]
 | nul=>obtain ⟨k,rfl,⟨e,h1⟩ | ⟨ms,h1⟩ | ⟨_,_,_,h1⟩,_⟩:=hk <;> simp [isAgg,run_underlying h1,Ty.isSt]
 | map k e j u=>obtain ⟨rfl,h1,_⟩:=hk;simp [isAgg,run_underlying h1,Ty.isSt]
 | struct fs=>obtain ⟨s,fields,rfl,h1,_⟩:=hk;simp [isAgg,run_underlying h1,Ty.isSt]
 | slice e b=>obtain ⟨s,i,z,rfl,h1,_⟩:=hk;simp [isAgg,run_underlying h1,Ty.isSt]
 | arr n e=>obtain ⟨s,i,z,rfl,h1,_⟩:=hk;simp [isAgg,run_underlying h1,Ty.isSt]
 | other=>exact hk.elim
theorem TiOk.sizeOf {P:Program} {t:TypeId} {ti:TI} (h:TiOk P t ti) (w:World):(sizeOf t).run P w = .ok ti.ty.cells w:=by
 obtain ⟨i,z,h1,h2,_⟩:=h.info
 simp [Go.sizeOf,typeInfo,h1,h2]
theorem constAt_rd {w:World} {Z:Nat→Prop} {nm:Names} {objs:List (Nat×Ob)} {v:Value} {x:At} (h:constAt v=some x):rdA w Z nm objs x v∧v.oneCell'=true:=by
 unfold constAt at h
 split at h
 ·cases h;exact ⟨by simp [rdA,rdV,rdC],rfl⟩
 ·cases h;exact ⟨by simp [rdA,rdV,rdC],rfl⟩
 ·cases h;exact ⟨by simp [rdA,rdV,rdC],rfl⟩
 ·cases h;exact ⟨by simp [rdA],rfl⟩
 ·cases h
theorem constAts_rd {w:World} {Z:Nat→Prop} {nm:Names} {objs:List (Nat×Ob)} : ∀ {vs:List Value} {cs:List At},VU vs=some cs→rdAs w Z nm objs cs vs ∧ ∀ u∈vs,u.oneCell'=true
 | [],cs,h=>by cases h;exact ⟨⟨rfl,fun i a v h1 _=>by simp at h1⟩,fun u hu=>by cases hu⟩
 | v::r,cs,h=>by
   unfold VU at h
   split at h
   ·rename_i a l h1 h2
    cases h
    obtain ⟨⟨g1,g2⟩,g3⟩:=constAts_rd h2
    obtain ⟨k1,k2⟩:=constAt_rd h1
    refine ⟨⟨by simp [g1],fun i x y hx hy => ?_⟩,fun u hu => ?_⟩
    ·cases i with
     | zero=>simp only [List.getElem?_cons_zero,Option.some.injEq] at hx hy;subst hx;subst hy;exact k1
     | succ i=>simp only [List.getElem?_cons_succ] at hx hy;exact g2 i x y hx hy
    ·rcases List.mem_cons.1 hu with rfl | hu
     ·exact k2
     ·exact g3 u hu
   ·cases h
section
variable [GInv] {P:Program} {G:Env} {n:Nat} {w0 w:World} {Z0:Bs} {st:St} {a:Act} {nm:Names} {o:Oper} {dst:Nat} {ρ:Type} {k:Eff→Option ρ} {r:ρ}
abbrev zc (w0:World) (Z0:Bs) (nm:Names) (st:St) (w:World):Nat→Prop:=Zc w0 Z0 nm st.objs w
def Good (P:Program) (n:Nat) (w0:World) (Z0:Bs) (st:St) (a:Act) (w:World) (o:Oper) (e:Eff):Prop:=
 ∀ st',Jh st e.upd=some st'→Does P o a w fun v w' => ∃ nm',Rel n w0 Z0 st' a w' nm'∧rdD w' (Zc w0 Z0 nm' st'.objs w') nm' st'.objs e.dv v
theorem Good.pure (h:Rel n w0 Z0 st a w nm) {d:Dv} {v:Value} (hrun:(execOp a.eval o).run P w = .ok (.value v) w) (hd:rdD w (Zc w0 Z0 nm st.objs w) nm st.objs d v) :
 Good P n w0 Z0 st a w o ⟨d,[]⟩:=by
 intro st' hl
 simp only [Jh,Option.some.injEq] at hl
 subst hl
 exact Does.of_run hrun ⟨nm,h,hd⟩
theorem Good.grow (h:Rel n w0 Z0 st a w nm) {d:Dv} {v:Value} {w':World} (hrun:(execOp a.eval o).run P w = .ok (.value v) w') (hs:Same w w')
 (hd:rdD w' (Zc w0 Z0 nm st.objs w') nm st.objs d v):Good P n w0 Z0 st a w o ⟨d,[]⟩:=by
 intro st' hl
 simp only [Jh,Option.some.injEq] at hl
 subst hl
 exact Does.of_run hrun ⟨nm,h.grow hs,hd⟩
theorem ev_rd (h:Rel n w0 Z0 st a w nm) {x:Operand} {d:Dv} (hx:evSt st x=some d):rdD w (Zc w0 Z0 nm st.objs w) nm st.objs d (a.eval x):=by
 cases x with
 | tmp t=>
   obtain ⟨v,h1,h2⟩:=h.slots t d hx
   simp only [Act.eval,Array.getD_eq_getD_getElem?,h1,Option.getD_some]
   exact h2
 | const v=>
   cases v with
   | int j m=>simp only [evSt,Option.some.injEq] at hx;subst hx;simp [Act.eval,vI,rdD,rdA,rdV,rdC]
   | bool b=>simp only [evSt,Option.some.injEq] at hx;subst hx;simp [Act.eval,vB,rdD,rdA,rdV,rdC]
   | string s=>simp only [evSt,Option.some.injEq] at hx;subst hx;simp [Act.eval,vS,rdD,rdA,rdV,rdC]
   | slice b l c=>
     cases b with
     | some b=>simp [evSt] at hx
     | none=>
       cases l with
       | succ l=>simp [evSt] at hx
       | zero=>cases c with
         | succ c=>simp [evSt] at hx
         | zero=>simp only [evSt,Option.some.injEq] at hx;subst hx;simp [Act.eval,rdD,rdA]
   | pointer q=>
     cases q with
     | some q=>simp [evSt] at hx
     | none=>
       simp only [evSt,Option.some.injEq] at hx
       subst hx
       exact (show [Value.pointer none]=[Yl 0] from rfl)
   | map q=>
     cases q with
     | some q=>simp [evSt] at hx
     | none=>
       simp only [evSt,Option.some.injEq] at hx
       subst hx
       exact (show [Value.map none]=[Yl 2] from rfl)
   | nilIface=>
     simp only [evSt,Option.some.injEq] at hx
     subst hx
     exact (show [Value.nilIface]=[Yl 1] from rfl)
   | nilFunc=>
     simp only [evSt,Option.some.injEq] at hx
     subst hx
     exact (show [Value.nilFunc]=[Yl 3] from rfl)
   | agg vs=>
     simp only [evSt] at hx
     split at hx
     ·rename_i cs hcs
      simp only [Option.some.injEq] at hx
      subst hx
      have hh:=constAts_rd (w:=w) (Z:=Zc w0 Z0 nm st.objs w) (nm:=nm) (objs:=st.objs) hcs
      exact ⟨vs,rfl,hh.1,hh.2⟩
     ·cases hx
   | _=>simp [evSt] at hx
 | global g=>simp [evSt] at hx
 | func f=>
   simp only [evSt,Option.some.injEq] at hx
   subst hx
   simp [rdD,rdA,Act.eval]
theorem Yk (h:Rel n w0 Z0 st a w nm) {x:Operand} {j:IntKind} {m:Int} (hx:evSt st x=some (.one (.val (.int j) m))):a.eval x = .int j m:=by
 have:=ev_rd h hx
 simpa [rdD,rdA,rdV,rdC] using this
theorem UF (h:Rel n w0 Z0 st a w nm) {x:Operand} {b:Bool} (hx:evSt st x=some (.one (.val .bool b))):a.eval x = .bool b:=by
 have:=ev_rd h hx
 simpa [rdD,rdA,rdV,rdC] using this
theorem Uh (h:Rel n w0 Z0 st a w nm) {x:Operand} {s:List UInt8} (hx:evSt st x=some (.one (.val .str s))):a.eval x = .string ⟨s.toArray⟩:=by
 have:=ev_rd h hx
 simpa [rdD,rdA,rdV,rdC] using this
theorem rd_vI (Z:Nat→Prop) (objs:List (Nat×Ob)) (j:IntKind) (m:Int):rdD w Z nm objs (vI j m) (.int j m):=by simp [vI,rdD,rdA,rdV,rdC]
theorem rd_vB (Z:Nat→Prop) (objs:List (Nat×Ob)) (b:Bool):rdD w Z nm objs (vB b) (.bool b):=by simp [vB,rdD,rdA,rdV,rdC]
theorem rd_vS (Z:Nat→Prop) (objs:List (Nat×Ob)) (s:List UInt8):rdD w Z nm objs (vS s) (.string ⟨s.toArray⟩):=by simp [vS,rdD,rdA,rdV,rdC]
theorem ju {α β:Type} {p:Option α} {f:α→Option β} {x:β} (h:bnd p f=some x) : ∃ y,p=some y∧f y=some x:=by
 cases p with
 | none=>simp [bnd] at h
 | some y=>exact ⟨y,rfl,h⟩
theorem JB {b:Bool} {u:Unit} (h:okIf b=some u):b=true:=by cases b <;> simp [okIf] at h ⊢
abbrev EffOk (P:Program) (G:Env) (o:Oper):Prop:=
 TabOk P G.tab → ∀ {n:Nat} {w0 w:World} {Z0:Bs} {st:St} {a:Act} {nm:Names} {dst:Nat} {ρ:Type} {k:Eff→Option ρ} {r:ρ},
  Rel n w0 Z0 st a w nm→effK G o dst (evSt st) (look st.objs) k=some r → ∃ e,k e=some r∧Good P n w0 Z0 st a w o e
theorem eff_pick {c x y:Operand} (ho:o.op = .pick c x y):EffOk P G o:=by
 intro hT n w0 w Z0 st a nm dst ρ k r h he
 unfold effK at he
 rw [ho] at he
 simp only at he
 split at he
 ·rename_i b hb
  have hc:=UF h hb
  cases b with
  | true=>
    simp only [br] at he
    split at he
    ·rename_i d hd
     exact ⟨_,he,Good.pure h (v:=a.eval x) (by simp [execOp,ho,hc,asBool]) (ev_rd h hd)⟩
    ·cases he
  | false=>
    simp only [br] at he
    split at he
    ·rename_i d hd
     exact ⟨_,he,Good.pure h (v:=a.eval y) (by simp [execOp,ho,hc,asBool]) (ev_rd h hd)⟩
    ·cases he
 ·cases he
theorem run_eqGuard_no {op:BinOp} {t:TypeId} {x y:Operand} {u v:Value} (h:(∀ cs,u ≠ .agg cs)∧u ≠ .nilIface):(eqGuard op t x y u v).run P w = .ok () w:=by
 cases u with
 | nilIface=>exact absurd rfl h.2
 | agg cs=>exact absurd rfl (h.1 cs)
 | _=>cases op <;> simp [eqGuard]
theorem run_eqGuard_nil {op:BinOp} {t:TypeId} {x:Operand} {c v:Value} (h : ∀ cs,v ≠ .agg cs):(eqGuard op t x (.const c) v .nilIface).run P w = .ok () w:=by
 cases v with
 | agg cs=>exact absurd rfl (h cs)
 | _=>cases op <;> simp [eqGuard]
theorem run_equalIn_nil (d:Nat) {t:TypeId} {ms} (hu:P.underlying t=some (.interface ms)):(Op.equalIn (d+1) t .nilIface .nilIface).run P w = .ok true w:=by
 simp [Op.equalIn,run_underlying hu]
theorem run_equalIn_nn (d:Nat) {t:TypeId} {ms} (hu:P.underlying t=some (.interface ms)) (T:TypeId) (u:Value):(Op.equalIn (d+1) t (.iface T u) .nilIface).run P w = .ok false w:=by
 simp [Op.equalIn,run_underlying hu]
theorem Vm (s:List UInt8):(⟨s.toArray⟩:ByteArray).toList=s:=by rw [ByteArray.toList_eq]
theorem Vd : ∀ s t:List UInt8,Op.bytesLess s t=VT s t
 | [],[]=>rfl
 | [],_::_=>rfl
 | _::_,[]=>rfl
 | a::s,b::t=>by simp only [Op.bytesLess,VT,Vd s t]
theorem VE (s:List UInt8):(⟨s.toArray⟩:ByteArray).size=s.length:=by simp [ByteArray.size]
theorem append_mk (s t:List UInt8):(⟨s.toArray⟩:ByteArray)++⟨t.toArray⟩=⟨(s++t).toArray⟩:=by
 apply ByteArray.ext
 simp [ByteArray.data_append]
theorem binI_run {op:BinOp} {j:IntKind} {m q:Int} {kk:Dv→Option ρ} {xt:TypeId} (n1:op ≠ .shl) (n2:op ≠ .shr) (hs:binI op j m q kk=some r) :
 ∃ d v,kk d=some r∧(binOp op xt (.int j m) (.int j q)).run P w = .ok v w ∧ ∀ nm Z objs,rdD w Z nm objs d v:=by
 cases op <;> simp only [binI] at hs
 case shl=>exact absurd rfl n1
 case shr=>exact absurd rfl n2
 case quo=>
  obtain ⟨_,hb,hs⟩:=ju hs
  have hb:q≠0:=by simpa using JB hb
  exact ⟨_,_,hs,by simp only [binOp,ne_eq,not_true_eq_false,if_false,Op.intDiv,if_neg hb];rfl,fun _ _ _=>rd_vI _ _ _ _⟩
 case rem=>
  obtain ⟨_,hb,hs⟩:=ju hs
  have hb:q≠0:=by simpa using JB hb
  exact ⟨_,_,hs,by simp only [binOp,ne_eq,not_true_eq_false,if_false,Op.intDiv,if_neg hb];rfl,fun _ _ _=>rd_vI _ _ _ _⟩
 case eql=>exact ⟨_,_,hs,by simp only [binOp,ne_eq,not_true_eq_false,if_false];rfl,fun _ _ _=>rd_vB _ _ _⟩
 case neq=>exact ⟨_,_,hs,by simp only [binOp,ne_eq,not_true_eq_false,if_false];rfl,fun _ _ _=>rd_vB _ _ _⟩
 case lss=>exact ⟨_,_,hs,by simp only [binOp,ne_eq,not_true_eq_false,if_false];rfl,fun _ _ _=>rd_vB _ _ _⟩
 case leq=>exact ⟨_,_,hs,by simp only [binOp,ne_eq,not_true_eq_false,if_false];rfl,fun _ _ _=>rd_vB _ _ _⟩
 case gtr=>exact ⟨_,_,hs,by simp only [binOp,ne_eq,not_true_eq_false,if_false];rfl,fun _ _ _=>rd_vB _ _ _⟩
 case geq=>exact ⟨_,_,hs,by simp only [binOp,ne_eq,not_true_eq_false,if_false];rfl,fun _ _ _=>rd_vB _ _ _⟩
 all_goals exact ⟨_,_,hs,by simp only [binOp,ne_eq,not_true_eq_false,if_false];rfl,fun _ _ _=>rd_vI _ _ _ _⟩
theorem binS_run {op:BinOp} {s t:List UInt8} {kk:Dv→Option ρ} {xt:TypeId} (hs:binS op s t kk=some r) :
 ∃ d v,kk d=some r∧(binOp op xt (.string ⟨s.toArray⟩) (.string ⟨t.toArray⟩)).run P w = .ok v w ∧ ∀ nm Z objs,rdD w Z nm objs d v:=by
 cases op <;> simp only [binS] at hs
 case add=>
  obtain ⟨_,hb,hs⟩:=ju hs
  have hb:=of_decide_eq_true (JB hb)
  refine ⟨_,.string ⟨(s++t).toArray⟩,hs,?_,fun _ _ _=>rd_vS _ _ _⟩
  have hm : ¬ (((s.length+t.length:Nat):Int) > IntKind.i64.max):=by
   have:IntKind.i64.max=9223372036854775807:=rfl
   omega
  simp only [binOp,Op.stringOp,VE,if_neg hm,append_mk]
  rfl
 case eql=>exact ⟨_,_,hs,by simp only [binOp,Op.stringOp,Vm];rfl,fun _ _ _=>rd_vB _ _ _⟩
 case neq=>exact ⟨_,_,hs,by simp only [binOp,Op.stringOp,Vm];rfl,fun _ _ _=>rd_vB _ _ _⟩
 case lss=>exact ⟨_,_,hs,by simp only [binOp,Op.stringOp,Vm,Vd];rfl,fun _ _ _=>rd_vB _ _ _⟩
 case leq=>exact ⟨_,_,hs,by simp only [binOp,Op.stringOp,Vm,Vd];rfl,fun _ _ _=>rd_vB _ _ _⟩
 case gtr=>exact ⟨_,_,hs,by simp only [binOp,Op.stringOp,Vm,Vd];rfl,fun _ _ _=>rd_vB _ _ _⟩
 case geq=>exact ⟨_,_,hs,by simp only [binOp,Op.stringOp,Vm,Vd];rfl,fun _ _ _=>rd_vB _ _ _⟩
 all_goals cases hs
theorem run_equalIn_bool (d:Nat) {t:TypeId} (hu:P.underlying t=some .bool) (x y:Bool):(Op.equalIn (d+1) t (.bool x) (.bool y)).run P w = .ok (x == y) w:=by
 simp [Op.equalIn,run_underlying hu]
end
end Go.Ql
end

section
set_option linter.unusedSectionVars false
namespace Go.Ql
theorem Vb {w:World} {Z:Nat→Prop} {s:Ty} : ∀ {t:Ty} {d:t.den} {off:Nat} {y:s.den} {cs:List Value},Ty.sub s t d off=some y→rdC w Z t cs d →
 ∃ c1 c2 c3,cs=c1++c2++c3∧c1.length=off∧rdC w Z s c2 y:=by
 intro t
 induction t with
 | st t ih=>
   intro d off y cs hs hr
   simp only [Ty.sub] at hs
   split at hs
   ·rename_i h
    subst h
    split at hs
    ·rename_i h0
     cases hs
     exact ⟨[],cs,[],by simp,by simp [h0],hr⟩
    ·cases hs
   ·exact ih hs hr
 | pair a b iha ihb=>
   intro d off y cs hs hr
   obtain ⟨c1,c2,rfl,h1,h2⟩:=hr
   have l1:=Ji _ h1
   simp only [Ty.sub] at hs
   split at hs
   ·obtain ⟨x1,x2,x3,e,e1,e2⟩:=iha hs h1
    exact ⟨x1,x2,x3++c2,by rw [e];simp,e1,e2⟩
   ·obtain ⟨x1,x2,x3,e,e1,e2⟩:=ihb hs h2
    exact ⟨c1++x1,x2,x3,by rw [e];simp,by rw [List.length_append,l1,e1];omega,e2⟩
 | node t ih=>
   intro d off y cs hs hr
   obtain ⟨c1,c2,rfl,h1,h2⟩:=YV.1 hr
   have l1:=Ji _ h1
   simp only [Ty.sub] at hs
   split at hs
   ·obtain ⟨x1,x2,x3,e,e1,e2⟩:=ih hs h1
    exact ⟨x1,x2,x3++c2,by rw [e];simp,e1,e2⟩
   ·split at hs
    ·rename_i h
     subst h
     split at hs
     ·rename_i h0
      cases hs
      exact ⟨c1,c2,[],by simp,by rw [l1,h0],h2⟩
     ·cases hs
    ·cases hs
 | _=>
   intro d off y cs hs hr
   simp only [Ty.sub] at hs
   split at hs
   ·rename_i h
    subst h
    split at hs
    ·rename_i h0
     cases hs
     exact ⟨[],cs,[],by simp,by simp [h0],hr⟩
    ·cases hs
   ·cases hs
theorem YY {α:Type} (c1 c2 c3 x:List α) (off n:Nat) (h1:c1.length=off) (h2:c2.length=n) :
 (c1++c2++c3).take off++x++(c1++c2++c3).drop (off+n)=c1++x++c3:=by
 subst h1;subst h2
 simp [List.append_assoc]
theorem Ub {w:World} {Z:Nat→Prop} {s:Ty} {x:s.den} {cx:List Value} (hx:rdC w Z s cx x) : ∀ {t:Ty} {d d':t.den} {off:Nat} {cs:List Value},Ty.upd s x t d off=some d'→rdC w Z t cs d →
 ∃ c1 c2 c3,cs=c1++c2++c3∧c1.length=off∧c2.length=s.cells∧rdC w Z t (c1++cx++c3) d':=by
 intro t
 induction t with
 | st t ih=>
   intro d d' off cs hs hr
   simp only [Ty.upd] at hs
   split at hs
   ·rename_i h
    subst h
    split at hs
    ·rename_i h0
     cases hs
     exact ⟨[],cs,[],by simp,by simp [h0],Ji _ hr,by simpa using hx⟩
    ·cases hs
   ·exact ih hs hr
 | pair a b iha ihb=>
   intro d d' off cs hs hr
   obtain ⟨c1,c2,rfl,h1,h2⟩:=hr
   have l1:=Ji _ h1
   simp only [Ty.upd] at hs
   split at hs
   ·simp only [Option.map_eq_some_iff] at hs
    obtain ⟨y,hy,rfl⟩:=hs
    obtain ⟨x1,x2,x3,e,e1,e2,e3⟩:=iha hy h1
    exact ⟨x1,x2,x3++c2,by rw [e];simp,e1,e2,x1++cx++x3,c2,by simp,e3,h2⟩
   ·simp only [Option.map_eq_some_iff] at hs
    obtain ⟨y,hy,rfl⟩:=hs
    obtain ⟨x1,x2,x3,e,e1,e2,e3⟩:=ihb hy h2
    exact ⟨c1++x1,x2,x3,by rw [e];simp,by rw [List.length_append,l1,e1];omega,e2,c1,x1++cx++x3,by simp,h1,e3⟩
 | node t ih=>
   intro d d' off cs hs hr
   obtain ⟨c1,c2,rfl,h1,h2⟩:=YV.1 hr
   have l1:=Ji _ h1
   simp only [Ty.upd] at hs
   split at hs
   ·simp only [Option.map_eq_some_iff] at hs
    obtain ⟨y,hy,rfl⟩:=hs
    obtain ⟨x1,x2,x3,e,e1,e2,e3⟩:=ih hy h1
    exact ⟨x1,x2,x3++c2,by rw [e];simp,e1,e2,YV.2 ⟨x1++cx++x3,c2,by simp,e3,h2⟩⟩
   ·split at hs
    ·rename_i h
     subst h
     split at hs
     ·rename_i h0
      cases hs
      exact ⟨c1,c2,[],by simp,by rw [l1,h0],Ji _ h2,YV.2 ⟨c1,cx,by simp,h1,hx⟩⟩
     ·cases hs
    ·cases hs
 | _=>
   intro d d' off cs hs hr
   simp only [Ty.upd] at hs
   split at hs
   ·rename_i h
    subst h
    split at hs
    ·rename_i h0
     cases hs
     exact ⟨[],cs,[],by simp,by simp [h0],Ji _ hr,by simpa using hx⟩
    ·cases hs
   ·cases hs
theorem JN {α:Type} {p:List Value→α→Prop} : ∀ {l1 l2:List α} {cs:List Value},rdAll p cs (l1++l2) ↔ ∃ c1 c2,cs=c1++c2∧rdAll p c1 l1∧rdAll p c2 l2
 | [],l2,cs=>⟨fun h=>⟨[],cs,rfl,rfl,h⟩,fun ⟨c1,c2,e,h1,h2⟩=>by simp only [rdAll] at h1;subst h1;simpa [e] using h2⟩
 | x::l1,l2,cs=>by
   constructor
   ·rintro ⟨c1,c2,e,h1,h2⟩
    obtain ⟨d1,d2,e',h3,h4⟩:=JN.1 h2
    exact ⟨c1++d1,d2,by rw [e,e',List.append_assoc],⟨c1,d1,rfl,h1,h3⟩,h4⟩
   ·rintro ⟨c1,c2,e,⟨d1,d2,e',h1,h2⟩,h3⟩
    exact ⟨d1,d2++c2,by rw [e,e',List.append_assoc],h1,JN.2 ⟨d2,c2,rfl,h2,h3⟩⟩
theorem kI {α:Type} {p:List Value→α→Prop} {n:Nat} (hp : ∀ cs x,p cs x→cs.length=n) {l:List α} {cs:List Value} (h:rdAll p cs l) {i:Nat} {x:α} (hx:l[i]? = some x) :
 ∃ c1 c2 c3,cs=c1++c2++c3∧c1.length=i*n∧p c2 x∧rdAll p c1 (l.take i)∧rdAll p c3 (l.drop (i+1)):=by
 have hi:i < l.length:=(List.getElem?_eq_some_iff.1 hx).1
 have hl:l=l.take i++(x::l.drop (i+1)):=by
  have:l[i]=x:=(List.getElem?_eq_some_iff.1 hx).2
  rw [← this,List.getElem_cons_drop,List.take_append_drop]
 rw [hl] at h
 obtain ⟨c1,c2,e,h1,c3,c4,e',h2,h3⟩:=JN.1 h
 refine ⟨c1,c3,c4,by rw [e,e',List.append_assoc],?_,h2,h1,h3⟩
 rw [Yc hp h1,List.length_take]
 congr 1
 omega
theorem JQ {α:Type} {xs:List α} {i:Int} {x:α} (h:idx xs i=some x):0≤i∧i.toNat < xs.length∧xs[i.toNat]? = some x:=by
 unfold idx at h
 by_cases h0:0≤i
 ·simp only [h0,decide_true,cond_true] at h
  exact ⟨h0,(List.getElem?_eq_some_iff.1 h).1,h⟩
 ·simp [h0] at h
def rdS (w:World) (Z:Nat→Prop) (t:Ty) (v:Value) (xs:List t.den):Prop:=
 (v = .slice none 0 0∧xs=[]) ∨
 (∃ b off cap cells,v = .slice (some ⟨b,off,none⟩) xs.length cap∧xs.length≤cap∧cap≤maxLen∧rdAll (rdC w Z t) cells xs ∧ ∀ j u,cells[j]? = some u→w.cell? ⟨b,off+j,none⟩=some u) ∨
 ∃ ad cap,v = .slice (some ad) 0 cap∧xs=[]∧cap≤maxLen
theorem rdS_val {w:World} {Z:Nat→Prop} {t:Ty} {v:Value} {xs:List t.den} (h:rdV w Z (.sl t) v xs):rdS w Z t v xs:=by
 obtain ⟨u,e,hr⟩:=h
 simp only [List.cons.injEq,and_true] at e
 subst e
 rcases hr with ⟨h1,h2⟩ | ⟨b,off,cap,cells,h1,h2,h3,h4,h5,h6⟩ | h
 ·exact .inl ⟨h1,h2⟩
 ·exact .inr (.inl ⟨b,off,cap,cells,h1,h2,h3,h5,h6⟩)
 ·exact .inr (.inr h)
theorem ownsM_rdS {w:World} {Z:Nat→Prop} {t:Ty} {v:Value} {xs:List t.den} {e:TypeId} {cells:List Value} (h:w.ownsM e t.cells v xs.length cells) (hr:rdAll (rdC w Z t) cells xs):rdS w Z t v xs:=by
 rcases h.2 with ⟨h1,h2⟩ | ⟨g,cap,cur,h1,h3,h4,h5,h6,h7⟩
 ·exact .inl ⟨h1,List.eq_nil_of_length_eq_zero h2⟩
 ·refine .inr (.inl ⟨g,0,cap,cells,h1,h4,h5,hr,fun j u hj => ?_⟩)
  rw [Nat.zero_add,h3.cell]
  rw [← h7,List.getElem?_take] at hj
  split at hj
  ·simpa using hj
  ·cases hj
theorem Uj {lo m:Int} {l:Nat} (h:inWin lo m l=true):0≤lo∧0≤m∧lo.toNat+m.toNat≤l:=by
 unfold inWin at h
 simp only [Bool.and_eq_true,decide_eq_true_eq] at h
 exact ⟨h.1.1,h.1.2,Nat.le_of_ble_eq_true h.2⟩
theorem part_len {α:Type} {lo m:Int} {xs:List α} (h:inWin lo m xs.length=true):(part lo m xs).length=m.toNat:=by
 obtain ⟨_,_,h3⟩:=Uj h
 unfold part
 rw [List.length_take,List.length_drop];omega
theorem win_rd {w:World} {Z:Nat→Prop} {t:Ty} {v u:Value} {lo m:Int} {xs:List t.den} {e:TypeId} {cells:List Value} (h:w.ownsM e t.cells v xs.length cells) (hr:rdAll (rdC w Z t) cells xs)
 (hw:winOf v t.cells lo m u) (hi:inWin lo m xs.length=true) :
 (u = .slice none 0 0∧part lo m xs=[]) ∨ ∃ b g c cs,u = .slice (some ⟨b,g,none⟩) (part lo m xs).length c∧(part lo m xs).length≤c∧c≤maxLen∧blk v=some b ∧
  rdAll (rdC w Z t) cs (part lo m xs) ∧ ∀ j x,cs[j]? = some x→w.cell? ⟨b,g+j,none⟩=some x:=by
 obtain ⟨i1,i2,i3⟩:=Uj hi
 have hl:=part_len hi
 rcases hw with ⟨_,h2,h3⟩ | ⟨b,q,c,g,c',h1,h2,h3,h4,h5⟩
 ·refine .inl ⟨h2,List.eq_nil_of_length_eq_zero (by rw [hl,h3];rfl)⟩
 ·right
  rcases h.2 with ⟨e1,_⟩ | ⟨g',cap,cur,e1,e3,e4,e5,e6,e7⟩
  ·rw [e1] at h1;cases h1
  ·rw [e1] at h1
   cases h1
   have hsplit:xs=xs.take lo.toNat++(part lo m xs++(xs.drop lo.toNat).drop m.toNat):=by
    unfold part
    rw [List.take_append_drop,List.take_append_drop]
   have hr':=hr
   rw [hsplit] at hr'
   obtain ⟨c1,c2,f1,r1,r2⟩:=JN.1 hr'
   obtain ⟨c3,c4,f2,r3,r4⟩:=JN.1 r2
   have l1:c1.length=lo.toNat*t.cells:=by
    rw [Yc (fun _ _=>Ji t) r1,List.length_take]
    congr 1;omega
   refine ⟨b,g,c',c3,by rw [h2,hl],by rw [hl];exact h4,h5,by rw [e1];rfl,r3,fun j x hj => ?_⟩
   have l3:c3.length=m.toNat*t.cells:=by rw [Yc (fun _ _=>Ji t) r3,hl]
   have hm:0 < m:=by
    have:=(List.getElem?_eq_some_iff.1 hj).1
    rw [l3] at this
    rcases Nat.eq_zero_or_pos m.toNat with h0 | h0
    ·rw [h0,Nat.zero_mul] at this;omega
    ·omega
   rw [h3 hm,e3.cell]
   have:cells[lo.toNat*t.cells+j]? = some x:=by
    rw [f1,f2,← l1,List.getElem?_append_right (by omega),Nat.add_sub_cancel_left,List.getElem?_append_left (List.getElem?_eq_some_iff.1 hj).1]
    exact hj
   rw [← e7,List.getElem?_take] at this
   split at this
   ·simpa using this
   ·cases this
section
variable [GInv] {P:Program} {G:Env} {n:Nat} {w0 w:World} {Z0:Bs} {st:St} {a:Act} {nm:Names} {o:Oper} {dst:Nat} {ρ:Type} {k:Eff→Option ρ} {r:ρ}
theorem YE (h:Rel n w0 Z0 st a w nm) {kk:(t:Ty)→List t.den→Option ρ} {x:Operand} {d:Dv} (hx:evSt st x=some d) (ha:kP (look st.objs) kk d=some r) :
 ∃ t xs,kk t xs=some r∧rdS w (Zc w0 Z0 nm st.objs w) t (a.eval x) xs:=by
 have hr:=ev_rd h hx
 unfold kP at ha
 split at ha
 ·exact ⟨_,_,ha,rdS_val hr⟩
 ·rename_i id ver
  split at ha
  ·rename_i v fz e t xs hl
   cases hv:(Nat.beq v ver && !t.isMap) with
   | false=>rw [hv] at ha;cases ha
   | true=>
     rw [hv] at ha
     rw [Bool.and_eq_true,Bool.not_eq_true'] at hv
     obtain ⟨hv,hmap⟩:=hv
     have:=beqN.1 hv
     subst this
     have hv:=hr.2 fz e t xs hl
     obtain ⟨cells,h1,h2⟩:=(h.objs id _ hl).sl hmap
     refine ⟨t,xs,ha,?_⟩
     rw [hv]
     exact ownsM_rdS h1 h2
  ·cases ha
 ·rename_i id ver lo m
  split at ha
  ·rename_i v fz e t xs hl
   cases hv:(Nat.beq v ver && !t.isMap) with
   | false=>rw [hv] at ha;cases ha
   | true=>
     rw [hv] at ha
     rw [Bool.and_eq_true,Bool.not_eq_true'] at hv
     obtain ⟨hv,hmap⟩:=hv
     have:=beqN.1 hv
     subst this
     obtain ⟨hw,hi⟩:=hr.2 fz e t xs hl
     obtain ⟨cells,h1,h2⟩:=(h.objs id _ hl).sl hmap
     refine ⟨t,_,ha,?_⟩
     rcases win_rd h1 h2 hw hi with hh | ⟨b,g,c,cs,q1,q2,q3,_,q4,q5⟩
     ·exact .inl hh
     ·exact .inr (.inl ⟨b,g,c,cs,q1,q2,q3,q4,q5⟩)
  ·cases ha
 ·cases ha
theorem eff_unOp {op:UnOp} {xt:TypeId} {x:Operand} (ho:o.op = .unOp op xt x):EffOk P G o:=by
 intro hT n w0 w Z0 st a nm dst ρ k r h he
 unfold effK at he
 rw [ho] at he
 simp only at he
 split at he
 ·rename_i b hb
  have e1:=UF h hb
  cases op <;> simp only at he
  case not=>exact ⟨_,he,Good.pure h (v:=.bool (!b)) (by simp [execOp,ho,e1,Op.unary]) (rd_vB ..)⟩
  all_goals cases he
 ·rename_i j m hb
  have e1:=Yk h hb
  cases op <;> simp only at he
  case neg=>exact ⟨_,he,Good.pure h (v:=.int j (j.wrap (0 - m))) (by simp [execOp,ho,e1,Op.unary,Op.intArith]) (rd_vI ..)⟩
  case xor=>
   refine ⟨_,he,Good.pure h (v:=.int j (ibits .xor j (bif j.signed then -1 else j.max) m)) ?_ (rd_vI ..)⟩
   have:(if j.signed=true then (-1:Int) else j.max)=(bif j.signed then -1 else j.max):=by cases j.signed <;> rfl
   simp only [execOp,ho,e1,Op.unary,this]
   rfl
  all_goals cases he
 ·cases he
theorem eff_extract {x:Operand} {i:Nat} (ho:o.op = .extract x i):EffOk P G o:=by
 intro hT n w0 w Z0 st a nm dst ρ k r h he
 unfold effK at he
 rw [ho] at he
 simp only at he
 split at he
 ·rename_i l hl
  split at he
  ·rename_i q hq
   obtain ⟨vs,e,h1,h2⟩:=ev_rd h hl
   have hi:i < vs.toList.length:=by rw [h1];exact (List.getElem?_eq_some_iff.1 hq).1
   have hv:vs[i]? = some vs.toList[i]:=by rw [← Array.getElem?_toList];exact List.getElem?_eq_getElem hi
   exact ⟨_,he,Good.pure h (v:=vs.toList[i]) (by simp [execOp,ho,e,Instr.extract,hv]) (h2 i q _ hq (by rw [List.getElem?_eq_getElem hi]))⟩
  ·cases he
 ·rename_i m l hl
  obtain ⟨vs,c0,r0,e,e1,e2,h1,h2⟩:=ev_rd h hl
  cases i with
  | zero=>
    have hv:vs[0]? = some (.agg c0):=by rw [← Array.getElem?_toList,e1];rfl
    refine ⟨_,he,Good.pure h (v:=.agg c0) (by simp [execOp,ho,e,Instr.extract,hv]) ⟨c0,rfl,⟨?_,fun i q u hq hu => ?_⟩,h2⟩⟩
    ·have:=h1.1
     rw [List.length_append] at this
     rw [List.length_take];omega
    ·rw [List.getElem?_take] at hq
     split at hq
     ·rename_i hi
      refine h1.2 i q u hq ?_
      rw [List.getElem?_append_left (by omega)]
      exact hu
     ·cases hq
  | succ i=>
    simp only at he
    split at he
    ·rename_i q hq
     rw [List.getElem?_drop] at hq
     have hi:i < r0.length:=by
      have h3:=(List.getElem?_eq_some_iff.1 hq).1
      have h4:=h1.1
      rw [List.length_append] at h4
      omega
     have hv:vs[i+1]? = some r0[i]:=by rw [← Array.getElem?_toList,e1];simp [List.getElem?_eq_getElem hi]
     refine ⟨_,he,Good.pure h (v:=r0[i]) (by simp [execOp,ho,e,Instr.extract,hv]) (h1.2 (m+i) q _ hq ?_)⟩
     rw [List.getElem?_append_right (by omega),e2,Nat.add_sub_cancel_left,List.getElem?_eq_getElem hi]
    ·cases he
 ·cases he
end
end Go.Ql
end

section
set_option linter.unusedSectionVars false
namespace Go.Ql
section
variable {w:World} {Z:Nat→Prop} {te:TypeId}
theorem Uc : ∀ {t:Ty} {cs:List Value} {d:t.den} {us:List Value},rdI w Z te t cs d us→cs.length=t.cells∧us.length=t.cells:=by
 intro t
 induction t with
 | sl s ih=>rintro cs d us ⟨_,v,es,h1,h2,_⟩;simp [h1,h2,Ty.cells]
 | st t ih=>exact fun h=>ih h
 | pair a b iha ihb=>
   rintro cs d us ⟨c1,c2,u1,u2,h1,h2,h3,h4⟩
   simp [h1,h2,Ty.cells,iha h3,ihb h4]
 | _=>exact fun h=>⟨Ji _ h.2.1,by rw [h.2.2,List.length_map];exact Ji _ h.2.1⟩
theorem Va {e:TypeId} {size n:Nat} {v:Value} {xs:List Value} (h:w.ownsM e size v n xs):v.oneCell'=true:=by
 rcases h.2 with ⟨rfl,_⟩ | ⟨g,c,cur,rfl,_⟩ <;> rfl
theorem rdI_one : ∀ {t:Ty} {cs:List Value} {d:t.den} {us:List Value},rdI w Z te t cs d us → ∀ u∈cs,u.oneCell'=true:=by
 intro t
 induction t with
 | sl s ih=>
   rintro cs d us ⟨_,v,es,h1,h2,h3,_⟩ u hu
   rw [h1,List.mem_singleton] at hu
   rw [hu];exact Va h3
 | st t ih=>exact fun h=>ih h
 | pair a b iha ihb=>
   rintro cs d us ⟨c1,c2,u1,u2,h1,h2,h3,h4⟩ u hu
   rw [h1,List.mem_append] at hu
   exact hu.elim (iha h3 u) (ihb h4 u)
 | _=>exact fun h=>kC _ h.2.1
theorem rdIs_one {t:Ty} : ∀ {xs:List t.den} {cs us:List Value},rdIs w Z te t cs xs us → ∀ u∈cs,u.oneCell'=true
 | [],_,_,h,u,hu=>by rw [h.1] at hu;cases hu
 | _::_,_,_,⟨c1,c2,u1,u2,h1,h2,h3,h4⟩,u,hu=>by
   rw [h1,List.mem_append] at hu
   exact hu.elim (rdI_one h3 u) (rdIs_one h4 u)
theorem rdIs_append {t:Ty} : ∀ {xs ys:List t.den} {cs ds us vs:List Value},rdIs w Z te t cs xs us→rdIs w Z te t ds ys vs→rdIs w Z te t (cs++ds) (xs++ys) (us++vs)
 | [],_,_,_,_,_,h,k=>by rw [h.1,h.2];exact k
 | _::_,_,_,_,_,_,⟨c1,c2,u1,u2,h1,h2,h3,h4⟩,k=>⟨c1,c2++_,u1,u2++_,by rw [h1,List.append_assoc],by rw [h2,List.append_assoc],h3,rdIs_append h4 k⟩
theorem rdIs_single {t:Ty} {x:t.den} {cs us:List Value} (h:rdI w Z te t cs x us):rdIs w Z te t cs [x] us:=⟨cs,[],us,[],by simp,by simp,h,rfl,rfl⟩
theorem rdIs_at {t:Ty} : ∀ {xs:List t.den} {cs us:List Value} {i:Nat} {x:t.den},rdIs w Z te t cs xs us→xs[i]? = some x →
 ∃ c1 c2 c3 u1 u2 u3,cs=c1++c2++c3∧us=u1++u2++u3∧c1.length=i*t.cells∧u1.length=i*t.cells∧rdI w Z te t c2 x u2 ∧
  ∀ x' c2' u2',rdI w Z te t c2' x' u2'→rdIs w Z te t (c1++c2'++c3) (xs.set i x') (u1++u2'++u3)
 | [],_,_,_,_,_,h=>by simp at h
 | y::r,_,_,0,x,⟨c1,c2,u1,u2,h1,h2,h3,h4⟩,h=>by
   simp only [List.getElem?_cons_zero,Option.some.injEq] at h
   subst h
   exact ⟨[],c1,c2,[],u1,u2,h1,h2,by simp,by simp,h3,fun x' c2' u2' hx=>⟨c2',c2,u2',u2,rfl,rfl,hx,h4⟩⟩
 | y::r,_,_,i+1,x,⟨c1,c2,u1,u2,h1,h2,h3,h4⟩,h=>by
   simp only [List.getElem?_cons_succ] at h
   obtain ⟨d1,d2,d3,e1,e2,e3,g1,g2,g3,g4,g5,g6⟩:=rdIs_at h4 h
   have hl:=Uc h3
   refine ⟨c1++d1,d2,d3,u1++e1,e2,e3,by simp [h1,g1],by simp [h2,g2],?_,?_,g5,fun x' c2' u2' hx=>⟨c1,d1++c2'++d3,u1,e1++u2'++e3,by simp,by simp,h3,g6 _ _ _ hx⟩⟩
   ·rw [List.length_append,hl.1,g3,Nat.succ_mul];omega
   ·rw [List.length_append,hl.2,g4,Nat.succ_mul];omega
theorem rdI_free : ∀ {t:Ty} {cs:List Value} {d:t.den} {us:List Value},t.free=true→(rdI w Z te t cs d us↔rdC w Z t cs d∧us=cs.map fun _ => .nilIface):=by
 intro t
 induction t with
 | sl s ih=>intro cs d us h;cases h
 | st t ih=>exact fun h=>ih h
 | pair a b iha ihb=>
   intro cs d us h
   simp only [Ty.free,Bool.and_eq_true] at h
   constructor
   ·rintro ⟨c1,c2,u1,u2,h1,h2,h3,h4⟩
    have k3:=(iha h.1).1 h3
    have k4:=(ihb h.2).1 h4
    exact ⟨⟨c1,c2,h1,k3.1,k4.1⟩,by rw [h1,h2,k3.2,k4.2,List.map_append]⟩
   ·rintro ⟨⟨c1,c2,h1,h2,h3⟩,h4⟩
    exact ⟨c1,c2,_,_,h1,by rw [h4,h1,List.map_append],(iha h.1).2 ⟨h2,rfl⟩,(ihb h.2).2 ⟨h3,rfl⟩⟩
 | _=>exact fun h=>⟨fun k=>k.2,fun k=>⟨h,k⟩⟩
theorem rdI_slot {s:Ty} : ∀ {t:Ty} {x:t.den} {off:Nat} {ys:List s.den} {cs us:List Value},Ty.sub (.sl s) t x off=some ys→rdI w Z te t cs x us →
 ∃ d1 v d3 e1 e3 es,cs=d1++[v]++d3∧us=e1++[v]++e3∧d1.length=off∧e1.length=off∧s.isMap=false∧w.ownsM te s.cells v ys.length es∧rdAll (rdC w Z s) es ys:=by
 intro t
 induction t with
 | sl s' ih=>
   rintro x off ys cs us hs ⟨h0,v,es,h1,h2,h3,h4⟩
   simp only [Ty.sub] at hs
   split at hs
   ·rename_i h
    cases h
    split at hs
    ·rename_i ho
     cases hs
     exact ⟨[],v,[],[],[],es,by simp [h1],by simp [h2],by simp [ho],by simp [ho],h0,h3,h4⟩
    ·cases hs
   ·cases hs
 | st t ih=>
   intro x off ys cs us hs h
   simp only [Ty.sub] at hs
   split at hs
   ·rename_i h;cases h
   ·exact ih hs h
 | pair a b iha ihb=>
   rintro x off ys cs us hs ⟨c1,c2,u1,u2,h1,h2,h3,h4⟩
   have l1:=Uc h3
   simp only [Ty.sub] at hs
   split at hs
   ·obtain ⟨d1,v,d3,e1,e3,es,g1,g2,g3,g4,g5⟩:=iha hs h3
    exact ⟨d1,v,d3++c2,e1,e3++u2,es,by simp [h1,g1],by simp [h2,g2],g3,g4,g5⟩
   ·obtain ⟨d1,v,d3,e1,e3,es,g1,g2,g3,g4,g5⟩:=ihb hs h4
    exact ⟨c1++d1,v,d3,u1++e1,e3,es,by simp [h1,g1],by simp [h2,g2],by rw [List.length_append,l1.1];omega,by rw [List.length_append,l1.2];omega,g5⟩
 | node t ih=>intro x off ys cs us hs h;cases h.1
 | _=>
   intro x off ys cs us hs h
   simp only [Ty.sub] at hs
   split at hs
   ·rename_i h;cases h
   ·cases hs
theorem rdI_put {s:Ty} : ∀ {t:Ty} {x x':t.den} {off:Nat} {ys:List s.den} {cs us:List Value},Ty.upd (.sl s) (show (Ty.sl s).den from ys) t x off=some x'→rdI w Z te t cs x us →
 ∃ d1 v d3 e1 e3,cs=d1++[v]++d3∧us=e1++[v]++e3∧d1.length=off∧e1.length=off∧s.isMap=false ∧ ∀ nv es,w.ownsM te s.cells nv ys.length es→rdAll (rdC w Z s) es ys→rdI w Z te t (d1++[nv]++d3) x' (e1++[nv]++e3):=by
 intro t
 induction t with
 | sl s' ih=>
   rintro x x' off ys cs us hs ⟨h0,v,es,h1,h2,h3,h4⟩
   simp only [Ty.upd] at hs
   split at hs
   ·rename_i h
    cases h
    split at hs
    ·rename_i ho
     cases hs
     exact ⟨[],v,[],[],[],by simp [h1],by simp [h2],by simp [ho],by simp [ho],h0,fun nv es k1 k2=>⟨h0,nv,es,rfl,rfl,k1,k2⟩⟩
    ·cases hs
   ·cases hs
 | st t ih=>
   intro x x' off ys cs us hs h
   simp only [Ty.upd] at hs
   split at hs
   ·rename_i h;cases h
   ·exact ih hs h
 | pair a b iha ihb=>
   rintro x x' off ys cs us hs ⟨c1,c2,u1,u2,h1,h2,h3,h4⟩
   have l1:=Uc h3
   simp only [Ty.upd] at hs
   split at hs
   ·simp only [Option.map_eq_some_iff] at hs
    obtain ⟨y,hy,rfl⟩:=hs
    obtain ⟨d1,v,d3,e1,e3,g1,g2,g3,g4,g5,g6⟩:=iha hy h3
    exact ⟨d1,v,d3++c2,e1,e3++u2,by simp [h1,g1],by simp [h2,g2],g3,g4,g5,fun nv es k1 k2=>⟨_,c2,_,u2,by simp,by simp,g6 nv es k1 k2,h4⟩⟩
   ·simp only [Option.map_eq_some_iff] at hs
    obtain ⟨y,hy,rfl⟩:=hs
    obtain ⟨d1,v,d3,e1,e3,g1,g2,g3,g4,g5,g6⟩:=ihb hy h4
    exact ⟨c1++d1,v,d3,u1++e1,e3,by simp [h1,g1],by simp [h2,g2],by rw [List.length_append,l1.1];omega,by rw [List.length_append,l1.2];omega,g5,fun nv es k1 k2=>⟨c1,_,u1,_,by simp,by simp,h3,g6 nv es k1 k2⟩⟩
 | node t ih=>intro x x' off ys cs us hs h;cases h.1
 | _=>
   intro x x' off ys cs us hs h
   simp only [Ty.upd] at hs
   split at hs
   ·rename_i h;cases h
   ·cases hs
theorem upd_of_sub {s:Ty} : ∀ {t:Ty} {x:t.den} {off:Nat} {ys:List s.den} (zs:List s.den),Ty.sub (.sl s) t x off=some ys → ∃ x',Ty.upd (.sl s) (show (Ty.sl s).den from zs) t x off=some x':=by
 intro t
 induction t with
 | sl s' ih=>
   intro x off ys zs hs
   simp only [Ty.sub] at hs
   split at hs
   ·rename_i h
    cases h
    split at hs
    ·rename_i ho
     exact ⟨zs,by simp [Ty.upd,ho]⟩
    ·cases hs
   ·cases hs
 | st t ih=>
   intro x off ys zs hs
   simp only [Ty.sub] at hs
   split at hs
   ·rename_i h;cases h
   ·obtain ⟨x',hx⟩:=ih zs hs
    exact ⟨x',by simp only [Ty.upd];rw [dif_neg (by simp)];exact hx⟩
 | pair a b iha ihb=>
   intro x off ys zs hs
   simp only [Ty.sub] at hs
   simp only [Ty.upd]
   split at hs
   ·rename_i h
    obtain ⟨x',hx⟩:=iha zs hs
    rw [if_pos h,hx]
    exact ⟨_,rfl⟩
   ·rename_i h
    obtain ⟨x',hx⟩:=ihb zs hs
    rw [if_neg h,hx]
    exact ⟨_,rfl⟩
 | node t ih=>
   intro x off ys zs hs
   simp only [Ty.sub] at hs
   simp only [Ty.upd]
   split at hs
   ·rename_i h
    obtain ⟨x',hx⟩:=ih zs hs
    rw [if_pos h,hx]
    exact ⟨_,rfl⟩
   ·rename_i h
    rw [if_neg h]
    split at hs
    ·rename_i h1
     cases h1
     split at hs
     ·rename_i h2
      simp [h2]
     ·cases hs
    ·cases hs
 | _=>
   intro x off ys zs hs
   simp only [Ty.sub] at hs
   split at hs
   ·rename_i h;cases h
   ·cases hs
theorem upd_upd {s:Ty} {zs:List s.den} : ∀ {t:Ty} {x x0 x':t.den} {off:Nat} {ys:List s.den},Ty.upd (.sl s) (show (Ty.sl s).den from zs) t x off=some x0→Ty.upd (.sl s) (show (Ty.sl s).den from ys) t x off=some x' →
 Ty.upd (.sl s) (show (Ty.sl s).den from ys) t x0 off=some x':=by
 intro t
 induction t with
 | sl s' ih=>
   intro x x0 x' off ys h1 h2
   simp only [Ty.upd] at h1 h2 ⊢
   exact h2
 | st t ih=>
   intro x x0 x' off ys h1 h2
   simp only [Ty.upd] at h1 h2 ⊢
   rw [dif_neg (by simp)] at h1 h2 ⊢
   exact ih h1 h2
 | pair a b iha ihb=>
   intro x x0 x' off ys h1 h2
   simp only [Ty.upd] at h1 h2 ⊢
   split at h1
   ·rename_i h
    rw [if_pos h] at h2 ⊢
    simp only [Option.map_eq_some_iff] at h1 h2
    obtain ⟨y1,e1,rfl⟩:=h1
    obtain ⟨y2,e2,rfl⟩:=h2
    rw [iha e1 e2];rfl
   ·rename_i h
    rw [if_neg h] at h2 ⊢
    simp only [Option.map_eq_some_iff] at h1 h2
    obtain ⟨y1,e1,rfl⟩:=h1
    obtain ⟨y2,e2,rfl⟩:=h2
    rw [ihb e1 e2];rfl
 | node t ih=>
   intro x x0 x' off ys h1 h2
   simp only [Ty.upd] at h1 h2 ⊢
   split at h1
   ·rename_i h
    rw [if_pos h] at h2 ⊢
    simp only [Option.map_eq_some_iff] at h1 h2
    obtain ⟨y1,e1,rfl⟩:=h1
    obtain ⟨y2,e2,rfl⟩:=h2
    simp only [Rose.head,Rose.kids]
    rw [ih e1 e2];rfl
   ·rename_i h
    rw [if_neg h] at h2 ⊢
    split at h1
    ·rename_i h3
     cases h3
     split at h1
     ·cases h1
      simpa [Rose.head] using h2
     ·cases h1
    ·cases h1
 | _=>
   intro x x0 x' off ys h1 h2
   simp only [Ty.upd] at h1
   split at h1
   ·rename_i h;cases h
   ·cases h1
theorem rdI_sub {s:Ty} (hf:s.free=true) : ∀ {t:Ty} {d:t.den} {off:Nat} {y:s.den} {cs us:List Value},Ty.sub s t d off=some y→rdI w Z te t cs d us →
 ∃ c1 c2 c3,cs=c1++c2++c3∧c1.length=off∧rdC w Z s c2 y:=by
 intro t
 induction t with
 | sl s' ih=>
   intro d off y cs us hs h
   simp only [Ty.sub] at hs
   split at hs
   ·rename_i h;cases h;cases hf
   ·cases hs
 | st t ih=>
   intro d off y cs us hs h
   simp only [Ty.sub] at hs
   split at hs
   ·rename_i h1
    subst h1
    split at hs
    ·rename_i h0
     cases hs
     exact ⟨[],cs,[],by simp,by simp [h0],((rdI_free hf).1 h).1⟩
    ·cases hs
   ·exact ih hs h
 | pair a b iha ihb=>
   rintro d off y cs us hs ⟨c1,c2,u1,u2,h1,h2,h3,h4⟩
   have l1:=Uc h3
   simp only [Ty.sub] at hs
   split at hs
   ·obtain ⟨x1,x2,x3,e,e1,e2⟩:=iha hs h3
    exact ⟨x1,x2,x3++c2,by rw [h1,e];simp,e1,e2⟩
   ·obtain ⟨x1,x2,x3,e,e1,e2⟩:=ihb hs h4
    exact ⟨c1++x1,x2,x3,by rw [h1,e];simp,by rw [List.length_append,l1.1,e1];omega,e2⟩
 | node t ih=>intro d off y cs us hs h;cases h.1
 | _=>exact fun hs h=>Vb hs h.2.1
theorem rdI_upd {s:Ty} (hf:s.free=true) {x:s.den} {cx:List Value} (hx:rdC w Z s cx x) : ∀ {t:Ty} {d d':t.den} {off:Nat} {cs us:List Value},Ty.upd s x t d off=some d'→rdI w Z te t cs d us →
 ∃ c1 c2 c3,cs=c1++c2++c3∧c1.length=off∧c2.length=s.cells∧rdI w Z te t (c1++cx++c3) d' us:=by
 have hcx:=Ji _ hx
 intro t
 induction t with
 | sl s' ih=>
   intro d d' off cs us hs h
   simp only [Ty.upd] at hs
   split at hs
   ·rename_i h;cases h;cases hf
   ·cases hs
 | st t ih=>
   intro d d' off cs us hs h
   simp only [Ty.upd] at hs
   split at hs
   ·rename_i h1
    subst h1
    split at hs
    ·rename_i h0
     cases hs
     have h1:=(rdI_free hf).1 h
     have h2:=Ji _ h1.1
     refine ⟨[],cs,[],by simp,by simp [h0],h2,?_⟩
     simp only [List.nil_append,List.append_nil]
     exact (rdI_free hf).2 ⟨hx,by rw [h1.2,List.map_const',List.map_const',h2,hcx]⟩
    ·cases hs
   ·exact ih hs h
 | pair a b iha ihb=>
   rintro d d' off cs us hs ⟨c1,c2,u1,u2,h1,h2,h3,h4⟩
   have l1:=Uc h3
   simp only [Ty.upd] at hs
   split at hs
   ·simp only [Option.map_eq_some_iff] at hs
    obtain ⟨y,hy,rfl⟩:=hs
    obtain ⟨x1,x2,x3,e,e1,e2,e3⟩:=iha hy h3
    exact ⟨x1,x2,x3++c2,by rw [h1,e];simp,e1,e2,x1++cx++x3,c2,u1,u2,by simp,h2,e3,h4⟩
   ·simp only [Option.map_eq_some_iff] at hs
    obtain ⟨y,hy,rfl⟩:=hs
    obtain ⟨x1,x2,x3,e,e1,e2,e3⟩:=ihb hy h4
    exact ⟨c1++x1,x2,x3,by rw [h1,e];simp,by rw [List.length_append,l1.1,e1];omega,e2,c1,x1++cx++x3,u1,u2,by simp,h2,h3,e3⟩
 | node t ih=>intro d d' off cs us hs h;cases h.1
 | _=>
   intro d d' off cs us hs h
   obtain ⟨c1,c2,c3,e,e1,e2,e3⟩:=Ub hx hs h.2.1
   refine ⟨c1,c2,c3,e,e1,e2,h.1,e3,?_⟩
   rw [h.2.2,List.map_const',List.map_const',e]
   simp [e2,hcx]
theorem rdI_data : ∀ {t:Ty} {cs:List Value} {d:t.den} {us:List Value},(∀ u∈us,∀ b,blk u=some b→Z b)→rdI w Z te t cs d us→rdC w Z t cs d:=by
 intro t
 induction t with
 | sl s ih=>
   rintro cs d us hz ⟨h0,v,es,h1,h2,h3,h4⟩
   refine ⟨v,h1,?_⟩
   rcases h3.2 with ⟨e1,e2⟩ | ⟨g,cap,cur,e1,e3,e4,e5,e6,e7⟩
   ·exact .inl ⟨e1,List.eq_nil_of_length_eq_zero e2⟩
   ·refine .inr (.inl ⟨g,0,cap,es,e1,e4,e5,hz v (by simp [h2]) g (by rw [e1];rfl),h4,fun j u hj => ?_⟩)
    rw [Nat.zero_add,e3.cell]
    rw [← e7,List.getElem?_take] at hj
    split at hj
    ·simpa using hj
    ·cases hj
 | st t ih=>exact fun hz h=>ih hz h
 | pair a b iha ihb=>
   rintro cs d us hz ⟨c1,c2,u1,u2,h1,h2,h3,h4⟩
   exact ⟨c1,c2,h1,iha (fun u hu=>hz u (by simp [h2,hu])) h3,ihb (fun u hu=>hz u (by simp [h2,hu])) h4⟩
 | _=>exact fun _ h=>h.2.1
theorem rdIs_data {t:Ty} : ∀ {xs:List t.den} {cs us:List Value},(∀ u∈us,∀ b,blk u=some b→Z b)→rdIs w Z te t cs xs us→rdAll (rdC w Z t) cs xs
 | [],_,_,_,h=>h.1
 | _::_,_,_,hz,⟨c1,c2,u1,u2,h1,h2,h3,h4⟩=>⟨c1,c2,h1,rdI_data (fun u hu=>hz u (by simp [h2,hu])) h3,rdIs_data (fun u hu=>hz u (by simp [h2,hu])) h4⟩
end
end Go.Ql
end

section
set_option linter.unusedSectionVars false
namespace Go.Ql
section
variable {w w':World} {Z Z':Nat→Prop} {e te:TypeId} {v:Value}
theorem mid_inj {α:Type} {d1 d3 d1' d3':List α} {u u':α} (h:d1++[u]++d3=d1'++[u']++d3') (hl:d1.length=d1'.length):d1=d1'∧u=u'∧d3=d3':=by
 rw [List.append_assoc,List.append_assoc] at h
 obtain ⟨h1,h2⟩:=List.append_inj h hl
 simp only [List.singleton_append,List.cons.injEq] at h2
 exact ⟨h1,h2.1,h2.2⟩
theorem Ud {α:Type} (d1 d3:List α) (u u':α) {p:Nat} (hp:d1.length=p):(d1++[u]++d3).set p u'=d1++[u']++d3:=by
 subst hp
 simp [List.set_append]
theorem km {l:List Value} {b:Nat}:hasB (.tuple l.toArray) b ↔ ∃ u∈l,blk u=some b:=by
 show (∃ v∈l.toArray.toList,blk v=some b)↔_
 simp
theorem JR {hd:Value} {us:List Value}:hdr (.tuple (hd::us).toArray)=hd:=by simp [hdr]
theorem apart_mid {l1 l3:List Value} {u u':Value} (h:kD (l1++[u]++l3)) (hu : ∀ b,blk u'=some b → ∀ x∈l1++l3,blk x≠some b):kD (l1++[u']++l3):=by
 unfold kD at h ⊢
 simp only [List.pairwise_append,List.pairwise_cons,List.mem_append,List.mem_singleton,List.Pairwise.nil,List.not_mem_nil,false_imp_iff,implies_true,and_true,true_and,forall_eq] at h ⊢
 refine ⟨⟨h.1.1,fun a ha b hb hb'=>hu b hb' a (by simp [ha]) hb⟩,h.2.1,fun a ha c hc => ?_⟩
 rcases ha with ha | rfl
 ·exact h.2.2 a (.inl ha) c hc
 ·exact fun b hb=>hu b hb c (by simp [hc])
theorem rdIs_slot {t s:Ty} {xs:List t.den} {cs us:List Value} {i off:Nat} {x x':t.den} {ys:List s.den} (h:rdIs w Z te t cs xs us) (hx:xs[i]? = some x) (hu:Ty.upd (.sl s) (show (Ty.sl s).den from ys) t x off=some x') :
 ∃ c1 u c3 u1 u3,cs=c1++[u]++c3∧us=u1++[u]++u3∧c1.length=i*t.cells+off∧u1.length=i*t.cells+off∧s.isMap=false ∧
  (∀ nv es,w.ownsM te s.cells nv ys.length es→rdAll (rdC w Z s) es ys→rdIs w Z te t (c1++[nv]++c3) (xs.set i x') (u1++[nv]++u3)) ∧
  ∀ zs:List s.den,Ty.sub (.sl s) t x off=some zs → ∃ es,w.ownsM te s.cells u zs.length es∧rdAll (rdC w Z s) es zs:=by
 obtain ⟨c1,c2,c3,u1,u2,u3,h1,h2,h3,h4,h5,h6⟩:=rdIs_at h hx
 obtain ⟨d1,u,d3,e1,e3,g1,g2,g3,g4,g5,g6⟩:=rdI_put hu h5
 refine ⟨c1++d1,u,d3++c3,u1++e1,e3++u3,by simp [h1,g1],by simp [h2,g2],by simp [h3,g3],by simp [h4,g4],g5,fun nv es k1 k2 => ?_,fun zs hz => ?_⟩
 ·have:=h6 _ _ _ (g6 nv es k1 k2)
  simpa [List.append_assoc] using this
 ·obtain ⟨d1',u',d3',e1',e3',es,k1,k2,k3,k4,k5,k6,k7⟩:=rdI_slot hz h5
  rw [g1] at k1
  obtain ⟨_,rfl,_⟩:=mid_inj k1 (g3.trans k3.symm)
  exact ⟨es,k6,k7⟩
theorem rdDeep.take {t s:Ty} {xs:List t.den} {i:Int} {off:Nat} {x:t.den} {ys:List s.den} (h:rdDeep w Z v e te t xs) (hi:0≤i) (hx:xs[i.toNat]? = some x) (hs:Ty.sub (.sl s) t x off=some ys) :
 ∃ u v' es,u.oneCell'=true∧rdHole w Z v' e te t xs i off s u∧hdr v'=hdr v∧s.isMap=false∧w.ownsM te s.cells u ys.length es∧rdAll (rdC w Z s) es ys ∧
  (∀ b,hasB v' b→hasB v b)∧(∀ b,blk u=some b→hasB v b ∧ ¬ hasB v' b) ∧ ∃ hd us,v = .tuple (hd::us).toArray∧v' = .tuple (hd::us.set (i.toNat*t.cells+off) (.slice none 0 0)).toArray∧us[i.toNat*t.cells+off]? = some u:=by
 obtain ⟨hd,us,cells,rfl,h2,h3,h4⟩:=h
 obtain ⟨x0,hx0⟩:=upd_of_sub ([]:List s.den) hs
 obtain ⟨c1,u,c3,u1,u3,g1,g2,g3,g4,g5,g6,g7⟩:=rdIs_slot h3 hx hx0
 obtain ⟨es,k1,k2⟩:=g7 ys hs
 refine ⟨u,.tuple (hd::(u1++[.slice none 0 0]++u3)).toArray,es,Va k1,⟨hd,_,c1++[.slice none 0 0]++c3,x,x0,rfl,hi,hx,hx0,?_,?_,?_⟩,by rw [JR,JR],g5,k1,k2,?_,?_,hd,us,rfl,by rw [g2,Ud _ _ _ _ g4],by rw [g2,← g4];simp⟩
 ·rw [Ud _ _ _ _ g3,← g1];exact h2
 ·exact g6 _ [] (Vj w te s.cells) rfl
 ·rw [g2] at h4
  have:=apart_mid (l1:=hd::u1) (l3:=u3) (u':=.slice none 0 0) (by simpa using h4) (fun b hb=>by cases hb)
  simpa using this
 ·intro b hb
  rw [km] at hb ⊢
  obtain ⟨q,q1,q2⟩:=hb
  refine ⟨q,?_,q2⟩
  rw [g2]
  simp only [List.mem_cons,List.mem_append,List.not_mem_nil,or_false] at q1 ⊢
  rcases q1 with q1 | (q1 | rfl) | q1
  ·exact .inl q1
  ·exact .inr (.inl (.inl q1))
  ·cases q2
  ·exact .inr (.inr q1)
 ·intro b hb
  refine ⟨by rw [km];exact ⟨u,by simp [g2],hb⟩,fun hh => ?_⟩
  rw [km] at hh
  obtain ⟨q,q1,q2⟩:=hh
  rw [g2] at h4
  unfold kD at h4
  simp only [List.pairwise_cons,List.pairwise_append,List.mem_append,List.mem_singleton,List.Pairwise.nil,List.not_mem_nil,false_imp_iff,implies_true,and_true,true_and,forall_eq] at h4
  simp only [List.mem_cons,List.mem_append,List.not_mem_nil,or_false] at q1
  rcases q1 with rfl | (q1 | rfl) | q1
  ·exact h4.1 u (.inl (.inr rfl)) b q2 hb
  ·exact h4.2.1.2 q q1 b q2 hb
  ·cases q2
  ·exact h4.2.2.2 u (.inr rfl) q q1 b hb q2
theorem rdHole.fill {t s:Ty} {xs:List t.den} {i:Int} {off:Nat} {x x':t.den} {ys:List s.den} {u:Value} (h:rdHole w Z v e te t xs i off s u) (hx:xs[i.toNat]? = some x) (hu:Ty.upd (.sl s) (show (Ty.sl s).den from ys) t x off=some x')
 {nv:Value} {es:List Value} (ho:w.ownsM te s.cells nv ys.length es) (hr:rdAll (rdC w Z s) es ys) (hap : ∀ b,blk nv=some b → ¬ hasB v b) :
 ∃ hd us c1 c3 us',v = .tuple (hd::us).toArray∧us'=us.set (i.toNat*t.cells+off) nv∧c1.length=i.toNat*t.cells+off∧w.ownsM e t.cells hd xs.length (c1++[u]++c3) ∧
  rdIs w Z te t (c1++[nv]++c3) (xs.set i.toNat x') us'∧kD (hd::us') ∧ ∀ b,hasB (.tuple (hd::us').toArray) b→hasB v b∨blk nv=some b:=by
 obtain ⟨hd,us,cells,x1,x0,rfl,h0,h1,h1',h2,h3,h4⟩:=h
 rw [hx] at h1
 cases h1
 have hlt:i.toNat < xs.length:=(List.getElem?_eq_some_iff.1 hx).1
 have hx0:(xs.set i.toNat x0)[i.toNat]? = some x0:=by rw [List.getElem?_set_self hlt]
 obtain ⟨c1,q,c3,u1,u3,g1,g2,g3,g4,g5,g6,g7⟩:=rdIs_slot h3 hx0 (upd_upd h1' hu)
 have hin : ∀ y,y∈hd::u1∨y∈u3→y∈hd::us:=fun y hy=>by
  rw [g2]
  simp only [List.mem_cons,List.mem_append] at hy ⊢
  rcases hy with (hy | hy) | hy
  ·exact .inl hy
  ·exact .inr (.inl (.inl hy))
  ·exact .inr (.inr hy)
 refine ⟨hd,us,c1,c3,u1++[nv]++u3,rfl,by rw [g2,Ud _ _ _ _ g4],g3,?_,?_,?_,?_⟩
 ·rw [← Ud c1 c3 q u g3,← g1];exact h2
 ·have:=g6 nv es ho hr
  rwa [List.set_set] at this
 ·rw [g2] at h4
  have:=apart_mid (l1:=hd::u1) (l3:=u3) (u':=nv) (by simpa using h4) (fun b hb y hy hyb=>hap b hb (km.2 ⟨y,hin y (List.mem_append.1 hy),hyb⟩))
  simpa using this
 ·intro b hb
  rw [km] at hb ⊢
  obtain ⟨y,q1,q2⟩:=hb
  simp only [List.mem_cons,List.mem_append,List.not_mem_nil,or_false] at q1
  rcases q1 with q1 | (q1 | rfl) | q1
  ·exact .inl ⟨y,hin y (.inl (by simp [q1])),q2⟩
  ·exact .inl ⟨y,hin y (.inl (by simp [q1])),q2⟩
  ·exact .inr q2
  ·exact .inl ⟨y,hin y (.inr q1),q2⟩
theorem rdHole.shut {t s:Ty} {xs:List t.den} {i:Int} {off:Nat} {x x':t.den} {ys:List s.den} {u:Value} (h:rdHole w Z v e te t xs i off s u) (hx:xs[i.toNat]? = some x) (hu:Ty.upd (.sl s) (show (Ty.sl s).den from ys) t x off=some x')
 {es:List Value} (ho:w.ownsM te s.cells u ys.length es) (hr:rdAll (rdC w Z s) es ys) (hap : ∀ b,blk u=some b → ¬ hasB v b) :
 ∃ v',rdDeep w Z v' e te t (xs.set i.toNat x')∧hdr v'=hdr v∧(∀ b,hasB v' b→hasB v b∨blk u=some b) ∧ ∃ hd us,v = .tuple (hd::us).toArray∧v' = .tuple (hd::us.set (i.toNat*t.cells+off) u).toArray:=by
 obtain ⟨hd,us,c1,c3,us',rfl,h0,h1,h2,h3,h4,h5⟩:=h.fill hx hu ho hr hap
 exact ⟨_,⟨hd,us',_,rfl,by rw [List.length_set];exact h2,h3,h4⟩,by rw [JR,JR],h5,hd,us,rfl,by rw [h0]⟩
theorem Yh {n size:Nat} {u:Value} {xs:List Value} (h:w.ownsM e size u n xs) {b:Nat}:hasB u b↔blk u=some b:=by
 rcases h.2 with ⟨rfl,_⟩ | ⟨g,c,cur,rfl,_⟩ <;> exact Iff.rfl
theorem own_cell {n size p:Nat} {u x:Value} {xs:List Value} (h:w.ownsM e size u n xs) {b m c:Nat} (hu:u = .slice (some ⟨b,0,none⟩) m c) (hx:xs[p]? = some x):w.cell? ⟨b,p,none⟩=some x:=by
 rcases h.2 with ⟨e1,_⟩ | ⟨g,cap,cur,e1,e2,_,_,_,e3⟩
 ·rw [hu] at e1;cases e1
 ·rw [hu] at e1
  cases e1
  rw [e2.cell,← Array.getElem?_toList]
  rw [← e3,List.getElem?_take] at hx
  split at hx
  ·exact hx
  ·cases hx
theorem rdHole.cell {t s:Ty} {xs:List t.den} {i:Int} {off:Nat} {u:Value} (h:rdHole w Z v e te t xs i off s u) {b m c:Nat} (hv:hdr v = .slice (some ⟨b,0,none⟩) m c):w.cell? ⟨b,i.toNat*t.cells+off,none⟩=some u:=by
 obtain ⟨hd,us,cells,x,x0,rfl,h0,h1,h1',h2,h3,h4⟩:=h
 rw [JR] at hv
 have hlt:i.toNat < xs.length:=(List.getElem?_eq_some_iff.1 h1).1
 obtain ⟨c1,q,c3,u1,u3,g1,g2,g3,_⟩:=rdIs_slot h3 (List.getElem?_set_self hlt) (upd_upd h1' h1')
 refine own_cell h2 hv ?_
 rw [g1,Ud _ _ _ _ g3,← g3]
 simp
theorem rdDeep.peek {t s:Ty} {xs:List t.den} {i:Int} {off:Nat} {x:t.den} {ys:List s.den} (h:rdDeep w Z v e te t xs) (hi:0≤i) (hx:xs[i.toNat]? = some x) (hs:Ty.sub (.sl s) t x off=some ys) :
 ∃ u hd us es,v = .tuple (hd::us).toArray∧us[i.toNat*t.cells+off]? = some u∧s.isMap=false∧w.ownsM te s.cells u ys.length es∧rdAll (rdC w Z s) es ys ∧
  (∀ b m c,hd = .slice (some ⟨b,0,none⟩) m c→w.cell? ⟨b,i.toNat*t.cells+off,none⟩=some u) ∧ ∀ b,blk u=some b→hasB v b:=by
 obtain ⟨u,v',es,_,h1,h2,h3,h4,h5,_,h7,hd,us,h8,h9,h10⟩:=h.take hi hx hs
 exact ⟨u,hd,us,es,h8,h10,h3,h4,h5,fun b m c hh=>h1.cell (by rw [h2,h8,JR];exact hh),fun b hb=>(h7 b hb).1⟩
theorem set_self {α:Type} {l:List α} {p:Nat} {u:α} (h:l[p]? = some u):l.set p u=l:=by
 obtain ⟨hlt,rfl⟩:=List.getElem?_eq_some_iff.1 h
 exact List.set_getElem_self hlt
theorem rdDeep.inner [GInv] {t s:Ty} {xs:List t.den} {i:Int} {off:Nat} {x x':t.den} {ys ys':List s.den} (h:rdDeep w Z v e te t xs) (hi:0≤i) (hx:xs[i.toNat]? = some x) (hs:Ty.sub (.sl s) t x off=some ys)
 (hu:Ty.upd (.sl s) (show (Ty.sl s).den from ys') t x off=some x') {u hd:Value} {us:List Value} (hv:v = .tuple (hd::us).toArray) (hp:us[i.toNat*t.cells+off]? = some u)
 (hk:KeptW w w' Z Z') (hb : ∀ b,blk u≠some b→hasB v b→w'.heap[b]? = w.heap[b]?) {es:List Value} (ho:w'.ownsM te s.cells u ys'.length es) (hr:rdAll (rdC w' Z' s) es ys'):rdDeep w' Z' v e te t (xs.set i.toNat x'):=by
 obtain ⟨u0,v',es0,_,h1,h2,h3,h4,h5,h6,h7,hd0,us0,h8,h9,h10⟩:=h.take hi hx hs
 rw [hv] at h8
 obtain ⟨rfl,rfl⟩:hd=hd0∧us=us0:=by
  injection h8 with h8
  have:=congrArg Array.toList h8
  simpa using this
 rw [hp] at h10
 cases h10
 have g1:=rdHole_mono hk (fun b hb'=>hb b (fun hh=>(h7 b hh).2 hb') (h6 b hb')) h1
 obtain ⟨v2,k1,_,_,hd1,us1,k4,k5⟩:=g1.shut hx hu ho hr (fun b hh=>(h7 b hh).2)
 rw [h9] at k4
 obtain ⟨rfl,rfl⟩:hd=hd1∧us.set (i.toNat*t.cells+off) (.slice none 0 0)=us1:=by
  injection k4 with k4
  have:=congrArg Array.toList k4
  simpa using this
 rw [List.set_set,set_self hp,← hv] at k5
 rw [← k5]
 exact k1
theorem rdHole.over [GInv] {t s:Ty} {xs:List t.den} {i:Int} {off:Nat} {u:Value} (h:rdHole w Z v e te t xs i off s u) : ∃ c1 c3,c1.length=i.toNat*t.cells+off∧w.ownsM e t.cells (hdr v) xs.length (c1++[u]++c3) ∧
 ∀ {w':World} {Z':Nat→Prop} {nv:Value},KeptW w w' Z Z'→w'.ownsM e t.cells (hdr v) xs.length (c1++[nv]++c3)→(∀ b,blk (hdr v)≠some b→hasB v b→w'.heap[b]? = w.heap[b]?)→rdHole w' Z' v e te t xs i off s nv:=by
 obtain ⟨hd,us,cells,x,x0,rfl,h0,h1,h1',h2,h3,h4⟩:=h
 have hlt:i.toNat < xs.length:=(List.getElem?_eq_some_iff.1 h1).1
 obtain ⟨c1,q,c3,u1,u3,g1,g2,g3,_⟩:=rdIs_slot h3 (List.getElem?_set_self hlt) (upd_upd h1' h1')
 have h4':=List.pairwise_cons.1 h4
 refine ⟨c1,c3,g3,by rw [JR,← Ud c1 c3 q u g3,← g1];exact h2,fun hk ho hb=>⟨hd,us,cells,x,x0,rfl,h0,h1,h1',?_,YM hk (fun y hy b hyb=>hb b (fun hh=>h4'.1 y hy b (by rw [JR] at hh;exact hh) hyb) (km.2 ⟨y,by simp [hy],hyb⟩)) h3,h4⟩⟩
 rw [JR] at ho
 rw [g1,Ud _ _ _ _ g3]
 exact ho
theorem rdDeep.data {t:Ty} {xs:List t.den} (h:rdDeep w Z v e te t xs) (hz : ∀ b,hasB v b→Z b):rdV w Z (.sl t) (hdr v) xs:=by
 obtain ⟨hd,us,cells,rfl,h2,h3,h4⟩:=h
 rw [JR]
 refine ⟨hd,rfl,?_⟩
 rcases h2.2 with ⟨e1,e2⟩ | ⟨g,cap,cur,e1,e3,e4,e5,e6,e7⟩
 ·exact .inl ⟨e1,List.eq_nil_of_length_eq_zero e2⟩
 ·refine .inr (.inl ⟨g,0,cap,cells,e1,e4,e5,hz g (km.2 ⟨hd,by simp,by rw [e1];rfl⟩),rdIs_data (fun u hu b hb=>hz b (km.2 ⟨u,by simp [hu],hb⟩)) h3,fun j u hj => ?_⟩)
  rw [Nat.zero_add,e3.cell]
  rw [← e7,List.getElem?_take] at hj
  split at hj
  ·simpa using hj
  ·cases hj
theorem Uo {nm:Names} {objs:List (Nat×Ob)} {id ver:Nat} {fz:Bool} {t:Ty} {xs:List t.den} {hole:Option (Option (Int×Nat×Ty×Nat×Nat))} (h:rdO w Z nm objs id (.deep ver fz e te t xs hole)) :
 ∃ hd us cells,nm id = .tuple (hd::us).toArray∧w.ownsM e t.cells hd xs.length cells:=by
 match hole with
 | none=>obtain ⟨hd,us,cells,h1,h2,_⟩:=h;exact ⟨hd,us,cells,h1,h2⟩
 | some none=>obtain ⟨hd,us,cells,h1,h2,_⟩:=h;exact ⟨hd,us,cells,h1,h2⟩
 | some (some q)=>
   obtain ⟨u,_,_,hd,us,cells,x,x0,h1,_,_,_,h2,_⟩:=h
   exact ⟨hd,us,_,h1,h2⟩
end
end Go.Ql
end

section
set_option linter.unusedSectionVars false
namespace Go.Ql
open Go.Lib
section
variable [GInv] {P:Program} {G:Env} {n:Nat} {w0 w:World} {Z0:Bs} {st:St} {a:Act} {nm:Names} {o:Oper} {dst:Nat} {ρ:Type} {k:Eff→Option ρ} {r:ρ}
theorem VF {t:TypeId} {ti:TI} (hT:TabOk P G.tab) (hl:look G.tab t=some ti) (h:ti.ty = .str):P.underlying t=some .string:=by
 obtain ⟨ty,kind⟩:=ti
 simp only at h
 subst h
 have hk:=(hT _ _ hl).kind
 cases kind with
 | scalar=>rcases hk with ⟨h,_⟩ | ⟨_,h,_⟩ | ⟨_,h⟩ <;> first | cases h;done | exact h
 | nul=>obtain ⟨_,h,_⟩:=hk;cases h
 | map k e j u=>obtain ⟨h,_⟩:=hk;cases h
 | struct fs=>obtain ⟨s,_,h,_⟩:=hk;cases h
 | slice e b=>obtain ⟨s,_,_,h,_⟩:=hk;cases h
 | arr n e=>obtain ⟨s,_,_,h,_⟩:=hk;cases h
 | other=>exact hk.elim
theorem UK {t:TypeId} {ti:TI} {j:IntKind} (hT:TabOk P G.tab) (hl:look G.tab t=some ti) (h:ti.ty = .int j):P.underlying t=some (.int j):=by
 obtain ⟨ty,kind⟩:=ti
 simp only at h
 subst h
 have hk:=(hT _ _ hl).kind
 cases kind with
 | scalar=>rcases hk with ⟨h,_⟩ | ⟨_,h,h'⟩ | ⟨h,_⟩ <;> first | (cases h;done) | (cases h;exact h')
 | nul=>obtain ⟨_,h,_⟩:=hk;cases h
 | map k e j u=>obtain ⟨h,_⟩:=hk;cases h
 | struct fs=>obtain ⟨s,_,h,_⟩:=hk;cases h
 | slice e b=>obtain ⟨s,_,_,h,_⟩:=hk;cases h
 | arr n e=>obtain ⟨s,_,_,h,_⟩:=hk;cases h
 | other=>exact hk.elim
theorem kM {t:TypeId} {s:Ty} {e:TypeId} {b:Nat} (hT:TabOk P G.tab) (hl:look G.tab t=some ⟨.sl s,.slice e b⟩) :
 P.underlying t=some (.slice e) ∧ ∃ i z,P.info? e=some i∧i.size=s.cells∧i.bytes=b∧i.zero=some z∧JJ s z.cells.toList∧0 < s.cells:=by
 obtain ⟨s',i,z,h1,h2,h3⟩:=(hT _ _ hl).kind
 cases h1
 exact ⟨h2,i,z,h3⟩
theorem Vn {t:TypeId} {s:Ty} {e:TypeId} {b:Nat} (hT:TabOk P G.tab) (hl:look G.tab t=some ⟨.sl s,.slice e b⟩):s.isMap=false:=by
 obtain ⟨_,i,z,_,_,_,_,h,_⟩:=kM hT hl
 exact isZero_noMap h
theorem ar_noMap {t:TypeId} {m:Nat} {s:Ty} {k:TK} (h:TiOk P t ⟨.ar m s,k⟩) (hm:Nat.blt 0 m=true):s.isMap=false:=by
 obtain ⟨_,z,_,_,_,h,_⟩:=h.info
 rcases repAll_zero h with rfl | ⟨c,hc⟩
 ·cases hm
 ·exact isZero_noMap hc
theorem rdAll_int {w:World} {Z:Nat→Prop} {j:IntKind} : ∀ {xs:List Int} {cells:List Value},rdAll (rdC w Z (.int j)) cells xs→cells=xs.map (Value.int j)
 | [],_,h=>h
 | x::xs,_,⟨c1,c2,e,h1,h2⟩=>by
   have h1:c1=[Value.int j x]:=h1
   rw [e,h1,rdAll_int h2];rfl
theorem rdAll_ints (w:World) (Z:Nat→Prop) (j:IntKind) : ∀ xs:List Int,rdAll (rdC w Z (.int j)) (xs.map (Value.int j)) xs
 | []=>rfl
 | _::xs=>⟨_,_,rfl,rfl,rdAll_ints w Z j xs⟩
theorem foldl_push (xs:List Int):xs.foldl (fun r n=>r.push (UInt8.ofNat n.toNat)) ByteArray.empty=⟨(xs.map fun n=>UInt8.ofNat n.toNat).toArray⟩:=by
 have : ∀ (xs:List Int) (s:ByteArray),(xs.foldl (fun r n=>r.push (UInt8.ofNat n.toNat)) s)=⟨(s.data.toList++xs.map fun n=>UInt8.ofNat n.toNat).toArray⟩:=by
  intro xs
  induction xs with
  | nil=>intro s;apply ByteArray.ext;simp
  | cons x xs ih=>intro s;rw [List.foldl_cons,ih];apply ByteArray.ext;simp [ByteArray.push]
 rw [this]
 rfl
theorem kq {t:TypeId} {ti:TI} (hti:TiOk P t ti) (h:ti.ty.isSt=false):ti.ty.cells=1:=by
 obtain ⟨ty,kind⟩:=ti
 have hk:=hti.kind
 cases kind with
 | scalar=>rcases hk with ⟨rfl,_⟩ | ⟨k,rfl,_⟩ | ⟨rfl,_⟩ <;> rfl
 | nul=>obtain ⟨k,rfl,_⟩:=hk;rfl
 | map k e j u=>obtain ⟨rfl,_⟩:=hk;rfl
 | struct fs=>obtain ⟨s,fields,rfl,_⟩:=hk;simp [Ty.isSt] at h
 | slice e b=>obtain ⟨s,i,z,rfl,_⟩:=hk;rfl
 | arr n e=>obtain ⟨s,i,z,rfl,_⟩:=hk;simp [Ty.isSt] at h
 | other=>exact hk.elim
theorem run_part_rd {t:TypeId} {ti:TI} (hti:TiOk P t ti) {Z:Nat→Prop} {q:Nat} {cs:Array Value} {c1 c2 c3:List Value} {d:ti.ty.den} (hr:rdC w Z ti.ty c2 d) (hns:ti.ty.isSt=false→ti.ty.cells=1)
 (hc:cs.toList=c1++c2++c3) (hq:c1.length=q) :
 ∃ v,(Go.part t cs q).run P w = .ok v w∧rdV w Z ti.ty v d:=by
 have hag:=hti.agg w
 have hsz:=hti.sizeOf w
 have hlen:=Ji _ hr
 have hex:(cs.extract q (q+ti.ty.cells)).toList=c2:=by
  rw [Array.toList_extract,hc,← hq,← hlen]
  simp
 cases hst:ti.ty.isSt with
 | true=>
   rw [hst] at hag
   refine ⟨.agg (cs.extract q (q+ti.ty.cells)),by simp [Go.part,hag,hsz],?_⟩
   obtain ⟨ty,kind⟩:=ti
   cases ty <;> simp only [Ty.isSt,Bool.false_eq_true] at hst
   ·exact ⟨_,rfl,by rw [hex];exact hr⟩
   ·exact ⟨_,rfl,by rw [hex];exact hr⟩
 | false=>
   rw [hst] at hag
   have h1:=hns hst
   rw [h1] at hlen
   match c2,hlen with
   | [u],_=>
     have hu:cs[q]? = some u:=by
      rw [← Array.getElem?_toList,hc,← hq,List.append_assoc,List.getElem?_append_right (by omega)]
      simp
     refine ⟨u,by simp [Go.part,hag,hu],?_⟩
     obtain ⟨ty,kind⟩:=ti
     cases ty <;> first | exact hr | (simp [Ty.isSt] at hst;done)
theorem eff_index {xt:TypeId} {x ix:Operand} (ho:o.op = .index xt x ix):EffOk P G o:=by
 intro hT n w0 w Z0 st a nm dst ρ k r h he
 unfold effK at he
 rw [ho] at he
 simp only at he
 split at he
 ·rename_i s j i h1 h2 h3
  have e1:=Uh h h2
  have e2:=Yk h h3
  have hu:=VF hT h1 rfl
  obtain ⟨b,hb,he⟩:=ju he
  obtain ⟨q1,q2,q3⟩:=JQ hb
  refine ⟨_,he,Good.pure h (v:=.int .u8 b.toNat) ?_ (rd_vI ..)⟩
  have hg:(⟨s.toArray⟩:ByteArray)[i.toNat]? = some b:=by
   have:(⟨s.toArray⟩:ByteArray)[i.toNat]? = s[i.toNat]?:=by
    by_cases hlt:i.toNat < s.length
    ·rw [List.getElem?_eq_getElem hlt]
     have h2:i.toNat < (⟨s.toArray⟩:ByteArray).size:=by simpa [ByteArray.size] using hlt
     rw [getElem?_pos (⟨s.toArray⟩:ByteArray) i.toNat h2]
     rfl
    ·omega
   rw [this,q3]
  simp [execOp,ho,e1,e2,Instr.index,asIntOf,run_underlying hu,q1,hg]
 ·rename_i n1 s m1 e n2 s2 xs j i0 h1 h2 h3
  obtain ⟨i,hi'⟩ : ∃ i:Int,i=i0:=⟨i0,rfl⟩
  subst hi'
  split at he
  ·rename_i ei h4
   cases hb:(decide (s2=s) && Nat.beq n2 n1 && decide (ei.ty=s)) with
   | false=>rw [hb] at he;cases he
   | true=>
     rw [hb] at he
     simp only [cond_true] at he
     simp only [Bool.and_eq_true,decide_eq_true_eq] at hb
     obtain ⟨⟨rfl,hn⟩,hs⟩:=hb
     have:=beqN.1 hn
     subst this
     obtain ⟨s',ti,z,g1,hu,g2,g3,_⟩:=(hT _ _ h1).kind
     cases g1
     have e2:=Yk h h3
     obtain ⟨y,hy,he⟩:=ju he
     obtain ⟨q1,q2,q3⟩:=JQ hy
     obtain ⟨cs,e1,hl,hr⟩:=ev_rd h h2
     obtain ⟨c1,c2,c3,r1,r2,r3,_⟩:=kI (fun _ _=>Ji s2) hr q3
     have hei:=hT _ _ h4
     subst hs
     obtain ⟨v,hv1,hv2⟩:=run_part_rd (w:=w) hei r3 (kq hei) (q:=i.toNat*ei.ty.cells) (cs:=cs) (c1:=c1) (c3:=c3) r1 r2
     have hsz:(sizeOf e).run P w = .ok ei.ty.cells w:=by simp [sizeOf,typeInfo,g2,g3]
     have hil:i < (m1:Int):=by omega
     refine ⟨_,he,Good.pure h (v:=v) ?_ hv2⟩
     simp [execOp,ho,e1,e2,Instr.index,asIntOf,run_underlying hu,q1,hil,hsz,hv1]
  ·cases he
 ·cases he
theorem eff_field {t:TypeId} {x:Operand} {f:Nat} (ho:o.op = .field t x f):EffOk P G o:=by
 intro hT n w0 w Z0 st a nm dst ρ k r h he
 unfold effK at he
 rw [ho] at he
 simp only at he
 split at he
 ·rename_i ty fs s y h1 h2
  split at he
  ·rename_i off ft hf
   split at he
   ·rename_i fi h3
    split at he
    ·rename_i z hz
     obtain ⟨s',fields,_,hu,hm,_⟩:=(hT _ _ h1).kind
     obtain ⟨fld,g1,g2,g3⟩ : ∃ fld:Field,fields[f]? = some fld∧fld.offset=off∧fld.type=ft:=by
      rw [← hm,List.getElem?_map,Option.map_eq_some_iff] at hf
      obtain ⟨fld,g1,g2⟩:=hf
      exact ⟨fld,by rw [← Array.getElem?_toList];exact g1,by cases g2;rfl,by cases g2;rfl⟩
     obtain ⟨cs,e1,hr⟩:=ev_rd h h2
     obtain ⟨c1,c2,c3,p1,p2,p3⟩:=Vb hz hr
     have hfi:=hT _ _ h3
     obtain ⟨v,hv1,hv2⟩:=run_part_rd (w:=w) hfi p3 (kq hfi) p1 p2
     rw [← g3] at hv1
     refine ⟨_,he,Good.pure h (v:=v) ?_ hv2⟩
     simp [execOp,ho,e1,Instr.field,asAgg,run_underlying hu,g1,g2,hv1]
    ·cases he
   ·cases he
  ·cases he
 ·cases he
theorem eff_fieldAddr {t:TypeId} {x:Operand} {f:Nat} (ho:o.op = .fieldAddr t x f):EffOk P G o:=by
 intro hT n w0 w Z0 st a nm dst ρ k r h he
 unfold effK at he
 rw [ho] at he
 simp only at he
 split at he
 ·rename_i ty fs p h1 h2
  split at he
  ·rename_i off ft hf
   split at he
   ·rename_i fi h3
    cases hz:Nat.beq fi.ty.cells 0 with
    | true=>rw [hz] at he;cases he
    | false=>
      rw [hz] at he
      simp only [cond_false] at he
      have hz:=Jb.1 hz
      obtain ⟨s,fields,_,hu,hm,_⟩:=(hT _ _ h1).kind
      obtain ⟨fld,g1,g2,g3⟩ : ∃ fld:Field,fields[f]? = some fld∧fld.offset=off∧fld.type=ft:=by
       rw [← hm,List.getElem?_map,Option.map_eq_some_iff] at hf
       obtain ⟨fld,g1,g2⟩:=hf
       exact ⟨fld,by rw [← Array.getElem?_toList];exact g1,by cases g2;rfl,by cases g2;rfl⟩
      have hrun : ∀ b q:Nat,a.eval x = .pointer (some ⟨b,q,none⟩)→(execOp a.eval o).run P w = .ok (.value (.pointer (some ⟨b,q+off,none⟩))) w:=by
       intro b q hv
       have hsz:=(hT _ _ h3).sizeOf w
       rw [← g3] at hsz
       simp [execOp,ho,hv,Instr.fieldAt,run_underlying hu,g1,Instr.sureAddr,fieldPlace,hsz,hz,Addr.add_lit,g2]
      have hr:=ev_rd h h2
      split at he
      ·rename_i id q
       split at he
       ·rename_i cs hob
        obtain ⟨b,e1,e2⟩:=hr.2 cs hob
        exact ⟨_,he,Good.pure h (hrun b q e2) ⟨rfl,fun _ _=>⟨b,e1,rfl⟩⟩⟩
       ·cases he
      ·rename_i id ver i sz q
       split at he
       ·rename_i v fz e t' xs hob
        cases hv:Nat.beq v ver with
        | false=>rw [hv] at he;cases he
        | true=>
          rw [hv] at he
          have:=beqN.1 hv
          subst this
          simp only [cond_true] at he
          obtain ⟨q1,q2,q3,b,m,c,e1,e2⟩:=hr.2 fz e t' xs hob
          refine ⟨_,he,Good.pure h (hrun b _ e2) ⟨rfl,fun fz1 e1' t1 xs1 hl => ?_⟩⟩
          obtain ⟨p1,p2,p3,b',m',c',p4,p5⟩:=hr.2 fz1 e1' t1 xs1 hl
          rw [e1] at p4
          cases p4
          exact ⟨p1,p2,p3,b,m,c,e1,by rw [Nat.add_assoc]⟩
       ·cases he
      ·rename_i id ver
       split at he
       ·rename_i v fz e t' xs hob
        cases hv:Nat.beq v ver with
        | false=>rw [hv] at he;cases he
        | true=>
          rw [hv] at he
          have:=beqN.1 hv
          subst this
          simp only [cond_true] at he
          obtain ⟨u,hu2,he⟩:=ju he
          have hin:0 < xs.length:=by
           unfold inR at hu2
           cases hc:(decide ((0:Int)≤0) && decide ((0:Int) < (xs.length:Int))) with
           | false=>rw [hc] at hu2;cases hu2
           | true=>rw [Bool.and_eq_true] at hc;have:=of_decide_eq_true hc.2;omega
          obtain ⟨b,m,c,e1,e2⟩:=hr.2 fz e t' xs hob
          refine ⟨_,he,Good.pure h (hrun b _ e2) ⟨rfl,fun fz1 e1' t1 xs1 hl => ?_⟩⟩
          rw [hob] at hl
          cases hl
          exact ⟨rfl,Int.le_refl _,hin,b,m,c,e1,by simp⟩
       ·cases he
      ·rename_i id ver i sz q n' e' j o'
       split at he
       ·rename_i v fz e t' xs hob
        cases hv:Nat.beq v ver with
        | false=>rw [hv] at he;cases he
        | true=>
          rw [hv] at he
          have:=beqN.1 hv
          subst this
          simp only [cond_true] at he
          obtain ⟨q1,q2,q3,q4,q5,b,m,c,e1,e2⟩:=hr.2 fz e t' xs hob
          refine ⟨_,he,Good.pure h (hrun b _ e2) ⟨rfl,fun fz1 e1' t1 xs1 hl => ?_⟩⟩
          obtain ⟨p1,p2,p3,p4,p5,b',m',c',p6,p7⟩:=hr.2 fz1 e1' t1 xs1 hl
          rw [e1] at p6
          cases p6
          exact ⟨p1,p2,p3,p4,p5,b,m,c,e1,by rw [Nat.add_assoc]⟩
       ·cases he
      ·rename_i id ver i o'
       split at he
       ·rename_i v fz e te t' xs hole hob
        cases hv:Nat.beq v ver with
        | false=>rw [hv] at he;cases he
        | true=>
          rw [hv] at he
          have:=beqN.1 hv
          subst this
          simp only [cond_true] at he
          obtain ⟨q1,q2,b,m,c,e1,e2⟩:=hr.2 fz e te t' xs hole hob
          refine ⟨_,he,Good.pure h (hrun b _ e2) ⟨rfl,fun fz1 e1' te1 t1 xs1 h1 hl => ?_⟩⟩
          rw [hob] at hl
          cases hl
          exact ⟨q1,q2,b,m,c,e1,by rw [Nat.add_assoc]⟩
       ·cases he
      ·rename_i id ver i o1 s1 j o'
       split at he
       ·rename_i v fz e te t' xs hob
        cases hv:Nat.beq v ver with
        | false=>rw [hv] at he;cases he
        | true=>
          rw [hv] at he
          have:=beqN.1 hv
          subst this
          simp only [cond_true] at he
          obtain ⟨q1,q2,hd,us,b,m,c,e1,e2,e3⟩:=hr.2 fz e te t' xs hob
          refine ⟨_,he,Good.pure h (hrun b _ e3) ⟨rfl,fun fz1 e1' te1 t1 xs1 hl => ?_⟩⟩
          rw [hob] at hl
          cases hl
          exact ⟨q1,q2,hd,us,b,m,c,e1,e2,by rw [Nat.add_assoc]⟩
       ·cases he
      ·rename_i s' d
       split at he
       ·rename_i y hy
        obtain ⟨b,q,cs,e1,e2,e3,e4⟩:=hr
        obtain ⟨c1,c2,c3,p1,p2,p3⟩:=Vb hy e3
        refine ⟨_,he,Good.pure h (hrun b q e1) ⟨b,q+off,c2,rfl,e2,p3,fun j u hj => ?_⟩⟩
        rw [Nat.add_assoc]
        refine e4 (off+j) u ?_
        rw [p1,List.append_assoc,← p2,List.getElem?_append_right (by omega)]
        rw [show c1.length+j - c1.length=j by omega]
        rw [List.getElem?_append_left (List.getElem?_eq_some_iff.1 hj).1]
        exact hj
       ·cases he
      ·cases he
   ·cases he
  ·cases he
 ·cases he
end
end Go.Ql
end
