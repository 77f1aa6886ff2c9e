/- From a typed function's contract to a row over it. -/
import Derived.Test.YtcndclcpmelgoaaDoorLgO
import Derived.ProofKit
import Derived.Carry
import Derived.OpenShut
set_option linter.all false
section
namespace Go.Ql
open Go.ChangeShapes Go.WideShapes Go.ChangeAt Go.RowKit Go.WideMaps Go.WideElems
open Go.ChangeMaps (open_string shut_string)
theorem Same.keptBut {w w':World} (h:Same w w') (may:MemPlace→Prop):w.keptBut w' may:=by
 refine ⟨h.os,h.output,fun i hi => ?_⟩
 rw [h.block i hi]
 rcases hw:w.heap[i]? with _ | b
 ·rfl
 ·cases b with
  | cells c t fr=>exact ⟨rfl,rfl,rfl,fun _ _=>rfl⟩
  | map es clock=>exact Or.inr ⟨rfl,rfl⟩
  | _=>rfl
end Go.Ql
end

section
set_option linter.unusedSectionVars false
namespace Go.Ql
open Go.ChangeShapes Go.WideShapes Go.ChangeAt Go.RowKit Go.WideMaps Go.WideElems
def upTo (n a:Nat):Nat:=(n+a - 1) / a*a
def Ty.layAt:Ty→Nat→Nat→Nat×Nat
 | .bool,off,al=>(off+1,al)
 | .int k,off,al=>(upTo off (k.bits / 8)+k.bits / 8,max al (k.bits / 8))
 | .str,off,_=>(upTo off 8+16,8)
 | .sl _,off,_=>(upTo off 8+24,8)
 | .st t,off,al=>let p:=t.layAt 0 1;(upTo off p.2+upTo p.1 p.2,max al p.2)
 | .unit,off,al=>(off,al)
 | .nilv _,off,al=>(off,al)
 | .ifc _ _,off,al=>(off,al)
 | .nn,off,al=>(off,al)
 | .len,off,al=>(off,al)
 | .fl _,off,al=>(off,al)
 | .raw,off,al=>(off,al)
 | .pair a b,off,al=>let p:=a.layAt off al;b.layAt p.1 p.2
 | .ar n t,off,al=>let p:=t.layAt 0 1;(upTo off p.2+n*upTo p.1 p.2,max al p.2)
 | .node t,off,_=>let p:=t.layAt 0 1;(upTo off 8+(upTo p.1 8+24),8)
def Ty.bytes (t:Ty):Nat:=let p:=t.layAt 0 1;upTo p.1 p.2
def Ux (P:Program) (g:Ty→TypeId→Bool):Ty→List Field→Nat→Bool
 | .unit,[],_=>true
 | .pair a b,f::f'::fs,off=>Nat.beq f.offset off && Nat.beq (P.cellsOf f.type) a.cells && g a f.type && Ux P g b (f'::fs) (off+a.cells)
 | a,[f],off=>Nat.beq f.offset off && Nat.beq (P.cellsOf f.type) a.cells && g a f.type
 | _,_,_=>false
def VN (P:Program):Nat→Ty→TypeId→Bool
 | 0,_,_=>false
 | n+1,ty,t=>match ty,P.underlying t with
   | .bool,some .bool=>true
   | .int k,some (.int k')=>decide (k=k')
   | .str,some .string=>true
   | .sl s,some (.slice e)=>VN P n s e && Nat.beq (P.cellsOf e) s.cells && Nat.blt 0 s.cells && Nat.beq (P.bytesOf e) s.bytes
   | .st s,some (.struct fs)=>Ux P (VN P n) s fs.toList 0 && Nat.beq (P.cellsOf t) s.cells
   | .ar m s,some (.array m' e)=>Nat.beq m m' && VN P n s e && Nat.beq (P.cellsOf e) s.cells && Nat.beq (P.cellsOf t) (m*s.cells)
   | _,_=>false
def Wf:(t:Ty)→t.den→Prop
 | .bool,_=>True
 | .int k,n=>(Lit.int k n).wf=true
 | .str,l=>List.length l≤140737488351232
 | .sl s,xs=>List.length xs*s.bytes≤140737488351232∧List.length xs≤9223372036854775807 ∧ ∀ x∈(show List s.den from xs),Wf s x
 | .st s,x=>Wf s x
 | .unit,_=>True
 | .nilv _,_=>True
 | .pair a b,x=>Wf a x.1∧Wf b x.2
 | .ar n s,xs=>List.length xs=n ∧ ∀ x∈(show List s.den from xs),Wf s x
 | .node _,_=>False
 | .ifc _ _,_=>False
 | .nn,_=>False
 | .len,_=>False
 | .fl _,_=>False
 | .raw,_=>False
section
variable {H:Type} {enc:TypeId×Value→H} {P:Program} {w:World} {sp:Nat→Bool} {hd:Bool}
abbrev allZ (w:World):Nat→Prop:=fun b=>b < w.heap.size
theorem add_none {b off j:Nat}:(⟨b,off,none⟩:Addr).add j=⟨b,off+j,none⟩:=by
 unfold Addr.add
 by_cases h:j=0 <;> simp [h]
theorem add_add {a:Addr} {i j:Nat}:(a.add i).add j=a.add (i+j):=by
 unfold Addr.add
 by_cases h:i=0 <;> by_cases h':j=0 <;> simp [h,h',Nat.add_assoc]
theorem cells_at {a:Addr} {n:Nat} {cs:List Value} (h:w.cells? 0 a n=some cs):cs.length=n ∧ ∀ j u,cs[j]? = some u→w.cell? (a.add j)=some u:=by
 unfold World.cells? at h
 rw [if_pos (Nat.zero_le _)] at h
 have hl:=mapM_some_length h
 rw [List.length_range] at hl
 refine ⟨hl,fun j u hj => ?_⟩
 have hlt:j < n:=by rw [← hl];exact (List.getElem?_eq_some_iff.1 hj).1
 have:=mapM_some_get h j j (by simp [hlt])
 rw [this,hj]
theorem elems_rd {a:Addr} {s:Ty} : ∀ (n:Nat),(∀ i,i < n → ∃ cs,∃ x:s.den,w.cells? 0 (a.add (i*s.cells)) s.cells=some cs∧rdC w (allZ w) s cs x∧Wf s x) →
 ∃ (cells:List Value) (xs:List s.den),xs.length=n∧rdAll (rdC w (allZ w) s) cells xs∧(∀ x∈xs,Wf s x)∧cells.length=n*s.cells ∧ ∀ j u,cells[j]? = some u→w.cell? (a.add j)=some u
 | 0,_=>⟨[],[],rfl,rfl,by simp,by simp,by simp⟩
 | n+1,h=>by
   obtain ⟨cells,xs,h1,h2,h3,h4,h5⟩:=elems_rd n (fun i hi=>h i (by omega))
   obtain ⟨cs,x,k1,k2,k3⟩:=h n (by omega)
   obtain ⟨l1,l2⟩:=cells_at k1
   refine ⟨cells++cs,xs++[x],by simp [h1],JN.2 ⟨_,_,rfl,h2,cs,[],by simp,k2,rfl⟩,fun y hy => ?_,by rw [List.length_append,h4,l1,Nat.succ_mul],fun j u hj => ?_⟩
   ·rcases List.mem_append.1 hy with hy | hy
    ·exact h3 y hy
    ·simp only [List.mem_singleton] at hy;subst hy;exact k3
   ·by_cases hlt:j < cells.length
    ·rw [List.getElem?_append_left hlt] at hj
     exact h5 j u hj
    ·rw [List.getElem?_append_right (by omega)] at hj
     have:=l2 _ _ hj
     have e:(a.add (n*s.cells)).add (j - cells.length)=a.add j:=by
      have hj':j=n*s.cells+(j - cells.length):=by omega
      rw [add_add]
      exact congrArg _ hj'.symm
     rw [e] at this
     exact this
theorem mem_weightsAll {e:TypeId} : ∀ {ds:List (DataW H)} {d:DataW H} {n:Nat},d∈ds→n∈d.weights P e→n∈DataW.weightsAll P e ds
 | d'::ds,d,n,hd,hn=>by
   unfold DataW.weightsAll
   rcases List.mem_cons.1 hd with rfl | hd
   ·exact List.mem_append_left _ hn
   ·exact List.mem_append_right _ (mem_weightsAll hd hn)
theorem mem_weightsEach : ∀ {ts:List TypeId} {ds:List (DataW H)} {i:Nat} {t:TypeId} {d:DataW H} {n:Nat},ts[i]? = some t→ds[i]? = some d→n∈d.weights P t→n∈DataW.weightsEach P ts ds
 | [],_,_,_,_,_,h,_,_=>by simp at h
 | _::_,[],_,_,_,_,_,h,_=>by simp at h
 | t'::ts,d'::ds,0,t,d,n,h1,h2,hn=>by
   simp only [List.getElem?_cons_zero,Option.some.injEq] at h1 h2
   subst h1;subst h2
   unfold DataW.weightsEach
   exact List.mem_append_left _ hn
 | t'::ts,d'::ds,i+1,t,d,n,h1,h2,hn=>by
   simp only [List.getElem?_cons_succ] at h1 h2
   unfold DataW.weightsEach
   exact List.mem_append_right _ (mem_weightsEach h1 h2 hn)
theorem fields_rd {g:Ty→TypeId→Bool} {cs:List Value} :
 ∀ (fs:List Field) (s:Ty) (off:Nat),Ux P g s fs off=true→off+s.cells≤cs.length →
  (∀ f∈fs,∀ a:Ty,g a f.type=true → ∃ x:a.den,rdC w (allZ w) a ((cs.drop f.offset).take (P.cellsOf f.type)) x∧Wf a x) →
  ∃ x:s.den,rdC w (allZ w) s ((cs.drop off).take s.cells) x∧Wf s x:=by
 have one : ∀ (f:Field) (a:Ty) (off:Nat),(Nat.beq f.offset off && Nat.beq (P.cellsOf f.type) a.cells && g a f.type)=true →
  (∀ a:Ty,g a f.type=true → ∃ x:a.den,rdC w (allZ w) a ((cs.drop f.offset).take (P.cellsOf f.type)) x∧Wf a x) → ∃ x:a.den,rdC w (allZ w) a ((cs.drop off).take a.cells) x∧Wf a x:=by
  intro f a off h hf
  simp only [Bool.and_eq_true] at h
  obtain ⟨⟨h1,h2⟩,h3⟩:=h
  have:=hf a h3
  rw [beqN.1 h1,beqN.1 h2] at this
  exact this
 intro fs
 induction fs with
 | nil=>
   intro s off h _ _
   cases s <;> first | (simp [Ux] at h;done) | skip
   exact ⟨(),by simp [rdC,Ty.cells],trivial⟩
 | cons f fs ih=>
   intro s off h hl hf
   cases fs with
   | nil=>
     have h':(Nat.beq f.offset off && Nat.beq (P.cellsOf f.type) s.cells && g s f.type)=true:=by
      cases s <;> first | exact h | (unfold Ux at h;exact h)
     exact one f s off h' (hf f (by simp))
   | cons f' fs=>
     cases s <;> first | (simp [Ux] at h;done) | skip
     rename_i a b
     simp only [Ux,Bool.and_eq_true] at h
     obtain ⟨h1,h2⟩:=h
     simp only [Ty.cells] at hl
     obtain ⟨x,x1,x2⟩:=one f a off (by simpa using h1) (hf f (by simp))
     obtain ⟨y,y1,y2⟩:=ih b (off+a.cells) h2 (by omega) (fun f'' h''=>hf f'' (List.mem_cons_of_mem _ h''))
     refine ⟨(x,y),⟨_,_,?_,x1,y1⟩,x2,y2⟩
     simp only [Ty.cells]
     rw [← List.drop_drop,← List.take_add]
theorem trod_wf : ∀ (g:Nat) (ty:Ty) (t:TypeId),VN P g ty t=true → ∀ {k:Nat} {cs:List Value} {d:DataW H} {p:List MemPlace},DataW.trod enc P w 0 sp hd k t cs=some (d,p) →
 (∀ n∈d.weights P t,n≤reachBytes) → ∃ x:ty.den,rdC w (allZ w) ty cs x∧Wf ty x
 | 0,_,_,hm,_,_,_,_,_,_=>by simp [VN] at hm
 | g+1,ty,t,hm,k,cs,d,p,h,hw=>by
   unfold VN at hm
   split at hm
   ·rename_i hu
    obtain ⟨b,rfl,_⟩:=DataW.trod_bool hu h
    exact ⟨b,rfl,trivial⟩
   ·rename_i k1 k2 hu
    have:=of_decide_eq_true hm
    subst this
    obtain ⟨n,rfl,_,hn⟩:=DataW.trod_int hu h
    exact ⟨n,rfl,hn⟩
   ·rename_i hu
    obtain ⟨s,rfl,hx,hs⟩:=DataW.trod_string hu h
    cases hx
    refine ⟨s.data.toList,by simp [rdC],?_⟩
    have:=hw s.data.toList.length (by unfold DataW.weights;simp)
    show s.data.toList.length≤140737488351232
    exact this
   ·rename_i s e hu
    simp only [Bool.and_eq_true] at hm
    obtain ⟨⟨⟨m1,m2⟩,m3⟩,m4⟩:=hm
    have m2:=beqN.1 m2
    have m3:0 < s.cells:=Nat.le_of_ble_eq_true m3
    have m4:=beqN.1 m4
    rcases DataW.trod_slice hu h with ⟨rfl,hx⟩ | ⟨a,len,cap,elems,rest,n,rfl,rfl,hx,hb,hl,hmx,hlen,hel,_,_⟩
    ·exact ⟨[],⟨_,rfl,.inl ⟨rfl,rfl⟩⟩,by simp,by simp,fun x hx=>by cases hx⟩
    ·cases hx
     rw [m2] at hel
     have hwt : ∀ n∈(DataW.slice (elems.map (·.1)) (rest.map (·.1)):DataW H).weights P t,n≤reachBytes:=hw
     unfold DataW.weights at hwt
     rw [hu] at hwt
     simp only [List.mem_cons,List.mem_append,forall_eq_or_imp,List.length_map] at hwt
     obtain ⟨w1,w2⟩:=hwt
     have helem : ∀ i,i < len → ∃ cs,∃ x:s.den,w.cells? 0 (a.add (i*s.cells)) s.cells=some cs∧rdC w (allZ w) s cs x∧Wf s x:=by
      intro i hi
      have h1:=hel i hi
      have hi':i < elems.length:=by omega
      rw [List.getElem?_eq_getElem hi',Option.bind_eq_some_iff] at h1
      obtain ⟨cs,c1,c2⟩:=h1
      obtain ⟨x,x1,x2⟩:=trod_wf g s e m1 (d:=elems[i].1) (p:=elems[i].2) c2 (fun n hn=>w2 n (.inl (mem_weightsAll (List.mem_map.2 ⟨elems[i],List.getElem_mem hi',rfl⟩) hn)))
      exact ⟨cs,x,c1,x1,x2⟩
     obtain ⟨cells,xs,e1,e2,e3,e4,e5⟩:=elems_rd len helem
     have hbytes:xs.length*s.bytes≤140737488351232:=by
      rw [e1,← m4,← hlen]
      exact Nat.le_trans (Nat.mul_le_mul_right _ (Nat.le_add_right _ _)) w1
     have hml:maxLen=9223372036854775807:=by decide
     refine ⟨xs,⟨_,rfl,?_⟩,hbytes,by omega,e3⟩
     by_cases h0:len=0
     ·subst h0
      have:xs=[]:=List.eq_nil_of_length_eq_zero e1
      exact .inr (.inr ⟨a,cap,rfl,this,hmx⟩)
     ·have hpos:0 < cells.length:=by rw [e4];exact Nat.mul_pos (by omega) m3
      have hc:=e5 0 cells[0] (List.getElem?_eq_getElem hpos)
      obtain ⟨b,off,spot⟩:=a
      have hspot:spot=none:=by
       cases spot with
       | none=>rfl
       | some q=>
         simp only [World.cell?,Addr.add] at hc
         split at hc <;> simp at hc
      subst hspot
      refine .inr (.inl ⟨b,off,cap,cells,by rw [e1],by rw [e1];exact hl,hmx,?_,e2,fun j u hj=>by have:=e5 j u hj;rwa [add_none] at this⟩)
      show b < w.heap.size
      rcases Nat.lt_or_ge b w.heap.size with hb' | hb'
      ·exact hb'
      ·have:w.heap[b]? = none:=by rw [Array.getElem?_eq_none_iff];exact hb'
       simp [World.cell?,Addr.add,this] at hc
   ·rename_i s fs hu
    simp only [Bool.and_eq_true] at hm
    obtain ⟨m1,m2⟩:=hm
    have m2:=beqN.1 m2
    obtain ⟨xs,n,rfl,hx,hl,hxl,hel⟩:=DataW.trod_struct hu h
    cases hx
    have hwt : ∀ n∈(DataW.agg (xs.map (·.1)):DataW H).weights P t,n≤reachBytes:=hw
    unfold DataW.weights at hwt
    rw [hu] at hwt
    simp only at hwt
    have:=fields_rd (w:=w) (cs:=cs) fs.toList s 0 m1 (by omega) (fun f hf a ha=>by
     obtain ⟨i,hi,rfl⟩:=List.getElem_of_mem hf
     have hi':i < fs.size:=by simpa using hi
     have hfi:fs[i]? = some fs.toList[i]:=by rw [← Array.getElem?_toList];exact List.getElem?_eq_getElem hi
     have h1:=hel i _ hfi
     have hxi:xs[i]? = some xs[i]:=List.getElem?_eq_getElem (by omega)
     rw [hxi] at h1
     exact trod_wf g a _ ha (d:=(xs[i]).1) (p:=(xs[i]).2) h1 (fun n hn=>hwt n (mem_weightsEach (i:=i) (by rw [List.getElem?_map,List.getElem?_eq_getElem hi];rfl) (by rw [List.getElem?_map,hxi];rfl) hn)))
    obtain ⟨x,x1,x2⟩:=this
    refine ⟨x,?_,x2⟩
    rw [List.drop_zero,List.take_of_length_le (by omega)] at x1
    exact x1
   ·rename_i m s m' e hu
    simp only [Bool.and_eq_true] at hm
    obtain ⟨⟨⟨m0,m1⟩,m2⟩,m3⟩:=hm
    have m0:=beqN.1 m0
    subst m0
    have m2:=beqN.1 m2
    have m3:=beqN.1 m3
    obtain ⟨xs,n,rfl,hx,hl,hxl,hel⟩:=DataW.trod_array hu h
    cases hx
    have hwt : ∀ n∈(DataW.agg (xs.map (·.1)):DataW H).weights P t,n≤reachBytes:=hw
    unfold DataW.weights at hwt
    rw [hu] at hwt
    simp only at hwt
    have key : ∀ j,j≤m → ∃ ys:List s.den,ys.length=j∧rdAll (rdC w (allZ w) s) (cs.take (j*s.cells)) ys ∧ ∀ y∈ys,Wf s y:=by
     intro j
     induction j with
     | zero=>exact fun _=>⟨[],rfl,by simp [rdAll],fun _ h=>by cases h⟩
     | succ j ih=>
       intro hj
       obtain ⟨ys,y1,y2,y3⟩:=ih (by omega)
       have h1:=hel j (by omega)
       have hxi:xs[j]? = some xs[j]:=List.getElem?_eq_getElem (by omega)
       rw [hxi,m2] at h1
       obtain ⟨x,x1,x2⟩:=trod_wf g s e m1 (d:=(xs[j]).1) (p:=(xs[j]).2) h1 (fun n hn=>hwt n (mem_weightsAll (List.mem_map.2 ⟨xs[j],List.getElem_mem _,rfl⟩) hn))
       refine ⟨ys++[x],by simp [y1],?_,fun y hy => ?_⟩
       ·rw [Nat.succ_mul,List.take_add]
        exact JN.2 ⟨_,_,rfl,y2,_,[],by simp,x1,rfl⟩
       ·rcases List.mem_append.1 hy with hy | hy
        ·exact y3 y hy
        ·simp only [List.mem_singleton] at hy;subst hy;exact x2
    obtain ⟨ys,y1,y2,y3⟩:=key m (Nat.le_refl _)
    rw [List.take_of_length_le (by omega)] at y2
    exact ⟨ys,⟨y1,y2⟩,y1,y3⟩
   ·cases hm
end
end Go.Ql
end

section
set_option linter.unusedSectionVars false
namespace Go.Ql
open Go.ChangeShapes Go.WideShapes Go.ChangeAt Go.RowKit Go.WideMaps Go.WideElems
def matchL (P:Program) (g:Nat):List Ty→List TypeId→Bool
 | [],[]=>true
 | ty::tys,t::ts=>VN P (g+1) ty t && matchL P g tys ts
 | _,_=>false
def WfL:(ts:List Ty)→dens ts→Prop
 | [],_=>True
 | [t],x=>Wf t x
 | t::t'::ts,x=>Wf t x.1∧WfL (t'::ts) x.2
section
variable {H:Type} {enc:TypeId×Value→H} {P:Program} {w:World} {sp:Nat→Bool} {hd:Bool} {base:Nat}
theorem value_rd {g:Nat} {ty:Ty} {t:TypeId} {v:Value} {x:ty.den} (hm:VN P (g+1) ty t=true) (hv:Value.okWide P w .any base t v) (h:rdC w (allZ w) ty v.cells.toList x):rdV w (allZ w) ty v x:=by
 unfold VN at hm
 split at hm
 ·rename_i hu
  obtain ⟨b,rfl⟩:=okWide_bool hu hv
  exact h
 ·rename_i k1 k2 hu
  obtain ⟨n,rfl⟩:=okWide_int hu hv
  exact h
 ·rename_i hu
  obtain ⟨s,rfl⟩:=okWide_string hu hv
  exact h
 ·rename_i s e hu
  obtain ⟨a,l,c,rfl⟩:=okWide_slice hu hv
  exact h
 ·rename_i s fs hu
  obtain ⟨cs,rfl,_⟩:=okWide_struct hu hv
  exact ⟨cs,rfl,h⟩
 ·rename_i m s m' e hu
  simp only [Value.okWide,hu] at hv
  obtain ⟨cs,rfl,_⟩:=hv
  exact ⟨cs,rfl,h⟩
 ·cases hm
theorem args_wf {g:Nat} : ∀ (tys:List Ty) {ts:List TypeId} {vs:List Value} {ds:List (DataW H)} {p:List MemPlace},matchL P g tys ts=true→DataW.TrodAll enc P w 0 sp hd ts vs ds p →
 (∀ (j:Nat) t v,ts[j]? = some t→vs[j]? = some v→Value.okWide P w .any base t v)→(∀ n∈DataW.weightsEach P ts ds,n≤reachBytes) → ∃ x:dens tys,YC w (allZ w) tys x vs∧WfL tys x
 | [],ts,vs,ds,p,hm,h,_,_=>by
   cases ts with
   | cons=>cases hm
   | nil=>
     cases vs with
     | cons=>cases ds <;> cases h
     | nil=>exact ⟨(),rfl,trivial⟩
 | ty::tys,ts,vs,ds,p,hm,h,hv,hw=>by
   cases ts with
   | nil=>cases hm
   | cons t ts=>
     simp only [matchL,Bool.and_eq_true] at hm
     cases vs with
     | nil=>cases ds <;> cases h
     | cons v vs=>
       cases ds with
       | nil=>cases h
       | cons d ds=>
         obtain ⟨p1,q,⟨fuel,h1⟩,h2,rfl⟩:=h
         unfold DataW.weightsEach at hw
         obtain ⟨x,x1,x2⟩:=trod_wf (g+1) ty t hm.1 h1 (fun n hn=>hw n (List.mem_append_left _ hn))
         obtain ⟨y,y1,y2⟩:=args_wf tys hm.2 h2 (fun j t v q1 q2=>hv (j+1) t v (by simpa using q1) (by simpa using q2)) (fun n hn=>hw n (List.mem_append_right _ hn))
         have hx:=value_rd hm.1 (hv 0 t v rfl rfl) x1
         cases tys with
         | nil=>
           have:vs=[]:=y1
           subst this
           exact ⟨x,⟨v,rfl,hx⟩,x2⟩
         | cons ty' tys=>exact ⟨(x,y),⟨v,vs,rfl,hx,y1⟩,x2,y2⟩
theorem Same.below {w w':World} (h:Same w w'):Below w.heap.size w w':=⟨h.os,h.tape,h.output,h.size,h.block⟩
theorem args_stay (hl:laidOutB P=true) {W W':World} (hb:Below W.heap.size W W') : ∀ {ts:List TypeId} {vs:List Value} {ds:List (DataW H)} {p:List MemPlace},(∀ t∈ts,P.readableRec t=true∧t < P.types.size) →
 DataW.TrodAll enc P W 0 (fun _=>true) true ts vs ds p→(∀ x∈p,x.block < W.heap.size)→DataW.TrodAll enc P W' 0 (fun b=>decide (b < W.heap.size)) true ts vs ds p
 | [],vs,ds,p,_,h,_=>by
   cases vs <;> cases ds <;> first | exact h | cases h
 | t::ts,vs,ds,p,ht,h,hp=>by
   cases vs with
   | nil=>cases ds <;> cases h
   | cons v vs=>
     cases ds with
     | nil=>cases h
     | cons d ds=>
       obtain ⟨p1,q,h1,h2,rfl⟩:=h
       exact ⟨p1,q,Below.trod hl (ht t (by simp)).1 (ht t (by simp)).2 h1 hb (fun x hx=>hp x (List.mem_append_left _ hx)),args_stay hl hb (fun t h=>ht t (List.mem_cons_of_mem _ h)) h2 (fun x hx=>hp x (List.mem_append_right _ hx)),rfl⟩
end
theorem contract_of [GInv] {H:Type} {enc:TypeId×Value→H} {P:Program} {f:FuncId} {fn:Func} {s:ChangeSpec} {ps:List Ty} {F:dens ps→Option Bool} (hok:CalleeOk P f ⟨ps,[.bool],F⟩) (g:Nat) {pts:Array TypeId} (hpts:fn.params=pts)
 (hm:matchL P g ps pts.toList=true) (hl:laidOutB P=true) (hr:(pts.toList.all fun t=>P.readableRec t && decide (t < P.types.size))=true) (hvars:s.vars=[]) {tb:TypeId} (hres:fn.resultTypes = #[tb]) (hb:P.underlying tb=some .bool)
 (hF : ∀ x,WfL ps x→F x=some true) {W:World} {base:Nat} {args:Array Value} {ds gs:List (DataW H)} {before:List MemPlace}
 (hsp : ∀ ds:List (DataW H),ds.length=pts.size→(s.fn H (ds++[])).results=[.lit (.bool true)]∧(s.fn H (ds++[])).args=ds∧(s.fn H (ds++[])).vars=[])
 (hval : ∀ (j:Nat) t v,fn.params[j]? = some t→args[j]? = some v→Value.okWide P W .any base t v)
 (hW:DataW.Whole enc P fn.params.toList s.vars false W args.toList ds gs before)
 (hsz:(DataW.weightsEach P (fn.params.toList++s.plain.varTypes P) (ds++gs)).all (· ≤ reachBytes)=true) (hg:GInv.ok W) :
 Calls P f args W fun e W' => ∃ v,e = .returned v∧s.post enc P fn false true false false W args v W':=by
 have hW':=hW
 obtain ⟨p,q,hA,hV,rfl,hfz,hnd⟩:=hW
 subst hpts
 rw [hvars] at hV
 obtain ⟨rfl,rfl⟩:=trodVars_none hV
 have hlen:ds.length=fn.params.size:=by
  have : ∀ {ts:List TypeId} {vs:List Value} {ds:List (DataW H)} {p:List MemPlace},DataW.TrodAll enc P W 0 (fun _=>true) true ts vs ds p→ds.length=ts.length:=by
   intro ts
   induction ts with
   | nil=>intro vs ds p h;cases vs <;> cases ds <;> first | rfl | cases h
   | cons t ts ih=>
     intro vs ds p h
     cases vs with
     | nil=>cases ds <;> cases h
     | cons v vs=>
       cases ds with
       | nil=>cases h
       | cons d ds=>
         obtain ⟨_,_,_,h2,_⟩:=h
         simp [ih h2]
  simpa using this hA
 have hsz' : ∀ n∈DataW.weightsEach P fn.params.toList ds,n≤reachBytes:=by
  have hv:s.plain.varTypes P=[]:=by
   unfold ChangeSpec.plain DataSpec.varTypes
   rw [hvars];rfl
  rw [hv,List.append_nil,List.append_nil] at hsz
  intro n hn
  simpa using List.all_eq_true.1 hsz n hn
 obtain ⟨x,x1,x2⟩:=args_wf (P:=P) (g:=g) ps hm hA (fun j t v h1 h2=>hval j t v (by simpa using h1) (by simpa using h2)) hsz'
 have hcall:=hok.calls W (allZ W) args.toList x true hg (fun b hb=>hb) x1 (hF x x2)
 have ha:args.toList.toArray=args:=Array.toArray_toList
 rw [ha] at hcall
 refine hcall.mono fun e W' ⟨v,he,hs,hrv⟩=>⟨v,he,?_⟩
 have hv:v = .bool true:=by
  have hr':[v]=[Value.bool true]:=hrv
  exact (List.cons.inj hr').1
 subst hv
 obtain ⟨s1,s2,s3⟩:=hsp ds hlen
 have hlt : ∀ x∈p,x.block < W.heap.size:=fun x hx=>by simpa using hW'.lt x (by simpa using hx)
 refine ⟨ds,[],p++[],[],p,[],hW',?_,?_,?_,hs.keptBut _,fun h=>by cases h⟩
 ·rw [s1,hres]
  exact trodAll_mk1 (shut_bool hb true)
 ·rw [s2]
  refine args_stay hl hs.below (fun t ht => ?_) hA hlt
  have:=List.all_eq_true.1 hr t ht
  simpa using this
 ·rw [s3,hvars]
  rfl
end Go.Ql
end
