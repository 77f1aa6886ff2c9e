/- Part of the lifter: steps and blocks, for any program. -/
import Derived.Test.YtdocfkidnnalnaaGreatDoorLbB
import Derived.MapKept
import Derived.Lib.AppendStr
import Derived.Laws.AppendOwnNone
import Derived.Laws.Small
set_option linter.all false
section
namespace Go.Ql
section
variable [GInv] {P:Program} {G:Env} {n:Nat} {w0 w:World} {Z0:Bs} {st st1:St} {a:Act} {nm:Names} {o:Oper} {dst:Nat} {ρ:Type} {k:Eff→Option ρ} {r:ρ}
structure Frozen (n:Nat) (w0:World) (Z0:Bs) (st st1:St) (a:Act) (w:World) (nm:Names) (u:Upd):Prop where
 fz:Fz st st1
 rel:Rel n w0 Z0 st1 a w nm
 cold:∀p∈u,Cold st1 p.1
theorem Frozen.left {u v:Upd} (h:Frozen n w0 Z0 st st1 a w nm (u++v)):Frozen n w0 Z0 st st1 a w nm u:=⟨h.fz,h.rel,fun p hp=>h.cold p (List.mem_append_left _ hp)⟩
theorem Frozen.right {u v:Upd} (h:Frozen n w0 Z0 st st1 a w nm (u++v)):Frozen n w0 Z0 st st1 a w nm v:=⟨h.fz,h.rel,fun p hp=>h.cold p (List.mem_append_right _ hp)⟩
theorem FzUpd.append {u v:Upd} (h1:FzUpd st u) (h2:FzUpd st v):FzUpd st (u++v):=fun p hp=>(List.mem_append.1 hp).elim (h1 p) (h2 p)
theorem joinV_rd:∀(t:Ty) {cs rest:List At} {x:t.den} {u:Upd},joinV (look st.objs) t cs=some (x,u,rest) →
 FzUpd st u ∧ ∃used,cs=used++rest ∧ ∀st1,Frozen n w0 Z0 st st1 a w nm u → ∀vs,rdAs w (Zc w0 Z0 nm st1.objs w) nm st.objs used vs→rdC w (Zc w0 Z0 nm st1.objs w) t vs x:=by
 intro t
 induction t with
 | st t ih=>intro cs rest x u h;exact ih h
 | unit=>
   intro cs rest x u h
   simp only [joinV,z6,zm] at h
   obtain ⟨_,rfl,rfl⟩:=h
   exact ⟨fun p hp=>(by cases hp),[],rfl,fun st1 _ vs hv=>zg hv.1⟩
 | pair p q ihp ihq=>
   intro cs rest x u h
   simp only [joinV] at h
   split at h
   ·rename_i x1 u1 r1 h1
    split at h
    ·rename_i y1 v1 r2 h2
     cases h
     obtain ⟨f1,used1,e1,g1⟩:=ihp h1
     obtain ⟨f2,used2,e2,g2⟩:=ihq h2
     refine ⟨f1.append f2,used1++used2,by rw [e1,e2,zl],fun st1 hf vs hv=>?_⟩
     have hl:vs.length=used1.length+used2.length:=by rw [hv.1,z8]
     have t1:=Hb hv used1.length
     have t2:=rdAs_drop hv used1.length
     rw [List.take_left] at t1
     rw [List.drop_left] at t2
     exact ⟨vs.take used1.length,vs.drop used1.length,(List.take_append_drop _ _).symm,g1 st1 hf.left _ t1,g2 st1 hf.right _ t2⟩
    ·cases h
   ·cases h
 | ar m t ih=>intro cs rest x u h;simp [joinV] at h
 | node t ih=>
   intro cs rest x u h
   simp only [joinV] at h
   split at h
   ·rename_i x1 u1 c r1 h1
    split at h
    ·rename_i y1 v1 h2
     cases h
     obtain ⟨f1,used1,e1,g1⟩:=ih h1
     have k:=fun v=>Hn (n:=n) (w0:=w0) (w:=w) (Z0:=Z0) (a:=a) (nm:=nm) (v:=v) h2
     refine ⟨f1.append (k undef).1,used1++[c],by rw [e1];simp,fun st1 hf vs hv=>?_⟩
     have hl:vs.length=used1.length+1:=by rw [hv.1,z8];rfl
     have t1:=Hb hv used1.length
     have t2:=rdAs_drop hv used1.length
     rw [List.take_left] at t1
     rw [List.drop_left] at t2
     refine Vz.2 ⟨vs.take used1.length,vs.drop used1.length,(List.take_append_drop _ _).symm,g1 st1 hf.left _ t1,?_⟩
     generalize vs.drop used1.length=l at t2
     match l,t2 with
     | [v],t2=>exact (k v).2 st1 hf.right.fz hf.right.rel hf.right.cold (t2.2 0 c v rfl rfl)
     | [],t2=>exact absurd t2.1 (by simp)
     | _::_::_,t2=>exact absurd t2.1 (by simp)
    ·cases h
   ·cases h
 | _=>
   intro cs rest x u h
   cases cs with
   | nil=>simp [joinV] at h
   | cons c cs=>
     simp only [joinV] at h
     split at h
     ·rename_i x1 u1 h1
      cases h
      refine ⟨(Hn (n:=n) (w0:=w0) (w:=w) (Z0:=Z0) (a:=a) (nm:=nm) (v:=undef) h1).1,[c],rfl,fun st1 hf vs hv=>?_⟩
      match vs,hv with
      | [v],hv=>exact (Hn (n:=n) (w0:=w0) (w:=w) (Z0:=Z0) (a:=a) (nm:=nm) (v:=v) h1).2 st1 hf.fz hf.rel hf.cold (hv.2 0 c v rfl rfl)
      | [],hv=>exact absurd hv.1 (by simp)
      | _::_::_,hv=>exact absurd hv.1 (by simp)
     ·cases h
theorem Vh {d:Dv} {t:Ty} {x:t.den} {u:Upd} (h:dvV (look st.objs) t d=some (x,u)) :
 FzUpd st u ∧ ∀st1,Frozen n w0 Z0 st st1 a w nm u → ∀v,rdD w (Zc w0 Z0 nm st1.objs w) nm st.objs d v→rdV w (Zc w0 Z0 nm st1.objs w) t v x:=by
 cases d with
 | one c=>
   obtain ⟨f,g⟩:=Hn (n:=n) (w0:=w0) (w:=w) (Z0:=Z0) (a:=a) (nm:=nm) (v:=undef) (show atV (look st.objs) t c=some (x,u) from h)
   refine ⟨f,fun st1 hf v hv=>?_⟩
   exact (Hn (n:=n) (w0:=w0) (w:=w) (Z0:=Z0) (a:=a) (nm:=nm) (show atV (look st.objs) t c=some (x,u) from h)).2 st1 hf.fz hf.rel hf.cold hv
 | agg cs=>
   cases t with
   | st s=>
     simp only [dvV] at h
     split at h
     ·rename_i x1 u1 h1
      cases h
      obtain ⟨f,used,e,g⟩:=joinV_rd (n:=n) (w0:=w0) (w:=w) (Z0:=Z0) (a:=a) (nm:=nm) s h1
      rw [List.append_nil] at e
      subst e
      exact ⟨f,fun st1 hf v ⟨vs,e,h1,_⟩=>⟨vs,e,g st1 hf _ h1⟩⟩
     ·cases h
   | _=>simp [dvV] at h
 | tup cs=>simp [dvV] at h
def Vj (w:World) (Z:Nat→Prop):(ts:List Ty)→dens ts→List Value→Prop
 | [],_,vs=>vs=[]
 | [t],x,vs=>∃v,vs=[v]∧rdV w Z t v x
 | t::t'::ts,x,vs=>∃v r,vs=v::r∧rdV w Z t v x.1∧Vj w Z (t'::ts) x.2 r
theorem args_rd:∀(ts:List Ty) {ds:List Dv} {x:dens ts} {u:Upd},args (look st.objs) ts ds=some (x,u) →
 FzUpd st u ∧ ∀st1,Frozen n w0 Z0 st st1 a w nm u → ∀vs:List Value,vs.length=ds.length→(∀(i:Nat) d v,ds[i]?=some d→vs[i]?=some v→rdD w (Zc w0 Z0 nm st1.objs w) nm st.objs d v)→Vj w (Zc w0 Z0 nm st1.objs w) ts x vs
 | [],[],x,u,h=>by
   simp only [args,z6,zm] at h
   obtain ⟨_,rfl⟩:=h
   exact ⟨fun p hp=>(by cases hp),fun st1 _ vs hl _=>zg hl⟩
 | [t],[d],x,u,h=>by
   simp only [args] at h
   split at h
   ·rename_i x1 u1 h1
    cases h
    obtain ⟨f,g⟩:=Vh (n:=n) (w0:=w0) (w:=w) (Z0:=Z0) (a:=a) (nm:=nm) h1
    refine ⟨f,fun st1 hf vs hl hr=>?_⟩
    match vs,hl with
    | [v],_=>exact ⟨v,rfl,g st1 hf v (hr 0 d v rfl rfl)⟩
   ·cases h
 | t::t'::ts,d::ds,x,u,h=>by
   simp only [args] at h
   split at h
   ·rename_i x1 u1 h1
    split at h
    ·rename_i y1 v1 h2
     cases h
     obtain ⟨f,g⟩:=Vh (n:=n) (w0:=w0) (w:=w) (Z0:=Z0) (a:=a) (nm:=nm) h1
     obtain ⟨f2,g2⟩:=args_rd (t'::ts) h2
     refine ⟨f.append f2,fun st1 hf vs hl hr=>?_⟩
     match vs,hl with
     | v::vs,hl=>
       exact ⟨v,vs,rfl,g st1 hf.left v (hr 0 d v rfl rfl),g2 st1 hf.right vs (by simpa using hl) (fun i d v q1 q2=>hr (i+1) d v (by simpa using q1) (by simpa using q2))⟩
    ·cases h
   ·cases h
 | [],_::_,_,_,h=>by simp [args] at h
 | [_],[],_,_,h=>by simp [args] at h
 | [_],_::_::_,_,_,h=>by simp [args] at h
 | _::_::_,[],_,_,h=>by simp [args] at h
theorem Rel.newArrG (h:Rel n w0 Z0 st a w nm) {w':World} {ver:Nat} {e:TypeId} {t:Ty} {xs:List t.den} {nv:Value}
 (hver:verOf (look st.objs) dst=some ver) (hmay:mayOb st dst (.arr ver false e t xs)=true) (hs:Same w w')
 (hnv:∀b,blk nv=some b→w.heap.size≤b∧b<w'.heap.size) (hrd:rdArr w' (Zc w0 Z0 nm st.objs w) nv e t xs) :
 Rel n w0 Z0 ⟨st.slots,ins dst (.arr ver false e t xs) st.objs⟩ a w' (setN nm dst nv) ∧
  rdD w' (Zc w0 Z0 (setN nm dst nv) (ins dst (.arr ver false e t xs) st.objs) w') (setN nm dst nv) (ins dst (.arr ver false e t xs) st.objs) (.one (.own dst ver)) nv:=by
 have hst:Stays nm dst nv (look st.objs dst) (.arr ver false e t xs):=by
  unfold verOf at hver
  split at hver
  ·rename_i h1;rw [h1];trivial
  ·rename_i v fz e' t' xs' h1
   rw [h1]
   cases hver
   exact fun hh=>absurd hh (by omega)
  ·cases hver
 refine ⟨h.upd dst _ nv hmay hst ⟨hs.os,hs.tape,hs.output,hs.size⟩ (fun b hb=>.inr (hs.block b hb)) (fun b hb=>.inr (hnv b hb)) ?_,?_⟩
 ·show rdArr w' _ (setN nm dst nv dst) e t xs
  rw [JG]
  refine VT ?_ (fun _ _=>rfl) hrd
  rintro b ⟨z1,z2,z3⟩
  refine ⟨⟨zw z1 hs.size,z2,?_⟩,fun _ _ hu=>hu⟩
  rintro ⟨j,ob,y1,y2,y3⟩
  by_cases hj:dst=j
  ·subst hj
   rw [JG] at y3
   have:=hnv b y3
   omega
  ·rw [Jm,if_neg hj] at y1
   rw [kU _ _ (Ne.symm hj)] at y3
   exact z3 ⟨j,ob,y1,y2,y3⟩
 ·refine ⟨?_,fun fz e t xs hl=>(JG _ _ _).symm⟩
  rcases hrd with ⟨_,cells,hown,_⟩ | ⟨_,_,_,_,b,_,_,e1,_⟩
  ·rcases hown.2 with ⟨e1,_⟩ | ⟨g,cap,cur,e1,_⟩<;>rw [e1]<;>rfl
  ·rw [e1];rfl
theorem Good.newArrG (h:Rel n w0 Z0 st a w nm) {w':World} {ver:Nat} {e:TypeId} {t:Ty} {xs:List t.den} {nv:Value}
 (hver:verOf (look st.objs) dst=some ver) (hrun:(execOp a.eval o).run P w=.ok (.value nv) w') (hs:Same w w')
 (hnv:∀b,blk nv=some b→w.heap.size≤b∧b<w'.heap.size) (hrd:rdArr w' (Zc w0 Z0 nm st.objs w) nv e t xs) :
 Good P n w0 Z0 st a w o ⟨.one (.own dst ver),[(dst,.arr ver false e t xs)]⟩:=by
 intro st' hl
 obtain ⟨hmay,rfl⟩:=YM hl
 obtain ⟨q1,q2⟩:=h.newArrG hver hmay hs hnv hrd
 exact Does.of_run hrun ⟨_,q1,q2⟩
theorem Rel.newArr (h:Rel n w0 Z0 st a w nm) {w':World} {ver:Nat} {e:TypeId} {t:Ty} {xs:List t.den} {nv:Value} (hm:t.isMap=false)
 (hver:verOf (look st.objs) dst=some ver) (hmay:mayOb st dst (.arr ver false e t xs)=true) (hs:Same w w')
 (hnv:∀b,blk nv=some b→w.heap.size≤b∧b<w'.heap.size) {cells:List Value} (hown:w'.ownsM e t.cells nv xs.length cells) (hrd:rdAll (rdC w' (Zc w0 Z0 nm st.objs w) t) cells xs) :
 Rel n w0 Z0 ⟨st.slots,ins dst (.arr ver false e t xs) st.objs⟩ a w' (setN nm dst nv) ∧
  rdD w' (Zc w0 Z0 (setN nm dst nv) (ins dst (.arr ver false e t xs) st.objs) w') (setN nm dst nv) (ins dst (.arr ver false e t xs) st.objs) (.one (.own dst ver)) nv:=
 h.newArrG hver hmay hs hnv (.inl ⟨hm,cells,hown,hrd⟩)
theorem Good.newArr (h:Rel n w0 Z0 st a w nm) {w':World} {ver:Nat} {e:TypeId} {t:Ty} {xs:List t.den} {nv:Value} (hm:t.isMap=false)
 (hver:verOf (look st.objs) dst=some ver) (hrun:(execOp a.eval o).run P w=.ok (.value nv) w') (hs:Same w w')
 (hnv:∀b,blk nv=some b→w.heap.size≤b∧b<w'.heap.size) {cells:List Value} (hown:w'.ownsM e t.cells nv xs.length cells) (hrd:rdAll (rdC w' (Zc w0 Z0 nm st.objs w) t) cells xs) :
 Good P n w0 Z0 st a w o ⟨.one (.own dst ver),[(dst,.arr ver false e t xs)]⟩:=
 Good.newArrG h hver hrun hs hnv (.inl ⟨hm,cells,hown,hrd⟩)
theorem eff_assign {x:Operand} (ho:o.op=.assign x):EffOk P G o:=by
 intro hT n w0 w Z0 st a nm dst ρ k r h he
 unfold effK at he
 rw [ho] at he
 simp only at he
 split at he
 ·rename_i hd
  cases hm:keepNil G x dst with
  | true=>
    rw [hm] at he
    exact ⟨_,he,Good.pure h (v:=a.eval x) (by simp [execOp,ho]) (ev_rd h hd)⟩
  | false=>
  rw [hm] at he
  simp only [zf] at he
  split at he
  ·rename_i t e b htab
   split at he
   ·rename_i ver hver
    have hv:=ev_rd h hd
    refine ⟨_,he,Good.newArr h (VV hT htab) hver (nv:=.slice none 0 0) (w':=w) (cells:=[]) ?_ (Same.refl w) (fun b hb=>by cases hb) ⟨by simp,.inl ⟨rfl,rfl⟩⟩ rfl⟩
    have hv:a.eval x=.slice none 0 0:=hv
    simp [execOp,ho,hv]
   ·cases he
  ·cases he
 ·rename_i d _ hd
  exact ⟨_,he,Good.pure h (v:=a.eval x) (by simp [execOp,ho]) (ev_rd h hd)⟩
 ·cases he
theorem rdAll_replicate {w:World} {Z:Nat→Prop} {t:Ty} {z:List Value} (hz:kl t z):∀(m:Nat),rdAll (rdC w Z t) (List.replicate m z).flatten (List.replicate m t.zero)
 | 0=>rfl
 | m+1=>⟨z,(List.replicate m z).flatten,by simp [List.replicate_succ],YT t hz,rdAll_replicate hz m⟩
theorem made_take {z:Array Value} (hz:0<z.size) (m c:Nat) (hmc:m≤c):((madeCells z (c*z.size)).toList.take (m*z.size))=(List.replicate m z.toList).flatten:=by
 apply List.ext_getElem?
 intro i
 have hlen:((List.replicate m z.toList).flatten).length=m*z.size:=by simp
 rw [List.getElem?_take]
 by_cases hi:i<m*z.size
 ·have hc:i<c*z.size:=zw hi (Nat.mul_le_mul_right _ hmc)
  have hmod:i % z.size<z.size:=Nat.mod_lt _ hz
  rw [if_pos hi]
  have h1:(madeCells z (c*z.size)).toList[i]?=some z[i % z.size]:=by
   simp [madeCells,hc,hmod]
  rw [h1]
  have:∀(m i:Nat),i<m*z.size→((List.replicate m z.toList).flatten)[i]?=some z[i % z.size]!:=by
   intro m
   induction m with
   | zero=>intro i hi;simp at hi
   | succ m ih=>
     intro i hi
     rw [List.replicate_succ,List.flatten_cons]
     by_cases hlt:i<z.size
     ·rw [List.getElem?_append_left (by simpa using hlt)]
      simp [hlt,Nat.mod_eq_of_lt hlt]
     ·rw [zn (by simpa using hlt)]
      rw [Array.length_toList,ih (i-z.size) (by rw [Nat.succ_mul] at hi;omega)]
      rw [Nat.mod_eq_sub_mod (by omega:z.size≤i)]
  rw [this m i hi]
  simp [hmod]
 ·rw [if_neg hi,List.getElem?_eq_none (by rw [hlen];omega)]
theorem eff_makeSlice {t:TypeId} {l c:Operand} (ho:o.op=.makeSlice t l c):EffOk P G o:=by
 intro hT n w0 w Z0 st a nm dst ρ k r h he
 unfold effK at he
 rw [ho] at he
 simp only at he
 split at he
 ·rename_i s e by_ htab
  obtain ⟨hu,i,z,g1,g2,g3,g4,g5,g6⟩:=YL hT htab
  obtain ⟨m,he,hm⟩:=kD h he
  obtain ⟨q,he,hq⟩:=kD h he
  obtain ⟨_,hb,he⟩:=jQ he
  have hb:=JS hb
  simp only [z7,zi] at hb
  split at he
  ·rename_i ver hver
   have hzl:z.cells.size=s.cells:=by have:=Yz s g5;simpa using this
   obtain ⟨j1,e1⟩:∃j,a.eval l=.int j m:=by
    rcases hm with ⟨hn,_⟩ | ⟨y,j,hy,e⟩
    ·cases hn
    ·cases hy;exact ⟨j,e⟩
   obtain ⟨j2,e2⟩:∃j,a.eval c=.int j q:=by
    rcases hq with ⟨hn,_⟩ | ⟨y,j,hy,e⟩
    ·cases hn
    ·cases hy;exact ⟨j,e⟩
   have hrun:=run_make (P:=P) w t e i z hu g1 g4 j1 j2 m q hb.1.1.1 hb.1.1.2 (by rw [g3,Int.mul_comm];omega) (by omega)
   refine ⟨_,he,Good.newArr h (VV hT htab) hver (nv:=.slice (some ⟨w.heap.size,0,none⟩) m.toNat q.toNat) (w':=w.alloc (.cells (madeCells z.cells (q.toNat*i.size)) e)) (cells:=(List.replicate m.toNat z.cells.toList).flatten) (by simp [execOp,ho,e1,e2,hrun]) (Same.alloc w _) (fun b hb=>?_) ?_ (rdAll_replicate g5 _)⟩
   ·simp only [blk,z6] at hb
    subst hb
    exact ⟨zt _,by simp⟩
   ·refine ⟨by simp [hzl],.inr ⟨w.heap.size,q.toNat,madeCells z.cells (q.toNat*i.size),by simp,.of (heap_alloc_new w _),?_,?_,?_,?_⟩⟩
    ·simp;omega
    ·simp only [maxLen];omega
    ·rw [size_madeCells,g2]
    ·rw [List.length_replicate,g2,←hzl]
     exact made_take (by omega) _ _ (by omega)
  ·cases he
 ·cases he
end
end Go.Ql
end

section
namespace Go.Ql
open Go.Lib
section
variable [GInv] {P:Program} {G:Env} {n:Nat} {w0 w:World} {Z0:Bs} {st:St} {a:Act} {nm:Names} {o:Oper} {dst:Nat} {ρ:Type} {k:Eff→Option ρ} {r:ρ}
theorem bytes_rd' (Z:Nat→Prop) (bs:Z6):rdAll (rdC w Z (.int .u8)) (Lib.strCells ⟨bs.toArray⟩) (bs.map fun b=>(b.toNat:Int)):=by
 have e:Lib.strCells ⟨bs.toArray⟩=(bs.map fun b=>(b.toNat:Int)).map (Value.int .u8):=by
  simp [Lib.strCells,List.map_map,Function.comp_def]
 rw [e]
 exact rdAll_ints w Z .u8 _
theorem eff_move {x:Operand} (ho:o.op=.move x):EffOk P G o:=by
 intro hT n w0 w Z0 st a nm dst ρ k r h he
 unfold effK at he
 rw [ho] at he
 simp only at he
 have hrun:(execOp a.eval o).run P w=.ok (.value (a.eval x)) w:=by simp [execOp,ho]
 split at he
 ·rename_i id ver hd
  cases hm:memN (coldId dst) G.muts with
  | false=>
    rw [hm] at he
    simp only [zf] at he
    exact ⟨_,he,Good.pure h hrun (ev_rd h hd)⟩
  | true=>
    rw [hm] at he
    simp only [ze] at he
    split at he
    ·rename_i v fz e s xs hob
     cases hv:(Nat.beq v ver && !s.isMap) with
     | false=>rw [hv] at he;cases he
     | true=>
       rw [hv] at he
       rw [z7,zx] at hv
       obtain ⟨hv,hmap⟩:=hv
       have:=beqN.1 hv
       subst this
       simp only [ze] at he
       refine ⟨_,he,fun st' hl=>?_⟩
       obtain ⟨hmay,rfl⟩:=YM hl
       obtain ⟨hrel,_⟩:=h.freeze hob
       have hv1:a.eval x=nm id:=(ev_rd h hd).2 fz e s xs hob
       refine Does.of_run hrun ⟨nm,hrel,?_⟩
       rw [hv1]
       exact cold_rd hrel hmap (v:=v) (e:=e) (xs:=xs) (by show look (ins id _ st.objs) id=_;rw [Jm,if_pos rfl])
    ·cases he
 ·rename_i d _ hd
  exact ⟨_,he,Good.pure h hrun (ev_rd h hd)⟩
 ·cases he
theorem eff_convert {xt yt:TypeId} {x:Operand} (ho:o.op=.convert xt yt x):EffOk P G o:=by
 intro hT n w0 w Z0 st a nm dst ρ k r h he
 unfold effK at he
 rw [ho] at he
 simp only at he
 have hx:∀v v':Value,∀w':World,a.eval x=v→(convert xt yt v).run P w=.ok v' w'→(execOp a.eval o).run P w=.ok (.value v') w':=by
  intro v v' w' h1 h2
  simp [execOp,ho,h1,h2]
 split at he
 ·
  rename_i j1 k1 j2 k2 j3 m h1 h2 h3
  have u1:=HJ hT h1 rfl
  have u2:=HJ hT h2 rfl
  exact ⟨_,he,Good.pure h (v:=.int j2 (j2.wrap m)) (hx _ _ w (YI h h3) (by simp [convert,run_underlying u1,run_underlying u2,Conv.intToInt])) (rd_vI ..)⟩
 ·rename_i k1 k2 s h1 h2 h3
  have u1:=Us hT h1 rfl
  have u2:=Us hT h2 rfl
  exact ⟨_,he,Good.pure h (v:=.string ⟨s.toArray⟩) (hx _ _ w (UU h h3) (by simp [convert,run_underlying u1,run_underlying u2])) (rd_vS ..)⟩
 ·
  rename_i e b1 k2 d h1 h2 h3
  split at he
  ·rename_i k3 h4
   obtain ⟨u1,_⟩:=YL hT h1
   have u2:=Us hT h2 rfl
   have u3:=HJ hT h4 rfl
   have key:∀xs:List Int,rdS w (Zc w0 Z0 nm st.objs w) (.int .u8) (a.eval x) xs→(execOp a.eval o).run P w=.ok (.value (.string ⟨(List.map (fun n=>UInt8.ofNat n.toNat) xs).toArray⟩)) w:=by
    intro xs hr
    rcases hr with ⟨e1,rfl⟩ | ⟨b,off,cap,cells,e1,e2,e3,e4,e5⟩ | ⟨ad,cap,e1,rfl,_⟩
    ·refine hx _ _ w e1 ?_
     rw [run_convert_bytes_string w xt yt e none 0 0 u1 u3 u2]
     rfl
    rotate_left
    ·refine hx _ _ w e1 ?_
     rw [run_convert_bytes_string w xt yt e _ _ _ u1 u3 u2]
     rw [run_bytesToString w _ 0 cap []]
     ·rfl
     ·exact run_loadCells_list (P:=P) (w:=w) ad [] (fun j v hj=>by simp at hj)
    ·have hc:=rdAll_int e4
     subst hc
     refine hx _ _ w e1 ?_
     rw [run_convert_bytes_string w xt yt e _ _ _ u1 u3 u2]
     rw [run_bytesToString w _ xs.length cap xs]
     ·rw [foldl_push]
     ·have:=run_loadCells_list (P:=P) (w:=w) ⟨b,off,none⟩ (xs.map (Value.int .u8)) (fun j v hj=>by rw [Addr.add_lit];exact e5 j v hj)
      rw [List.length_map] at this
      exact this
   split at he
   ·exact ⟨_,he,Good.pure h (key [] (.inl ⟨ev_rd h h3,rfl⟩)) (rd_vS ..)⟩
   ·obtain ⟨t,xs,q1,q2⟩:=Vm h h3 he
    split at q1
    ·rename_i xs'
     exact ⟨_,q1,Good.pure h (key _ q2) (rd_vS ..)⟩
    ·cases q1
  ·cases he
 ·
  rename_i e b1 k2 id ver h1 h2 h3
  split at he
  ·rename_i k3 v e' s xs h4 hob
   cases hv:(Nat.beq xt yt&&Nat.beq v ver && !s.isMap) with
   | false=>rw [hv] at he;cases he
   | true=>
     rw [hv] at he
     rw [z7,z7,zx] at hv
     obtain ⟨⟨hxy,hv⟩,hmap⟩:=hv
     have:=beqN.1 hxy
     subst this
     have:=beqN.1 hv
     subst this
     simp only [ze] at he
     obtain ⟨_,hb,he⟩:=jQ he
     have hb:=JS hb
     obtain ⟨u1,_⟩:=YL hT h1
     have u3:=HJ hT h4 rfl
     have hv1:a.eval x=nm id:=(ev_rd h h3).2 false e' s xs hob
     refine ⟨_,he,?_⟩
     obtain ⟨cells,p1,p2⟩:=(h.objs id _ hob).sl hmap
     rcases p1.2 with ⟨_,q2⟩ | ⟨g,cap,cur,q1,q2,q3⟩
     ·have:xs=[]:=zg q2
      subst this
      cases hb
     ·intro st' hl
      obtain ⟨hmay,rfl⟩:=YM hl
      have hblk:blk (nm id)=some g:=by rw [q1];rfl
      have hrun:=run_convert_mark (P:=P) q2 u1 u3 (List.length xs) cap
      have hsz:(w.freeze ⟨g,cur.size,none⟩ 1).heap.size=w.heap.size:=by
       unfold World.freeze
       split
       ·rfl
       ·exact Array.size_modify
      have hos:(w.freeze ⟨g,cur.size,none⟩ 1).os=w.os∧(w.freeze ⟨g,cur.size,none⟩ 1).tape=w.tape∧(w.freeze ⟨g,cur.size,none⟩ 1).output=w.output∧w.drawn≤(w.freeze ⟨g,cur.size,none⟩ 1).drawn:=by
       unfold World.freeze
       split<;>exact ⟨rfl,rfl,rfl,zt _⟩
      have hother:∀k,k≠g→(w.freeze ⟨g,cur.size,none⟩ 1).heap[k]?=w.heap[k]?:=fun k hk=>freeze_other _ _ _ hk
      refine Does.of_run (hx _ _ _ (hv1.trans q1) hrun) ⟨setN nm id (nm id),?_,?_⟩
      ·refine h.upd id _ _ hmay (by rw [hob];exact fun _=>⟨rfl,rfl,rfl,rfl⟩) ⟨hos.1,hos.2.1,hos.2.2.1,by rw [hsz];exact zt _⟩ (fun b2 hb2=>?_) (fun b2 hb2=>.inl ⟨hb2,_,hob,.inl rfl⟩) ?_
       ·by_cases hbb:b2=g
        ·subst hbb;exact .inl ⟨_,hob,rfl,hblk⟩
        ·exact .inr (hother b2 hbb)
       ·rw [Vk]
        refine .inl ⟨hmap,cells,⟨p1.1,.inr ⟨g,cap,cur,q1,q2.mark,q3⟩⟩,?_⟩
        refine kA (fun _ _=>ka ?_ s) p2
        rintro b2 ⟨z1,z2,z3⟩
        refine ⟨⟨by rw [hsz];exact z1,z2,?_⟩,HA (hother b2 (fun hh=>z3 ⟨id,_,hob,rfl,by rw [hblk,hh]⟩))⟩
        rintro ⟨j,ob,y1,y2,y3⟩
        by_cases hj:id=j
        ·subst hj;exact z3 ⟨id,_,hob,rfl,y3⟩
        ·rw [Jm,if_neg hj] at y1
         exact z3 ⟨j,ob,y1,y2,y3⟩
      ·rw [Vk,←q1]
       exact ⟨by rw [q1];rfl,fun _ _ _ _ _=>rfl⟩
  ·cases he
 ·
  rename_i k1 e b1 s h1 h2 h3
  split at he
  ·rename_i k3 h4
   obtain ⟨u2,_⟩:=YL hT h2
   have u1:=Us hT h1 rfl
   have u3:=HJ hT h4 rfl
   obtain ⟨_,hb,he⟩:=jQ he
   have hb:=zr (JS hb)
   have e1:=UU h h3
   have hrun:=run_convert_string_bytes w xt yt e ⟨s.toArray⟩ u1 u2 u3
   have hsize:=bytesWorld_size w e ⟨s.toArray⟩
   have hsame:Same w (bytesWorld w e ⟨s.toArray⟩):=⟨rfl,rfl,rfl,by rw [hsize];omega,fun b hb=>bytesWorld_at_old w e _ b hb⟩
   cases hm:memN dst G.muts with
   | true=>
     rw [hm] at he
     simp only [ze] at he
     split at he
     ·rename_i ver hver
      have ho:=bytes_own w e ⟨s.toArray⟩ (by rw [Ur];simp only [YE,maxLen] at hb ⊢;omega)
      have hlen:(s.map fun b=>(b.toNat:Int)).length=s.length:=List.length_map ..
      have ho:(bytesWorld w e ⟨s.toArray⟩).ownsM e (Ty.int IntKind.u8).cells (.slice (some ⟨w.heap.size,0,none⟩) (⟨s.toArray⟩:ByteArray).size (grownCap w (⟨s.toArray⟩:ByteArray).size 0 e))
       (s.map fun b=>(b.toNat:Int)).length (strCells ⟨s.toArray⟩):=by
       rw [hlen]
       exact ho
      refine ⟨_,he,Good.newArr h rfl hver (hx _ _ _ e1 hrun) hsame (fun b hb=>?_) ho (bytes_rd' _ s)⟩
      simp only [blk,z6] at hb
      subst hb
      exact ⟨zt _,by rw [hsize];omega⟩
     ·cases he
   | false=>
   rw [hm] at he
   simp only [zf] at he
   refine ⟨_,he,Good.grow h (hx _ _ _ e1 hrun) hsame ?_⟩
   refine ⟨_,rfl,.inr (.inl ⟨w.heap.size,0,grownCap w (⟨s.toArray⟩:ByteArray).size 0 e,(s.map fun b=>(b.toNat:Int)).map (Value.int .u8),?_,?_,?_,?_,?_,?_⟩)⟩
   ·simp [Ur]
   ·have:=grownCap_ge w (⟨s.toArray⟩:ByteArray).size 0 e
    simpa [Ur] using this
   ·refine grownCap_le_maxLen w _ 0 e ?_
    rw [Ur]
    simp only [YE,maxLen] at hb ⊢
    omega
   ·refine ⟨by rw [hsize];omega,fun hlt=>absurd hlt (by have:=h.same.size;omega),?_⟩
    rintro ⟨id,ob,q1,q2,q3⟩
    have:=(h.new id ob _ q1 q3).2
    omega
   ·exact rdAll_ints _ _ _ _
   ·intro j u hj
    simp only [List.map_map,List.getElem?_map,Z4,Function.comp_apply] at hj
    obtain ⟨c,hc,rfl⟩:=hj
    have hlt:j<(⟨s.toArray⟩:ByteArray).size:=by rw [Ur];exact (Z2.1 hc).1
    rw [zq,bytesWorld_cell w e ⟨s.toArray⟩ j hlt]
    simp [List.getD_eq_getElem?_getD,hc]
  ·cases he
 ·cases he
end
end Go.Ql
end

section
namespace Go.Ql
section
def kvE (x:MapEntry):Value×Value:=(x.key,x.val)
def kvP (j u:IntKind) (p:Int×Int):Value×Value:=(.int j p.1,.int u p.2)
theorem find_ints {j u:IntKind} (n:Int):∀(l:List (Int×Int)) (es:List MapEntry) (i:Nat),es.map kvE=l.map (kvP j u) →
 (mfind l n=none∧Instr.findNow (.int j) (.int j n) es i=some none ∧ ∀y,mset l n y=l++[(n,y)]) ∨
 ∃y p e,mfind l n=some y∧Instr.findNow (.int j) (.int j n) es i=some (some (i+p,.int u y))∧es[p]?=some e∧e.key=.int j n ∧
  ∀y':Int,(es.modify p fun e=>{ e with key:=.int j n,val:=.int u y' }).map kvE=(mset l n y').map (kvP j u)
 | [],es,i,h=>by
   have:es=[]:=by simpa using h
   subst this
   exact .inl ⟨rfl,rfl,fun _=>rfl⟩
 | q::l,[],i,h=>by simp at h
 | q::l,e::es,i,h=>by
   simp only [List.map_cons,List.cons.injEq] at h
   obtain ⟨h1,h2⟩:=h
   have hk:e.key=.int j q.1:=congrArg Prod.fst h1
   have hv:e.val=.int u q.2:=congrArg Prod.snd h1
   by_cases hq:q.1=n
   ·refine .inr ⟨q.2,0,e,?_,?_,rfl,by rw [hk,hq],fun y'=>?_⟩
    ·simp [mfind,hq]
    ·simp [Instr.findNow,Instr.sameNow,hk,hq,hv]
    ·simp only [mset,hq,decide_true,ze,List.modify_zero_cons,List.map_cons,h2,kvE,kvP]
   ·have hn:¬n=q.1:=fun e=>hq e.symm
    have hs:Instr.sameNow (.int j) (.int j n) e.key=some false:=by rw [hk];simp [Instr.sameNow,hn]
    rcases find_ints n l es (i+1) h2 with ⟨g1,g2,g3⟩ | ⟨y,p,e',g1,g2,g3,g4,g5⟩
    ·refine .inl ⟨?_,?_,fun y=>?_⟩
     ·simp [mfind,hq,g1]
     ·simp only [Instr.findNow,hs,g2]
     ·simp [mset,hq,g3]
    ·refine .inr ⟨y,p+1,e',?_,?_,by simpa using g3,g4,fun y'=>?_⟩
     ·simp [mfind,hq,g1]
     ·simp only [Instr.findNow,hs,g2]
      rw [show i+1+p=i+(p+1) by omega]
     ·simp only [mset,hq,decide_false,zf,List.modify_succ_cons,List.map_cons,g5,h1]
variable {P:Program} {w:World} {t k e:TypeId} {j u:IntKind} {b:Nat} {es:Array MapEntry} {clock:Nat} {l:List (Int×Int)}
theorem run_makeMap (t:TypeId):(Instr.makeMap t none).run P w=.ok (.map (some w.heap.size)) (w.alloc (.map #[] 0)):=by
 simp [Instr.makeMap]
theorem run_checkKey (hk:P.underlying k=some (.int j)) (m:Bool) (q:Nat) (n:Int):(Instr.checkKey m (q+1) k (.int j n)).run P w=.ok () w:=by
 simp [Instr.checkKey,run_underlying hk]
theorem run_lookup_int (ht:P.underlying t=some (.map k e)) (hk:P.underlying k=some (.int j)) {i:TypeInfo} (hi:P.info? e=some i) (hz:i.zero=some (.int u 0))
 (hb:w.heap[b]?=some (.map es clock)) (hl:es.toList.map kvE=l.map (kvP j u)) (n:Int) (ok:Bool) :
 (Instr.lookup t (.map (some b)) (.int j n) ok).run P w=.ok (if ok then .tuple #[.int u ((mfind l n).getD 0),.bool (mfind l n).isSome] else .int u ((mfind l n).getD 0)) w:=by
 have hc:∀m:Bool,(Instr.checkKey m 10000 k (.int j n)).run P w=.ok () w:=fun m=>run_checkKey hk m 9999 n
 rcases find_ints n l es.toList 0 hl with ⟨g1,g2,_⟩ | ⟨y,p,e',g1,g2,_⟩
 ·have hf:(Instr.findKey k (.int j n) es.toList).run P w=.ok none w:=by simp [Instr.findKey,run_underlying hk,g2]
  cases ok<;>simp [Instr.lookup,run_underlying ht,MapKept.run_getObj_map hb,hc,hf,zeroValue,typeInfo,hi,hz,g1,Result.andThen]
 ·have hf:(Instr.findKey k (.int j n) es.toList).run P w=.ok (some (0+p,.int u y)) w:=by simp [Instr.findKey,run_underlying hk,g2]
  cases ok<;>simp [Instr.lookup,run_underlying ht,MapKept.run_getObj_map hb,hc,hf,g1,Result.andThen]
theorem run_mapUpdate_int (ht:P.underlying t=some (.map k e)) (hk:P.underlying k=some (.int j))
 (hb:w.heap[b]?=some (.map es clock)) (hl:es.toList.map kvE=l.map (kvP j u)) (n y:Int) :
 ∃es' clock',(Instr.mapUpdate t (.map (some b)) (.int j n) (.int u y)).run P w=.ok () { w with heap:=w.heap.setIfInBounds b (.map es' clock') }∧es'.toList.map kvE=(mset l n y).map (kvP j u):=by
 have hc:∀m:Bool,(Instr.checkKey m 10000 k (.int j n)).run P w=.ok () w:=fun m=>run_checkKey hk m 9999 n
 rcases find_ints n l es.toList 0 hl with ⟨g1,g2,g3⟩ | ⟨y0,p,e',g1,g2,g3,g4,g5⟩
 ·have hf:(Instr.findKey k (.int j n) es.toList).run P w=.ok none w:=by simp [Instr.findKey,run_underlying hk,g2]
  refine ⟨es.push { key:=.int j n,val:=.int u y,born:=clock },clock+1,?_,?_⟩
  ·simp [Instr.mapUpdate,run_underlying ht,MapKept.run_getObj_map hb,hc,hf,MapKept.run_setObj_map _ hb,Result.andThen]
  ·rw [g3];simp [hl,kvE,kvP]
 ·have hf:(Instr.findKey k (.int j n) es.toList).run P w=.ok (some (0+p,.int u y0)) w:=by simp [Instr.findKey,run_underlying hk,g2]
  refine ⟨es.modify p fun e=>{ e with key:=.int j n,val:=.int u y },clock,?_,?_⟩
  ·have hke:(es[p]?.map (·.key)).getD (.int j n)=.int j n:=by
    rw [←Array.getElem?_toList,g3]
    exact g4
   have hst:(Instr.keyThatStays (.int j n) (.int j n)).run P w=.ok (.int j n) w:=by simp [Instr.keyThatStays,Instr.sameBits]
   simp [Instr.mapUpdate,run_underlying ht,MapKept.run_getObj_map hb,hc,hf,hke,hst,MapKept.run_setObj_map _ hb,Result.andThen]
  ·rw [Array.toList_modify];exact g5 y
end
section
variable [GInv] {P:Program} {G:Env} {n:Nat} {w0 w:World} {Z0:Bs} {st:St} {a:Act} {nm:Names} {o:Oper} {dst:Nat} {ρ:Type} {k:Eff→Option ρ} {r:ρ}
theorem tab_map {t:TypeId} {kt e:TypeId} {j u:IntKind} (hT:TabOk P G.tab) (hl:look G.tab t=some ⟨.nilv 2,.map kt e j u⟩) :
 P.underlying t=some (.map kt e)∧P.underlying kt=some (.int j) ∧ ∃i,P.info? e=some i∧i.zero=some (.int u 0):=by
 obtain ⟨_,h1,h2,h3⟩:=(hT _ _ hl).kind
 exact ⟨h1,h2,h3⟩
theorem eff_makeMap {t:TypeId} {c:Option Operand} (ho:o.op=.makeMap t c):EffOk P G o:=by
 intro hT n w0 w Z0 st a nm dst ρ k r h he
 unfold effK at he
 rw [ho] at he
 cases c with
 | some c=>cases he
 | none=>
   simp only at he
   split at he
   ·rename_i kt e j u htab
    split at he
    ·rename_i ver hver
     have hrun:(execOp a.eval o).run P w=.ok (.value (.map (some w.heap.size))) (w.alloc (.map #[] 0)):=by simp [execOp,ho,run_makeMap]
     refine ⟨_,he,Good.newArrG h hver hrun (Same.alloc w _) (fun b hb=>?_) (.inr ⟨j,u,[],rfl,w.heap.size,#[],0,rfl,heap_alloc_new w _,rfl⟩)⟩
     simp only [blk,z6] at hb
     subst hb
     exact ⟨zt _,by simp⟩
    ·cases he
   ·cases he
theorem eff_lookup {t:TypeId} {x ix:Operand} {ok:Bool} (ho:o.op=.lookup t x ix ok):EffOk P G o:=by
 intro hT n w0 w Z0 st a nm dst ρ k r h he
 unfold effK at he
 rw [ho] at he
 simp only at he
 split at he
 ·rename_i kt e j u id ver j' m h1 h2 h3
  split at he
  ·rename_i v fz e' s xs hob
   split at he
   ·rename_i hs
    subst hs
    cases hv:(Nat.beq v ver&&decide (j'=j)) with
    | false=>rw [hv] at he;cases he
    | true=>
      rw [hv] at he
      rw [z7] at hv
      have:=beqN.1 hv.1
      subst this
      have:=zr hv.2
      subst this
      simp only [ze] at he
      obtain ⟨g1,g2,i,g3,g4⟩:=tab_map hT h1
      have e1:a.eval x=nm id:=(ev_rd h h2).2 fz e' _ xs hob
      have e2:=YI h h3
      obtain ⟨l,rfl,b,es,clock,m1,m2,m3⟩:=rdArr.map (h.objs id _ hob)
      have hrun:=run_lookup_int (P:=P) g1 g2 g3 g4 m2 (l:=l) (u:=u) m3 m ok
      have hex:(execOp a.eval o).run P w=.ok (.value (if ok then .tuple #[.int u ((mfind l m).getD 0),.bool (mfind l m).isSome] else .int u ((mfind l m).getD 0))) w:=by
       simp only [execOp,ho,e1,m1,e2,Sem.run_bind,hrun,Result.andThen_ok,Sem.run_pure]
      cases ok with
      | true=>
        refine ⟨_,he,Good.pure h hex ?_⟩
        refine ⟨_,rfl,rfl,fun i' x' v' q1 q2=>?_⟩
        match i' with
        | 0=>cases q1;cases q2;rfl
        | 1=>cases q1;cases q2;rfl
        | i'+2=>cases q1
      | false=>
        refine ⟨_,he,Good.pure h hex ?_⟩
        exact rd_vI ..
   ·cases he
  ·cases he
 ·cases he
theorem eff_mapUpdate {t:TypeId} {x kx vx:Operand} (ho:o.op=.mapUpdate t x kx vx):EffOk P G o:=by
 intro hT n w0 w Z0 st a nm dst ρ k r h he
 unfold effK at he
 rw [ho] at he
 simp only at he
 split at he
 ·rename_i kt e j u id ver j' m u' y h1 h2 h3 h4
  split at he
  ·rename_i v e' s xs hob
   split at he
   ·rename_i hs
    subst hs
    cases hv:(Nat.beq v ver&&decide (j'=j)&&decide (u'=u)) with
    | false=>rw [hv] at he;cases he
    | true=>
      rw [hv] at he
      rw [z7,z7] at hv
      have:=beqN.1 hv.1.1
      subst this
      have:=zr hv.1.2
      subst this
      have:=zr hv.2
      subst this
      simp only [ze] at he
      obtain ⟨g1,g2,_⟩:=tab_map hT h1
      have e1:a.eval x=nm id:=(ev_rd h h2).2 false e' _ xs hob
      have e2:=YI h h3
      have e3:=YI h h4
      obtain ⟨l,rfl,b,es,clock,m1,m2,m3⟩:=rdArr.map (h.objs id _ hob)
      obtain ⟨es',clock',hrun,m4⟩:=run_mapUpdate_int (P:=P) g1 g2 m2 (l:=l) (u:=u') m3 m y
      refine ⟨_,he,?_⟩
      intro st' hl
      obtain ⟨hmay,rfl⟩:=YM hl
      have hblk:blk (nm id)=some b:=by rw [m1];rfl
      have hlt:b<w.heap.size:=(Array.getElem?_eq_some_iff.1 m2).1
      have hother:∀c,c≠b→({ w with heap:=w.heap.setIfInBounds b (.map es' clock') }:World).heap[c]?=w.heap[c]?:=fun c hc=>by
       show (w.heap.setIfInBounds b _)[c]?=_
       rw [Array.getElem?_setIfInBounds,if_neg (Ne.symm hc)]
      have hsame:({ w with heap:=w.heap.setIfInBounds b (.map es' clock') }:World).heap[b]?=some (.map es' clock'):=by
       show (w.heap.setIfInBounds b _)[b]?=_
       rw [Array.getElem?_setIfInBounds,if_pos rfl,if_pos hlt]
      have hundef:∀(w:World) (Z:Nat→Prop) (nm:Names) (objs:List (Nat×Ob)),rdD w Z nm objs (.tup []) undef:=fun w Z nm objs=>⟨#[],rfl,Vc⟩
      have hex:(execOp a.eval o).run P w=.ok .skip { w with heap:=w.heap.setIfInBounds b (.map es' clock') }:=by simp [execOp,ho,e1,m1,e2,e3,hrun]
      refine Does.of_skip hex ⟨setN nm id (nm id),?_,hundef _ _ _ _⟩
      refine h.upd id _ _ hmay (by rw [hob];exact fun _=>⟨rfl,rfl,rfl,rfl⟩) ⟨rfl,rfl,rfl,by simp⟩ (fun b2 hb2=>?_) (fun b2 hb2=>.inl ⟨hb2,_,hob,.inl rfl⟩) ?_
      ·by_cases hbb:b2=b
       ·subst hbb;exact .inl ⟨_,hob,rfl,hblk⟩
       ·exact .inr (hother b2 hbb)
      ·rw [Vk]
       exact .inr ⟨j',u',mset l m y,rfl,b,es',clock',m1,hsame,m4⟩
   ·cases he
  ·cases he
 ·cases he
end
end Go.Ql
end

section
namespace Go.Ql
structure GrownD (w w':World) (row:Option Nat):Prop where
 os:w'.os=w.os
 tape:w'.tape=w.tape
 output:w'.output=w.output
 size:w.heap.size≤w'.heap.size
 block:∀k,k<w.heap.size→some k≠row→w'.heap[k]?=w.heap[k]?
 drawn:w.drawn≤w'.drawn
section
variable [GInv] {P:Program} {G:Env} {n:Nat} {w0 w:World} {Z0:Bs} {st st1:St} {a:Act} {nm:Names} {o:Oper} {dst:Nat} {ρ:Type} {k:Eff→Option ρ} {r:ρ}
theorem app_run (t ty e:TypeId) (i:TypeInfo) (z:Value) (size:Nat) (ht:P.underlying t=some (.slice e)) (hi:P.info? e=some i) (hz:i.zero=some z)
 (hsize:i.size=size) (hzs:z.cells.size=size) (hsz:0<size)
 (v:Value) (m:Nat) (xs:List Value) (hown:w.ownsM e size v m xs) (y:Value) (q:Nat) (news:List Value) (hl:news.length=q*size)
 (hy:(y=.slice none 0 0∧q=0) ∨ ∃ad c,y=.slice (some ad) q c ∧ ∀j u,news[j]?=some u→w.cell? (ad.add j)=some u) (h1:∀u∈news,u.oneCell'=true)
 (h63:m+q≤140737488355328) (hbytes:(m+q)*i.bytes≤140737488355328) :
 ∃v' w',(Builtin.append_ #[t,t] ty #[v,y]).run P w=.ok v' w'∧w'.ownsM e size v' (m+q) (xs++news)∧GrownD w w' (blk v) ∧
  ∀b,blk v'=some b→blk v=some b∨(w.heap.size≤b∧b<w'.heap.size):=by
 rcases hy with ⟨rfl,rfl⟩ | ⟨ad,c,rfl,hc⟩
 ·have hn:news=[]:=zg (by simpa using hl)
  subst hn
  exact ⟨v,w,run_append_none_own (P:=P) w t ty e i size ht hi v m xs hown,by simpa using hown,⟨rfl,rfl,rfl,zt _,fun _ _ _=>rfl,zt _⟩,fun b hb=>.inl hb⟩
 ·subst hsize
  have hmax:m+q≤maxLen:=by simp only [maxLen];omega
  have hlen:(xs++news).length=(m+q)*i.size:=by rw [z8,hown.1,hl,Nat.add_mul]
  have grown:∀(old:Nat) (row:Option Nat),
   (w.drew.alloc (.cells (xs.toArray++news.toArray++Builtin.zeroCells z.cells (grownCap w (m+q) old e-(m+q))) e)).ownsM e i.size
    (.slice (some ⟨w.heap.size,0,none⟩) (m+q) (grownCap w (m+q) old e)) (m+q) (xs++news) ∧
   GrownD w (w.drew.alloc (.cells (xs.toArray++news.toArray++Builtin.zeroCells z.cells (grownCap w (m+q) old e-(m+q))) e)) row:=by
   intro old row
   have hge:=grownCap_ge w (m+q) old e
   have hcm:grownCap w (m+q) old e≤maxLen:=grownCap_le_maxLen w (m+q) old e hmax
   refine ⟨⟨hlen,.inr ⟨w.heap.size,_,_,rfl,.of (heap_alloc_new w.drew _),hge,hcm,?_,?_⟩⟩,⟨rfl,rfl,rfl,by simp,fun k hk _=>heap_alloc_old w.drew _ k hk,Nat.le_succ _⟩⟩
   ·simp only [Array.size_append,List.size_toArray,size_zeroCells,hzs,hown.1,hl,←Nat.add_mul]
    congr 1
    omega
   ·simp only [Array.toList_append,zl]
    rw [←zl,←hlen]
    exact List.take_left
  have hnew:∀(old:Nat) (c:Obj) (b:Nat),blk (.slice (some ⟨w.heap.size,0,none⟩) (m+q) (grownCap w (m+q) old e))=some b→w.heap.size≤b∧b<(w.drew.alloc c).heap.size:=by
   intro old c b hb
   simp only [blk,z6] at hb
   subst hb
   exact ⟨zt _,by simp⟩
  rcases hown.2 with ⟨rfl,rfl⟩ | ⟨g,cap,cur,rfl,hg,hnc,hcm,hcs,htake⟩
  ·have hx:xs=[]:=zg (by simpa using hown.1)
   subst hx
   by_cases hq:q=0
   ·subst hq
    have hn:news=[]:=zg (by simpa using hl)
    subst hn
    refine ⟨.slice none 0 0,w,?_,ownsM_nil w e i.size,⟨rfl,rfl,rfl,zt _,fun _ _ _=>rfl,zt _⟩,fun b hb=>.inl hb⟩
    simp [Builtin.append_,run_underlying ht,sizeOf,typeInfo,hi,Builtin.lenOf,Builtin.firstCells,loadCells,loadCellsFrom]
   ·have hr:=run_append_nil (P:=P) w t ty e i z ht hi hz ad q c news hl hc (by omega) (by omega) (by have hb:=hbytes;simp only [zq] at hb;omega)
    have hgr:=grown 0 (blk (.slice none 0 0))
    have hnw:=hnew 0
    simp only [zq,List.nil_append,Array.empty_append] at hgr hnw ⊢
    exact ⟨_,_,hr,hgr.1,hgr.2,fun b hb=>.inr (hnw _ b hb)⟩
  ·by_cases hroom:m+q≤cap
   ·have hfit:m*i.size+news.length≤cur.size:=by rw [hl,hcs,←Nat.add_mul];exact Nat.mul_le_mul_right _ hroom
    have hr:=run_append_room_own (P:=P) w t ty e i ht hi g m cap cur hg ad q c news hl hc h1 hroom hfit
    have hsame:(cur.toList.take (m*i.size)++news++cur.toList.drop (m*i.size+news.length)).toArray.size=cur.size:=by
     simp only [List.size_toArray,z8,List.length_take,zo,Array.length_toList]
     omega
    refine ⟨_,_,hr,⟨hlen,.inr ⟨g,cap,_,rfl,hg.set hsame,hroom,hcm,?_,?_⟩⟩,⟨rfl,rfl,rfl,by simp,fun k _ hk=>setRow_other w g k _ (fun e=>hk (by simp [blk,e])),by first | exact zt _ | exact Nat.le_succ _⟩,fun b hb=>.inl hb⟩
    ·rw [hsame,hcs]
    ·rw [htake,←hlen]
     exact List.take_left
   ·have holds:=ownsM_cells hown
    have hr:=run_append_grow (P:=P) w t ty e i z ht hi hz ⟨g,0,none⟩ m cap xs hown.1 holds ad q c news hl hc (by omega) (by omega) (growslice_fits (by omega) hbytes)
    have hgr:=grown cap (blk (.slice (some ⟨g,0,none⟩) m cap))
    exact ⟨_,_,hr,hgr.1,hgr.2,fun b hb=>.inr (hnew cap _ b hb)⟩
theorem app_full (t ty e:TypeId) (i:TypeInfo) (z:Value) (size:Nat) (ht:P.underlying t=some (.slice e)) (hi:P.info? e=some i) (hz:i.zero=some z)
 (hsize:i.size=size) (hzs:z.cells.size=size) (hsz:0<size)
 (v:Value) (m:Nat) (xs:List Value) (hxl:xs.length=m*size) (hv:(v=.slice none 0 0∧m=0) ∨ ∃ad,v=.slice (some ad) m m ∧ ∀j u,xs[j]?=some u→w.cell? (ad.add j)=some u) (y:Value) (q:Nat) (news:List Value) (hl:news.length=q*size)
 (hy:(y=.slice none 0 0∧q=0) ∨ ∃ad c,y=.slice (some ad) q c ∧ ∀j u,news[j]?=some u→w.cell? (ad.add j)=some u) (h1:∀u∈news,u.oneCell'=true) (hq:0<q)
 (h63:m+q≤140737488355328) (hbytes:(m+q)*i.bytes≤140737488355328) :
 ∃v' w',(Builtin.append_ #[t,t] ty #[v,y]).run P w=.ok v' w'∧w'.ownsM e size v' (m+q) (xs++news)∧GrownD w w' none ∧
  ∀b,blk v'=some b→w.heap.size≤b∧b<w'.heap.size:=by
 rcases hv with ⟨rfl,rfl⟩ | ⟨ad0,rfl,holds⟩
 ·have hx:xs=[]:=zg (by simpa using hxl)
  subst hx
  obtain ⟨v',w',a1,a2,a3,a4⟩:=app_run (P:=P) (w:=w) t ty e i z size ht hi hz hsize hzs hsz (.slice none 0 0) 0 [] ⟨by simp,.inl ⟨rfl,rfl⟩⟩ y q news hl hy h1 h63 hbytes
  exact ⟨v',w',a1,a2,a3,fun b hb=>(a4 b hb).resolve_left (by simp [blk])⟩
 ·rcases hy with ⟨rfl,rfl⟩ | ⟨ad,c,rfl,hc⟩
  ·omega
  ·subst hsize
   have hmax:m+q≤maxLen:=by simp only [maxLen];omega
   have hlen:(xs++news).length=(m+q)*i.size:=by rw [z8,hxl,hl,Nat.add_mul]
   have hge:=grownCap_ge w (m+q) m e
   have hcm:grownCap w (m+q) m e≤maxLen:=grownCap_le_maxLen w (m+q) m e hmax
   have hr:=run_append_grow (P:=P) w t ty e i z ht hi hz ad0 m m xs hxl holds ad q c news hl hc (by omega) (by omega) (growslice_fits (by omega) hbytes)
   refine ⟨_,_,hr,⟨hlen,.inr ⟨w.heap.size,_,_,rfl,.of (heap_alloc_new w.drew _),hge,hcm,?_,?_⟩⟩,⟨rfl,rfl,rfl,by simp,fun k hk _=>heap_alloc_old w.drew _ k hk,Nat.le_succ _⟩,fun b hb=>?_⟩
   ·simp only [Array.size_append,List.size_toArray,size_zeroCells,hzs,hxl,hl,←Nat.add_mul]
    congr 1
    omega
   ·simp only [Array.toList_append,zl]
    rw [←zl,←hlen]
    exact List.take_left
   ·simp only [blk,z6] at hb
    subst hb
    exact ⟨zt _,by simp⟩
theorem Uc {c:Call} {b:Builtin} (ho:o.op=.call c) (hc:c.callee=.builtin b) {s:Sem Value} (hs:∀cs,builtin b c.argTypes o.type cs (c.args.map a.eval)=(do pure (Next.value (←s)))) {v:Value} {w':World}
 (hr:s.run P w=.ok v w'):(execOp a.eval o).run P w=.ok (.value v) w':=by
 simp only [execOp,ho,resolve,hc,Sem.run_bind,Sem.run_pure,Result.andThen_ok,invoke,hs,hr]
theorem app_run_str (t u ty e:TypeId) (i:TypeInfo) (z:Value) (ht:P.underlying t=some (.slice e)) (hu:P.underlying u=some .string) (hi:P.info? e=some i) (hz:i.zero=some z)
 (hsize:i.size=1) (hby:i.bytes=1) (hzs:z.cells.size=1) (v:Value) (m:Nat) (xs:List Value) (hown:w.ownsM e 1 v m xs) (s:ByteArray) (hb:m+s.size≤140737488355328) :
 ∃v' w',(Builtin.append_ #[t,u] ty #[v,.string s]).run P w=.ok v' w'∧w'.ownsM e 1 v' (m+s.size) (xs++Lib.strCells s)∧GrownD w w' (blk v) ∧
  ∀b,blk v'=some b→blk v=some b∨(w.heap.size≤b∧b<w'.heap.size):=by
 have hxl:xs.length=m:=by simpa using hown.1
 have hlen:(xs++Lib.strCells s).length=(m+s.size)*1:=by rw [z8,hxl,Lib.strCells_length,Nat.mul_one]
 have hmax:m+s.size≤maxLen:=by simp only [maxLen];omega
 have grown:∀(old:Nat) (row:Option Nat),
  (w.drew.alloc (.cells (xs.toArray++(Lib.strCells s).toArray++Builtin.zeroCells z.cells (grownCap w (m+s.size) old e-(m+s.size))) e)).ownsM e 1
   (.slice (some ⟨w.heap.size,0,none⟩) (m+s.size) (grownCap w (m+s.size) old e)) (m+s.size) (xs++Lib.strCells s) ∧
  GrownD w (w.drew.alloc (.cells (xs.toArray++(Lib.strCells s).toArray++Builtin.zeroCells z.cells (grownCap w (m+s.size) old e-(m+s.size))) e)) row:=by
  intro old row
  have hge:=grownCap_ge w (m+s.size) old e
  have hcm:grownCap w (m+s.size) old e≤maxLen:=grownCap_le_maxLen w (m+s.size) old e hmax
  refine ⟨⟨hlen,.inr ⟨w.heap.size,_,_,rfl,.of (heap_alloc_new w.drew _),hge,hcm,?_,?_⟩⟩,⟨rfl,rfl,rfl,by simp,fun k hk _=>heap_alloc_old w.drew _ k hk,Nat.le_succ _⟩⟩
  ·simp only [Array.size_append,List.size_toArray,size_zeroCells,hzs,hxl,Lib.strCells_length]
   omega
  ·simp only [Array.toList_append,zl]
   rw [←zl,←hlen]
   exact List.take_left
 have hnew:∀(old:Nat) (c:Obj) (b:Nat),blk (.slice (some ⟨w.heap.size,0,none⟩) (m+s.size) (grownCap w (m+s.size) old e))=some b→w.heap.size≤b∧b<(w.drew.alloc c).heap.size:=by
  intro old c b hb
  simp only [blk,z6] at hb
  subst hb
  exact ⟨zt _,by simp⟩
 rcases hown.2 with ⟨rfl,rfl⟩ | ⟨g,cap,cur,rfl,hg,hnc,hcm,hcs,htake⟩
 ·have hx:xs=[]:=zg hxl
  subst hx
  by_cases hm:s.size=0
  ·have hn:Lib.strCells s=[]:=zg (by rw [Lib.strCells_length];exact hm)
   refine ⟨.slice none 0 0,w,?_,by rw [hm,hn];exact ownsM_nil w e 1,⟨rfl,rfl,rfl,zt _,fun _ _ _=>rfl,zt _⟩,fun b hb=>.inl hb⟩
   have hf:=Lib.run_firstCells_string (P:=P) w 1 s
   rw [hm] at hf
   simp [Builtin.append_,run_underlying ht,run_underlying hu,sizeOf,typeInfo,hi,hsize,Builtin.lenOf,hm,hf]
  ·have hr:=run_append_nil_string (P:=P) w t u ty e i z ht hu hi hz s (by omega) (by omega) (by rw [hby];omega)
   have hgr:=grown 0 (blk (.slice none 0 0))
   have hnw:=hnew 0
   simp only [zq,List.nil_append,Array.empty_append] at hgr hnw ⊢
   have e1:(s.data.map fun b=>Value.int .u8 b.toNat)=(Lib.strCells s).toArray:=by
    apply Array.ext'
    simp [Lib.strCells]
   rw [e1] at hr
   exact ⟨_,_,hr,hgr.1,hgr.2,fun b hb=>.inr (hnw _ b hb)⟩
 ·by_cases hroom:m+s.size≤cap
  ·have hcs':cur.size=cap:=by simpa using hcs
   have hr:=run_append_room_string_own (P:=P) w t u ty e i ht hu hi hsize g m cap cur hg s hroom (by omega)
   have hsame:(cur.toList.take m++Lib.strCells s++cur.toList.drop (m+s.size)).toArray.size=cur.size:=by
    simp only [List.size_toArray,z8,List.length_take,zo,Array.length_toList,Lib.strCells_length]
    omega
   refine ⟨_,_,hr,⟨hlen,.inr ⟨g,cap,_,rfl,hg.set hsame,hroom,hcm,?_,?_⟩⟩,⟨rfl,rfl,rfl,by simp,fun k _ hk=>setRow_other w g k _ (fun e=>hk (by simp [blk,e])),by first | exact zt _ | exact Nat.le_succ _⟩,fun b hb=>.inl hb⟩
   ·rw [hsame,hcs]
   ·have ht':cur.toList.take m=xs:=by simpa using htake
    simp only [List.toList_toArray]
    rw [ht',←hlen]
    exact List.take_left
  ·have holds:∀j u,xs[j]?=some u→w.cell? ((⟨g,0,none⟩:Addr).add j)=some u:=ownsM_cells hown
   have hr:=Lib.run_append_grow_string (P:=P) w t u ty e i z ht hu hi hz ⟨g,0,none⟩ m cap xs (by rw [hsize];simpa using hxl) holds s (by omega) (by omega) (by rw [hby];exact growslice_fits (by omega) (by omega))
   have hgr:=grown cap (blk (.slice (some ⟨g,0,none⟩) m cap))
   exact ⟨_,_,hr,hgr.1,hgr.2,fun b hb=>.inr (hnew cap _ b hb)⟩
theorem Good.appOwn (h:Rel n w0 Z0 st a w nm) {id v:Nat} {e:TypeId} {s:Ty} {xs ys:List s.den} (hmap:s.isMap=false) (hob:look st.objs id=some (.arr v false e s xs)) {v':Value} {w':World} {olds cells:List Value}
 (q1:(execOp a.eval o).run P w=.ok (.value v') w') (q2:w'.ownsM e s.cells v' (xs.length+ys.length) (olds++cells)) (q3:GrownD w w' (blk (nm id)))
 (q4:∀b,blk v'=some b→blk (nm id)=some b∨(w.heap.size≤b∧b<w'.heap.size)) (o2:rdAll (rdC w (Zc w0 Z0 nm st.objs w) s) olds xs) (n2:rdAll (rdC w (Zc w0 Z0 nm st.objs w) s) cells ys) :
 Good P n w0 Z0 st a w o ⟨.one (.own id (v+1)),[(id,.arr (v+1) false e s (xs++ys))]⟩:=by
 intro st' hl
 obtain ⟨hmay,rfl⟩:=YM hl
 have hkz:Kept w w' (Zc w0 Z0 nm st.objs w) (Zc w0 Z0 (setN nm id v') (ins id (.arr (v+1) false e s (xs++ys)) st.objs) w'):=by
  rintro b ⟨z1,z2,z3⟩
  refine ⟨⟨zw z1 q3.size,z2,?_⟩,q3.block b z1 (fun hb=>z3 ⟨id,_,hob,rfl,hb.symm⟩)⟩
  rintro ⟨j,ob,y1,y2,y3⟩
  by_cases hj:id=j
  ·subst hj
   rw [JG] at y3
   rcases q4 b y3 with hh | hh
   ·exact z3 ⟨id,_,hob,rfl,hh⟩
   ·omega
  ·rw [Jm,if_neg hj] at y1
   rw [kU _ _ (Ne.symm hj)] at y3
   exact z3 ⟨j,ob,y1,y2,y3⟩
 refine Does.of_run q1 ⟨setN nm id v',?_,?_⟩
 ·refine h.upd id _ v' hmay (by rw [hob];exact fun hh=>absurd hh (by omega)) ⟨q3.os,q3.tape,q3.output,q3.size⟩ (fun b hb=>?_) (fun b hb=>?_) ?_
  ·by_cases hbb:blk (nm id)=some b
   ·exact .inl ⟨_,hob,rfl,hbb⟩
   ·exact .inr (q3.block b hb (fun hh=>hbb hh.symm))
  ·rcases q4 b hb with hh | hh
   ·exact .inl ⟨hh,_,hob,.inl rfl⟩
   ·exact .inr hh
  ·refine .inl ⟨hmap,olds++cells,by rw [JG,z8];exact q2,km.2 ⟨olds,cells,rfl,?_,?_⟩⟩
   ·exact kA (fun _ _=>ka hkz s) o2
   ·exact kA (fun _ _=>ka hkz s) n2
 ·refine ⟨?_,fun fz e t xs hl=>(JG _ _ _).symm⟩
  rcases q2.2 with ⟨e1,_⟩ | ⟨g,cap,cur,e1,_⟩<;>rw [e1]<;>rfl
theorem bytes_rd (Z:Nat→Prop) (bs:Z6):rdAll (rdC w Z (.int .u8)) (Lib.strCells ⟨bs.toArray⟩) (bs.map fun b=>(b.toNat:Int)):=by
 have e:Lib.strCells ⟨bs.toArray⟩=(bs.map fun b=>(b.toNat:Int)).map (Value.int .u8):=by
  simp [Lib.strCells,List.map_map,Function.comp_def]
 rw [e]
 exact rdAll_ints w Z .u8 _
theorem eff_append {c:Call} (ho:o.op=.call c) (hc:c.callee=.builtin .append):EffOk P G o:=by
 intro hT n w0 w Z0 st a nm dst ρ k r h he
 unfold effK at he
 rw [ho] at he
 simp only [hc] at he
 split at he
 ·rename_i x y t t' ha1 ha2
  cases htt:Nat.beq t t' with
  | false=>
    rw [htt] at he
    simp only [zf] at he
    split at he
    ·rename_i e by_ kd dx bs h1 h1' h2 h3
     cases hby:Nat.beq by_ 1 with
     | false=>rw [hby] at he;cases he
     | true=>
       rw [hby] at he
       simp only [ze] at he
       have hby:=beqN.1 hby
       obtain ⟨hu,i,z,g1,g2,g3,g4,g5,g6⟩:=YL hT h1
       have hus:=Us hT h1' rfl
       have hzl:z.cells.size=1:=by have:=Yz (.int .u8) g5;simpa [Ty.cells] using this
       have hargs:c.args=#[x,y]:=by rw [←Array.toArray_toList (xs:=c.args),ha1]
       have hat:c.argTypes=#[t,t']:=by rw [←Array.toArray_toList (xs:=c.argTypes),ha2]
       have hys:a.eval y=.string ⟨bs.toArray⟩:=UU h h3
       have hx:∀v' w',(Builtin.append_ #[t,t'] o.type #[a.eval x,a.eval y]).run P w=.ok v' w'→(execOp a.eval o).run P w=.ok (.value v') w':=by
        intro v' w' hr
        exact Uc ho hc (s:=Builtin.append_ #[t,t'] o.type #[a.eval x,a.eval y]) (fun cs=>by simp [builtin,hargs,hat]) hr
       have hsz:(⟨bs.toArray⟩:ByteArray).size=bs.length:=by simp [ByteArray.size]
       have hml:(bs.map fun b=>(b.toNat:Int)).length=bs.length:=by simp
       split at he
       ·split at he
        ·rename_i ver hver
         obtain ⟨_,hb,he⟩:=jQ he
         have hb:=zr (JS hb)
         simp only [YE] at hb
         have hxv:a.eval x=.slice none 0 0:=ev_rd h h2
         obtain ⟨v',w',q1,q2,q3,q4⟩:=app_run_str (P:=P) (w:=w) t t' o.type e i z hu hus g1 g4 g2 (g3.trans hby) hzl (.slice none 0 0) 0 [] ⟨by simp,.inl ⟨rfl,rfl⟩⟩ ⟨bs.toArray⟩ (by rw [hsz];omega)
         rw [←hxv,←hys] at q1
         have hsame:Same w w':=⟨q3.os,q3.tape,q3.output,q3.size,fun b hb=>q3.block b hb (by simp [blk])⟩
         rw [zq,List.nil_append,hsz,←hml] at q2
         refine ⟨_,he,Good.newArr h rfl hver (hx _ _ q1) hsame (fun b hb=>(q4 b hb).resolve_left (by simp [blk])) q2 ?_⟩
         exact bytes_rd _ bs
        ·cases he
       ·rename_i id ver
        split at he
        ·rename_i v e' s' xs hob
         split at he
         ·rename_i hs
          subst hs
          cases hv:(Nat.beq v ver&&Nat.beq e' e) with
          | false=>rw [hv] at he;cases he
          | true=>
            rw [hv] at he
            rw [z7] at hv
            have:=beqN.1 hv.1
            subst this
            have:=beqN.1 hv.2
            subst this
            simp only [ze] at he
            obtain ⟨_,hb,he⟩:=jQ he
            have hb:=zr (JS hb)
            simp only [YE] at hb
            have hxv:a.eval x=nm id:=(ev_rd h h2).2 false e' (.int .u8) xs hob
            obtain ⟨olds,o1,o2⟩:=(h.objs id _ hob).sl rfl
            obtain ⟨v',w',q1,q2,q3,q4⟩:=app_run_str (P:=P) (w:=w) t t' o.type e' i z hu hus g1 g4 g2 (g3.trans hby) hzl (nm id) xs.length olds o1 ⟨bs.toArray⟩ (by rw [hsz];exact hb)
            rw [←hxv,←hys] at q1
            rw [hsz,←hml] at q2
            exact ⟨_,he,Good.appOwn h rfl hob (hx _ _ q1) q2 q3 q4 o2 (bytes_rd _ bs)⟩
         ·cases he
        ·cases he
       ·cases he
    ·cases he
  | true=>
    rw [htt] at he
    have:=beqN.1 htt
    subst this
    simp only [ze] at he
    split at he
    ·rename_i s e by_ dx dy h1 h2 h3
     obtain ⟨hu,i,z,g1,g2,g3,g4,g5,g6⟩:=YL hT h1
     have hzl:z.cells.size=s.cells:=by have:=Yz s g5;simpa using this
     have hargs:c.args=#[x,y]:=by rw [←Array.toArray_toList (xs:=c.args),ha1]
     have hat:c.argTypes=#[t,t]:=by rw [←Array.toArray_toList (xs:=c.argTypes),ha2]
     have hx:∀v' w',(Builtin.append_ #[t,t] o.type #[a.eval x,a.eval y]).run P w=.ok v' w'→(execOp a.eval o).run P w=.ok (.value v') w':=by
      intro v' w' hr
      exact Uc ho hc (s:=Builtin.append_ #[t,t] o.type #[a.eval x,a.eval y]) (fun cs=>by simp [builtin,hargs,hat]) hr
     
     have news:∀ys:List s.den,rdS w (Zc w0 Z0 nm st.objs w) s (a.eval y) ys → ∃cells,cells.length=ys.length*s.cells∧rdAll (rdC w (Zc w0 Z0 nm st.objs w) s) cells ys∧(∀u∈cells,u.oneCell'=true) ∧
      ((a.eval y=.slice none 0 0∧ys.length=0) ∨ ∃ad c,a.eval y=.slice (some ad) ys.length c ∧ ∀j u,cells[j]?=some u→w.cell? (ad.add j)=some u):=by
      intro ys hr
      rcases hr with ⟨e1,rfl⟩ | ⟨b,off,cap,cells,e1,e2,e3,e4,e5⟩ | ⟨ad,cap,e1,rfl,_⟩
      ·exact ⟨[],by simp,rfl,by simp,.inl ⟨e1,rfl⟩⟩
      rotate_left
      ·exact ⟨[],by simp,rfl,by simp,.inr ⟨ad,cap,e1,fun j u hj=>by simp at hj⟩⟩
      ·refine ⟨cells,YB (fun _ _=>JF s) e4,e4,?_,.inr ⟨_,cap,e1,fun j u hj=>by rw [Addr.add_lit];exact e5 j u hj⟩⟩
       have:∀(ys:List s.den) (cells:List Value),rdAll (rdC w (Zc w0 Z0 nm st.objs w) s) cells ys → ∀u∈cells,u.oneCell'=true:=by
        intro ys
        induction ys with
        | nil=>intro cells h u hu;have h:_=_:=h;subst h;cases hu
        | cons q ys ih=>
          rintro cells ⟨c1,c2,e,h1,h2⟩ u hu
          rw [e,List.mem_append] at hu
          exact hu.elim (Yw s h1 u) (ih c2 h2 u)
       exact this ys cells e4
     split at he
     ·
      split at he
      ·rename_i ver hver
       obtain ⟨s',ys,he,hr⟩:=Vm h h3 he
       split at he
       ·rename_i hs
        subst hs
        obtain ⟨_,hb,he⟩:=jQ he
        have hb:=JS hb
        simp only [z7,zi,YE,zb,zq] at hb
        obtain ⟨cells,n1,n2,n3,n4⟩:=news ys hr
        have hxv:a.eval x=.slice none 0 0:=ev_rd h h2
        obtain ⟨v',w',q1,q2,q3,q4⟩:=app_run (P:=P) (w:=w) t o.type e i z s'.cells hu g1 g4 g2 hzl g6 (.slice none 0 0) 0 [] ⟨by simp,.inl ⟨rfl,rfl⟩⟩ (a.eval y) ys.length cells n1 n4 n3 (by omega) (by rw [g3,zq];exact hb.1)
        rw [←hxv] at q1
        have hsame:Same w w':=⟨q3.os,q3.tape,q3.output,q3.size,fun b hb=>q3.block b hb (by simp [blk])⟩
        rw [zq,List.nil_append] at q2
        refine ⟨_,he,Good.newArr h (VV hT h1) hver (hx _ _ q1) hsame (fun b hb=>(q4 b hb).resolve_left (by simp [blk])) (cells:=cells) q2 ?_⟩
        exact kA (fun _ _=>ka (fun b hb=>⟨hb,HA (hsame.block b hb.1)⟩) s') n2
       ·cases he
      ·cases he
     ·
      rename_i id ver
      split at he
      ·rename_i v e' s' xs hob
       split at he
       ·rename_i hs
        subst hs
        cases hv:(Nat.beq v ver&&Nat.beq e' e) with
        | false=>rw [hv] at he;cases he
        | true=>
          rw [hv] at he
          rw [z7] at hv
          have:=beqN.1 hv.1
          subst this
          have:=beqN.1 hv.2
          subst this
          simp only [ze] at he
          obtain ⟨s2,ys,he,hr⟩:=Vm h h3 he
          split at he
          ·rename_i hs2
           subst hs2
           obtain ⟨_,hb,he⟩:=jQ he
           have hb:=JS hb
           rw [z7] at hb
           have hb:(xs.length+ys.length)*by_≤140737488355328∧xs.length+ys.length≤140737488355328:=⟨zr hb.1,zr hb.2⟩
           obtain ⟨cells,n1,n2,n3,n4⟩:=news ys hr
           have hxv:a.eval x=nm id:=(ev_rd h h2).2 false e' s2 xs hob
           obtain ⟨olds,o1,o2⟩:=(h.objs id _ hob).sl (VV hT h1)
           obtain ⟨v',w',q1,q2,q3,q4⟩:=app_run (P:=P) (w:=w) t o.type e' i z s2.cells hu g1 g4 g2 hzl g6 (nm id) xs.length olds o1 (a.eval y) ys.length cells n1 n4 n3 hb.2 (by rw [g3];exact hb.1)
           rw [←hxv] at q1
           exact ⟨_,he,Good.appOwn h (VV hT h1) hob (hx _ _ q1) q2 q3 q4 o2 n2⟩
          ·cases he
       ·cases he
      ·cases he
     ·
      rename_i s' xs
      split at he
      ·rename_i hs
       subst hs
       split at he
       ·rename_i ver hver
        obtain ⟨s2,ys,he,hr⟩:=Vm h h3 he
        split at he
        ·rename_i hs2
         subst hs2
         obtain ⟨_,hb,he⟩:=jQ he
         have hb:=JS hb
         rw [z7,z7] at hb
         have hb0:=zr hb.1
         have hb1:((show List s2.den from xs).length+ys.length)*by_≤140737488355328:=zr hb.2.1
         have hb2:(show List s2.den from xs).length+ys.length≤140737488355328:=zr hb.2.2
         obtain ⟨cells,n1,n2,n3,n4⟩:=news ys hr
         have hfl:rdV w (Zc w0 Z0 nm st.objs w) (.fl s2) (a.eval x) xs:=ev_rd h h2
         obtain ⟨hsl,ad,m,em⟩:=hfl
         simp only [List.cons.injEq,and_true] at em
         have hold:∃olds:List Value,olds.length=(show List s2.den from xs).length*s2.cells∧rdAll (rdC w (Zc w0 Z0 nm st.objs w) s2) olds (show List s2.den from xs) ∧
          ((a.eval x=.slice none 0 0∧(show List s2.den from xs).length=0) ∨ ∃ad,a.eval x=.slice (some ad) (show List s2.den from xs).length (show List s2.den from xs).length ∧ ∀j u,olds[j]?=some u→w.cell? (ad.add j)=some u):=by
          rcases rdS_val (t:=s2) (xs:=(show List s2.den from xs)) hsl with ⟨e1,e2⟩ | ⟨b,off,cap,cs,e1,e2,e3,e4,e5⟩ | ⟨ad',cap,e1,e2,_⟩
          ·rw [e2];exact ⟨[],by simp,rfl,.inl ⟨e1,rfl⟩⟩
          ·refine ⟨cs,YB (fun _ _=>JF s2) e4,e4,.inr ⟨⟨b,off,none⟩,?_,fun j u hj=>by rw [Addr.add_lit];exact e5 j u hj⟩⟩
           rw [e1] at em ⊢
           cases em
           rfl
          ·rw [e2]
           refine ⟨[],by simp,rfl,.inr ⟨ad',?_,fun j u hj=>by simp at hj⟩⟩
           rw [e1] at em ⊢
           cases em
           rfl
         obtain ⟨olds,o1,o2,o3⟩:=hold
         obtain ⟨v',w',q1,q2,q3,q4⟩:=app_full (P:=P) (w:=w) t o.type e i z s2.cells hu g1 g4 g2 hzl g6 (a.eval x) _ olds o1 o3 (a.eval y) ys.length cells n1 n4 n3 hb0 hb2 (by rw [g3];exact hb1)
         have hsame:Same w w':=⟨q3.os,q3.tape,q3.output,q3.size,fun b hb=>q3.block b hb (by simp)⟩
         rw [←z8] at q2
         refine ⟨_,he,Good.newArr h (VV hT h1) hver (hx _ _ q1) hsame q4 (cells:=olds++cells) q2 ?_⟩
         exact kA (fun _ _=>ka (fun b hb=>⟨hb,HA (hsame.block b hb.1)⟩) s2) (km.2 ⟨olds,cells,rfl,o2,n2⟩)
        ·cases he
       ·cases he
      ·cases he
     ·cases he
    ·cases he
 ·cases he
theorem eff_len {c:Call} (ho:o.op=.call c) (hc:c.callee=.builtin .len):EffOk P G o:=by
 intro hT n w0 w Z0 st a nm dst ρ k r h he
 unfold effK at he
 rw [ho] at he
 simp only [hc] at he
 split at he
 ·rename_i x t ha1 ha2
  have hargs:c.args=#[x]:=by rw [←Array.toArray_toList (xs:=c.args),ha1]
  have hat:c.argTypes=#[t]:=by rw [←Array.toArray_toList (xs:=c.argTypes),ha2]
  have hx:∀v',(Builtin.len_ #[t] o.type #[a.eval x]).run P w=.ok v' w→(execOp a.eval o).run P w=.ok (.value v') w:=by
   intro v' hr
   exact Uc ho hc (s:=Builtin.len_ #[t] o.type #[a.eval x]) (fun cs=>by simp [builtin,hargs,hat]) hr
  split at he
  ·rename_i k1 s h1 h2
   have hu:=Us hT h1 rfl
   have e1:=UU h h2
   have hsz:(⟨s.toArray⟩:ByteArray).size=s.length:=Ur s
   refine ⟨_,he,Good.pure h (v:=.int .i64 s.length) (hx _ ?_) (rd_vI ..)⟩
   rw [e1]
   simp [Builtin.len_,run_underlying hu,hsz,goInt]
  ·rename_i s e b h1 h2
   obtain ⟨hu,_⟩:=YL hT h1
   have e1:a.eval x=.slice none 0 0:=ev_rd h h2
   exact ⟨_,he,Good.pure h (v:=.int .i64 0) (hx _ (by rw [e1];simp [Builtin.len_,run_underlying hu,goInt])) (rd_vI ..)⟩
  ·rename_i s e b d _ h1 h2
   obtain ⟨hu,_⟩:=YL hT h1
   obtain ⟨s',xs,he,hr⟩:=Vm h h2 he
   refine ⟨_,he,Good.pure h (v:=.int .i64 xs.length) (hx _ ?_) (rd_vI ..)⟩
   rcases hr with ⟨e1,rfl⟩ | ⟨b,off,cap,cells,e1,_⟩ | ⟨ad,cap,e1,rfl,_⟩<;>rw [e1]<;>simp [Builtin.len_,run_underlying hu,goInt]
  ·cases he
 ·cases he
theorem min_if (m n:Int):(if n<m then n else m)=min m n:=by omega
theorem max_if (m n:Int):(if n>m then n else m)=max m n:=by omega
theorem eff_min {c:Call} (ho:o.op=.call c) (hc:c.callee=.builtin .min):EffOk P G o:=by
 intro hT n w0 w Z0 st a nm dst ρ k r h he
 unfold effK at he
 rw [ho] at he
 simp only [hc] at he
 split at he
 ·rename_i x y ha
  have hargs:c.args=#[x,y]:=by rw [←Array.toArray_toList (xs:=c.args),ha]
  split at he
  ·rename_i j m j' n' h1 h2
   have e1:=YI h h1
   have e2:=YI h h2
   refine ⟨_,he,Good.pure h (v:=.int j (min m n')) (Uc ho hc (s:=Builtin.min_ c.argTypes o.type #[a.eval x,a.eval y]) (fun cs=>by simp [builtin,hargs]) ?_) (rd_vI ..)⟩
   rw [e1,e2,run_min_int2]
   exact congrArg (fun q=>Result.ok (Value.int j q) w) (min_if m n')
  ·cases he
 ·cases he
theorem eff_max {c:Call} (ho:o.op=.call c) (hc:c.callee=.builtin .max):EffOk P G o:=by
 intro hT n w0 w Z0 st a nm dst ρ k r h he
 unfold effK at he
 rw [ho] at he
 simp only [hc] at he
 split at he
 ·rename_i x y ha
  have hargs:c.args=#[x,y]:=by rw [←Array.toArray_toList (xs:=c.args),ha]
  split at he
  ·rename_i j m j' n' h1 h2
   have e1:=YI h h1
   have e2:=YI h h2
   refine ⟨_,he,Good.pure h (v:=.int j (max m n')) (Uc ho hc (s:=Builtin.max_ c.argTypes o.type #[a.eval x,a.eval y]) (fun cs=>by simp [builtin,hargs]) ?_) (rd_vI ..)⟩
   rw [e1,e2,run_max_int2]
   exact congrArg (fun q=>Result.ok (Value.int j q) w) (max_if m n')
  ·cases he
 ·cases he
end
end Go.Ql
end

section
namespace Go.Ql
section
variable [GInv] {P:Program} {G:Env} {n:Nat} {w0 w:World} {Z0:Bs} {st st1:St} {a:Act} {nm:Names} {o:Oper} {dst:Nat} {ρ:Type} {k:Eff→Option ρ} {r:ρ}
theorem YU {u:Upd} {id:Nat} {ob:Ob} {st':St} (h:JE st (u++[(id,ob)])=some st'):∃s,JE st u=some s∧mayOb s id ob=true∧st'=⟨s.slots,ins id ob s.objs⟩:=by
 obtain ⟨s,h1,h2⟩:=layObs_append u h
 obtain ⟨h3,h4⟩:=YM h2
 exact ⟨s,h1,h3,h4⟩
theorem Ye:∀(u:Upd) {st st1:St} {id:Nat},JE st u=some st1→(∀p∈u,p.1≠id)→look st1.objs id=look st.objs id
 | [],st,st1,id,h,_=>by simp only [JE,z6] at h;subst h;rfl
 | (j,ob)::u,st,st1,id,h,hn=>by
   simp only [JE] at h
   cases hm:mayOb st j ob with
   | false=>rw [hm] at h;cases h
   | true=>
     rw [hm] at h
     simp only [ze] at h
     rw [Ye u h (fun p hp=>hn p (by simp [hp]))]
     simp only [Jm,if_neg (hn (j,ob) (by simp))]
theorem run_storeAt_cells {t:TypeId} {ti:TI} (hti:TiOk P t ti) {g q:Nat} {cur:Array Value} {T:TypeId} (hg:rowAt w g cur T) {v:Value} (hl:v.cells.toList.length=ti.ty.cells)
 (hfit:q+ti.ty.cells≤cur.size) (hone:∀u∈v.cells.toList,u.oneCell'=true) :
 (Instr.storeAt t (.pointer (some ⟨g,q,none⟩)) v).run P w=.ok () (w.setRow g (cur.toList.take q++v.cells.toList++cur.toList.drop (q+ti.ty.cells)).toArray):=by
 have hsz:=hti.sizeOf w
 have hs:v.cells.size=ti.ty.cells:=by simpa using hl
 have:=run_storeCells_own P g q T v.cells.toList 0 cur w hg (by rw [hl];omega) hone
 simp only [Nat.add_zero,hl] at this
 simp [Instr.storeAt,Instr.sureAddr,storeVar,hsz,hs,this]
theorem FzUpd.lays:∀(u:Upd) {st:St},Rel n w0 Z0 st a w nm→FzUpd st u → ∃st1,JE st u=some st1
 | [],st,_,_=>⟨st,rfl⟩
 | (id,ob)::u,st,h,hu=>by
   obtain ⟨v,fz,e,t,xs,h1,h2⟩:=hu (id,ob) (by simp)
   simp only at h1 h2
   subst h2
   obtain ⟨r1,r2⟩:=h.freeze h1
   have hmay:mayOb st id (.arr v true e t xs)=true:=by unfold mayOb;rw [h1];simp [beqN.2]
   simp only [JE,hmay,ze]
   refine FzUpd.lays u r1 (fun p hp=>?_)
   obtain ⟨v',fz',e',t',xs',q1,q2⟩:=hu p (by simp [hp])
   rcases r2.objs p.1 with q | ⟨v2,fz2,e2,t2,xs2,q3,q4⟩
   ·exact ⟨v',fz',e',t',xs',q.trans q1,q2⟩
   ·rw [q1] at q3;cases q3;exact ⟨v',true,e',t',xs',q4,q2⟩
theorem Does.storeRow (hrel:Rel n w0 Z0 st a w nm) {t:TypeId} {ti:TI} (hti:TiOk P t ti) {id v:Nat} {e:TypeId} {s:Ty} {xs xs':List s.den} (hob:look st.objs id=some (.arr v false e s xs))
 (hxl:xs'.length=xs.length) (hmay:mayOb st id (.arr v false e s xs')=true) {b m c:Nat} (s4:nm id=.slice (some ⟨b,0,none⟩) m c) {cells:List Value} (t1:w.ownsM e s.cells (nm id) xs.length cells)
 {pre old post:List Value} (hc:cells=pre++old++post) (hol:old.length=ti.ty.cells) {vy:Value} (hvl:vy.cells.toList.length=ti.ty.cells) (hone:∀u∈vy.cells.toList,u.oneCell'=true)
 (hrd:rdAll (rdC w (Zc w0 Z0 nm st.objs w) s) (pre++vy.cells.toList++post) xs')
 (hx:∀w',(Instr.storeAt t (.pointer (some ⟨b,pre.length,none⟩)) vy).run P w=.ok () w'→(execOp a.eval o).run P w=.ok .skip w') :
 Does P o a w fun v' w'=>∃nm',Rel n w0 Z0 ⟨st.slots,ins id (.arr v false e s xs') st.objs⟩ a w' nm'∧rdD w' (Zc w0 Z0 nm' (ins id (.arr v false e s xs') st.objs) w') nm' (ins id (.arr v false e s xs') st.objs) (.tup []) v':=by
 have hundef:∀(w:World) (Z:Nat→Prop) (nm:Names) (objs:List (Nat×Ob)),rdD w Z nm objs (.tup []) undef:=fun w Z nm objs=>⟨#[],rfl,Vc⟩
 have hcl:cells.length=xs.length*s.cells:=t1.1
 have hsm:s.isMap=false:=((hrel.objs id _ hob).of s4).1
 rcases t1.2 with ⟨t3,_⟩ | ⟨g,cap,cur,t3,t4,t5,t6,t7,t8⟩
 ·rw [s4] at t3;cases t3
 have hbg:b=g:=by rw [s4] at t3;injection t3 with a1 _ _;injection a1 with a1;injection a1
 subst hbg
 have hblk:blk (nm id)=some b:=by rw [s4];rfl
 have hcur:cur.toList=pre++old++(post++cur.toList.drop (xs.length*s.cells)):=by
  have:cur.toList=cells++cur.toList.drop (xs.length*s.cells):=by rw [←t8,List.take_append_drop]
  refine this.trans ?_
  rw [hc]
  simp [zl]
 have hfit:pre.length+ti.ty.cells≤cur.size:=by
  rw [←Array.length_toList,hcur,z8,z8,hol];omega
 have hrun:=run_storeAt_cells hti t4 (v:=vy) (q:=pre.length) hvl hfit hone
 have hnewcur:cur.toList.take pre.length++vy.cells.toList++cur.toList.drop (pre.length+ti.ty.cells)=(pre++vy.cells.toList++post)++cur.toList.drop (xs.length*s.cells):=by
  have:=take_drop_mid pre old (post++cur.toList.drop (xs.length*s.cells)) vy.cells.toList _ _ rfl hol
  rw [←hcur] at this
  rw [this]
  simp [zl]
 have hlen2:(pre++vy.cells.toList++post).length=xs.length*s.cells:=by
  rw [←hcl,hc]
  simp only [z8,hvl,hol]
 rw [hnewcur] at hrun
 refine Does.of_skip (hx _ hrun) ⟨setN nm id (nm id),?_,hundef _ _ _ _⟩
 refine hrel.upd id _ _ hmay (by rw [hob];exact fun _=>⟨rfl,rfl,rfl,hxl⟩) ⟨rfl,rfl,rfl,by simp⟩ (fun b2 hb2=>?_) (fun b2 hb2=>.inl ⟨hb2,_,hob,.inl rfl⟩) ?_
 ·by_cases hbb:b2=b
  ·subst hbb;exact .inl ⟨_,hob,rfl,hblk⟩
  ·exact .inr (setRow_other w b b2 _ hbb)
 ·have hk:Kept w (w.setRow b ((pre++vy.cells.toList++post)++cur.toList.drop (xs.length*s.cells)).toArray) (Zc w0 Z0 nm st.objs w)
   (Zc w0 Z0 (setN nm id (nm id)) (ins id (.arr v false e s xs') st.objs) (w.setRow b ((pre++vy.cells.toList++post)++cur.toList.drop (xs.length*s.cells)).toArray)):=by
   rintro b2 ⟨z1,z2,z3⟩
   refine ⟨⟨by simpa using z1,z2,?_⟩,setRow_other w b b2 _ (fun hh=>z3 ⟨id,_,hob,rfl,by rw [hblk,hh]⟩)⟩
   rintro ⟨j,ob,y1,y2,y3⟩
   rw [Vk] at y3
   by_cases hj:id=j
   ·subst hj;exact z3 ⟨id,_,hob,rfl,y3⟩
   ·rw [Jm,if_neg hj] at y1
    exact z3 ⟨j,ob,y1,y2,y3⟩
  refine .inl ⟨hsm,pre++vy.cells.toList++post,?_,kA (fun _ _=>ka hk s) hrd⟩
  rw [JG,hxl]
  have hns:((pre++vy.cells.toList++post)++cur.toList.drop (xs.length*s.cells)).toArray.size=cur.size:=by
   have h1:xs.length*s.cells≤cap*s.cells:=Nat.mul_le_mul_right _ t5
   have h2:cur.toList.length=cap*s.cells:=by simpa using t7
   rw [List.size_toArray,z8,hlen2,zo,h2,t7]
   omega
  refine ⟨hlen2,.inr ⟨b,cap,_,t3,t4.set hns,t5,t6,hns.trans t7,?_⟩⟩
  ·simp only [List.toList_toArray]
   rw [←hlen2,List.take_left]
theorem Good.newPtr (h:Rel n w0 Z0 st a w nm) {u:Upd} (hfu:FzUpd st u) (hnu:∀p∈u,p.1≠dst) {ver:Nat} {e:TypeId} {t:Ty} {xs:List t.den} {cells:Array Value} (hmap:t.isMap=false)
 (hver:verOf (look st.objs) dst=some ver)
 (hrun:(execOp a.eval o).run P w=.ok (.value (.pointer (some ⟨w.heap.size,0,none⟩))) (w.alloc (.cells cells e)))
 (hlen:cells.size=xs.length*t.cells) (hmax:xs.length≤maxLen)
 (hrd:∀st1,Frozen n w0 Z0 st st1 a w nm u→rdAll (rdC w (Zc w0 Z0 nm st1.objs w) t) cells.toList xs) :
 Good P n w0 Z0 st a w o ⟨.one (.aptr dst ver),u++[(dst,.arr ver false e t xs)]⟩:=by
 intro st' hlay
 obtain ⟨st1,hlu,hmay,rfl⟩:=YU hlay
 obtain ⟨hrel,hfz,hcold⟩:=Rel.freezes u h hfu hlu
 have hver1:verOf (look st1.objs) dst=some ver:=by
  unfold verOf at hver ⊢
  rw [Ye u hlu hnu]
  exact hver
 obtain ⟨q1,q2⟩:=hrel.newArr (w':=w.alloc (.cells cells e)) (nv:=.slice (some ⟨w.heap.size,0,none⟩) xs.length xs.length) (cells:=cells.toList) hmap hver1 hmay (Same.alloc _ _) (fun b hb=>by
  simp only [blk,z6] at hb
  subst hb
  exact ⟨zt _,by simp⟩) ⟨by simpa using hlen,.inr ⟨w.heap.size,xs.length,cells,rfl,.of (heap_alloc_new w _),zt _,hmax,hlen,by
   rw [←hlen,←Array.length_toList,List.take_length]⟩⟩ (kA (fun _ _=>ka (fun b hb=>⟨hb,HA (heap_alloc_old w _ b hb.1)⟩) t) (hrd st1 ⟨hfz,hrel,hcold⟩))
 refine Does.of_run hrun ⟨_,q1,rfl,fun fz e t xs hl=>?_⟩
 rw [JG]
 exact ⟨_,_,_,rfl,rfl⟩
theorem atOk_other {id0:Nat} {ob:Ob} {nv:Value} {objs:List (Nat×Ob)} {x:At} (hx:x.mentions id0=false):AtOk nm (setN nm id0 nv) objs (ins id0 ob objs) x:=by
 intro j hj
 have he:id0≠j:=fun e=>by subst e;rw [hx] at hj;cases hj
 refine ⟨fun ver fz e t xs h1 _=>?_,fun cs h1=>?_,fun f x y h1=>?_⟩
 ·rw [Jm,if_neg he] at h1
  exact ⟨kU _ _ (Ne.symm he),fz,xs,h1,rfl⟩
 ·rw [Jm,if_neg he] at h1
  exact ⟨kU _ _ (Ne.symm he),cs,h1⟩
 ·rw [Jm,if_neg he] at h1
  exact ⟨kU _ _ (Ne.symm he),f,x,y,h1⟩
theorem atOk_box {id0:Nat} {cs cs':List At} {objs:List (Nat×Ob)} {x:At} (hob:look objs id0=some (.box cs)):AtOk nm (setN nm id0 (nm id0)) objs (ins id0 (.box cs') objs) x:=by
 rw [Vk]
 intro j hj
 by_cases he:id0=j
 ·subst he
  exact ⟨fun ver fz e t xs h1=>by simp [Jm] at h1,fun _ _=>⟨rfl,cs,hob⟩,fun f x y h1=>by simp [Jm] at h1⟩
 ·refine ⟨fun ver fz e t xs h1 _=>?_,fun cs h1=>?_,fun f x y h1=>?_⟩
  ·rw [Jm,if_neg he] at h1
   exact ⟨rfl,fz,xs,h1,rfl⟩
  ·rw [Jm,if_neg he] at h1
   exact ⟨rfl,cs,h1⟩
  ·rw [Jm,if_neg he] at h1
   exact ⟨rfl,f,x,y,h1⟩
theorem ownNil_ok {fr:Bool} {ob0:Objs} {idf:Nat→Nat}:∀(l:List (Nat×(TypeId×Ty))) {ds ds':List At} {u:Upd},Vb fr ob0 idf l ds=some (ds',u) → ∀{st:St} {nm:Names} {vs:List Value} {st1:St},Rel n w0 Z0 st a w nm →
 (∀p∈u,look st.objs p.1=ob0 p.1)→rdAs w (Zc w0 Z0 nm st.objs w) nm st.objs ds vs→JE st u=some st1 →
 ∃nm1,Rel n w0 Z0 st1 a w nm1∧rdAs w (Zc w0 Z0 nm1 st1.objs w) nm1 st1.objs ds' vs ∧ ∀id,(∀p∈u,p.1≠id)→nm1 id=nm id
 | [],ds,ds',u,he,st,nm,vs,st1,h,_,hr,hlay=>by
   simp only [Vb,z6,zm] at he
   obtain ⟨rfl,rfl⟩:=he
   simp only [JE,z6] at hlay
   subst hlay
   exact ⟨nm,h,hr,fun _ _=>rfl⟩
 | (j,e,s)::r,ds,ds',u,he,st,nm,vs,st1,h,hob,hr,hlay=>by
   simp only [Vb] at he
   split at he
   ·rename_i hj
    split at he
    ·rename_i ver hver
     cases hall:(ds.all (fun x=>!x.mentions (idf j)) && !s.isMap) with
     | false=>rw [hall] at he;cases he
     | true=>
       rw [hall] at he
       simp only [ze] at he
       rw [z7,zx] at hall
       obtain ⟨hall,hmap⟩:=hall
       split at he
       ·rename_i ds2 u2 h2
        cases hk:u2.all (fun q=>!Nat.beq q.1 (idf j)) with
        | false=>rw [hk] at he;cases he
        | true=>
          rw [hk] at he
          simp only [ze,z6,zm] at he
          obtain ⟨rfl,rfl⟩:=he
          have hne:∀p∈u2,p.1≠idf j:=by
           intro p hp
           have:=(zu.1 hk) p hp
           simp only [zx] at this
           exact JJ.1 this
          simp only [JE] at hlay
          cases hm:mayOb st (idf j) (.arr ver false e s []) with
          | false=>rw [hm] at hlay;cases hlay
          | true=>
            rw [hm] at hlay
            simp only [ze] at hlay
            have hver1:verOf (look st.objs) (idf j)=some ver:=by
             unfold verK at hver
             unfold verOf
             rw [hob (idf j,.arr ver false e s []) (by simp)]
             cases hq:ob0 (idf j) with
             | none=>
               rw [hq] at hver
               cases fr with
               | true=>exact hver
               | false=>cases hver
             | some ob=>
               rw [hq] at hver
               cases ob with
               | arr v fz e t xs=>exact hver
               | box cs=>cases hver
               | clo f x y=>cases hver
               | gone=>cases hver
            obtain ⟨r1,r2⟩:=h.newArr (w':=w) (nv:=.slice none 0 0) (cells:=[]) hmap hver1 hm (Same.refl w) (fun b hb=>by cases hb) ⟨by simp,.inl ⟨rfl,rfl⟩⟩ rfl
            have hkept:Kept w w (Zc w0 Z0 nm st.objs w) (Zc w0 Z0 (setN nm (idf j) (.slice none 0 0)) (ins (idf j) (.arr ver false e s []) st.objs) w):=by
             rintro b ⟨z1,z2,z3⟩
             refine ⟨⟨z1,z2,?_⟩,rfl⟩
             rintro ⟨i,ob,y1,y2,y3⟩
             by_cases hi:idf j=i
             ·subst hi
              rw [JG] at y3
              cases y3
             ·rw [Jm,if_neg hi] at y1
              rw [kU _ _ (Ne.symm hi)] at y3
              exact z3 ⟨i,ob,y1,y2,y3⟩
            have hr2:rdAs w (Zc w0 Z0 (setN nm (idf j) (.slice none 0 0)) (ins (idf j) (.arr ver false e s []) st.objs) w) (setN nm (idf j) (.slice none 0 0)) (ins (idf j) (.arr ver false e s []) st.objs) (ds.set j (.own (idf j) ver)) vs:=by
             refine ⟨by rw [List.length_set];exact hr.1,fun i x v q1 q2=>?_⟩
             rw [List.getElem?_set] at q1
             by_cases hij:j=i
             ·subst hij
              have hjl:j<ds.length:=(Z2.1 hj).1
              simp only [if_true,hjl,z6] at q1
              subst q1
              have hv:v=.slice none 0 0:=hr.2 j _ v hj q2
              subst hv
              exact r2
             ·rw [if_neg hij] at q1
              have hx:=(zu.1 hall) x (List.mem_of_getElem? q1)
              exact rdA_mono hkept (atOk_other (by simpa using hx)) (hr.2 i x v q1 q2)
            obtain ⟨nm1,s1,s2,s3⟩:=ownNil_ok r h2 r1 (fun p hp=>by
             simp only [Jm,if_neg (Ne.symm (hne p hp))]
             exact hob p (zv _ hp)) hr2 hlay
            refine ⟨nm1,s1,s2,fun id hid=>?_⟩
            rw [s3 id (fun p hp=>hid p (zv _ hp)),kU _ _ (Ne.symm (hid (idf j,.arr ver false e s []) (by simp)))]
       ·cases he
    ·cases he
   ·exact ownNil_ok r he h hob hr hlay
theorem Does.storeBox (h:Rel n w0 Z0 st a w nm) {t:TypeId} {ti:TI} (hti:TiOk P t ti) {id off:Nat} {cs ds:List At} {vy:Value} (hob:look st.objs id=some (.box cs)) (hl:ds.length=ti.ty.cells) (hle:off+ds.length≤cs.length)
 {b:Nat} (e1:nm id=.pointer (some ⟨b,0,none⟩)) (q1:rdAs w (Zc w0 Z0 nm st.objs w) nm st.objs ds vy.cells.toList) (q2:∀u∈vy.cells.toList,u.oneCell'=true)
 (hself:∀x∈ds,x.isSelf=false) (hmay:mayOb st id (.box (cs.take off++ds++cs.drop (off+ds.length)))=true)
 (hx:∀w',(Instr.storeAt t (.pointer (some ⟨b,off,none⟩)) vy).run P w=.ok () w'→(execOp a.eval o).run P w=.ok .skip w') :
 Does P o a w fun v' w'=>∃nm',Rel n w0 Z0 ⟨st.slots,ins id (.box (cs.take off++ds++cs.drop (off+ds.length))) st.objs⟩ a w' nm' ∧
  rdD w' (Zc w0 Z0 nm' (ins id (.box (cs.take off++ds++cs.drop (off+ds.length))) st.objs) w') nm' (ins id (.box (cs.take off++ds++cs.drop (off+ds.length))) st.objs) (.tup []) v':=by
 have hundef:∀(w:World) (Z:Nat→Prop) (nm:Names) (objs:List (Nat×Ob)),rdD w Z nm objs (.tup []) undef:=fun w Z nm objs=>⟨#[],rfl,Vc⟩
 obtain ⟨b',vs,T,p1,p2,p3,p4⟩:=h.objs id _ hob
 rw [e1] at p1
 cases p1
 have hvl:vy.cells.toList.length=ti.ty.cells:=q1.1.trans hl
 have hcl:vs.toList.length=cs.length:=p3.1
 have hrun:=run_storeAt_cells hti (.of p2) (v:=vy) (q:=off) hvl (by rw [←Array.length_toList,hcl];omega) q2
 have hblk:blk (nm id)=some b:=by rw [e1];rfl
 refine Does.of_skip (hx _ hrun) ⟨setN nm id (nm id),?_,hundef _ _ _ _⟩
 have hst:Stays nm id (nm id) (look st.objs id) (.box (cs.take off++ds++cs.drop (off+ds.length))):=by rw [hob];rfl
 refine h.upd id _ _ hmay hst ⟨rfl,rfl,rfl,by simp⟩ (fun b2 hb2=>?_) (fun b2 hb2=>.inl ⟨hb2,_,hob,.inl rfl⟩) ?_
 ·by_cases hbb:b2=b
  ·subst hbb;exact .inl ⟨_,hob,rfl,hblk⟩
  ·exact .inr (setRow_other w b b2 _ hbb)
 ·refine ⟨b,_,T,by rw [JG];exact e1,setRow_heap w b vs _ T (0,0) p2,?_,?_,fun T' hT=>?_⟩
  ·have hk:Kept w (w.setRow b (vs.toList.take off++vy.cells.toList++vs.toList.drop (off+ti.ty.cells)).toArray) (Zc w0 Z0 nm st.objs w)
    (Zc w0 Z0 (setN nm id (nm id)) (ins id (.box (cs.take off++ds++cs.drop (off+ds.length))) st.objs) (w.setRow b (vs.toList.take off++vy.cells.toList++vs.toList.drop (off+ti.ty.cells)).toArray)):=by
    rintro b2 ⟨z1,z2,z3⟩
    refine ⟨⟨by simpa using z1,z2,?_⟩,setRow_other w b b2 _ (fun hh=>z3 ⟨id,_,hob,rfl,by rw [hblk,hh]⟩)⟩
    rintro ⟨j,ob,y1,y2,y3⟩
    rw [Vk] at y3
    by_cases hj:id=j
    ·subst hj;exact z3 ⟨id,_,hob,rfl,y3⟩
    ·rw [Jm,if_neg hj] at y1
     exact z3 ⟨j,ob,y1,y2,y3⟩
   have key:rdAs w (Zc w0 Z0 nm st.objs w) nm st.objs (cs.take off++ds++cs.drop (off+ds.length)) (vs.toList.take off++vy.cells.toList++vs.toList.drop (off+ti.ty.cells)):=by
    rw [hl]
    exact Yc (Yc (Hb p3 off) q1) (rdAs_drop p3 _)
   simp only [List.toList_toArray]
   exact YV hk (fun x _=>atOk_box hob) key
  ·intro u hu
   simp only [List.toList_toArray,zl] at hu
   rcases List.mem_append.1 hu with hu | hu
   ·exact p4.1 u (List.mem_of_mem_take hu)
   ·rcases List.mem_append.1 hu with hu | hu
    ·exact q2 u hu
    ·exact p4.1 u (List.mem_of_mem_drop hu)
  ·rw [zl] at hT
   rcases List.mem_append.1 hT with hT | hT
   ·exact p4.2 T' (List.mem_of_mem_take hT)
   ·rcases List.mem_append.1 hT with hT | hT
    ·have:=hself _ hT;cases this
    ·exact p4.2 T' (List.mem_of_mem_drop hT)
theorem selfCells_rd {b:Bool} {dst:Nat} {T:TypeId} {ty:Ty} {cs:List At} {vs:List Value} {Z:Nat→Prop} {objs:List (Nat×Ob)} (h:rdAs w Z nm objs cs vs):rdAs w Z nm objs (Vv b dst T ty cs) vs:=by
 unfold Vv
 cases b with
 | false=>exact h
 | true=>
   simp only [ze]
   split
   ·rename_i d r
    refine ⟨h.1,fun i x v q1 q2=>?_⟩
    cases i with
    | zero=>
      simp only [List.getElem?_cons_zero,z6] at q1
      subst q1
      have hv:[v]=[YJ 0]:=h.2 0 _ v rfl q2
      obtain rfl:=(List.cons.inj hv).1
      exact ⟨rfl,fun _ _=>.inl rfl⟩
    | succ i=>exact h.2 (i+1) x v q1 q2
   ·rename_i d r
    refine ⟨h.1,fun i x v q1 q2=>?_⟩
    cases i with
    | zero=>
      simp only [List.getElem?_cons_zero,z6] at q1
      subst q1
      have hv:[v]=[YJ 0]:=h.2 0 _ v rfl q2
      obtain rfl:=(List.cons.inj hv).1
      exact ⟨rfl,fun _ _=>.inl rfl⟩
    | succ i=>exact h.2 (i+1) x v q1 q2
   ·exact h
theorem selfCells_T {b:Bool} {dst:Nat} {T T':TypeId} {ty:Ty} {cs:List At} (hm:∀x∈cs,x.mentions dst=false) (h:At.selfp dst T'∈Vv b dst T ty cs):T'=T:=by
 have no:At.selfp dst T'∈cs→False:=fun hc=>by have:=hm _ hc;simp [At.mentions] at this
 unfold Vv at h
 cases b with
 | false=>exact (no h).elim
 | true=>
   simp only [ze] at h
   split at h
   ·rcases zz.1 h with h | h
    ·injection h
    ·exact (no (zv _ h)).elim
   ·rcases zz.1 h with h | h
    ·injection h
    ·exact (no (zv _ h)).elim
   ·exact (no h).elim
theorem Good.newBoxes (h:Rel n w0 Z0 st a w nm) {cs:List At} {u:Upd} {l:List (Nat×(TypeId×Ty))} {idf:Nat→Nat} {cs0:List At} {cells:Array Value} {T:TypeId} {bs:Bool} {ty:Ty} (hno:look st.objs dst=none)
 (hrun:(execOp a.eval o).run P w=.ok (.value (.pointer (some ⟨w.heap.size,0,none⟩))) (w.alloc (.cells cells T)))
 (hrd:rdAs w (Zc w0 Z0 nm st.objs w) nm st.objs cs0 cells.toList) (hown:Vb true (look st.objs) idf l cs0=some (cs,u)) (hu:∀p∈u,p.1≠dst) (hm:∀x∈cs,x.mentions dst=false) (hone:∀u∈cells.toList,u.oneCell'=true) :
 Good P n w0 Z0 st a w o ⟨.one (.ref dst 0),u++[(dst,.box (Vv bs dst T ty cs))]⟩:=by
 intro st' hlay
 obtain ⟨st1,hl1,hmay,rfl⟩:=YU hlay
 obtain ⟨nm1,r1,r2,_⟩:=ownNil_ok (n:=n) (w0:=w0) (Z0:=Z0) (a:=a) (w:=w) l hown h (fun _ _=>rfl) hrd hl1
 have hno1:look st1.objs dst=none:=(Ye u hl1 hu).trans hno
 have hnv:blk (.pointer (some ⟨w.heap.size,0,none⟩))=some w.heap.size:=rfl
 refine Does.of_run hrun ⟨setN nm1 dst (.pointer (some ⟨w.heap.size,0,none⟩)),?_,?_⟩
 ·refine r1.upd dst _ _ hmay (by rw [hno1];trivial) ⟨rfl,rfl,rfl,by simp⟩ (fun b hb=>.inr (heap_alloc_old w _ b hb)) (fun b hb=>?_) ?_
  ·simp only [blk,z6] at hb
   subst hb
   exact .inr ⟨zt _,by simp⟩
  ·refine ⟨w.heap.size,cells,T,JG _ _ _,heap_alloc_new w _,?_,hone,fun T' hT=>selfCells_T hm hT⟩
   have hk:Kept w (w.alloc (.cells cells T)) (Zc w0 Z0 nm1 st1.objs w) (Zc w0 Z0 (setN nm1 dst (.pointer (some ⟨w.heap.size,0,none⟩))) (ins dst (.box (Vv bs dst T ty cs)) st1.objs) (w.alloc (.cells cells T))):=by
    rintro b ⟨z1,z2,z3⟩
    refine ⟨⟨by simp;omega,z2,?_⟩,heap_alloc_old w _ b z1⟩
    rintro ⟨j,ob,y1,y2,y3⟩
    by_cases hj:dst=j
    ·subst hj
     rw [JG] at y3
     simp only [blk,z6] at y3
     omega
    ·rw [Jm,if_neg hj] at y1
     rw [kU _ _ (Ne.symm hj)] at y3
     exact z3 ⟨j,ob,y1,y2,y3⟩
   exact selfCells_rd (YV hk (fun x hx=>atOk_other (hm x hx)) r2)
 ·exact ⟨rfl,fun _ _=>⟨_,JG _ _ _,rfl⟩⟩
theorem eff_alloc {t:TypeId} (ho:o.op=.alloc t):EffOk P G o:=by
 intro hT n w0 w Z0 st a nm dst ρ k r h he
 unfold effK at he
 rw [ho] at he
 simp only at he
 split at he
 ·rename_i ti h1
  obtain ⟨i,z,q1,q2,q3,q4,_⟩:=(hT _ _ h1).info
  have hrun:(execOp a.eval o).run P w=.ok (.value (.pointer (some ⟨w.heap.size,0,none⟩))) (w.alloc (.cells z.cells t)):=by simp [execOp,ho,Instr.alloc,zeroValue,typeInfo,q1,q3,newVar,newRow]
  cases hf:ti.ty.flat with
  | true=>
    rw [hf] at he
    simp only [ze] at he
    split at he
    ·rename_i hno
     split at he
     ·rename_i cs u hown
      cases hb:(u.all (fun q=>!Nat.beq q.1 dst)&&cs.all (fun x=>!x.mentions dst)) with
      | false=>rw [hb] at he;cases he
      | true=>
        rw [hb] at he
        simp only [ze] at he
        rw [z7] at hb
        exact ⟨_,he,Good.newBoxes h hno hrun (VW _ hf q4) hown (fun p hp=>by
         have:=(zu.1 hb.1) p hp
         simp only [zx] at this
         exact JJ.1 this) (fun x hx=>by simpa using (zu.1 hb.2) x hx) (Vx _ q4)⟩
     ·cases he
    ·cases he
  | false=>
    rw [hf] at he
    simp only [zf] at he
    have hzl:=Yz _ q4
    split at he
    ·rename_i ver hver
     split at he
     ·rename_i m s n' e' _
      cases hb:(Nat.blt 0 m&&Nat.ble m 1048576) with
      | false=>rw [hb] at he;cases he
      | true=>
        rw [hb] at he
        simp only [ze] at he
        rw [z7] at hb
        have hb2:=Nat.le_of_ble_eq_true hb.2
        refine ⟨_,he,Good.newPtr (u:=[]) h (fun p hp=>by cases hp) (fun p hp=>by cases hp) (ar_noMap (hT _ _ h1) hb.1) hver hrun ?_ ?_ (fun st1 _=>?_)⟩
        ·rw [List.length_replicate,←Array.length_toList];exact hzl
        ·rw [List.length_replicate];simp only [maxLen];omega
        ·exact repAll_rd (fun _ h=>YT s h) q4
     ·rename_i s fs _
      refine ⟨_,he,Good.newPtr (u:=[]) h (fun p hp=>by cases hp) (fun p hp=>by cases hp) rfl hver hrun ?_ ?_ (fun st1 _=>?_)⟩
      ·rw [←Array.length_toList];simpa using hzl
      ·simp [maxLen]
      ·exact ⟨z.cells.toList,[],by simp,YT (.st s) q4,rfl⟩
     ·cases he
    ·cases he
 ·cases he
theorem lenOf_rd (h:Rel n w0 Z0 st a w nm) {x:Operand} {d:Dv} {m:Int} (hx:evSt st x=some d) (hl:lenOf (look st.objs) d=some m) :
 ∃ad c,a.eval x=.slice ad m.toNat c∧0≤m∧m.toNat≤maxLen:=by
 have hr:=ev_rd h hx
 unfold lenOf at hl
 split at hl
 ·cases hl
  exact ⟨none,0,hr,Int.le_refl _,by simp⟩
 ·rename_i t xs
  cases hl
  obtain ⟨v,e,hv⟩:=(show rdC w (Zc w0 Z0 nm st.objs w) (.sl t) [a.eval x] xs from hr)
  simp only [List.cons.injEq,and_true] at e
  rw [e]
  rcases hv with ⟨rfl,hd⟩ | ⟨b,off,cap,cells,rfl,h1,h2,_⟩ | ⟨ad,cap,rfl,hd,h1⟩
  ·have hd:xs=[]:=hd
   subst hd
   exact ⟨none,0,rfl,Int.le_refl _,by simp⟩
  ·exact ⟨_,cap,rfl,by omega,by simp;omega⟩
  ·have hd:xs=[]:=hd
   subst hd
   exact ⟨some ad,cap,rfl,Int.le_refl _,by simp⟩
 ·rename_i id ver
  split at hl
  ·rename_i v fz e t xs ho
   cases hb:(Nat.beq v ver && !t.isMap) with
   | false=>rw [hb] at hl;cases hl
   | true=>
     rw [hb] at hl
     simp only [ze,z6] at hl
     subst hl
     rw [z7] at hb
     have:=beqN.1 hb.1
     subst this
     have hv:=hr.2 fz e t xs ho
     obtain ⟨cells,h1,_⟩:=rdArr.sl (h.objs id _ ho) (by simpa using hb.2)
     rw [hv]
     rcases h1.2 with ⟨e1,e2⟩ | ⟨g,cap,cur,e1,_,e3,e4,_⟩
     ·rw [e1];exact ⟨none,0,by rw [e2];rfl,by omega,by simp [e2]⟩
     ·rw [e1];exact ⟨_,cap,rfl,by omega,by simp;omega⟩
  ·cases hl
 ·rename_i id ver lo q
  split at hl
  ·rename_i v fz e t xs ho
   cases hb:(Nat.beq v ver && !t.isMap) with
   | false=>rw [hb] at hl;cases hl
   | true=>
     rw [hb] at hl
     simp only [ze,z6] at hl
     subst hl
     rw [z7] at hb
     have:=beqN.1 hb.1
     subst this
     obtain ⟨h1,h2⟩:=hr.2 fz e t xs ho
     obtain ⟨g1,g2,_⟩:=UW h2
     rcases h1 with ⟨_,e1,e2⟩ | ⟨b,q1,c,g,c',_,e2,_,e4,e5⟩
     ·rw [e1,e2];exact ⟨none,0,rfl,Int.le_refl _,by simp⟩
     ·rw [e2];exact ⟨_,c',rfl,g2,by omega⟩
  ·cases hl
 ·cases hl
theorem eff_box {t:TypeId} {x:Operand} (ho:o.op=.box t x):EffOk P G o:=by
 intro hT n w0 w Z0 st a nm dst ρ k r h he
 unfold effK at he
 rw [ho] at he
 simp only at he
 split at he
 ·rename_i ti d h1 h2
  have hrun:(execOp a.eval o).run P w=.ok (.value (.pointer (some ⟨w.heap.size,0,none⟩))) (w.alloc (.cells (a.eval x).cells t)):=by simp [execOp,ho,Instr.box,newVar,newRow]
  have cold:(match dvV (look st.objs) ti.ty d with
   | some (y,[])=>k ⟨.one (.fptr ti.ty y),[]⟩
   | _=>none)=some r → ∃e:Eff,k e=some r∧Good P n w0 Z0 st a w o e:=by
   intro he
   split at he
   ·rename_i y hy
    obtain ⟨fu,frd⟩:=Vh (n:=n) (w0:=w0) (w:=w) (Z0:=Z0) (a:=a) (nm:=nm) hy
    obtain ⟨st1,hl1⟩:=FzUpd.lays [] h fu
    obtain ⟨hrel,hfz,hcold⟩:=Rel.freezes [] h fu hl1
    simp only [JE,z6] at hl1
    subst hl1
    have hv:=frd st ⟨hfz,hrel,hcold⟩ (a.eval x) (ev_rd h h2)
    have hk:Kept w (w.alloc (.cells (a.eval x).cells t)) (Zc w0 Z0 nm st.objs w) (Zc w0 Z0 nm st.objs (w.alloc (.cells (a.eval x).cells t))):=
     fun b ⟨q1,q2,q3⟩=>⟨⟨zw q1 (Same.alloc w _).size,q2,q3⟩,(Same.alloc w _).block b q1⟩
    refine ⟨_,he,Good.grow h hrun (Same.alloc w _) ⟨w.heap.size,0,(a.eval x).cells.toList,rfl,⟨by simp,fun hlt=>?_,?_⟩,ka hk _ (Yp hv),fun j u hj=>?_⟩⟩
    ·have:=h.same.size;omega
    ·rintro ⟨id,ob,e1,_,e3⟩
     have:=(h.new id ob _ e1 e3).2
     omega
    ·have h0:=heap_alloc_new w (.cells (a.eval x).cells t)
     simp only [World.cell?,h0,zq]
     simpa using hj
   ·cases he
  cases hl5:memN (8500000+dst) G.muts with
  | true=>
    rw [hl5] at he
    simp only [ze] at he
    split at he
    ·rename_i m hm
     refine ⟨_,he,Good.grow h hrun (Same.alloc w _) ?_⟩
     obtain ⟨ad,c,e1,e2,e3⟩:=lenOf_rd h h2 hm
     refine ⟨w.heap.size,0,(a.eval x).cells.toList,rfl,⟨by simp,fun hlt=>?_,?_⟩,?_,fun j u hj=>?_⟩
     ·have:=h.same.size;omega
     ·rintro ⟨id,ob,f1,_,f3⟩
      have:=(h.new id ob _ f1 f3).2
      omega
     ·rw [e1];exact ⟨ad,c,rfl,e2,e3⟩
     ·have h0:=heap_alloc_new w (.cells (a.eval x).cells t)
      simp only [World.cell?,h0,zq]
      simpa using hj
    ·cases he
  | false=>
  rw [hl5] at he
  simp only [zf] at he
  cases hl6:memN (8600000+dst) G.muts with
  | true=>
    rw [hl6] at he
    exact cold he
  | false=>
  rw [hl6] at he
  simp only [zf] at he
  cases hf:ti.ty.flat with
  | true=>
    rw [hf] at he
    simp only [ze] at he
    split at he
    ·rename_i cs hcs
     split at he
     ·rename_i hno
      have hr:=dvCells_rd (ev_rd h h2) hcs
      cases hmu:memN dst G.muts with
      | true=>
        rw [hmu] at he
        simp only [ze] at he
        split at he
        ·rename_i cs' u hown
         cases hb:(Nat.beq cs.length ti.ty.cells&&u.all (fun q=>!Nat.beq q.1 dst)&&cs'.all (fun x=>!x.mentions dst)) with
         | false=>rw [hb] at he;cases he
         | true=>
           rw [hb] at he
           simp only [ze] at he
           rw [z7,z7] at hb
           exact ⟨_,he,Good.newBoxes (bs:=true) (ty:=ti.ty) (cells:=(a.eval x).cells) (T:=t) h hno hrun hr.1 hown (fun p hp=>by
            have:=(zu.1 hb.1.2) p hp
            simp only [zx] at this
            exact JJ.1 this) (fun x hx=>by simpa using (zu.1 hb.2) x hx) hr.2⟩
        ·cases he
      | false=>
      rw [hmu] at he
      simp only [zf] at he
      cases hb:Nat.beq cs.length ti.ty.cells with
      | false=>rw [hb] at he;cases he
      | true=>
        rw [hb] at he
        exact ⟨_,he,Good.newBox h hno (cells:=(a.eval x).cells) (T:=t) hrun hr.1 (fun hf=>cells_no hcs (ev_no hf h2)) hr.2⟩
     ·cases he
    ·cases he
  | false=>
    rw [hf] at he
    simp only [zf] at he
    cases hz:memN (8000000+dst) G.muts with
    | true=>
      rw [hz] at he
      exact cold he
    | false=>
    rw [hz] at he
    simp only [zf] at he
    split at he
    ·rename_i ver y u hver hy
     cases hb:(u.all fun q=>!Nat.beq q.1 dst) with
     | false=>rw [hb] at he;cases he
     | true=>
       rw [hb] at he
       simp only [ze] at he
       have hnu:∀p∈u,p.1≠dst:=by
        intro p hp
        have:=(zu.1 hb) p hp
        simp only [zx] at this
        exact JJ.1 this
       obtain ⟨fu,frd⟩:=Vh (n:=n) (w0:=w0) (w:=w) (Z0:=Z0) (a:=a) (nm:=nm) hy
       have hvr:∀st1,Frozen n w0 Z0 st st1 a w nm u→rdV w (Zc w0 Z0 nm st1.objs w) ti.ty (a.eval x) y:=fun st1 hfr=>
        frd st1 hfr (a.eval x) (kI (fun b hb=>⟨hfr.fz.zc hb,fun _ _ hu=>hu⟩) (DvOk.refl _ _ _) (ev_rd h h2))
       obtain ⟨st1,hl1⟩:=FzUpd.lays u h fu
       obtain ⟨hrel,hfz,hcold⟩:=Rel.freezes u h fu hl1
       have hvl:=JF _ (Yp (hvr st1 ⟨hfz,hrel,hcold⟩))
       split at he
       ·rename_i m s n' e' y _
        cases hb:(Nat.blt 0 m&&Nat.ble m 1048576) with
        | false=>rw [hb] at he;cases he
        | true=>
          rw [hb] at he
          simp only [ze] at he
          rw [z7] at hb
          have hb2:=Nat.le_of_ble_eq_true hb.2
          have hyl:List.length (show List s.den from y)=m:=(Yp (hvr st1 ⟨hfz,hrel,hcold⟩)).1
          refine ⟨_,he,Good.newPtr h fu hnu (ar_noMap (hT _ _ h1) hb.1) hver hrun ?_ ?_ (fun st1 hfr=>?_)⟩
          ·rw [←Array.length_toList,hvl]
           show m*s.cells=_
           rw [←hyl]
          ·have:(show List s.den from y).length≤maxLen:=by rw [hyl];simp only [maxLen];omega
           exact this
          ·exact (Yp (hvr st1 hfr)).2
       ·rename_i s fs y _
        refine ⟨_,he,Good.newPtr h fu hnu rfl hver hrun ?_ ?_ (fun st1 hfr=>?_)⟩
        ·rw [←Array.length_toList,hvl];simp
        ·simp [maxLen]
        ·exact ⟨(a.eval x).cells.toList,[],by simp,Yp (hvr st1 hfr),rfl⟩
       ·cases he
    ·cases he
 ·cases he
theorem eff_store {t:TypeId} {x y:Operand} (ho:o.op=.store t x y):EffOk P G o:=by
 intro hT n w0 w Z0 st a nm dst ρ k r h he
 unfold effK at he
 rw [ho] at he
 simp only at he
 split at he
 ·rename_i ti p d h1 h2 h3
  have hti:=hT _ _ h1
  have hr:=ev_rd h h2
  have hx:∀v w',a.eval x=v→(Instr.storeAt t v (a.eval y)).run P w=.ok () w'→(execOp a.eval o).run P w=.ok .skip w':=by
   intro v w' q1 q2
   simp [execOp,ho,q1,q2]
  have hundef:∀(w:World) (Z:Nat→Prop) (nm:Names) (objs:List (Nat×Ob)),rdD w Z nm objs (.tup []) undef:=fun w Z nm objs=>⟨#[],rfl,Vc⟩
  split at he
  ·
   rename_i id off
   split at he
   ·rename_i cs ds0 hob hds
    split at he
    ·rename_i ds u hown
     cases hb:(Nat.beq ds.length ti.ty.cells&&Nat.ble (off+ds.length) cs.length&&u.all (fun q=>!Nat.beq q.1 id)&&ds.all (fun x=>!x.isSelf)) with
     | false=>rw [hb] at he;cases he
     | true=>
       rw [hb] at he
       simp only [ze] at he
       rw [z7] at hb
       obtain ⟨hb,hsf⟩:=hb
       have hsf:∀x∈ds,x.isSelf=false:=fun x hx=>by simpa using (zu.1 hsf) x hx
       rw [z7,z7] at hb
       have hl:=beqN.1 hb.1.1
       have hle:=Nat.le_of_ble_eq_true hb.1.2
       have hnu:∀p∈u,p.1≠id:=by
        intro p hp
        have:=(zu.1 hb.2) p hp
        simp only [zx] at this
        exact JJ.1 this
       obtain ⟨b,e1,e2⟩:=hr.2 cs hob
       obtain ⟨q1,q2⟩:=dvCells_rd (ev_rd h h3) hds
       refine ⟨_,he,fun st' hlay=>?_⟩
       obtain ⟨st1,hl1,hmay,rfl⟩:=YU hlay
       obtain ⟨nm1,r1,r2,r3⟩:=ownNil_ok (n:=n) (w0:=w0) (Z0:=Z0) (a:=a) (w:=w) _ hown h (fun _ _=>rfl) q1 hl1
       have hob1:look st1.objs id=some (.box cs):=(Ye u hl1 hnu).trans hob
       exact Does.storeBox r1 hti hob1 hl hle (by rw [r3 id hnu];exact e1) r2 q2 hsf hmay (fun w' hw=>hx _ _ e2 hw)
    ·cases he
   ·cases he
  ·
   rename_i id ver i sz off
   split at he
   ·rename_i z u hz
    split at he
    ·rename_i v e s xs hob
     cases hb:(Nat.beq v ver&&(u.all fun q=>!Nat.beq q.1 id)) with
     | false=>rw [hb] at he;cases he
     | true=>
       rw [hb] at he
       simp only [ze] at he
       rw [z7] at hb
       have:=beqN.1 hb.1
       subst this
       have hnu:∀p∈u,p.1≠id:=by
        intro p hp
        have:=(zu.1 hb.2) p hp
        simp only [zx] at this
        exact JJ.1 this
       obtain ⟨y0,hy,he⟩:=jQ he
       obtain ⟨i1,i2,i3⟩:=Yt hy
       split at he
       ·rename_i y' hy'
        refine ⟨_,he,fun st' hlay=>?_⟩
        obtain ⟨st1,hlu,hmay,rfl⟩:=YU hlay
        obtain ⟨fu,frd⟩:=Vh (n:=n) (w0:=w0) (w:=w) (Z0:=Z0) (a:=a) (nm:=nm) hz
        obtain ⟨hrel,hfz,hcold⟩:=Rel.freezes u h fu hlu
        have hob1:look st1.objs id=some (.arr v false e s xs):=by rw [Ye u hlu hnu];exact hob
        have hk1:Kept w w (Zc w0 Z0 nm st.objs w) (Zc w0 Z0 nm st1.objs w):=fun b hb=>⟨hfz.zc hb,rfl⟩
        have hvr:=frd st1 ⟨hfz,hrel,hcold⟩ (a.eval y) (kI hk1 (DvOk.refl _ _ _) (ev_rd h h3))
        have hvc:=Yp hvr
        obtain ⟨s1,s2,s3,b,m,c,s4,s5⟩:=hr.2 false e s xs hob
        subst s1
        obtain ⟨hmap,cells,t1,t2⟩:=(hrel.objs id _ hob1).of s4
        obtain ⟨c1,c2,c3,r1,r2,r3,r4,r5⟩:=Yv (fun _ _=>JF s) t2 i3
        obtain ⟨d1,d2,d3,u1,u2,u3,u4⟩:=HI hvc hy' r3
        rcases t1.2 with ⟨t3,_⟩ | ⟨g,cap,cur,t3,t4,t5,t6,t7,t8⟩
        ·rw [s4] at t3;cases t3
        ·have hbg:b=g:=by rw [s4] at t3;injection t3 with a1 _ _;injection a1 with a1;injection a1
         subst hbg
         have hblk:blk (nm id)=some b:=by rw [s4];rfl
         have hcells:cells.length=xs.length*s.cells:=t1.1
         have hcur:cur.toList=(c1++d1)++d2++(d3++c3++cur.toList.drop (xs.length*s.cells)):=by
          have:cur.toList=cells++cur.toList.drop (xs.length*s.cells):=by rw [←t8,List.take_append_drop]
          refine this.trans ?_
          rw [r1,u1]
          simp [zl]
         have hq:(c1++d1).length=i.toNat*s.cells+off:=by rw [z8,r2,u2]
         have hfit:i.toNat*s.cells+off+ti.ty.cells≤cur.size:=by
          rw [←Array.length_toList,hcur,z8,z8,hq,u3];omega
         have hrun:=run_storeAt_cells hti t4 (v:=a.eval y) (q:=i.toNat*s.cells+off) (JF _ hvc) hfit (Yw _ hvc)
         have hnewcur:cur.toList.take (i.toNat*s.cells+off)++(a.eval y).cells.toList++cur.toList.drop (i.toNat*s.cells+off+ti.ty.cells) =
          (c1++(d1++(a.eval y).cells.toList++d3)++c3)++cur.toList.drop (xs.length*s.cells):=by
          have:=take_drop_mid (c1++d1) d2 (d3++c3++cur.toList.drop (xs.length*s.cells)) (a.eval y).cells.toList _ _ hq u3
          rw [←hcur] at this
          rw [this]
          simp [zl]
         have hlen2:(c1++(d1++(a.eval y).cells.toList++d3)++c3).length=xs.length*s.cells:=by
          have h1:=JF _ hvc
          have h2:cells.length=(c1++(d1++d2++d3)++c3).length:=by rw [r1,u1]
          rw [←hcells,h2]
          simp only [z8,h1,u3]
         rw [hnewcur] at hrun
         refine Does.of_skip (hx _ _ s5 hrun) ⟨setN nm id (nm id),?_,hundef _ _ _ _⟩
         have hxl:(xs.set i.toNat y').length=xs.length:=List.length_set
         refine hrel.upd id _ _ hmay (by rw [hob1];exact fun _=>⟨rfl,rfl,rfl,hxl⟩) ⟨rfl,rfl,rfl,by simp⟩ (fun b2 hb2=>?_) (fun b2 hb2=>.inl ⟨hb2,_,hob1,.inl rfl⟩) ?_
         ·by_cases hbb:b2=b
          ·subst hbb;exact .inl ⟨_,hob1,rfl,hblk⟩
          ·exact .inr (setRow_other w b b2 _ hbb)
         ·have hk:Kept w (w.setRow b ((c1++(d1++(a.eval y).cells.toList++d3)++c3)++cur.toList.drop (xs.length*s.cells)).toArray) (Zc w0 Z0 nm st1.objs w)
           (Zc w0 Z0 (setN nm id (nm id)) (ins id (.arr v false e s (xs.set i.toNat y')) st1.objs) (w.setRow b ((c1++(d1++(a.eval y).cells.toList++d3)++c3)++cur.toList.drop (xs.length*s.cells)).toArray)):=by
           rintro b2 ⟨z1,z2,z3⟩
           refine ⟨⟨by simpa using z1,z2,?_⟩,setRow_other w b b2 _ (fun hh=>z3 ⟨id,_,hob1,rfl,by rw [hblk,hh]⟩)⟩
           rintro ⟨j,ob,y1,y2,y3⟩
           rw [Vk] at y3
           by_cases hj:id=j
           ·subst hj;exact z3 ⟨id,_,hob1,rfl,y3⟩
           ·rw [Jm,if_neg hj] at y1
            exact z3 ⟨j,ob,y1,y2,y3⟩
          refine .inl ⟨hmap,c1++(d1++(a.eval y).cells.toList++d3)++c3,?_,?_⟩
          ·rw [JG,hxl]
           have hns:((c1++(d1++(a.eval y).cells.toList++d3)++c3)++cur.toList.drop (xs.length*s.cells)).toArray.size=cur.size:=by
            have:=congrArg List.length hnewcur
            rw [List.size_toArray,←this,z8,z8,List.length_take,zo,JF _ hvc,Array.length_toList]
            omega
           refine ⟨hlen2,.inr ⟨b,cap,_,t3,t4.set hns,t5,t6,hns.trans t7,?_⟩⟩
           ·simp only [List.toList_toArray]
            rw [←hlen2,List.take_left]
          ·have hset:xs.set i.toNat y'=xs.take i.toNat++(y'::xs.drop (i.toNat+1)):=by rw [List.set_eq_take_append_cons_drop,if_pos i2]
           have key:rdAll (rdC _ _ s) (c1++(d1++(a.eval y).cells.toList++d3)++c3) (xs.take i.toNat++(y'::xs.drop (i.toNat+1))):=km.2 ⟨c1,(d1++(a.eval y).cells.toList++d3)++c3,by rw [zl],kA (fun _ _=>ka hk.weak s) r4,_,_,rfl,ka hk.weak s u4,kA (fun _ _=>ka hk.weak s) r5⟩
           rw [←hset] at key
           exact key
       ·cases he
    ·cases he
   ·cases he
  ·
   rename_i id ver i sz q n1 e1 j off
   split at he
   ·rename_i z u hz
    split at he
    ·rename_i v e s xs hob
     cases hb:(Nat.beq v ver&&(u.all fun q=>!Nat.beq q.1 id)) with
     | false=>rw [hb] at he;cases he
     | true=>
       rw [hb] at he
       simp only [ze] at he
       rw [z7] at hb
       have:=beqN.1 hb.1
       subst this
       have hnu:∀p∈u,p.1≠id:=by
        intro p hp
        have:=(zu.1 hb.2) p hp
        simp only [zx] at this
        exact JJ.1 this
       obtain ⟨y0,hy,he⟩:=jQ he
       obtain ⟨i1,i2,i3⟩:=Yt hy
       split at he
       ·rename_i zs hzs
        obtain ⟨y1,hy1,he⟩:=jQ he
        obtain ⟨j1,j2,j3⟩:=Yt hy1
        split at he
        ·rename_i y2 hy2
         split at he
         ·rename_i y' hy'
          refine ⟨_,he,fun st' hlay=>?_⟩
          obtain ⟨st1,hlu,hmay,rfl⟩:=YU hlay
          obtain ⟨fu,frd⟩:=Vh (n:=n) (w0:=w0) (w:=w) (Z0:=Z0) (a:=a) (nm:=nm) hz
          obtain ⟨hrel,hfz,hcold⟩:=Rel.freezes u h fu hlu
          have hob1:look st1.objs id=some (.arr v false e s xs):=by rw [Ye u hlu hnu];exact hob
          have hk1:Kept w w (Zc w0 Z0 nm st.objs w) (Zc w0 Z0 nm st1.objs w):=fun b hb=>⟨hfz.zc hb,rfl⟩
          have hvr:=frd st1 ⟨hfz,hrel,hcold⟩ (a.eval y) (kI hk1 (DvOk.refl _ _ _) (ev_rd h h3))
          have hvc:=Yp hvr
          obtain ⟨s1,s2,s3,s6,s7,b,m,c,s4,s5⟩:=hr.2 false e s xs hob
          subst s1
          obtain ⟨hmap,cells,t1,t2⟩:=(hrel.objs id _ hob1).of s4
          obtain ⟨c1,c2,c3,r1,r2,r3,r4,r5⟩:=Yv (fun _ _=>JF s) t2 i3
          obtain ⟨d1,d2,d3,u1,u2,u3⟩:=Uq hzs r3
          obtain ⟨l1,l2⟩:=u3
          obtain ⟨f1,f2,f3,v1,v2,v3,v4,v5⟩:=Yv (fun _ _=>JF e1) l2 j3
          obtain ⟨g1,g2,g3,x1,x2,x3,x4⟩:=HI hvc hy2 v3
          have hset:zs.set j.toNat y2=zs.take j.toNat++(y2::zs.drop (j.toNat+1)):=by rw [List.set_eq_take_append_cons_drop,if_pos j2]
          have harr:rdC w (Zc w0 Z0 nm st1.objs w) (.ar n1 e1) (f1++(g1++(a.eval y).cells.toList++g3)++f3) (zs.set j.toNat y2):=by
           refine ⟨by rw [List.length_set];exact l1,?_⟩
           rw [hset]
           exact km.2 ⟨f1,(g1++(a.eval y).cells.toList++g3)++f3,by rw [zl],v4,g1++(a.eval y).cells.toList++g3,f3,rfl,x4,v5⟩
          obtain ⟨h1',h2',h3',w1,w2,w3,w4⟩:=HI harr hy' r3
          have hd:d1=h1'∧d2=h2'∧d3=h3':=by
           have e1':d1++(d2++d3)=h1'++(h2'++h3'):=by rw [←zl,←u1,w1,zl]
           obtain ⟨q1,q2⟩:=List.append_inj e1' (by rw [u2,w2])
           have hl2:d2.length=h2'.length:=by rw [w3,YB (fun _ _=>JF e1) l2,l1];rfl
           obtain ⟨q3,q4⟩:=List.append_inj q2 hl2
           exact ⟨q1,q3,q4⟩
          obtain ⟨rfl,rfl,rfl⟩:=hd
          have hpre:(c1++(d1++(f1++g1))).length=i.toNat*s.cells+q+j.toNat*e1.cells+off:=by
           simp only [z8,r2,u2,v2,x2];omega
          refine Does.storeRow hrel hti hob1 (xs':=xs.set i.toNat y') List.length_set hmay s4 t1 (pre:=c1++(d1++(f1++g1))) (old:=g2) (post:=g3++(f3++(d3++c3))) ?_ x3 (JF _ hvc) (Yw _ hvc) ?_ (fun w' hw=>hx _ w' s5 (by rw [hpre] at hw;exact hw))
          ·rw [r1,u1,v1,x1]
           simp [zl]
          ·have hset2:xs.set i.toNat y'=xs.take i.toNat++(y'::xs.drop (i.toNat+1)):=by rw [List.set_eq_take_append_cons_drop,if_pos i2]
           rw [hset2]
           refine km.2 ⟨c1,(d1++(f1++(g1++(a.eval y).cells.toList++g3)++f3)++d3)++c3,by simp [zl],r4,_,c3,rfl,w4,r5⟩
         ·cases he
        ·cases he
       ·cases he
    ·cases he
   ·cases he
  ·
   rename_i id ver
   split at he
   ·rename_i z u hz
    split at he
    ·rename_i v e s xs hob
     cases hb:(Nat.beq v ver&&(u.all fun q=>!Nat.beq q.1 id)) with
     | false=>rw [hb] at he;cases he
     | true=>
       rw [hb] at he
       simp only [ze] at he
       rw [z7] at hb
       have:=beqN.1 hb.1
       subst this
       have hnu:∀p∈u,p.1≠id:=by
        intro p hp
        have:=(zu.1 hb.2) p hp
        simp only [zx] at this
        exact JJ.1 this
       have go:∀st1,JE st u=some st1→Rel n w0 Z0 st1 a w nm∧look st1.objs id=some (.arr v false e s xs)∧rdC w (Zc w0 Z0 nm st1.objs w) ti.ty (a.eval y).cells.toList z:=by
        intro st1 hlu
        obtain ⟨fu,frd⟩:=Vh (n:=n) (w0:=w0) (w:=w) (Z0:=Z0) (a:=a) (nm:=nm) hz
        obtain ⟨hrel,hfz,hcold⟩:=Rel.freezes u h fu hlu
        have hk1:Kept w w (Zc w0 Z0 nm st.objs w) (Zc w0 Z0 nm st1.objs w):=fun b hb=>⟨hfz.zc hb,rfl⟩
        exact ⟨hrel,by rw [Ye u hlu hnu];exact hob,Yp (frd st1 ⟨hfz,hrel,hcold⟩ (a.eval y) (kI hk1 (DvOk.refl _ _ _) (ev_rd h h3)))⟩
       obtain ⟨b,m,c,s4,s5⟩:=hr.2 false e s xs hob
       split at he
       ·rename_i n1 s' n2 e2 zs _
        split at he
        ·rename_i hs
         subst hs
         obtain ⟨_,hl,he⟩:=jQ he
         have hl:=zr (JS hl)
         refine ⟨_,he,fun st' hlay=>?_⟩
         obtain ⟨st1,hlu,hmay,rfl⟩:=YU hlay
         obtain ⟨hrel,hob1,hvc⟩:=go st1 hlu
         obtain ⟨hmap,cells,t1,t2⟩:=(hrel.objs id _ hob1).of s4
         refine Does.storeRow hrel hti hob1 (xs':=zs) hl hmay s4 t1 (pre:=[]) (old:=cells) (post:=[]) (by simp) ?_ (JF _ hvc) (Yw _ hvc) ?_ (fun w' hw=>hx _ w' s5 hw)
         ·rw [t1.1,←hl]
          show _=n1*s'.cells
          rw [hvc.1]
         ·simpa using hvc.2
        ·cases he
       ·rename_i ty kd z _ _
        obtain ⟨y0,hy,he⟩:=jQ he
        obtain ⟨i1,i2,i3⟩:=Yt hy
        split at he
        ·rename_i y' hy'
         refine ⟨_,he,fun st' hlay=>?_⟩
         obtain ⟨st1,hlu,hmay,rfl⟩:=YU hlay
         obtain ⟨hrel,hob1,hvc⟩:=go st1 hlu
         obtain ⟨hmap,cells,t1,t2⟩:=(hrel.objs id _ hob1).of s4
         obtain ⟨c1,c2,c3,r1,r2,r3,r4,r5⟩:=Yv (fun _ _=>JF s) t2 i3
         obtain ⟨d1,d2,d3,u1,u2,u3,u4⟩:=HI hvc hy' r3
         have h1:c1=[]:=zg (by rw [r2];simp)
         have h2:d1=[]:=zg u2
         subst h1;subst h2
         refine Does.storeRow hrel hti hob1 (xs':=xs.set 0 y') List.length_set hmay s4 t1 (pre:=[]) (old:=d2) (post:=d3++c3) ?_ u3 (JF _ hvc) (Yw _ hvc) ?_ (fun w' hw=>hx _ w' s5 hw)
         ·rw [r1,u1];simp
         ·have i2':0<xs.length:=i2
          have hset2:xs.set 0 y'=xs.take 0++(y'::xs.drop (0+1)):=by rw [List.set_eq_take_append_cons_drop,if_pos i2']
          rw [hset2]
          exact km.2 ⟨[],([]++(a.eval y).cells.toList++d3)++c3,by simp,r4,_,c3,rfl,u4,r5⟩
        ·cases he
    ·cases he
   ·cases he
  ·cases he
 ·cases he
end
end Go.Ql
end

section
namespace Go.Ql
def rdRes (w:World) (Z:Nat→Prop) (ts:List Ty) (x:dens ts) (v:Value):Prop:=
 match ts,x with
 | [t],x=>rdV w Z t v x
 | ts,x=>∃vs,v=.tuple vs∧Vj w Z ts x vs.toList
def VD (w w':World) (Z:Nat→Prop) (b:Nat):Prop:=Z b∨(w.heap.size≤b∧b<w'.heap.size)
structure CalleeOk [GInv] (P:Program) (f:FuncId) (ce:Callee):Prop where
 fn : ∃ fn, P.funcs[f]? = some fn ∧ (fn.name == "runtime.NumGoroutine") = false ∧ fn.body.isNone = false
 calls:∀(w:World) (Z:Nat→Prop) (vs:List Value) (x:dens ce.params) (r:dens ce.res),GInv.ok w→(∀b,Z b→b<w.heap.size)→Vj w Z ce.params x vs→ce.F x=some r →
  Calls P f vs.toArray w fun e w'=>∃v,e=.returned v∧Same w w'∧rdRes w' (VD w w' Z) ce.res r v
def FnsOk [GInv] (P:Program) (fns:List (Nat×Callee)):Prop:=∀f ce,look fns f=some ce→CalleeOk P f ce
section
variable [GInv] {P:Program} {G:Env} {n:Nat} {w0 w w':World} {Z0:Bs} {Z Z':Nat→Prop} {st st1:St} {a:Act} {nm:Names} {o:Oper} {dst:Nat} {ρ:Type} {k:Eff→Option ρ} {r:ρ}
theorem VL:∀(t:Ty) {cs:List Value} {d:t.den},t.free=true→rdC w Z t cs d→rdC w' Z' t cs d
 | .bool,_,_,_,h=>h
 | .int _,_,_,_,h=>h
 | .str,_,_,_,h=>h
 | .sl _,_,_,hf,_=>by simp [Ty.free] at hf
 | .st t,_,_,hf,h=>VL t hf h
 | .unit,_,_,_,h=>h
 | .pair a b,_,_,hf,⟨c1,c2,e,h1,h2⟩=>by
   simp only [Ty.free,z7] at hf
   exact ⟨c1,c2,e,VL a hf.1 h1,VL b hf.2 h2⟩
 | .ar _ t,_,_,hf,⟨h1,h2⟩=>⟨h1,kA (fun _ _ h=>VL t hf h) h2⟩
 | .nilv _,_,_,_,h=>h
 | .ifc _ t,_,_,hf,⟨u,us,e,h1,h2⟩=>⟨u,us,e,h1,VL t hf h2⟩
 | .nn,_,_,_,h=>h
 | .len,_,_,_,h=>h
 | .fl _,_,_,hf,_=>by simp [Ty.free] at hf
theorem rdV_free {t:Ty} {v:Value} {d:t.den} (hf:t.free=true) (h:rdV w Z t v d):rdV w' Z' t v d:=by
 cases t with
 | st s=>obtain ⟨cs,e,h⟩:=h;exact ⟨cs,e,VL s hf h⟩
 | ar m s=>obtain ⟨cs,e,h⟩:=h;exact ⟨cs,e,VL (.ar m s) hf h⟩
 | _=>exact VL (w:=w) (Z:=Z) _ hf h
theorem Ub (hk:Kept w w' Z Z'):∀(ts:List Ty) {x:dens ts} {vs:List Value},Vj w Z ts x vs→Vj w' Z' ts x vs
 | [],_,_,h=>h
 | [_],_,_,⟨v,e,h⟩=>⟨v,e,VM hk h⟩
 | _::t'::ts,_,_,⟨v,r,e,h1,h2⟩=>⟨v,r,e,VM hk h1,Ub hk (t'::ts) h2⟩
theorem rdArgs_free:∀(ts:List Ty) {x:dens ts} {vs:List Value},ts.all Ty.free=true→Vj w Z ts x vs→Vj w' Z' ts x vs
 | [],_,_,_,h=>h
 | [t],_,_,hf,⟨v,e,h⟩=>⟨v,e,rdV_free (by simpa using hf) h⟩
 | t::t'::ts,_,_,hf,⟨v,r,e,h1,h2⟩=>by
   rw [List.all_cons,z7] at hf
   exact ⟨v,r,e,rdV_free hf.1 h1,rdArgs_free (t'::ts) hf.2 h2⟩
theorem resAts_rd {objs:List (Nat×Ob)}:∀(ts:List Ty) {x:dens ts} {vs:List Value},Vj w Z ts x vs→rdAs w Z nm objs (resAts ts x) vs
 | [],_,_,h=>by have h:_=_:=h;subst h;exact Vc
 | [t],x,_,⟨v,e,h⟩=>by subst e;exact JU (x:=.val t x) h
 | t::t'::ts,x,_,⟨v,r,e,h1,h2⟩=>by
   subst e
   exact Yc (c1:=[.val t x.1]) (v1:=[v]) (JU (x:=.val t x.1) h1) (resAts_rd (t'::ts) h2)
theorem resDv_rd {objs:List (Nat×Ob)} {ts:List Ty} {x:dens ts} {v:Value} (h:rdRes w Z ts x v):rdD w Z nm objs (resDv ts x) v:=by
 match ts,x,h with
 | [],_,⟨vs,e,h⟩=>exact ⟨vs,e,resAts_rd [] h⟩
 | [t],_,h=>exact h
 | t::t'::ts,_,⟨vs,e,h⟩=>exact ⟨vs,e,resAts_rd (t::t'::ts) h⟩
theorem rdRes_mono (hk:Kept w w' Z Z') {ts:List Ty} {x:dens ts} {v:Value} (h:rdRes w Z ts x v):rdRes w' Z' ts x v:=by
 match ts,x,h with
 | [],_,⟨vs,e,h⟩=>exact ⟨vs,e,h⟩
 | [t],_,h=>exact VM hk h
 | t::t'::ts,_,⟨vs,e,h⟩=>exact ⟨vs,e,Ub hk (t::t'::ts) h⟩
theorem rdRes_free {ts:List Ty} {x:dens ts} {v:Value} (hf:ts.all Ty.free=true) (h:rdRes w Z ts x v):rdRes w' Z' ts x v:=by
 match ts,x,hf,h with
 | [],_,_,⟨vs,e,h⟩=>exact ⟨vs,e,h⟩
 | [t],_,hf,h=>exact rdV_free (by simpa using hf) h
 | t::t'::ts,_,hf,⟨vs,e,h⟩=>exact ⟨vs,e,rdArgs_free (t::t'::ts) hf h⟩
theorem evAll_rd (h:Rel n w0 Z0 st a w nm):∀{l:List Operand} {ds:List Dv},evAll (evSt st) l=some ds→ds.length=l.length ∧ ∀(i:Nat) d v,ds[i]?=some d→(l.map a.eval)[i]?=some v→rdD w (Zc w0 Z0 nm st.objs w) nm st.objs d v
 | [],ds,he=>by simp only [evAll,z6] at he;subst he;exact ⟨rfl,fun i d v q _=>by simp at q⟩
 | x::l,ds,he=>by
   simp only [evAll] at he
   split at he
   ·rename_i d l' h1 h2
    cases he
    obtain ⟨q1,q2⟩:=evAll_rd h h2
    refine ⟨by simp [q1],fun i d v q q'=>?_⟩
    cases i with
    | zero=>simp at q q';subst q;subst q';exact ev_rd h h1
    | succ i=>exact q2 i d v (by simpa using q) (by simpa using q')
   ·cases he
theorem onesD_rd {w:World} {Z:Nat→Prop} {objs:List (Nat×Ob)}:∀{ds:List Dv} {cs:List At} {vs:List Value},onesD ds=some cs→vs.length=ds.length →
 (∀(i:Nat) d v,ds[i]?=some d→vs[i]?=some v→rdD w Z nm objs d v)→rdAs w Z nm objs cs vs
 | [],cs,vs,h,hl,_=>by
   simp only [onesD,z6] at h
   subst h
   have:vs=[]:=zg hl
   subst this
   exact Vc
 | .one x::ds,cs,vs,h,hl,hr=>by
   simp only [onesD] at h
   split at h
   ·rename_i l h1
    cases h
    match vs,hl with
    | v::vs,hl=>
      exact Yc (c1:=[x]) (v1:=[v]) (JU (hr 0 (.one x) v rfl rfl)) (onesD_rd h1 (by simpa using hl) fun i d v q1 q2=>hr (i+1) d v (by simpa using q1) (by simpa using q2))
   ·cases h
 | .agg _::_,_,_,h,_,_=>by simp [onesD] at h
 | .tup _::_,_,_,h,_,_=>by simp [onesD] at h
theorem callee_run (h:Rel n w0 Z0 st a w nm) {c:Call} {x:Operand} (ho:o.op=.call c) (hc:c.callee=.value x) {f:Nat} {fs cs as:List Dv}
 (h1:Ue (look st.objs) (evSt st x)=some (f,fs,cs)) (h2:evAll (evSt st) c.args.toList=some as) :
 ∃vs:List Value,vs.length=(fs++as++cs).length∧(∀(i:Nat) d v,(fs++as++cs)[i]?=some d→vs[i]?=some v→rdD w (Zc w0 Z0 nm st.objs w) nm st.objs d v) ∧
  ∀ fn, P.funcs[f]? = some fn → (fn.name == "runtime.NumGoroutine") = false → fn.body.isNone = false → (execOp a.eval o).run P w = .ok (.enter f vs.toArray) w := by
 obtain ⟨l1,l2⟩:=evAll_rd h h2
 have key : ∀ vx vy : Array Value, a.eval x = .func (.func f) vx vy → ∀ fn, P.funcs[f]? = some fn → (fn.name == "runtime.NumGoroutine") = false → fn.body.isNone = false →
  (execOp a.eval o).run P w=.ok (.enter f (vx++c.args.map a.eval++vy)) w:=by
  intro vx vy hv fn f1 f2 f3
  have f2' : ¬ fn.name = "runtime.NumGoroutine" := by simpa using f2
  have f3':¬fn.body=none:=by intro hh;rw [hh] at f3;cases f3
  simp [execOp,ho,resolve,hc,hv,Deferred.ofValue,invoke,callFunc,f1,f2',f3']
 have hfun:∀vx vy:Array Value,(vx++c.args.map a.eval++vy)=(vx.toList++c.args.toList.map a.eval++vy.toList).toArray:=by
  intro vx vy
  apply Array.ext'
  simp
 unfold Ue at h1
 split at h1
 ·rename_i g hx
  cases h1
  have hv:a.eval x=.func (.func f) #[] #[]:=ev_rd h hx
  refine ⟨c.args.toList.map a.eval,by simp [l1],fun i d v q1 q2=>l2 i d v (by simpa using q1) q2,fun fn f1 f2 f3=>?_⟩
  rw [key _ _ hv fn f1 f2 f3,hfun]
  simp
 ·rename_i id hx
  split at h1
  ·rename_i g p q hob
   cases h1
   have hv:a.eval x=nm id:=(ev_rd h hx).2 f p q hob
   obtain ⟨vx,vy,e1,r1,r2⟩:=h.objs id _ hob
   refine ⟨vx.toList++c.args.toList.map a.eval++vy.toList,by simp [l1,r1.1.symm,r2.1.symm],?_,fun fn f1 f2 f3=>?_⟩
   ·intro i d v q1 q2
    have lx:vx.toList.length=(p.map Dv.one).length:=by rw [List.length_map];exact r1.1
    rw [zl] at q1 q2
    by_cases hi:i<vx.toList.length
    ·rw [List.getElem?_append_left (by omega)] at q1
     rw [List.getElem?_append_left hi] at q2
     rw [List.getElem?_map,Z4] at q1
     obtain ⟨y,y1,rfl⟩:=q1
     exact r1.2 i y v y1 q2
    ·rw [zn (by omega)] at q1
     rw [zn (by omega)] at q2
     rw [←lx] at q1
     by_cases hi2:i-vx.toList.length<as.length
     ·rw [List.getElem?_append_left hi2] at q1
      rw [List.getElem?_append_left (by simpa [←l1] using hi2)] at q2
      exact l2 _ d v q1 q2
     ·rw [zn (by omega)] at q1
      rw [zn (by rw [List.length_map,←l1];omega),List.length_map,←l1] at q2
      rw [List.getElem?_map,Z4] at q1
      obtain ⟨y,y1,rfl⟩:=q1
      exact r2.2 _ y v y1 q2
   ·rw [key _ _ (hv.trans e1) fn f1 f2 f3,hfun]
  ·cases h1
 ·cases h1
theorem pure_call (h:Rel n w0 Z0 st a w nm) {f:Nat} {ce:Callee} (hce:CalleeOk P f ce) {ds:List Dv} {vs:List Value} (l1:vs.length=ds.length)
 (l2:∀(i:Nat) d v,ds[i]?=some d→vs[i]?=some v→rdD w (Zc w0 Z0 nm st.objs w) nm st.objs d v)
 (hrun : ∀ fn, P.funcs[f]? = some fn → (fn.name == "runtime.NumGoroutine") = false → fn.body.isNone = false → (execOp a.eval o).run P w = .ok (.enter f vs.toArray) w)
 {xs:dens ce.params} {u:Upd} (hxs:args (look st.objs) ce.params ds=some (xs,u)) {res:dens ce.res} (hres:ce.F xs=some res) :
 Good P n w0 Z0 st a w o ⟨resDv ce.res res,bif ce.res.all Ty.free then [] else u⟩:=by
 obtain ⟨⟨fn,f1,f2,f3⟩,hcalls⟩:=hce
 have hrun:=hrun fn f1 f2 f3
 obtain ⟨fu,frd⟩:=args_rd (n:=n) (w0:=w0) (w:=w) (Z0:=Z0) (a:=a) (nm:=nm) ce.params hxs
 have key:∀(st1:St),JE st u=some st1→Vj w (Zc w0 Z0 nm st1.objs w) ce.params xs vs∧Rel n w0 Z0 st1 a w nm:=by
  intro st1 hl
  obtain ⟨hrel,hfz,hcold⟩:=Rel.freezes u h fu hl
  have hk1:Kept w w (Zc w0 Z0 nm st.objs w) (Zc w0 Z0 nm st1.objs w):=fun b hb=>⟨hfz.zc hb,rfl⟩
  exact ⟨frd st1 ⟨hfz,hrel,hcold⟩ _ l1 (fun i d v q1 q2=>kI hk1 (DvOk.refl _ _ _) (l2 i d v q1 q2)),hrel⟩
 intro st' hlay
 cases hfree:ce.res.all Ty.free with
 | true=>
   simp only [hfree,ze] at hlay
   simp only [JE,z6] at hlay
   subst hlay
   obtain ⟨st1,hl1⟩:=FzUpd.lays u h fu
   obtain ⟨hra,_⟩:=key st1 hl1
   have hra2:=Ub (w':=w) (Z':=fun b=>b<w.heap.size) (fun b hb=>⟨hb.1,rfl⟩) ce.params hra
   refine Does.of_call hrun ?_
   refine Calls.mono (hcalls w (fun b=>b<w.heap.size) _ xs res h.gnow (fun _ hb=>hb) hra2 hres) ?_
   rintro e w' ⟨v,he,hs,hr⟩
   exact ⟨v,he,nm,h.grow hs,resDv_rd (rdRes_free hfree hr)⟩
 | false=>
   simp only [hfree,zf] at hlay
   obtain ⟨hra,hrel⟩:=key st' hlay
   refine Does.of_call hrun ?_
   refine Calls.mono (hcalls w (Zc w0 Z0 nm st'.objs w) _ xs res h.gnow (fun _ hb=>hb.1) hra hres) ?_
   rintro e w' ⟨v,he,hs,hr⟩
   refine ⟨v,he,nm,hrel.grow hs,resDv_rd (rdRes_mono (fun b hb=>⟨?_,rfl⟩) hr)⟩
   rcases hb with ⟨z1,z2,z3⟩ | ⟨z1,z2⟩
   ·exact ⟨zw z1 hs.size,z2,z3⟩
   ·refine ⟨z2,fun hlt=>absurd hlt (by have:=hrel.same.size;omega),?_⟩
    rintro ⟨id,ob,q1,q2,q3⟩
    have:=(hrel.new id ob b q1 q3).2
    omega
end
end Go.Ql
end

section
namespace Go.Ql
theorem Vd:∀(a b:List Ty) (x:densU a) (y:densU b),fstU a b (appU a b x y)=x
 | [],_,_,_=>rfl
 | _::a,b,x,y=>by show (x.1,fstU a b (appU a b x.2 y))=x;rw [Vd a b]
theorem Ve:∀(a b:List Ty) (x:densU a) (y:densU b),sndU a b (appU a b x y)=y
 | [],_,_,_=>rfl
 | _::a,b,x,y=>Ve a b x.2 y
def nmT (nm:Names) (σ:Ren):Names:=fun j=>match look σ j with
 | some i=>nm i
 | none=>undef
theorem Yj {nm:Names} {σ:Ren} {j i:Nat} (h:look σ j=some i):nmT nm σ j=nm i:=by unfold nmT;rw [h]
def Ext (σ σ':Ren):Prop:=∀j i,look σ j=some i→look σ' j=some i
theorem Ext.refl (σ:Ren):Ext σ σ:=fun _ _ h=>h
theorem Ext.trans {a b c:Ren} (h:Ext a b) (k:Ext b c):Ext a c:=fun j i q=>k j i (h j i q)
def InjR (σ:Ren):Prop:=∀j j' i,look σ j=some i→look σ j'=some i→j=j'
theorem hasV_no {i:Nat}:∀{σ:Ren},hasV i σ=false → ∀j,look σ j≠some i
 | [],_,j,h=>by simp [look] at h
 | (k,v)::σ,hn,j,h=>by
   simp only [hasV,Bool.or_eq_false_iff] at hn
   simp only [look] at h
   cases hb:Nat.beq k j with
   | true=>
     rw [hb] at h
     simp only [ze,z6] at h
     subst h
     exact absurd rfl (JJ.1 hn.1)
   | false=>rw [hb] at h;exact hasV_no hn.2 j h
theorem bindId_ok {σ σ':Ren} {j i:Nat} (h:bindId σ j i=some σ'):Ext σ σ'∧look σ' j=some i∧(InjR σ→InjR σ'):=by
 unfold bindId at h
 split at h
 ·rename_i i' hl
  cases hb:Nat.beq i' i with
  | false=>rw [hb] at h;cases h
  | true=>
    rw [hb] at h
    have:=beqN.1 hb
    subst this
    simp only [ze,z6] at h
    subst h
    exact ⟨Ext.refl _,hl,id⟩
 ·rename_i hl
  cases hb:hasV i σ with
  | true=>rw [hb] at h;cases h
  | false=>
    rw [hb] at h
    simp only [zf,z6] at h
    subst h
    have hno:=hasV_no hb
    refine ⟨fun k q hk=>?_,by simp [look],fun hi k k' q hk hk'=>?_⟩
    ·simp only [look]
     cases hb2:Nat.beq j k with
     | true=>have:=beqN.1 hb2;subst this;rw [hl] at hk;cases hk
     | false=>exact hk
    ·simp only [look] at hk hk'
     cases hb2:Nat.beq j k with
     | true=>
       rw [hb2] at hk
       simp only [ze,z6] at hk
       subst hk
       cases hb3:Nat.beq j k' with
       | true=>rw [←beqN.1 hb2,←beqN.1 hb3]
       | false=>rw [hb3] at hk';exact absurd hk' (hno k')
     | false=>
       rw [hb2] at hk
       cases hb3:Nat.beq j k' with
       | true=>
         rw [hb3] at hk'
         simp only [ze,z6] at hk'
         subst hk'
         exact absurd hk (hno k)
       | false=>rw [hb3] at hk';exact hi k k' q hk hk'
theorem Va {σ σ':Ren} {j i:Nat} {α:Type} {x y:α} {u:Upd} (h:bindU σ j i x=some (y,u,σ')):y=x∧u=[]∧Ext σ σ'∧look σ' j=some i∧(InjR σ→InjR σ'):=by
 unfold bindU at h
 split at h
 ·rename_i s hs
  simp only [z6,zm] at h
  obtain ⟨rfl,rfl,rfl⟩:=h
  exact ⟨rfl,rfl,bindId_ok hs⟩
 ·cases h
section
variable [GInv] {P:Program} {G:Env} {n:Nat} {w0 w w':World} {Z0:Bs} {Z Z':Nat→Prop} {st st1:St} {a:Act} {nm:Names} {o:Oper} {dst:Nat} {ρ:Type} {r:ρ}
def Fits (st:St) (σ:Ren) (objs:List (Nat×Ob)):Prop:=∀j i v fz e t xs,look σ j=some i→look objs j=some (.arr v fz e t xs) → ∃v' xs',look st.objs i=some (.arr v' false e t xs')∧List.length xs'=List.length xs
theorem FzUpd.nil:FzUpd st []:=fun p hp=>by cases hp
structure Bound (n:Nat) (w0:World) (Z0:Bs) (st:St) (a:Act) (w:World) (nm:Names) (σ σ':Ren) (u:Upd) (R:(Nat→Prop)→Names→List (Nat×Ob)→Prop):Prop where
 fz:FzUpd st u
 ext:Ext σ σ'
 inj:InjR σ→InjR σ'
 rd:∀σF st1 objs,Ext σ' σF→Frozen n w0 Z0 st st1 a w nm u→Fits st σF objs→R (Zc w0 Z0 nm st1.objs w) (nmT nm σF) objs
theorem bindA_ok {σ σ':Ren} {s:SA} {x:At} {d:densU s.tys} {u:Upd} (hb:bindA (look st.objs) σ s x=some (d,u,σ')) :
 Bound n w0 Z0 st a w nm σ σ' u fun Z nm' objs=>∀v,rdA w Z nm st.objs x v→rdA w Z nm' objs (s.inj d) v:=by
 unfold bindA at hb
 split at hb
 ·
  rename_i t x
  split at hb
  ·rename_i d1 u1 h1
   simp only [z6,zm] at hb
   obtain ⟨rfl,rfl,rfl⟩:=hb
   exact ⟨(Hn (n:=n) (w0:=w0) (w:=w) (Z0:=Z0) (a:=a) (nm:=nm) (v:=undef) h1).1,Ext.refl _,id,fun σF st1 objs _ hf _ v hv=>(Hn h1).2 st1 hf.fz hf.rel hf.cold hv⟩
  ·cases hb
 ·simp only [z6,zm] at hb
  obtain ⟨rfl,rfl,rfl⟩:=hb
  exact ⟨FzUpd.nil,Ext.refl _,id,fun σF st1 objs _ _ _ v hv=>hv⟩
 ·
  rename_i j v0 id ver
  split at hb
  ·rename_i v' fz e t xs hob
   cases hc:(Nat.beq v' ver&&Nat.beq v0 0) with
   | false=>rw [hc] at hb;cases hb
   | true=>
     rw [hc] at hb
     rw [z7] at hc
     have:=beqN.1 hc.1
     subst this
     obtain ⟨rfl,rfl,q1,q2,q3⟩:=Va hb
     refine ⟨FzUpd.nil,q1,q3,fun σF st1 objs hx _ _ v hv=>⟨hv.1,fun _ _ _ _ _=>?_⟩⟩
     rw [Yj (hx _ _ q2)]
     exact hv.2 fz e t xs hob
  ·cases hb
 ·
  rename_i j v0 id ver lo m
  split at hb
  ·rename_i v' fz e t xs hob
   cases hc:(Nat.beq v' ver&&Nat.beq v0 0) with
   | false=>rw [hc] at hb;cases hb
   | true=>
     rw [hc] at hb
     rw [z7] at hc
     have:=beqN.1 hc.1
     subst this
     obtain ⟨rfl,rfl,q1,q2,q3⟩:=Va hb
     refine ⟨FzUpd.nil,q1,q3,fun σF st1 objs hx _ hF v hv=>⟨hv.1,fun fz1 e1 t1 xs1 hl=>?_⟩⟩
     obtain ⟨v2,xs2,h2,h3⟩:=hF j id _ _ _ _ _ (hx _ _ q2) hl
     rw [Yj (hx _ _ q2)]
     rw [hob] at h2
     cases h2
     rw [←h3]
     exact hv.2 false _ _ _ hob
  ·cases hb
 ·
  rename_i j v0 id ver
  split at hb
  ·rename_i v' fz e t xs hob
   cases hc:(Nat.beq v' ver&&Nat.beq v0 0 && !t.isMap) with
   | false=>rw [hc] at hb;cases hb
   | true=>
     rw [hc] at hb
     rw [z7,z7,zx] at hc
     obtain ⟨hc,hmap⟩:=hc
     have:=beqN.1 hc.1
     subst this
     obtain ⟨rfl,rfl,q1,q2,q3⟩:=Va hb
     refine ⟨FzUpd.nil,q1,q3,fun σF st1 objs hx hf hF v hv=>⟨hv.1,fun fz1 e1 t1 xs1 hl=>?_⟩⟩
     obtain ⟨v2,xs2,h2,hlen⟩:=hF j id _ _ _ _ _ (hx _ _ q2) hl
     rw [Yj (hx _ _ q2)]
     have hob1:∃fz2,look st1.objs id=some (.arr v' fz2 e t xs):=by
      rcases hf.fz.objs id with q | ⟨v3,fz3,e3,t3,xs3,y1,y2⟩
      ·exact ⟨fz,q.trans hob⟩
      ·rw [hob] at y1;cases y1;exact ⟨true,y2⟩
     obtain ⟨fz2,hob1⟩:=hob1
     have hvn:=hv.2 fz e t xs hob
     rw [hvn]
     rw [hob] at h2
     cases h2
     obtain ⟨cells,p1,p2⟩:=(hf.rel.objs id _ hob1).sl hmap
     rw [←hlen]
     refine ⟨?_,by
      unfold inWin
      simp only [z7,zi,Nat.ble_eq]
      show ((0:Int)≤0∧(0:Int)≤(xs.length:Int))∧(0:Int).toNat+(xs.length:Int).toNat≤_
      omega⟩
     rcases p1.2 with ⟨e2,z2⟩ | ⟨g,cap,cur,e2,_,z3,z4,_⟩
     ·exact .inl ⟨e2,e2,by show (xs.length:Int)=0;omega⟩
     ·refine .inr ⟨g,_,cap,0,cap,e2,e2,fun _=>by show 0=(0:Int).toNat*_;simp,by show (xs.length:Int).toNat≤cap;omega,z4⟩
  ·cases hb
 ·
  rename_i j o0 id o1
  split at hb
  ·rename_i cs hob
   cases hc:Nat.beq o0 o1 with
   | false=>rw [hc] at hb;cases hb
   | true=>
     rw [hc] at hb
     have:=beqN.1 hc
     subst this
     obtain ⟨rfl,rfl,q1,q2,q3⟩:=Va hb
     refine ⟨FzUpd.nil,q1,q3,fun σF st1 objs hx _ _ v hv=>⟨hv.1,fun _ _=>?_⟩⟩
     rw [Yj (hx _ _ q2)]
     exact hv.2 cs hob
  ·cases hb
 ·rename_i f g
  cases hc:Nat.beq f g with
  | false=>rw [hc] at hb;cases hb
  | true=>
    rw [hc] at hb
    have:=beqN.1 hc
    subst this
    simp only [ze,z6,zm] at hb
    obtain ⟨rfl,rfl,rfl⟩:=hb
    exact ⟨FzUpd.nil,Ext.refl _,id,fun σF st1 objs _ _ _ v hv=>hv⟩
 ·rename_i j id
  split at hb
  ·rename_i f p q hob
   obtain ⟨rfl,rfl,q1,q2,q3⟩:=Va hb
   refine ⟨FzUpd.nil,q1,q3,fun σF st1 objs hx _ _ v hv=>⟨hv.1,fun _ _ _ _=>?_⟩⟩
   rw [Yj (hx _ _ q2)]
   exact hv.2 f p q hob
  ·cases hb
 ·rename_i t s d1
  split at hb
  ·rename_i hs
   subst hs
   simp only [z6,zm] at hb
   obtain ⟨rfl,rfl,rfl⟩:=hb
   exact ⟨FzUpd.nil,Ext.refl _,id,fun σF st1 objs _ _ _ v hv=>hv⟩
  ·cases hb
 ·
  rename_i j v0 id ver
  split at hb
  ·rename_i v' fz e t xs hob
   cases hc:(Nat.beq v' ver&&Nat.beq v0 0) with
   | false=>rw [hc] at hb;cases hb
   | true=>
     rw [hc] at hb
     rw [z7] at hc
     have:=beqN.1 hc.1
     subst this
     obtain ⟨rfl,rfl,q1,q2,q3⟩:=Va hb
     refine ⟨FzUpd.nil,q1,q3,fun σF st1 objs hx _ _ v hv=>⟨hv.1,fun _ _ _ _ _=>?_⟩⟩
     rw [Yj (hx _ _ q2)]
     exact hv.2 fz e t xs hob
  ·cases hb
 ·
  rename_i j T id T'
  split at hb
  ·rename_i cs hob
   cases hc:Nat.beq T T' with
   | false=>rw [hc] at hb;cases hb
   | true=>
     rw [hc] at hb
     obtain ⟨rfl,rfl,q1,q2,q3⟩:=Va hb
     refine ⟨FzUpd.nil,q1,q3,fun σF st1 objs hx _ _ v hv=>⟨hv.1,fun _ _=>?_⟩⟩
     rw [Yj (hx _ _ q2)]
     exact hv.2 cs hob
  ·cases hb
 ·
  rename_i j v0 id ver i1 sz o1
  split at hb
  ·rename_i v' fz e t xs hob
   cases hc:(Nat.beq v' ver&&Nat.beq v0 0&&(decide (i1=0)&&Nat.beq o1 0)) with
   | false=>rw [hc] at hb;cases hb
   | true=>
     rw [hc] at hb
     simp only [z7,zi] at hc
     obtain ⟨⟨c1,c2⟩,c3,c4⟩:=hc
     have:=beqN.1 c1
     subst this
     have:=beqN.1 c4
     subst this
     subst c3
     obtain ⟨rfl,rfl,q1,q2,q3⟩:=Va hb
     refine ⟨FzUpd.nil,q1,q3,fun σF st1 objs hx _ _ v hv=>⟨hv.1,fun _ _ _ _ _=>?_⟩⟩
     rw [Yj (hx _ _ q2)]
     obtain ⟨r1,_,_,b,n1,c1',p1,p2⟩:=hv.2 fz e t xs hob
     exact ⟨b,n1,c1',p1,by rw [p2];simp⟩
  ·cases hb
 ·simp only [z6,zm] at hb
  obtain ⟨rfl,rfl,rfl⟩:=hb
  exact ⟨FzUpd.nil,Ext.refl _,id,fun σF st1 objs _ _ _ v hv=>rdA_one hv (fun _ _ h=>by cases h) (fun _ _ _ h=>by cases h)⟩
 ·simp only [z6,zm] at hb
  obtain ⟨rfl,rfl,rfl⟩:=hb
  exact ⟨FzUpd.nil,Ext.refl _,id,fun σF st1 objs _ _ _ v hv=>hv.1⟩
 ·simp only [z6,zm] at hb
  obtain ⟨rfl,rfl,rfl⟩:=hb
  exact ⟨FzUpd.nil,Ext.refl _,id,fun σF st1 objs _ _ _ v hv=>hv⟩
 ·cases hb
theorem Bound.both {σ σ1 σ2:Ren} {u v:Upd} {R1 R2 R:(Nat→Prop)→Names→List (Nat×Ob)→Prop} (h1:Bound n w0 Z0 st a w nm σ σ1 u R1) (h2:Bound n w0 Z0 st a w nm σ1 σ2 v R2)
 (hR:∀Z nm' objs,R1 Z nm' objs→R2 Z nm' objs→R Z nm' objs):Bound n w0 Z0 st a w nm σ σ2 (u++v) R:=
 ⟨h1.fz.append h2.fz,h1.ext.trans h2.ext,fun hi=>h2.inj (h1.inj hi),fun σF st1 objs hx hf hF=>hR _ _ _ (h1.rd σF st1 objs (h2.ext.trans hx) hf.left hF) (h2.rd σF st1 objs hx hf.right hF)⟩
theorem rdAs_cons {Z:Nat→Prop} {objs:List (Nat×Ob)} {x:At} {cs:List At} {vs:List Value} (h:rdAs w Z nm objs (x::cs) vs):∃v r,vs=v::r∧rdA w Z nm objs x v∧rdAs w Z nm objs cs r:=by
 match vs,h with
 | [],h=>exact absurd h.1 (by simp)
 | v::r,h=>exact ⟨v,r,rfl,h.2 0 x v rfl rfl,by simpa using h.1,fun i y u q1 q2=>h.2 (i+1) y u (by simpa using q1) (by simpa using q2)⟩
theorem UG:∀{s:List SA} {σ σ':Ren} {cs:List At} {d:densU (SL.tys s)} {u:Upd},bindL (look st.objs) σ s cs=some (d,u,σ') →
 Bound n w0 Z0 st a w nm σ σ' u fun Z nm' objs=>∀vs,rdAs w Z nm st.objs cs vs→rdAs w Z nm' objs (SL.inj s d) vs
 | [],σ,σ',[],d,u,hb=>by
   simp only [bindL,z6,zm] at hb
   obtain ⟨rfl,rfl,rfl⟩:=hb
   exact ⟨FzUpd.nil,Ext.refl _,id,fun σF st1 objs _ _ _ vs hv=>⟨hv.1,fun i x v q _=>by simp [SL.inj_nil] at q⟩⟩
 | [],_,_,_::_,_,_,hb=>by simp [bindL] at hb
 | _::_,_,_,[],_,_,hb=>by simp [bindL] at hb
 | s::r,σ,σ',x::cs,d,u,hb=>by
   simp only [bindL] at hb
   split at hb
   ·rename_i y u1 σ1 h1
    split at hb
    ·rename_i z u2 σ2 h2
     simp only [z6,zm] at hb
     obtain ⟨rfl,rfl,rfl⟩:=hb
     refine (bindA_ok (n:=n) (w0:=w0) (w:=w) (Z0:=Z0) (a:=a) (nm:=nm) h1).both (UG h2) (fun Z nm' objs r1 r2 vs hv=>?_)
     obtain ⟨v,vr,rfl,v1,v2⟩:=rdAs_cons hv
     show rdAs w Z nm' objs (s.inj (fstU _ _ _)::SL.inj r (sndU _ _ _)) _
     rw [Vd,Ve]
     exact Yc (c1:=[s.inj y]) (v1:=[v]) (JU (r1 v v1)) (r2 vr v2)
    ·cases hb
   ·cases hb
theorem bindA_self {ob:Objs} {σ σ':Ren} {s:SA} {x:At} {d:densU s.tys} {u:Upd} (hb:bindA ob σ s x=some (d,u,σ')) {j:Nat} {T:TypeId} (hs:s.inj d=At.selfp j T):∃i,look σ' j=some i∧x=At.selfp i T:=by
 cases s with
 | selfp j' T'=>
   have e:At.selfp j' T'=At.selfp j T:=hs
   cases e
   unfold bindA at hb
   cases x<;>first | (cases hb;done) | skip
   rename_i id T'
   simp only at hb
   split at hb
   ·cases hc:Nat.beq T T' with
    | false=>rw [hc] at hb;cases hb
    | true=>
      rw [hc] at hb
      obtain ⟨_,_,_,q2,_⟩:=Va hb
      exact ⟨id,q2,by rw [beqN.1 hc]⟩
   ·cases hb
 | _=>cases hs
theorem cond_some {α:Type} {b:Bool} {x:Option α} {y:α} (h:(bif b then x else none)=some y):x=some y:=by
 cases b with
 | false=>cases h
 | true=>exact h
theorem bindA_more {ob:Objs} {σ σ':Ren} {s:SA} {x:At} {d:densU s.tys} {u:Upd} (hb:bindA ob σ s x=some (d,u,σ')):Ext σ σ':=by
 unfold bindA at hb
 repeat' (split at hb)
 all_goals first
  | (cases hb;done)
  | (simp only [z6,zm] at hb;obtain ⟨_,_,rfl⟩:=hb;exact Ext.refl _)
  | exact (Va hb).2.2.1
  | exact (Va (cond_some hb)).2.2.1
  | (have hb:=cond_some hb;simp only [z6,zm] at hb;obtain ⟨_,_,rfl⟩:=hb;exact Ext.refl _)
theorem bindL_self {ob:Objs}:∀{s:List SA} {σ σ':Ren} {cs:List At} {d:densU (SL.tys s)} {u:Upd},bindL ob σ s cs=some (d,u,σ') →
 Ext σ σ' ∧ ∀{j:Nat} {T:TypeId},At.selfp j T∈SL.inj s d → ∃i,look σ' j=some i∧At.selfp i T∈cs:=by
 intro s
 induction s with
 | nil=>
   intro σ σ' cs d u hb
   cases cs with
   | nil=>
     simp only [bindL,z6,zm] at hb
     obtain ⟨_,_,rfl⟩:=hb
     exact ⟨Ext.refl _,fun h=>by cases h⟩
   | cons x cs=>simp [bindL] at hb
 | cons s r ih=>
   intro σ σ' cs d u hb
   cases cs with
   | nil=>simp [bindL] at hb
   | cons x cs=>
     simp only [bindL] at hb
     split at hb
     ·rename_i y u1 σ1 h1
      split at hb
      ·rename_i z u2 σ2 h2
       simp only [z6,zm] at hb
       obtain ⟨rfl,rfl,rfl⟩:=hb
       obtain ⟨e2,k2⟩:=ih h2
       refine ⟨(bindA_more h1).trans e2,fun {j T} h=>?_⟩
       have he:SL.inj (s::r) (appU s.tys (SL.tys r) y z)=s.inj y::SL.inj r z:=by
        show s.inj (fstU _ _ _)::SL.inj r (sndU _ _ _)=_
        rw [Vd,Ve]
       rw [he] at h
       rcases zz.1 h with h | h
       ·obtain ⟨i,i1,i2⟩:=bindA_self h1 h.symm
        exact ⟨i,e2 _ _ i1,by rw [i2];exact List.mem_cons_self ..⟩
       ·obtain ⟨i,i1,i2⟩:=k2 h
        exact ⟨i,i1,zv _ i2⟩
      ·cases hb
     ·cases hb
theorem bindD_ok {σ σ':Ren} {s:SD} {x:Dv} {d:densU s.tys} {u:Upd} (hb:bindD (look st.objs) σ s x=some (d,u,σ')) :
 Bound n w0 Z0 st a w nm σ σ' u fun Z nm' objs=>∀v,rdD w Z nm st.objs x v→rdD w Z nm' objs (s.inj d) v:=by
 cases s with
 | one sa=>
   change (match oneAt x with
    | some y=>bindA (look st.objs) σ sa y
    | none=>bindV (look st.objs) σ sa x)=_ at hb
   cases hx:oneAt x with
   | some y=>
     rw [hx] at hb
     have:x=.one y:=by cases x<;>simp [oneAt] at hx;rw [hx]
     subst this
     exact bindA_ok hb
   | none=>
     rw [hx] at hb
     cases sa with
     | val t=>
       obtain ⟨⟨y,u1⟩,hq,hb⟩:=Option.map_eq_some_iff.mp (show (dvV (look st.objs) t x).map (fun p=>(((p.1,()):densU (SD.one (SA.val t)).tys),p.2,σ))=some (d,u,σ') from hb)
       have e1:(y,())=d:=congrArg Prod.fst hb
       have e2:u1=u:=congrArg (fun p=>p.2.1) hb
       have e3:σ=σ':=congrArg (fun p=>p.2.2) hb
       subst e1;subst e2;subst e3
       obtain ⟨f,g⟩:=Vh (n:=n) (w0:=w0) (w:=w) (Z0:=Z0) (a:=a) (nm:=nm) hq
       exact ⟨f,Ext.refl _,id,fun σF st1 objs _ hf _ v hv=>g st1 hf v hv⟩
     | _=>cases hb
 | agg ss=>
   cases x with
   | agg cs=>
     obtain ⟨f,q1,q2,q3⟩:=UG (n:=n) (w0:=w0) (w:=w) (Z0:=Z0) (a:=a) (nm:=nm) hb
     exact ⟨f,q1,q2,fun σF st1 objs hx hf hF v ⟨vs,e,h1,h2⟩=>⟨vs,e,q3 σF st1 objs hx hf hF _ h1,h2⟩⟩
   | one y=>
     cases y with
     | val t y=>
       cases t with
       | st t=>
         cases hfl:t.flat with
         | false=>change (bif t.flat then _ else none)=_ at hb;rw [hfl] at hb;cases hb
         | true=>
         change (bif t.flat then _ else none)=_ at hb
         rw [hfl] at hb
         obtain ⟨f,q1,q2,q3⟩:=UG (n:=n) (w0:=w0) (w:=w) (Z0:=Z0) (a:=a) (nm:=nm) hb
         exact ⟨f,q1,q2,fun σF st1 objs hx hf hF v ⟨cs,e,h1⟩=>⟨cs,e,q3 σF st1 objs hx hf hF _ (UP t hfl h1),Yw t h1⟩⟩
       | _=>cases hb
     | _=>cases hb
   | tup cs=>cases hb
 | tup ss=>cases x<;>cases hb
theorem bindS_ok:∀{s:List (Nat×SD)} {σ σ':Ren} {ds:List Dv} {d:densU (SS.tys s)} {u:Upd},bindS (look st.objs) σ s ds=some (d,u,σ') →
 ds.length=s.length∧Bound n w0 Z0 st a w nm σ σ' u fun Z nm' objs=>∀vs:List Value,vs.length=ds.length→(∀(i:Nat) x v,ds[i]?=some x→vs[i]?=some v→rdD w Z nm st.objs x v) →
  ∀(i:Nat) p v,(SS.inj s d)[i]?=some p→vs[i]?=some v→rdD w Z nm' objs p.2 v
 | [],σ,σ',[],d,u,hb=>by
   simp only [bindS,z6,zm] at hb
   obtain ⟨rfl,rfl,rfl⟩:=hb
   exact ⟨rfl,FzUpd.nil,Ext.refl _,id,fun σF st1 objs _ _ _ vs _ _ i p v q _=>by simp [SS.inj_nil] at q⟩
 | [],_,_,_::_,_,_,hb=>by simp [bindS] at hb
 | _::_,_,_,[],_,_,hb=>by simp [bindS] at hb
 | p0::r,σ,σ',x::ds,d,u,hb=>by
   simp only [bindS] at hb
   split at hb
   ·rename_i y u1 σ1 h1
    split at hb
    ·rename_i z u2 σ2 h2
     simp only [z6,zm] at hb
     obtain ⟨rfl,rfl,rfl⟩:=hb
     obtain ⟨l2,b2⟩:=bindS_ok h2
     refine ⟨by simp [l2],(bindD_ok (n:=n) (w0:=w0) (w:=w) (Z0:=Z0) (a:=a) (nm:=nm) h1).both b2 (fun Z nm' objs r1 r2 vs hl hv i p v q1 q2=>?_)⟩
     match vs,hl with
     | v0::vs,hl=>
       cases i with
       | zero=>
         simp only [SS.inj_cons,List.getElem?_cons_zero,z6] at q1 q2
         subst q1;subst q2
         show rdD w Z nm' objs (p0.2.inj (fstU _ _ _)) v0
         rw [Vd]
         exact r1 v0 (hv 0 x v0 rfl rfl)
       | succ i=>
         simp only [SS.inj_cons,List.getElem?_cons_succ] at q1 q2
         rw [Ve] at q1
         exact r2 vs (by simpa using hl) (fun i x v q3 q4=>hv (i+1) x v (by simpa using q3) (by simpa using q4)) i p v q1 q2
    ·cases hb
   ·cases hb
theorem bindO_ok {σ σ':Ren} {i:Nat} {s:SO} {d:densU s.tys} {u:Upd} (hb:bindO (look st.objs) σ i s=some (d,u,σ')) :
 (∃ob,look st.objs i=some ob∧(s.inj d ≠ .gone→ob.mine=true)∧(s.inj d ≠ .gone→(s.inj d).mine=true)∧(∀v fz e t xs,s.inj d=.arr v fz e t xs→v=0 ∧ ∃v',ob=.arr v' false e t xs)∧(∀cs,s.inj d=.box cs → ∃cs',ob=.box cs')∧(∀f x y,s.inj d=.clo f x y → ∃x' y',ob=.clo f x' y')) ∧
 Bound n w0 Z0 st a w nm σ σ' u fun Z nm' objs=>∀j ob,look σ' j=some i→nm' j=nm i→look st.objs i=some ob→rdO w Z nm st.objs i ob→rdO w Z nm' objs j (s.inj d):=by
 cases s with
 | box ss=>
   simp only [bindO] at hb
   obtain ⟨ob1,hob⟩:∃o,look st.objs i=o:=⟨_,rfl⟩
   rw [hob] at hb
   cases ob1 with
   | none=>cases hb
   | some ob1=>
   cases ob1 with
   | gone=>cases hb
   | arr=>cases hb
   | clo=>cases hb
   | box cs=>
     simp only at hb
     obtain ⟨f,q1,q2,q3⟩:=UG (n:=n) (w0:=w0) (w:=w) (Z0:=Z0) (a:=a) (nm:=nm) hb
     refine ⟨⟨_,hob,fun _=>rfl,fun _=>rfl,fun _ _ _ _ _ h=>(by cases h),fun _ _=>⟨cs,rfl⟩,fun _ _ _ h=>(by cases h)⟩,f,q1,q2,fun σF st1 objs hx hf hF j ob hj hn ho hr=>?_⟩
     rw [hob] at ho
     cases ho
     obtain ⟨b,vs,T,p1,p2,p3,p4⟩:=hr
     refine ⟨b,vs,T,hn.trans p1,p2,q3 σF st1 objs hx hf hF _ p3,p4.1,fun T' hT=>?_⟩
     obtain ⟨i',i1,i2⟩:=(bindL_self hb).2 hT
     rw [hj] at i1
     cases i1
     exact p4.2 T' i2
 | arr v0 fz0 e0 t0=>
   simp only [bindO] at hb
   obtain ⟨ob1,hob⟩:∃o,look st.objs i=o:=⟨_,rfl⟩
   rw [hob] at hb
   cases ob1 with
   | none=>cases hb
   | some ob1=>
   cases ob1 with
   | gone=>cases hb
   | box=>cases hb
   | clo=>cases hb
   | arr v' fz' e' t' xs=>
     cases fz' with
     | true=>cases hb
     | false=>
     simp only at hb
     split at hb
     ·rename_i ht
      subst ht
      cases hc:(Nat.beq v0 0 && !fz0&&Nat.beq e0 e') with
      | false=>rw [hc] at hb;cases hb
      | true=>
        rw [hc] at hb
        simp only [z7,zx] at hc
        obtain ⟨⟨c1,c2⟩,c3⟩:=hc
        have:=beqN.1 c1
        subst this
        have:=beqN.1 c3
        subst this
        subst c2
        simp only [ze,z6,zm] at hb
        obtain ⟨rfl,rfl,rfl⟩:=hb
        refine ⟨⟨_,hob,fun _=>rfl,fun _=>rfl,fun v fz e t xs' h=>?_,fun _ h=>(by cases h),fun _ _ _ h=>(by cases h)⟩,FzUpd.nil,Ext.refl _,id,fun σF st1 objs hx hf hF j ob _ hn ho hr=>?_⟩
        ·change Ob.arr 0 false e0 t' xs=_ at h
         cases h
         exact ⟨rfl,v',rfl⟩
        ·rw [hob] at ho
         cases ho
         have hr:rdArr _ _ (nm i) _ _ _:=hr
         rw [←hn] at hr
         exact hr
     ·cases hb
 | gone=>
   simp only [bindO] at hb
   split at hb
   ·rename_i hob
    simp only [z6,zm] at hb
    obtain ⟨rfl,rfl,rfl⟩:=hb
    exact ⟨⟨_,hob,fun h=>absurd rfl h,fun h=>absurd rfl h,fun _ _ _ _ _ h=>(by cases h),fun _ h=>(by cases h),fun _ _ _ h=>(by cases h)⟩,FzUpd.nil,Ext.refl _,id,fun σF st1 objs hx hf hF j ob _ hn ho hr=>trivial⟩
   ·rename_i hob
    simp only [z6,zm] at hb
    obtain ⟨rfl,rfl,rfl⟩:=hb
    exact ⟨⟨_,hob,fun h=>absurd rfl h,fun h=>absurd rfl h,fun _ _ _ _ _ h=>(by cases h),fun _ h=>(by cases h),fun _ _ _ h=>(by cases h)⟩,FzUpd.nil,Ext.refl _,id,fun σF st1 objs hx hf hF j ob _ hn ho hr=>trivial⟩
   ·cases hb
 | clo f0 sa sb=>
   simp only [bindO] at hb
   obtain ⟨ob1,hob⟩:∃o,look st.objs i=o:=⟨_,rfl⟩
   rw [hob] at hb
   cases ob1 with
   | none=>cases hb
   | some ob1=>
   cases ob1 with
   | gone=>cases hb
   | box=>cases hb
   | arr=>cases hb
   | clo g p q=>
     simp only at hb
     cases hc:Nat.beq f0 g with
     | false=>rw [hc] at hb;cases hb
     | true=>
       rw [hc] at hb
       have:=beqN.1 hc
       subst this
       simp only [ze] at hb
       split at hb
       ·rename_i x u1 σ1 h1
        split at hb
        ·rename_i y u2 σ2 h2
         simp only [z6,zm] at hb
         obtain ⟨rfl,rfl,rfl⟩:=hb
         refine ⟨⟨_,hob,fun _=>rfl,fun _=>rfl,fun _ _ _ _ _ h=>(by cases h),fun _ h=>(by cases h),fun f x y h=>?_⟩,(UG (n:=n) (w0:=w0) (w:=w) (Z0:=Z0) (a:=a) (nm:=nm) h1).both (UG h2) (fun Z nm' objs r1 r2 j ob _ hn ho hr=>?_)⟩
         ·cases h
          exact ⟨p,q,rfl⟩
         ·rw [hob] at ho
          cases ho
          obtain ⟨vx,vy,p1,p2,p3⟩:=hr
          refine ⟨vx,vy,hn.trans p1,?_,?_⟩
          ·have:=r1 _ p2
           rw [Vd];exact this
          ·have:=r2 _ p3
           rw [Ve];exact this
        ·cases hb
       ·cases hb
theorem bindP_ok:∀{s:List (Nat×SO)} {σ σ':Ren} {d:densU (SP.tys s)} {u:Upd},bindP (look st.objs) σ s=some (d,u,σ') →
 (∀j obT,look (SP.inj s d) j=some obT → ∃i ob,look σ' j=some i∧look st.objs i=some ob∧(obT ≠ .gone→ob.mine=true)∧(obT ≠ .gone→obT.mine=true)∧(∀v fz e t xs,obT=.arr v fz e t xs→v=0 ∧ ∃v',ob=.arr v' false e t xs)∧(∀cs,obT=.box cs → ∃cs',ob=.box cs')∧(∀f x y,obT=.clo f x y → ∃x' y',ob=.clo f x' y')) ∧
 Bound n w0 Z0 st a w nm σ σ' u fun Z nm' objs=>(∀j i,look σ' j=some i→nm' j=nm i)→(∀i ob,look st.objs i=some ob→rdO w Z nm st.objs i ob) → ∀j obT,look (SP.inj s d) j=some obT→rdO w Z nm' objs j obT
 | [],σ,σ',d,u,hb=>by
   simp only [bindP,z6,zm] at hb
   obtain ⟨rfl,rfl,rfl⟩:=hb
   exact ⟨fun j obT h=>by simp [SP.inj_nil,look] at h,FzUpd.nil,Ext.refl _,id,fun σF st1 objs _ _ _ _ _ j obT h=>by simp [SP.inj_nil,look] at h⟩
 | p0::r,σ,σ',d,u,hb=>by
   simp only [bindP] at hb
   split at hb
   ·rename_i i0 hi0
    split at hb
    ·rename_i x u1 σ1 h1
     split at hb
     ·rename_i y u2 σ2 h2
      simp only [z6,zm] at hb
      obtain ⟨rfl,rfl,rfl⟩:=hb
      obtain ⟨⟨ob0,m1,m2,m3⟩,b1⟩:=bindO_ok (n:=n) (w0:=w0) (w:=w) (Z0:=Z0) (a:=a) (nm:=nm) h1
      obtain ⟨m4,b2⟩:=bindP_ok h2
      have hinj:SP.inj (p0::r) (appU p0.2.tys (SP.tys r) x y)=(p0.1,p0.2.inj x)::SP.inj r y:=by
       show (p0.1,p0.2.inj (fstU _ _ _))::SP.inj r (sndU _ _ _)=_
       rw [Vd,Ve]
      rw [hinj]
      have hi1:look σ' p0.1=some i0:=b2.ext _ _ (b1.ext _ _ hi0)
      refine ⟨fun j obT h=>?_,b1.both b2 (fun Z nm' objs r1 r2 hn ho j obT h=>?_)⟩
      ·simp only [look] at h
       cases hb2:Nat.beq p0.1 j with
       | true=>
         rw [hb2] at h
         have:=beqN.1 hb2
         subst this
         simp only [ze,z6] at h
         subst h
         exact ⟨i0,ob0,hi1,m1,m2,m3⟩
       | false=>rw [hb2] at h;exact m4 j obT h
      ·simp only [look] at h
       cases hb2:Nat.beq p0.1 j with
       | true=>
         rw [hb2] at h
         have:=beqN.1 hb2
         subst this
         simp only [ze,z6] at h
         subst h
         exact r1 _ ob0 (b1.ext _ _ hi0) (hn _ _ hi1) m1 (ho _ _ m1)
       | false=>rw [hb2] at h;exact r2 hn ho j obT h
     ·cases hb
    ·cases hb
   ·cases hb
end
end Go.Ql
end

section
namespace Go.Ql
abbrev Bs.of (Z:Nat→Prop) (nm:Names) (objs:List (Nat×Ob)):Bs:={ z:=Z,m:=owned nm objs,nm:=nm }
structure Pre [GInv] (w:World) (Z:Nat→Prop) (nm:Names) (st:St) (vs:List Value):Prop where
 len:vs.length=st.slots.length
 slots:∀(i:Nat) p v,st.slots[i]?=some p→vs[i]?=some v→rdD w (Zc w (Bs.of Z nm st.objs) nm st.objs w) nm st.objs p.2 v
 objs:∀id ob,look st.objs id=some ob→rdO w (Zc w (Bs.of Z nm st.objs) nm st.objs w) nm st.objs id ob
 lt:∀id ob b,look st.objs id=some ob→blk (nm id)=some b→b<w.heap.size
 inj:∀id id' ob ob' b,look st.objs id=some ob→look st.objs id'=some ob'→blk (nm id)=some b→blk (nm id')=some b→id=id'
 zlt:∀b,Z b→b<w.heap.size
 mine:∀id ob,look st.objs id=some ob→ob.mine=true
 glob:GInv.ok w ∧ ∀b,owned nm st.objs b→GInv.n≤b
def rdAns (w:World) (Z:Nat→Prop) (nm:Names) (objs:List (Nat×Ob)):List (Nat×Dv)→Value→Prop
 | [p],v=>rdD w Z nm objs p.2 v
 | l,v=>∃vs,v=.tuple vs∧vs.toList.length=l.length ∧ ∀(i:Nat) p u,l[i]?=some p→vs.toList[i]?=some u→rdD w Z nm objs p.2 u
structure Post (w w':World) (B:Bs) (nm':Names) (st:St) (v:Value):Prop where
 same:SameBut B.m w w'
 res:rdAns w' (Zc w B nm' st.objs w') nm' st.objs st.slots v
 objs:∀id ob,look st.objs id=some ob→rdO w' (Zc w B nm' st.objs w') nm' st.objs id ob
 new:∀id ob b,look st.objs id=some ob→blk (nm' id)=some b→(w.heap.size≤b∨B.m b)∧b<w'.heap.size
 inj:∀id id' ob ob' b,look st.objs id=some ob→look st.objs id'=some ob'→blk (nm' id)=some b→blk (nm' id')=some b→id=id'
 given:∀id ob,gBox≤id→look st.objs id=some ob→held id ob→nm' id=B.nm id
 mine:∀id ob,look st.objs id=some ob→ob ≠ .gone→ob.mine=true
structure MOk [GInv] (P:Program) (f:FuncId) (mc:MCallee):Prop where
 fn : ∃ fn, P.funcs[f]? = some fn ∧ (fn.name == "runtime.NumGoroutine") = false ∧ fn.body.isNone = false
 calls:∀(w:World) (Z:Nat→Prop) (nm:Names) (vs:List Value) (x:densU mc.pre.tys) (y:densU mc.post.tys),Pre w Z nm (mc.pre.inj x) vs→mc.F x=some y →
  Calls P f vs.toArray w fun e w'=>∃v nm',e=.returned v∧Post w w' (Bs.of Z nm (mc.pre.inj x).objs) nm' (mc.post.inj y) v
theorem mok_diag [GInv] {P:Program} {f:FuncId} {fn:Nat} {pre post:Shape} {F:Nat→densU pre.tys→Option (densU post.tys)} (h:∀n,MOk P f ⟨fn,pre,post,F n⟩) (m:densU pre.tys→Nat):MOk P f ⟨fn,pre,post,fun x=>F (m x) x⟩:=
 ⟨(h 0).fn,fun w Z nm vs x y hp hy=>(h (m x)).calls w Z nm vs x y hp hy⟩
structure AltOk [GInv] (P:Program) (f:FuncId) (ma:MAlt):Prop where
 fn : ∃ fn, P.funcs[f]? = some fn ∧ (fn.name == "runtime.NumGoroutine") = false ∧ fn.body.isNone = false
 calls:∀(w:World) (Z:Nat→Prop) (nm:Names) (vs:List Value) (x:densU ma.pre.tys) (r:densU ma.post.tys⊕densU ma.post2.tys),Pre w Z nm (ma.pre.inj x) vs→ma.F x=some r →
  Calls P f vs.toArray w fun e w'=>∃v nm',match r with
   | .inl y=>e=.returned v∧Post w w' (Bs.of Z nm (ma.pre.inj x).objs) nm' (ma.post.inj y) v
   | .inr y=>e=(bif ma.pan then .panicked [{ v,recovered:=false }] else .returned v)∧Post w w' (Bs.of Z nm (ma.pre.inj x).objs) nm' (ma.post2.inj y) v
def HK [GInv] (P:Program) (l:List (Nat×MAlt)):Prop:=∀i ma,look l i=some ma→AltOk P ma.fn ma
def HL [GInv] (P:Program) (l:List (Nat×MCallee)):Prop:=∀i mc,look l i=some mc→MOk P mc.fn mc
section
variable [GInv] {P:Program} {G:Env} {n:Nat} {w0 w w':World} {Z0:Bs} {Z Z':Nat→Prop} {st st1:St} {a:Act} {nm:Names} {o:Oper} {dst:Nat} {ρ:Type} {r:ρ}
theorem noneOf_ok {u:Upd} {σ:Ren} (h:noneOf u σ=true) {j i:Nat} (hj:look σ j=some i):∀p∈u,p.1≠i:=by
 intro p hp
 have:=zu.1 h p hp
 simp only [zx] at this
 rintro rfl
 exact hasV_no this j hj
theorem bindAll_ok (h:Rel n w0 Z0 st a w nm) {σ σ':Ren} {sh:Shape} {ds:List Dv} {x:densU sh.tys} {u:Upd} (hb:Yh (look st.objs) σ sh ds=some (x,u,σ')) (hi:InjR σ) :
 FzUpd st u∧Ext σ σ'∧InjR σ'∧ds.length=sh.slots.length ∧ ∀st1,JE st u=some st1 →
  Rel n w0 Z0 st1 a w nm∧Fz st st1 ∧
  (∀j obT,look (sh.inj x).objs j=some obT → ∃i ob,look σ' j=some i∧look st1.objs i=some ob∧look st.objs i=some ob∧(obT ≠ .gone→ob.mine=true)∧(obT ≠ .gone→obT.mine=true) ∧
   (∀v fz e t xs,obT=.arr v fz e t xs→v=0 ∧ ∃v',ob=.arr v' false e t xs)∧(∀cs,obT=.box cs → ∃cs',ob=.box cs')∧(∀f x y,obT=.clo f x y → ∃x' y',ob=.clo f x' y')) ∧
  ∀(Zt:Nat→Prop),(∀b,Zc w0 Z0 nm st1.objs w b→Zt b) →
   (∀j obT,look (sh.inj x).objs j=some obT→rdO w Zt (nmT nm σ') (sh.inj x).objs j obT) ∧
   ∀vs:List Value,vs.length=ds.length→(∀(i:Nat) d v,ds[i]?=some d→vs[i]?=some v→rdD w (Zc w0 Z0 nm st.objs w) nm st.objs d v) →
    ∀(i:Nat) p v,(sh.inj x).slots[i]?=some p→vs[i]?=some v→rdD w Zt (nmT nm σ') (sh.inj x).objs p.2 v:=by
 unfold Yh at hb
 split at hb
 ·rename_i x1 u1 σ1 h1
  split at hb
  ·rename_i y1 u2 σ2 h2
   cases hc:noneOf (u1++u2) σ2 with
   | false=>rw [hc] at hb;cases hb
   | true=>
     rw [hc] at hb
     simp only [ze,z6,zm] at hb
     obtain ⟨rfl,rfl,rfl⟩:=hb
     obtain ⟨l1,b1⟩:=bindS_ok (n:=n) (w0:=w0) (w:=w) (Z0:=Z0) (a:=a) (nm:=nm) h1
     obtain ⟨m2,b2⟩:=bindP_ok (n:=n) (w0:=w0) (w:=w) (Z0:=Z0) (a:=a) (nm:=nm) h2
     have hobjs:(sh.inj (appU (SS.tys sh.slots) (SP.tys sh.objs) x1 y1)).objs=SP.inj sh.objs y1:=by
      show SP.inj sh.objs (sndU _ _ _)=_
      rw [Ve]
     have hslots:(sh.inj (appU (SS.tys sh.slots) (SP.tys sh.objs) x1 y1)).slots=SS.inj sh.slots x1:=by
      show SS.inj sh.slots (fstU _ _ _)=_
      rw [Vd]
     rw [hobjs,hslots]
     refine ⟨b1.fz.append b2.fz,b1.ext.trans b2.ext,b2.inj (b1.inj hi),l1,fun st1 hl=>?_⟩
     obtain ⟨hrel,hfz,hcold⟩:=Rel.freezes _ h (b1.fz.append b2.fz) hl
     have hfr:Frozen n w0 Z0 st st1 a w nm (u1++u2):=⟨hfz,hrel,hcold⟩
     have hk1:Kept w w (Zc w0 Z0 nm st.objs w) (Zc w0 Z0 nm st1.objs w):=fun b hb=>⟨hfz.zc hb,rfl⟩
     have hfit:Fits st σ' (SP.inj sh.objs y1):=by
      intro j i v fz e t xs hj ho
      obtain ⟨i',ob,q1,q2,_,_,q3,_⟩:=m2 j _ ho
      rw [hj] at q1
      cases q1
      obtain ⟨_,v',q4⟩:=q3 v fz e t xs rfl
      exact ⟨v',xs,q2.trans (by rw [q4]),rfl⟩
     refine ⟨hrel,hfz,fun j obT ho=>?_,fun Zt hZt=>?_⟩
     ·obtain ⟨i,ob,q1,q2,q3⟩:=m2 j obT ho
      exact ⟨i,ob,q1,(Ye _ hl (noneOf_ok hc q1)).trans q2,q2,q3⟩
     ·have hkt:Kept w w (Zc w0 Z0 nm st1.objs w) Zt:=fun b hb=>⟨hZt b hb,rfl⟩
      have r1:=b1.rd σ' st1 (SP.inj sh.objs y1) b2.ext hfr.left hfit
      have r2:=b2.rd σ' st1 (SP.inj sh.objs y1) (Ext.refl _) hfr.right hfit
      refine ⟨fun j obT ho=>?_,fun vs hl2 hv i p v q1 q2=>?_⟩
      ·have:=r2 (fun j i hj=>Yj hj) (fun i ob ho=>Yf hk1 rfl (fun _ _=>rfl) (ObOk.refl _ _ _) (h.objs i ob ho)) j obT ho
       exact Yf hkt rfl (fun _ _=>rfl) (ObOk.refl _ _ _) this
      ·have:=r1 vs hl2 (fun i x v q3 q4=>kI hk1 (DvOk.refl _ _ _) (hv i x v q3 q4)) i p v q1 q2
       exact kI hkt (DvOk.refl _ _ _) this
  ·cases hb
 ·cases hb
end
end Go.Ql
end
