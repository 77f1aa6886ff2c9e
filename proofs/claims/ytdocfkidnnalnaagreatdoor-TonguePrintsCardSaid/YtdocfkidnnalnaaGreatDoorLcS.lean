/- Part of the lifter: steps and blocks, for any program. -/
import Derived.Test.YtdocfkidnnalnaaGreatDoorLbS
import Derived.MapKept
import Derived.Lib.AppendStr
import Derived.Laws.AppendOwnNone
import Derived.Laws.Small
set_option linter.all false
section
namespace Go.Ql
section
variable [GInv] {P:Program} {G:Env} {n:Nat} {w0 w:World} {Z0:Bs} {st st1:St} {a:Act} {nm:JY} {o:Oper} {dst:Nat} {ρ:Type} {k:Eff→Option ρ} {r:ρ}
structure Frozen (n:Nat) (w0:World) (Z0:Bs) (st st1:St) (a:Act) (w:World) (nm:JY) (u:kY):Prop where
 fz:Fz st st1
 rel:Rel n w0 Z0 st1 a w nm
 cold:∀p∈u,Cold st1 p.1
def Frozen.left {u v:kY} (h:Frozen n w0 Z0 st st1 a w nm (u++v)):Frozen n w0 Z0 st st1 a w nm u:=⟨h.fz,h.rel,fun p hp=>h.cold p (List.mem_append_left _ hp)⟩
def Frozen.right {u v:kY} (h:Frozen n w0 Z0 st st1 a w nm (u++v)):Frozen n w0 Z0 st st1 a w nm v:=⟨h.fz,h.rel,fun p hp=>h.cold p (List.mem_append_right _ hp)⟩
def FzUpd.append {u v:kY} (h1:FzUpd st u) (h2:FzUpd st v):FzUpd st (u++v):=fun p hp=>(List.mem_append.1 hp).elim (h1 p) (h2 p)
def KM:∀(t:Ty) {cs rest:List At} {x:t.den} {u:kY},Nc (look st.sj) t cs=some (x,u,rest) →
 FzUpd st u ∧ ∃used,cs=used++rest ∧ ∀st1,Frozen n w0 Z0 st st1 a w nm u → ∀vs,Vx w (Zc w0 Z0 nm st1.sj w) nm st.sj used vs→kT w (Zc w0 Z0 nm st1.sj w) t vs x:=by
 intro t
 induction t with
 | st t ih=>intro cs rest x u h;exact ih h
 | unit=>
   intro cs rest x u h
   simp only [Nc,zd,zr] at h
   obtain ⟨_,rfl,rfl⟩:=h
   exact ⟨fun p hp=>(by cases hp),[],rfl,fun st1 _ vs hv=>zl hv.1⟩
 | pair p q ihp ihq=>
   intro cs rest x u h
   simp only [Nc] at h
   split at h
   ·rename_i x1 u1 r1 h1
    split at h
    ·rename_i y1 v1 r2 h2
     cases h
     obtain ⟨f1,used1,e1,g1⟩:=ihp h1
     obtain ⟨f2,used2,e2,g2⟩:=ihq h2
     refine ⟨f1.append f2,used1++used2,by rw [e1,e2,zq],fun st1 hf vs hv=>?_⟩
     have hl:vs.length=used1.length+used2.length:=by rw [hv.1,zf]
     have t1:=fL hv used1.length
     have t2:=i8 hv used1.length
     rw [List.take_left] at t1
     rw [List.drop_left] at t2
     exact ⟨vs.take used1.length,vs.drop used1.length,(List.take_append_drop _ _).symm,g1 st1 hf.left _ t1,g2 st1 hf.right _ t2⟩
    ·cases h
   ·cases h
 | ar m t ih=>intro cs rest x u h;simp [Nc] at h
 | node t ih=>
   intro cs rest x u h
   simp only [Nc] at h
   split at h
   ·rename_i x1 u1 c r1 h1
    split at h
    ·rename_i y1 v1 h2
     cases h
     obtain ⟨f1,used1,e1,g1⟩:=ih h1
     have k:=fun v=>gU (n:=n) (w0:=w0) (w:=w) (Z0:=Z0) (a:=a) (nm:=nm) (v:=v) h2
     refine ⟨f1.append (k undef).1,used1++[c],by rw [e1];simp,fun st1 hf vs hv=>?_⟩
     have hl:vs.length=used1.length+1:=by rw [hv.1,zf];rfl
     have t1:=fL hv used1.length
     have t2:=i8 hv used1.length
     rw [List.take_left] at t1
     rw [List.drop_left] at t2
     refine aE.2 ⟨vs.take used1.length,vs.drop used1.length,(List.take_append_drop _ _).symm,g1 st1 hf.left _ t1,?_⟩
     generalize vs.drop used1.length=l at t2
     match l,t2 with
     | [v],t2=>exact (k v).2 st1 hf.right.fz hf.right.rel hf.right.cold (t2.2 0 c v rfl rfl)
     | [],t2=>exact absurd t2.1 (by simp)
     | _::_::_,t2=>exact absurd t2.1 (by simp)
    ·cases h
   ·cases h
 | _=>
   intro cs rest x u h
   cases cs with
   | nil=>simp [Nc] at h
   | cons c cs=>
     simp only [Nc] at h
     split at h
     ·rename_i x1 u1 h1
      cases h
      refine ⟨(gU (n:=n) (w0:=w0) (w:=w) (Z0:=Z0) (a:=a) (nm:=nm) (v:=undef) h1).1,[c],rfl,fun st1 hf vs hv=>?_⟩
      match vs,hv with
      | [v],hv=>exact (gU (n:=n) (w0:=w0) (w:=w) (Z0:=Z0) (a:=a) (nm:=nm) (v:=v) h1).2 st1 hf.fz hf.rel hf.cold (hv.2 0 c v rfl rfl)
      | [],hv=>exact absurd hv.1 (by simp)
      | _::_::_,hv=>exact absurd hv.1 (by simp)
     ·cases h
def aI {d:Dv} {t:Ty} {x:t.den} {u:kY} (h:bE (look st.sj) t d=some (x,u)) :
 FzUpd st u ∧ ∀st1,Frozen n w0 Z0 st st1 a w nm u → ∀v,Vf w (Zc w0 Z0 nm st1.sj w) nm st.sj d v→Ux w (Zc w0 Z0 nm st1.sj w) t v x:=by
 cases d with
 | one c=>
   obtain ⟨f,g⟩:=gU (n:=n) (w0:=w0) (w:=w) (Z0:=Z0) (a:=a) (nm:=nm) (v:=undef) (show nQ (look st.sj) t c=some (x,u) from h)
   refine ⟨f,fun st1 hf v hv=>?_⟩
   exact (gU (n:=n) (w0:=w0) (w:=w) (Z0:=Z0) (a:=a) (nm:=nm) (show nQ (look st.sj) t c=some (x,u) from h)).2 st1 hf.fz hf.rel hf.cold hv
 | agg cs=>
   cases t with
   | st s=>
     simp only [bE] at h
     split at h
     ·rename_i x1 u1 h1
      cases h
      obtain ⟨f,used,e,g⟩:=KM (n:=n) (w0:=w0) (w:=w) (Z0:=Z0) (a:=a) (nm:=nm) s h1
      rw [List.append_nil] at e
      subst e
      exact ⟨f,fun st1 hf v ⟨vs,e,h1,_⟩=>⟨vs,e,g st1 hf _ h1⟩⟩
     ·cases h
   | _=>simp [bE] at h
 | tup cs=>simp [bE] at h
def Ng (w:World) (Z:Nat→Prop):(ts:List Ty)→YL ts→List Value→Prop
 | [],_,vs=>vs=[]
 | [t],x,vs=>∃v,vs=[v]∧Ux w Z t v x
 | t::t'::ts,x,vs=>∃v r,vs=v::r∧Ux w Z t v x.1∧Ng w Z (t'::ts) x.2 r
def uB:∀(ts:List Ty) {ds:List Dv} {x:YL ts} {u:kY},args (look st.sj) ts ds=some (x,u) →
 FzUpd st u ∧ ∀st1,Frozen n w0 Z0 st st1 a w nm u → ∀vs:List Value,vs.length=ds.length→(∀(i:Nat) d v,ds[i]?=some d→vs[i]?=some v→Vf w (Zc w0 Z0 nm st1.sj w) nm st.sj d v)→Ng w (Zc w0 Z0 nm st1.sj w) ts x vs
 | [],[],x,u,h=>by
   simp only [args,zd,zr] at h
   obtain ⟨_,rfl⟩:=h
   exact ⟨fun p hp=>(by cases hp),fun st1 _ vs hl _=>zl hl⟩
 | [t],[d],x,u,h=>by
   simp only [args] at h
   split at h
   ·rename_i x1 u1 h1
    cases h
    obtain ⟨f,g⟩:=aI (n:=n) (w0:=w0) (w:=w) (Z0:=Z0) (a:=a) (nm:=nm) h1
    refine ⟨f,fun st1 hf vs hl hr=>?_⟩
    match vs,hl with
    | [v],_=>exact ⟨v,rfl,g st1 hf v (hr 0 d v rfl rfl)⟩
   ·cases h
 | t::t'::ts,d::ds,x,u,h=>by
   simp only [args] at h
   split at h
   ·rename_i x1 u1 h1
    split at h
    ·rename_i y1 v1 h2
     cases h
     obtain ⟨f,g⟩:=aI (n:=n) (w0:=w0) (w:=w) (Z0:=Z0) (a:=a) (nm:=nm) h1
     obtain ⟨f2,g2⟩:=uB (t'::ts) h2
     refine ⟨f.append f2,fun st1 hf vs hl hr=>?_⟩
     match vs,hl with
     | v::vs,hl=>
       exact ⟨v,vs,rfl,g st1 hf.left v (hr 0 d v rfl rfl),g2 st1 hf.right vs (by simpa using hl) (fun i d v q1 q2=>hr (i+1) d v (by simpa using q1) (by simpa using q2))⟩
    ·cases h
   ·cases h
 | [],_::_,_,_,h=>by simp [args] at h
 | [_],[],_,_,h=>by simp [args] at h
 | [_],_::_::_,_,_,h=>by simp [args] at h
 | _::_::_,[],_,_,h=>by simp [args] at h
def Rel.newArrG (h:Rel n w0 Z0 st a w nm) {w':World} {ver:Nat} {e:TypeId} {t:Ty} {xs:List t.den} {nv:Value}
 (hver:Va (look st.sj) dst=some ver) (hmay:YZ st dst (.arr ver false e t xs)=true) (hs:Same w w')
 (hnv:∀b,kV nv=some b→w.heap.size≤b∧b<w'.heap.size) (hrd:rdArr w' (Zc w0 Z0 nm st.sj w) nv e t xs) :
 Rel n w0 Z0 ⟨st.mj,YE dst (.arr ver false e t xs) st.sj⟩ a w' (VG nm dst nv) ∧
  Vf w' (Zc w0 Z0 (VG nm dst nv) (YE dst (.arr ver false e t xs) st.sj) w') (VG nm dst nv) (YE dst (.arr ver false e t xs) st.sj) (.one (.own dst ver)) nv:=by
 have hst:eS nm dst nv (look st.sj dst) (.arr ver false e t xs):=by
  unfold Va at hver
  split at hver
  ·rename_i h1;rw [h1];trivial
  ·rename_i v fz e' t' xs' h1
   rw [h1]
   cases hver
   exact fun hh=>absurd hh (by omega)
  ·cases hver
 refine ⟨h.upd dst _ nv hmay hst ⟨hs.os,hs.tape,hs.output,hs.size⟩ (fun b hb=>.inr (hs.block b hb)) (fun b hb=>.inr (hnv b hb)) ?_,?_⟩
 ·show rdArr w' _ (VG nm dst nv dst) e t xs
  rw [kW]
  refine bU ?_ (fun _ _=>rfl) hrd
  rintro b ⟨z1,z2,z3⟩
  refine ⟨⟨Z2 z1 hs.size,z2,?_⟩,fun _ _ hu=>hu⟩
  rintro ⟨j,ob,y1,y2,y3⟩
  by_cases hj:dst=j
  ·subst hj
   rw [kW] at y3
   have:=hnv b y3
   omega
  ·rw [ke,if_neg hj] at y1
   rw [VU _ _ (Ne.symm hj)] at y3
   exact z3 ⟨j,ob,y1,y2,y3⟩
 ·refine ⟨?_,fun fz e t xs hl=>(kW _ _ _).symm⟩
  rcases hrd with ⟨_,cells,hown,_⟩ | ⟨_,_,_,_,b,_,_,e1,_⟩
  ·rcases hown.2 with ⟨e1,_⟩ | ⟨g,cap,cur,e1,_⟩<;>rw [e1]<;>rfl
  ·rw [e1];rfl
def Good.newArrG (h:Rel n w0 Z0 st a w nm) {w':World} {ver:Nat} {e:TypeId} {t:Ty} {xs:List t.den} {nv:Value}
 (hver:Va (look st.sj) dst=some ver) (hrun:(execOp a.eval o).run P w=.ok (.value nv) w') (hs:Same w w')
 (hnv:∀b,kV nv=some b→w.heap.size≤b∧b<w'.heap.size) (hrd:rdArr w' (Zc w0 Z0 nm st.sj w) nv e t xs) :
 Good P n w0 Z0 st a w o ⟨.one (.own dst ver),[(dst,.arr ver false e t xs)]⟩:=by
 intro st' hl
 obtain ⟨hmay,rfl⟩:=NY hl
 obtain ⟨q1,q2⟩:=h.newArrG hver hmay hs hnv hrd
 exact Does.of_run hrun ⟨_,q1,q2⟩
def Rel.newArr (h:Rel n w0 Z0 st a w nm) {w':World} {ver:Nat} {e:TypeId} {t:Ty} {xs:List t.den} {nv:Value} (hm:t.wj=false)
 (hver:Va (look st.sj) dst=some ver) (hmay:YZ st dst (.arr ver false e t xs)=true) (hs:Same w w')
 (hnv:∀b,kV nv=some b→w.heap.size≤b∧b<w'.heap.size) {cells:List Value} (hown:w'.ownsM e t.cells nv xs.length cells) (hrd:YF (kT w' (Zc w0 Z0 nm st.sj w) t) cells xs) :
 Rel n w0 Z0 ⟨st.mj,YE dst (.arr ver false e t xs) st.sj⟩ a w' (VG nm dst nv) ∧
  Vf w' (Zc w0 Z0 (VG nm dst nv) (YE dst (.arr ver false e t xs) st.sj) w') (VG nm dst nv) (YE dst (.arr ver false e t xs) st.sj) (.one (.own dst ver)) nv:=
 h.newArrG hver hmay hs hnv (.inl ⟨hm,cells,hown,hrd⟩)
def Good.newArr (h:Rel n w0 Z0 st a w nm) {w':World} {ver:Nat} {e:TypeId} {t:Ty} {xs:List t.den} {nv:Value} (hm:t.wj=false)
 (hver:Va (look st.sj) dst=some ver) (hrun:(execOp a.eval o).run P w=.ok (.value nv) w') (hs:Same w w')
 (hnv:∀b,kV nv=some b→w.heap.size≤b∧b<w'.heap.size) {cells:List Value} (hown:w'.ownsM e t.cells nv xs.length cells) (hrd:YF (kT w' (Zc w0 Z0 nm st.sj w) t) cells xs) :
 Good P n w0 Z0 st a w o ⟨.one (.own dst ver),[(dst,.arr ver false e t xs)]⟩:=
 Good.newArrG h hver hrun hs hnv (.inl ⟨hm,cells,hown,hrd⟩)
def CQ {x:Operand} (ho:o.op=.assign x):Uq P G o:=by
 intro hT n w0 w Z0 st a nm dst ρ k r h he
 unfold Jq at he
 rw [ho] at he
 simp only at he
 split at he
 ·rename_i hd
  cases hm:uL G x dst with
  | true=>
    rw [hm] at he
    exact ⟨_,he,Good.pure h (v:=a.eval x) (by simp [execOp,ho]) (Yd h hd)⟩
  | false=>
  rw [hm] at he
  simp only [zk] at he
  split at he
  ·rename_i t e b htab
   split at he
   ·rename_i ver hver
    have hv:=Yd h hd
    refine ⟨_,he,Good.newArr h (eO hT htab) hver (nv:=.slice none 0 0) (w':=w) (cells:=[]) ?_ (Same.refl w) (fun b hb=>by cases hb) ⟨by simp,.inl ⟨rfl,rfl⟩⟩ rfl⟩
    have hv:a.eval x=.slice none 0 0:=hv
    simp [execOp,ho,hv]
   ·cases he
  ·cases he
 ·rename_i d _ hd
  exact ⟨_,he,Good.pure h (v:=a.eval x) (by simp [execOp,ho]) (Yd h hd)⟩
 ·cases he
end
end Go.Ql
end

section
namespace Go.Ql
open Go.Lib
section
variable [GInv] {P:Program} {G:Env} {n:Nat} {w0 w:World} {Z0:Bs} {st:St} {a:Act} {nm:JY} {o:Oper} {dst:Nat} {ρ:Type} {k:Eff→Option ρ} {r:ρ}
def I7 {x:Operand} (ho:o.op=.move x):Uq P G o:=by
 intro hT n w0 w Z0 st a nm dst ρ k r h he
 unfold Jq at he
 rw [ho] at he
 simp only at he
 have hrun:(execOp a.eval o).run P w=.ok (.value (a.eval x)) w:=by simp [execOp,ho]
 split at he
 ·rename_i id ver hd
  cases hm:JK (xW dst) G.muts with
  | false=>
    rw [hm] at he
    simp only [zk] at he
    exact ⟨_,he,Good.pure h hrun (Yd h hd)⟩
  | true=>
    rw [hm] at he
    simp only [zj] at he
    split at he
    ·rename_i v fz e s xs hob
     cases hv:(Nat.beq v ver && !s.wj) with
     | false=>rw [hv] at he;cases he
     | true=>
       rw [hv] at he
       rw [ze,Z3] at hv
       obtain ⟨hv,hmap⟩:=hv
       have:=Jx.1 hv
       subst this
       simp only [zj] at he
       refine ⟨_,he,fun st' hl=>?_⟩
       obtain ⟨hmay,rfl⟩:=NY hl
       obtain ⟨hrel,_⟩:=h.freeze hob
       have hv1:a.eval x=nm id:=(Yd h hd).2 fz e s xs hob
       refine Does.of_run hrun ⟨nm,hrel,?_⟩
       rw [hv1]
       exact A8 hrel hmap (v:=v) (e:=e) (xs:=xs) (by show look (YE id _ st.sj) id=_;rw [ke,if_pos rfl])
    ·cases he
 ·rename_i d _ hd
  exact ⟨_,he,Good.pure h hrun (Yd h hd)⟩
 ·cases he
def AP {xt yt:TypeId} {x:Operand} (ho:o.op=.convert xt yt x):Uq P G o:=by
 intro hT n w0 w Z0 st a nm dst ρ k r h he
 unfold Jq at he
 rw [ho] at he
 simp only at he
 have hx:∀v v':Value,∀w':World,a.eval x=v→(convert xt yt v).run P w=.ok v' w'→(execOp a.eval o).run P w=.ok (.value v') w':=by
  intro v v' w' h1 h2
  simp [execOp,ho,h1,h2]
 split at he
 ·
  rename_i j1 k1 j2 k2 j3 m h1 h2 h3
  have u1:=uV hT h1 rfl
  have u2:=uV hT h2 rfl
  exact ⟨_,he,Good.pure h (v:=.int j2 (j2.wrap m)) (hx _ _ w (aJ h h3) (by simp [convert,run_underlying u1,run_underlying u2,Conv.intToInt])) (aX ..)⟩
 ·rename_i k1 k2 s h1 h2 h3
  have u1:=eP hT h1 rfl
  have u2:=eP hT h2 rfl
  exact ⟨_,he,Good.pure h (v:=.string ⟨s.toArray⟩) (hx _ _ w (gY h h3) (by simp [convert,run_underlying u1,run_underlying u2])) (tG ..)⟩
 ·
  rename_i e b1 k2 d h1 h2 h3
  split at he
  ·rename_i k3 h4
   obtain ⟨u1,_⟩:=aM hT h1
   have u2:=eP hT h2 rfl
   have u3:=uV hT h4 rfl
   have key:∀xs:List Int,BT w (Zc w0 Z0 nm st.sj w) (.int .u8) (a.eval x) xs→(execOp a.eval o).run P w=.ok (.value (.string ⟨(List.map (fun n=>UInt8.ofNat n.toNat) xs).toArray⟩)) w:=by
    intro xs hr
    rcases hr with ⟨e1,rfl⟩ | ⟨b,off,cap,cells,e1,e2,e3,e4,e5⟩ | ⟨ad,cap,e1,rfl,_⟩
    ·refine hx _ _ w e1 ?_
     rw [run_convert_bytes_string w xt yt e none 0 0 u1 u3 u2]
     rfl
    rotate_left
    ·refine hx _ _ w e1 ?_
     rw [run_convert_bytes_string w xt yt e _ _ _ u1 u3 u2]
     rw [run_bytesToString w _ 0 cap []]
     ·rfl
     ·exact run_loadCells_list (P:=P) (w:=w) ad [] (fun j v hj=>by simp at hj)
    ·have hc:=oX e4
     subst hc
     refine hx _ _ w e1 ?_
     rw [run_convert_bytes_string w xt yt e _ _ _ u1 u3 u2]
     rw [run_bytesToString w _ xs.length cap xs]
     ·rw [CZ]
     ·have:=run_loadCells_list (P:=P) (w:=w) ⟨b,off,none⟩ (xs.map (Value.int .u8)) (fun j v hj=>by rw [Addr.add_lit];exact e5 j v hj)
      rw [List.length_map] at this
      exact this
   split at he
   ·exact ⟨_,he,Good.pure h (key [] (.inl ⟨Yd h h3,rfl⟩)) (tG ..)⟩
   ·obtain ⟨t,xs,q1,q2⟩:=Nn h h3 he
    split at q1
    ·rename_i xs'
     exact ⟨_,q1,Good.pure h (key _ q2) (tG ..)⟩
    ·cases q1
  ·cases he
 ·cases he
end
end Go.Ql
end

section

end

section
namespace Go.Ql
structure GrownD (w w':World) (row:Option Nat):Prop where
 os:w'.os=w.os
 tape:w'.tape=w.tape
 output:w'.output=w.output
 size:w.heap.size≤w'.heap.size
 block:∀k,k<w.heap.size→some k≠row→w'.heap[k]?=w.heap[k]?
 drawn:w.drawn≤w'.drawn
section
variable [GInv] {P:Program} {G:Env} {n:Nat} {w0 w:World} {Z0:Bs} {st st1:St} {a:Act} {nm:JY} {o:Oper} {dst:Nat} {ρ:Type} {k:Eff→Option ρ} {r:ρ}
def uA (t ty e:TypeId) (i:TypeInfo) (z:Value) (size:Nat) (ht:P.underlying t=some (.slice e)) (hi:P.info? e=some i) (hz:i.zero=some z)
 (hsize:i.size=size) (hzs:z.cells.size=size) (hsz:0<size)
 (v:Value) (m:Nat) (xs:List Value) (hown:w.ownsM e size v m xs) (y:Value) (q:Nat) (news:List Value) (hl:news.length=q*size)
 (hy:(y=.slice none 0 0∧q=0) ∨ ∃ad c,y=.slice (some ad) q c ∧ ∀j u,news[j]?=some u→w.cell? (ad.add j)=some u) (h1:∀u∈news,u.oneCell'=true)
 (h63:m+q≤140737488355328) (hbytes:(m+q)*i.bytes≤140737488355328) :
 ∃v' w',(Builtin.append_ #[t,t] ty #[v,y]).run P w=.ok v' w'∧w'.ownsM e size v' (m+q) (xs++news)∧GrownD w w' (kV v) ∧
  ∀b,kV v'=some b→kV v=some b∨(w.heap.size≤b∧b<w'.heap.size):=by
 rcases hy with ⟨rfl,rfl⟩ | ⟨ad,c,rfl,hc⟩
 ·have hn:news=[]:=zl (by simpa using hl)
  subst hn
  exact ⟨v,w,run_append_none_own (P:=P) w t ty e i size ht hi v m xs hown,by simpa using hown,⟨rfl,rfl,rfl,zx _,fun _ _ _=>rfl,zx _⟩,fun b hb=>.inl hb⟩
 ·subst hsize
  have hmax:m+q≤maxLen:=by simp only [maxLen];omega
  have hlen:(xs++news).length=(m+q)*i.size:=by rw [zf,hown.1,hl,Nat.add_mul]
  have grown:∀(old:Nat) (row:Option Nat),
   (w.drew.alloc (.cells (xs.toArray++news.toArray++Builtin.zeroCells z.cells (grownCap w (m+q) old e-(m+q))) e)).ownsM e i.size
    (.slice (some ⟨w.heap.size,0,none⟩) (m+q) (grownCap w (m+q) old e)) (m+q) (xs++news) ∧
   GrownD w (w.drew.alloc (.cells (xs.toArray++news.toArray++Builtin.zeroCells z.cells (grownCap w (m+q) old e-(m+q))) e)) row:=by
   intro old row
   have hge:=grownCap_ge w (m+q) old e
   have hcm:grownCap w (m+q) old e≤maxLen:=grownCap_le_maxLen w (m+q) old e hmax
   refine ⟨⟨hlen,.inr ⟨w.heap.size,_,_,rfl,.of (heap_alloc_new w.drew _),hge,hcm,?_,?_⟩⟩,⟨rfl,rfl,rfl,by simp,fun k hk _=>heap_alloc_old w.drew _ k hk,Nat.le_succ _⟩⟩
   ·simp only [Array.size_append,List.size_toArray,size_zeroCells,hzs,hown.1,hl,←Nat.add_mul]
    congr 1
    omega
   ·simp only [Array.toList_append,zq]
    rw [←zq,←hlen]
    exact List.take_left
  have hnew:∀(old:Nat) (c:Obj) (b:Nat),kV (.slice (some ⟨w.heap.size,0,none⟩) (m+q) (grownCap w (m+q) old e))=some b→w.heap.size≤b∧b<(w.drew.alloc c).heap.size:=by
   intro old c b hb
   simp only [kV,zd] at hb
   subst hb
   exact ⟨zx _,by simp⟩
  rcases hown.2 with ⟨rfl,rfl⟩ | ⟨g,cap,cur,rfl,hg,hnc,hcm,hcs,htake⟩
  ·have hx:xs=[]:=zl (by simpa using hown.1)
   subst hx
   by_cases hq:q=0
   ·subst hq
    have hn:news=[]:=zl (by simpa using hl)
    subst hn
    refine ⟨.slice none 0 0,w,?_,v7 w e i.size,⟨rfl,rfl,rfl,zx _,fun _ _ _=>rfl,zx _⟩,fun b hb=>.inl hb⟩
    simp [Builtin.append_,run_underlying ht,sizeOf,typeInfo,hi,Builtin.lenOf,Builtin.firstCells,loadCells,loadCellsFrom]
   ·have hr:=run_append_nil (P:=P) w t ty e i z ht hi hz ad q c news hl hc (by omega) (by omega) (by have hb:=hbytes;simp only [zv] at hb;omega)
    have hgr:=grown 0 (kV (.slice none 0 0))
    have hnw:=hnew 0
    simp only [zv,List.nil_append,Array.empty_append] at hgr hnw ⊢
    exact ⟨_,_,hr,hgr.1,hgr.2,fun b hb=>.inr (hnw _ b hb)⟩
  ·by_cases hroom:m+q≤cap
   ·have hfit:m*i.size+news.length≤cur.size:=by rw [hl,hcs,←Nat.add_mul];exact Nat.mul_le_mul_right _ hroom
    have hr:=run_append_room_own (P:=P) w t ty e i ht hi g m cap cur hg ad q c news hl hc h1 hroom hfit
    have hsame:(cur.toList.take (m*i.size)++news++cur.toList.drop (m*i.size+news.length)).toArray.size=cur.size:=by
     simp only [List.size_toArray,zf,List.length_take,zu,Array.length_toList]
     omega
    refine ⟨_,_,hr,⟨hlen,.inr ⟨g,cap,_,rfl,hg.set hsame,hroom,hcm,?_,?_⟩⟩,⟨rfl,rfl,rfl,by simp,fun k _ hk=>setRow_other w g k _ (fun e=>hk (by simp [kV,e])),by first | exact zx _ | exact Nat.le_succ _⟩,fun b hb=>.inl hb⟩
    ·rw [hsame,hcs]
    ·rw [htake,←hlen]
     exact List.take_left
   ·have holds:=qY hown
    have hr:=run_append_grow (P:=P) w t ty e i z ht hi hz ⟨g,0,none⟩ m cap xs hown.1 holds ad q c news hl hc (by omega) (by omega) (growslice_fits (by omega) hbytes)
    have hgr:=grown cap (kV (.slice (some ⟨g,0,none⟩) m cap))
    exact ⟨_,_,hr,hgr.1,hgr.2,fun b hb=>.inr (hnew cap _ b hb)⟩
def II (t ty e:TypeId) (i:TypeInfo) (z:Value) (size:Nat) (ht:P.underlying t=some (.slice e)) (hi:P.info? e=some i) (hz:i.zero=some z)
 (hsize:i.size=size) (hzs:z.cells.size=size) (hsz:0<size)
 (v:Value) (m:Nat) (xs:List Value) (hxl:xs.length=m*size) (hv:(v=.slice none 0 0∧m=0) ∨ ∃ad,v=.slice (some ad) m m ∧ ∀j u,xs[j]?=some u→w.cell? (ad.add j)=some u) (y:Value) (q:Nat) (news:List Value) (hl:news.length=q*size)
 (hy:(y=.slice none 0 0∧q=0) ∨ ∃ad c,y=.slice (some ad) q c ∧ ∀j u,news[j]?=some u→w.cell? (ad.add j)=some u) (h1:∀u∈news,u.oneCell'=true) (hq:0<q)
 (h63:m+q≤140737488355328) (hbytes:(m+q)*i.bytes≤140737488355328) :
 ∃v' w',(Builtin.append_ #[t,t] ty #[v,y]).run P w=.ok v' w'∧w'.ownsM e size v' (m+q) (xs++news)∧GrownD w w' none ∧
  ∀b,kV v'=some b→w.heap.size≤b∧b<w'.heap.size:=by
 rcases hv with ⟨rfl,rfl⟩ | ⟨ad0,rfl,holds⟩
 ·have hx:xs=[]:=zl (by simpa using hxl)
  subst hx
  obtain ⟨v',w',a1,a2,a3,a4⟩:=uA (P:=P) (w:=w) t ty e i z size ht hi hz hsize hzs hsz (.slice none 0 0) 0 [] ⟨by simp,.inl ⟨rfl,rfl⟩⟩ y q news hl hy h1 h63 hbytes
  exact ⟨v',w',a1,a2,a3,fun b hb=>(a4 b hb).resolve_left (by simp [kV])⟩
 ·rcases hy with ⟨rfl,rfl⟩ | ⟨ad,c,rfl,hc⟩
  ·omega
  ·subst hsize
   have hmax:m+q≤maxLen:=by simp only [maxLen];omega
   have hlen:(xs++news).length=(m+q)*i.size:=by rw [zf,hxl,hl,Nat.add_mul]
   have hge:=grownCap_ge w (m+q) m e
   have hcm:grownCap w (m+q) m e≤maxLen:=grownCap_le_maxLen w (m+q) m e hmax
   have hr:=run_append_grow (P:=P) w t ty e i z ht hi hz ad0 m m xs hxl holds ad q c news hl hc (by omega) (by omega) (growslice_fits (by omega) hbytes)
   refine ⟨_,_,hr,⟨hlen,.inr ⟨w.heap.size,_,_,rfl,.of (heap_alloc_new w.drew _),hge,hcm,?_,?_⟩⟩,⟨rfl,rfl,rfl,by simp,fun k hk _=>heap_alloc_old w.drew _ k hk,Nat.le_succ _⟩,fun b hb=>?_⟩
   ·simp only [Array.size_append,List.size_toArray,size_zeroCells,hzs,hxl,hl,←Nat.add_mul]
    congr 1
    omega
   ·simp only [Array.toList_append,zq]
    rw [←zq,←hlen]
    exact List.take_left
   ·simp only [kV,zd] at hb
    subst hb
    exact ⟨zx _,by simp⟩
def cK {c:Call} {b:Builtin} (ho:o.op=.call c) (hc:c.callee=.builtin b) {s:Sem Value} (hs:∀cs,builtin b c.argTypes o.type cs (c.args.map a.eval)=(do pure (Next.value (←s)))) {v:Value} {w':World}
 (hr:s.run P w=.ok v w'):(execOp a.eval o).run P w=.ok (.value v) w':=by
 simp only [execOp,ho,resolve,hc,Sem.run_bind,Sem.run_pure,Result.andThen_ok,invoke,hs,hr]
def qN (t u ty e:TypeId) (i:TypeInfo) (z:Value) (ht:P.underlying t=some (.slice e)) (hu:P.underlying u=some .string) (hi:P.info? e=some i) (hz:i.zero=some z)
 (hsize:i.size=1) (hby:i.bytes=1) (hzs:z.cells.size=1) (v:Value) (m:Nat) (xs:List Value) (hown:w.ownsM e 1 v m xs) (s:ByteArray) (hb:m+s.size≤140737488355328) :
 ∃v' w',(Builtin.append_ #[t,u] ty #[v,.string s]).run P w=.ok v' w'∧w'.ownsM e 1 v' (m+s.size) (xs++Lib.strCells s)∧GrownD w w' (kV v) ∧
  ∀b,kV v'=some b→kV v=some b∨(w.heap.size≤b∧b<w'.heap.size):=by
 have hxl:xs.length=m:=by simpa using hown.1
 have hlen:(xs++Lib.strCells s).length=(m+s.size)*1:=by rw [zf,hxl,Lib.strCells_length,Nat.mul_one]
 have hmax:m+s.size≤maxLen:=by simp only [maxLen];omega
 have grown:∀(old:Nat) (row:Option Nat),
  (w.drew.alloc (.cells (xs.toArray++(Lib.strCells s).toArray++Builtin.zeroCells z.cells (grownCap w (m+s.size) old e-(m+s.size))) e)).ownsM e 1
   (.slice (some ⟨w.heap.size,0,none⟩) (m+s.size) (grownCap w (m+s.size) old e)) (m+s.size) (xs++Lib.strCells s) ∧
  GrownD w (w.drew.alloc (.cells (xs.toArray++(Lib.strCells s).toArray++Builtin.zeroCells z.cells (grownCap w (m+s.size) old e-(m+s.size))) e)) row:=by
  intro old row
  have hge:=grownCap_ge w (m+s.size) old e
  have hcm:grownCap w (m+s.size) old e≤maxLen:=grownCap_le_maxLen w (m+s.size) old e hmax
  refine ⟨⟨hlen,.inr ⟨w.heap.size,_,_,rfl,.of (heap_alloc_new w.drew _),hge,hcm,?_,?_⟩⟩,⟨rfl,rfl,rfl,by simp,fun k hk _=>heap_alloc_old w.drew _ k hk,Nat.le_succ _⟩⟩
  ·simp only [Array.size_append,List.size_toArray,size_zeroCells,hzs,hxl,Lib.strCells_length]
   omega
  ·simp only [Array.toList_append,zq]
   rw [←zq,←hlen]
   exact List.take_left
 have hnew:∀(old:Nat) (c:Obj) (b:Nat),kV (.slice (some ⟨w.heap.size,0,none⟩) (m+s.size) (grownCap w (m+s.size) old e))=some b→w.heap.size≤b∧b<(w.drew.alloc c).heap.size:=by
  intro old c b hb
  simp only [kV,zd] at hb
  subst hb
  exact ⟨zx _,by simp⟩
 rcases hown.2 with ⟨rfl,rfl⟩ | ⟨g,cap,cur,rfl,hg,hnc,hcm,hcs,htake⟩
 ·have hx:xs=[]:=zl hxl
  subst hx
  by_cases hm:s.size=0
  ·have hn:Lib.strCells s=[]:=zl (by rw [Lib.strCells_length];exact hm)
   refine ⟨.slice none 0 0,w,?_,by rw [hm,hn];exact v7 w e 1,⟨rfl,rfl,rfl,zx _,fun _ _ _=>rfl,zx _⟩,fun b hb=>.inl hb⟩
   have hf:=Lib.run_firstCells_string (P:=P) w 1 s
   rw [hm] at hf
   simp [Builtin.append_,run_underlying ht,run_underlying hu,sizeOf,typeInfo,hi,hsize,Builtin.lenOf,hm,hf]
  ·have hr:=run_append_nil_string (P:=P) w t u ty e i z ht hu hi hz s (by omega) (by omega) (by rw [hby];omega)
   have hgr:=grown 0 (kV (.slice none 0 0))
   have hnw:=hnew 0
   simp only [zv,List.nil_append,Array.empty_append] at hgr hnw ⊢
   have e1:(s.data.map fun b=>Value.int .u8 b.toNat)=(Lib.strCells s).toArray:=by
    apply Array.ext'
    simp [Lib.strCells]
   rw [e1] at hr
   exact ⟨_,_,hr,hgr.1,hgr.2,fun b hb=>.inr (hnw _ b hb)⟩
 ·by_cases hroom:m+s.size≤cap
  ·have hcs':cur.size=cap:=by simpa using hcs
   have hr:=run_append_room_string_own (P:=P) w t u ty e i ht hu hi hsize g m cap cur hg s hroom (by omega)
   have hsame:(cur.toList.take m++Lib.strCells s++cur.toList.drop (m+s.size)).toArray.size=cur.size:=by
    simp only [List.size_toArray,zf,List.length_take,zu,Array.length_toList,Lib.strCells_length]
    omega
   refine ⟨_,_,hr,⟨hlen,.inr ⟨g,cap,_,rfl,hg.set hsame,hroom,hcm,?_,?_⟩⟩,⟨rfl,rfl,rfl,by simp,fun k _ hk=>setRow_other w g k _ (fun e=>hk (by simp [kV,e])),by first | exact zx _ | exact Nat.le_succ _⟩,fun b hb=>.inl hb⟩
   ·rw [hsame,hcs]
   ·have ht':cur.toList.take m=xs:=by simpa using htake
    simp only [List.toList_toArray]
    rw [ht',←hlen]
    exact List.take_left
  ·have holds:∀j u,xs[j]?=some u→w.cell? ((⟨g,0,none⟩:Addr).add j)=some u:=qY hown
   have hr:=Lib.run_append_grow_string (P:=P) w t u ty e i z ht hu hi hz ⟨g,0,none⟩ m cap xs (by rw [hsize];simpa using hxl) holds s (by omega) (by omega) (by rw [hby];exact growslice_fits (by omega) (by omega))
   have hgr:=grown cap (kV (.slice (some ⟨g,0,none⟩) m cap))
   exact ⟨_,_,hr,hgr.1,hgr.2,fun b hb=>.inr (hnew cap _ b hb)⟩
def Good.appOwn (h:Rel n w0 Z0 st a w nm) {id v:Nat} {e:TypeId} {s:Ty} {xs ys:List s.den} (hmap:s.wj=false) (hob:look st.sj id=some (.arr v false e s xs)) {v':Value} {w':World} {olds cells:List Value}
 (q1:(execOp a.eval o).run P w=.ok (.value v') w') (q2:w'.ownsM e s.cells v' (xs.length+ys.length) (olds++cells)) (q3:GrownD w w' (kV (nm id)))
 (q4:∀b,kV v'=some b→kV (nm id)=some b∨(w.heap.size≤b∧b<w'.heap.size)) (o2:YF (kT w (Zc w0 Z0 nm st.sj w) s) olds xs) (n2:YF (kT w (Zc w0 Z0 nm st.sj w) s) cells ys) :
 Good P n w0 Z0 st a w o ⟨.one (.own id (v+1)),[(id,.arr (v+1) false e s (xs++ys))]⟩:=by
 intro st' hl
 obtain ⟨hmay,rfl⟩:=NY hl
 have hkz:Kept w w' (Zc w0 Z0 nm st.sj w) (Zc w0 Z0 (VG nm id v') (YE id (.arr (v+1) false e s (xs++ys)) st.sj) w'):=by
  rintro b ⟨z1,z2,z3⟩
  refine ⟨⟨Z2 z1 q3.size,z2,?_⟩,q3.block b z1 (fun hb=>z3 ⟨id,_,hob,rfl,hb.symm⟩)⟩
  rintro ⟨j,ob,y1,y2,y3⟩
  by_cases hj:id=j
  ·subst hj
   rw [kW] at y3
   rcases q4 b y3 with hh | hh
   ·exact z3 ⟨id,_,hob,rfl,hh⟩
   ·omega
  ·rw [ke,if_neg hj] at y1
   rw [VU _ _ (Ne.symm hj)] at y3
   exact z3 ⟨j,ob,y1,y2,y3⟩
 refine Does.of_run q1 ⟨VG nm id v',?_,?_⟩
 ·refine h.upd id _ v' hmay (by rw [hob];exact fun hh=>absurd hh (by omega)) ⟨q3.os,q3.tape,q3.output,q3.size⟩ (fun b hb=>?_) (fun b hb=>?_) ?_
  ·by_cases hbb:kV (nm id)=some b
   ·exact .inl ⟨_,hob,rfl,hbb⟩
   ·exact .inr (q3.block b hb (fun hh=>hbb hh.symm))
  ·rcases q4 b hb with hh | hh
   ·exact .inl ⟨hh,_,hob,.inl rfl⟩
   ·exact .inr hh
  ·refine .inl ⟨hmap,olds++cells,by rw [kW,zf];exact q2,VE.2 ⟨olds,cells,rfl,?_,?_⟩⟩
   ·exact VF (fun _ _=>YJ hkz s) o2
   ·exact VF (fun _ _=>YJ hkz s) n2
 ·refine ⟨?_,fun fz e t xs hl=>(kW _ _ _).symm⟩
  rcases q2.2 with ⟨e1,_⟩ | ⟨g,cap,cur,e1,_⟩<;>rw [e1]<;>rfl
def xU (Z:Nat→Prop) (bs:Za):YF (kT w Z (.int .u8)) (Lib.strCells ⟨bs.toArray⟩) (bs.map fun b=>(b.toNat:Int)):=by
 have e:Lib.strCells ⟨bs.toArray⟩=(bs.map fun b=>(b.toNat:Int)).map (Value.int .u8):=by
  simp [Lib.strCells,List.map_map,Function.comp_def]
 rw [e]
 exact tF w Z .u8 _
def CP {c:Call} (ho:o.op=.call c) (hc:c.callee=.builtin .append):Uq P G o:=by
 intro hT n w0 w Z0 st a nm dst ρ k r h he
 unfold Jq at he
 rw [ho] at he
 simp only [hc] at he
 split at he
 ·rename_i x y t t' ha1 ha2
  cases htt:Nat.beq t t' with
  | false=>
    rw [htt] at he
    simp only [zk] at he
    split at he
    ·rename_i e by_ kd dx bs h1 h1' h2 h3
     cases hby:Nat.beq by_ 1 with
     | false=>rw [hby] at he;cases he
     | true=>
       rw [hby] at he
       simp only [zj] at he
       have hby:=Jx.1 hby
       obtain ⟨hu,i,z,g1,g2,g3,g4,g5,g6⟩:=aM hT h1
       have hus:=eP hT h1' rfl
       have hzl:z.cells.size=1:=by have:=Hp (.int .u8) g5;simpa [Ty.cells] using this
       have hargs:c.args=#[x,y]:=by rw [←Array.toArray_toList (xs:=c.args),ha1]
       have hat:c.argTypes=#[t,t']:=by rw [←Array.toArray_toList (xs:=c.argTypes),ha2]
       have hys:a.eval y=.string ⟨bs.toArray⟩:=gY h h3
       have hx:∀v' w',(Builtin.append_ #[t,t'] o.type #[a.eval x,a.eval y]).run P w=.ok v' w'→(execOp a.eval o).run P w=.ok (.value v') w':=by
        intro v' w' hr
        exact cK ho hc (s:=Builtin.append_ #[t,t'] o.type #[a.eval x,a.eval y]) (fun cs=>by simp [builtin,hargs,hat]) hr
       have hsz:(⟨bs.toArray⟩:ByteArray).size=bs.length:=by simp [ByteArray.size]
       have hml:(bs.map fun b=>(b.toNat:Int)).length=bs.length:=by simp
       split at he
       ·split at he
        ·rename_i ver hver
         obtain ⟨_,hb,he⟩:=ki he
         have hb:=zw (Ua hb)
         simp only [NZ] at hb
         have hxv:a.eval x=.slice none 0 0:=Yd h h2
         obtain ⟨v',w',q1,q2,q3,q4⟩:=qN (P:=P) (w:=w) t t' o.type e i z hu hus g1 g4 g2 (g3.trans hby) hzl (.slice none 0 0) 0 [] ⟨by simp,.inl ⟨rfl,rfl⟩⟩ ⟨bs.toArray⟩ (by rw [hsz];omega)
         rw [←hxv,←hys] at q1
         have hsame:Same w w':=⟨q3.os,q3.tape,q3.output,q3.size,fun b hb=>q3.block b hb (by simp [kV])⟩
         rw [zv,List.nil_append,hsz,←hml] at q2
         refine ⟨_,he,Good.newArr h rfl hver (hx _ _ q1) hsame (fun b hb=>(q4 b hb).resolve_left (by simp [kV])) q2 ?_⟩
         exact xU _ bs
        ·cases he
       ·rename_i id ver
        split at he
        ·rename_i v e' s' xs hob
         split at he
         ·rename_i hs
          subst hs
          cases hv:(Nat.beq v ver&&Nat.beq e' e) with
          | false=>rw [hv] at he;cases he
          | true=>
            rw [hv] at he
            rw [ze] at hv
            have:=Jx.1 hv.1
            subst this
            have:=Jx.1 hv.2
            subst this
            simp only [zj] at he
            obtain ⟨_,hb,he⟩:=ki he
            have hb:=zw (Ua hb)
            simp only [NZ] at hb
            have hxv:a.eval x=nm id:=(Yd h h2).2 false e' (.int .u8) xs hob
            obtain ⟨olds,o1,o2⟩:=(h.sj id _ hob).sl rfl
            obtain ⟨v',w',q1,q2,q3,q4⟩:=qN (P:=P) (w:=w) t t' o.type e' i z hu hus g1 g4 g2 (g3.trans hby) hzl (nm id) xs.length olds o1 ⟨bs.toArray⟩ (by rw [hsz];exact hb)
            rw [←hxv,←hys] at q1
            rw [hsz,←hml] at q2
            exact ⟨_,he,Good.appOwn h rfl hob (hx _ _ q1) q2 q3 q4 o2 (xU _ bs)⟩
         ·cases he
        ·cases he
       ·cases he
    ·cases he
  | true=>
    rw [htt] at he
    have:=Jx.1 htt
    subst this
    simp only [zj] at he
    split at he
    ·rename_i s e by_ dx dy h1 h2 h3
     obtain ⟨hu,i,z,g1,g2,g3,g4,g5,g6⟩:=aM hT h1
     have hzl:z.cells.size=s.cells:=by have:=Hp s g5;simpa using this
     have hargs:c.args=#[x,y]:=by rw [←Array.toArray_toList (xs:=c.args),ha1]
     have hat:c.argTypes=#[t,t]:=by rw [←Array.toArray_toList (xs:=c.argTypes),ha2]
     have hx:∀v' w',(Builtin.append_ #[t,t] o.type #[a.eval x,a.eval y]).run P w=.ok v' w'→(execOp a.eval o).run P w=.ok (.value v') w':=by
      intro v' w' hr
      exact cK ho hc (s:=Builtin.append_ #[t,t] o.type #[a.eval x,a.eval y]) (fun cs=>by simp [builtin,hargs,hat]) hr
     
     have news:∀ys:List s.den,BT w (Zc w0 Z0 nm st.sj w) s (a.eval y) ys → ∃cells,cells.length=ys.length*s.cells∧YF (kT w (Zc w0 Z0 nm st.sj w) s) cells ys∧(∀u∈cells,u.oneCell'=true) ∧
      ((a.eval y=.slice none 0 0∧ys.length=0) ∨ ∃ad c,a.eval y=.slice (some ad) ys.length c ∧ ∀j u,cells[j]?=some u→w.cell? (ad.add j)=some u):=by
      intro ys hr
      rcases hr with ⟨e1,rfl⟩ | ⟨b,off,cap,cells,e1,e2,e3,e4,e5⟩ | ⟨ad,cap,e1,rfl,_⟩
      ·exact ⟨[],by simp,rfl,by simp,.inl ⟨e1,rfl⟩⟩
      rotate_left
      ·exact ⟨[],by simp,rfl,by simp,.inr ⟨ad,cap,e1,fun j u hj=>by simp at hj⟩⟩
      ·refine ⟨cells,Hy (fun _ _=>Yy s) e4,e4,?_,.inr ⟨_,cap,e1,fun j u hj=>by rw [Addr.add_lit];exact e5 j u hj⟩⟩
       have:∀(ys:List s.den) (cells:List Value),YF (kT w (Zc w0 Z0 nm st.sj w) s) cells ys → ∀u∈cells,u.oneCell'=true:=by
        intro ys
        induction ys with
        | nil=>intro cells h u hu;have h:_=_:=h;subst h;cases hu
        | cons q ys ih=>
          rintro cells ⟨c1,c2,e,h1,h2⟩ u hu
          rw [e,List.mem_append] at hu
          exact hu.elim (HS s h1 u) (ih c2 h2 u)
       exact this ys cells e4
     split at he
     ·
      split at he
      ·rename_i ver hver
       obtain ⟨s',ys,he,hr⟩:=Nn h h3 he
       split at he
       ·rename_i hs
        subst hs
        obtain ⟨_,hb,he⟩:=ki he
        have hb:=Ua hb
        simp only [ze,zn,NZ,zh,zv] at hb
        obtain ⟨cells,n1,n2,n3,n4⟩:=news ys hr
        have hxv:a.eval x=.slice none 0 0:=Yd h h2
        obtain ⟨v',w',q1,q2,q3,q4⟩:=uA (P:=P) (w:=w) t o.type e i z s'.cells hu g1 g4 g2 hzl g6 (.slice none 0 0) 0 [] ⟨by simp,.inl ⟨rfl,rfl⟩⟩ (a.eval y) ys.length cells n1 n4 n3 (by omega) (by rw [g3,zv];exact hb.1)
        rw [←hxv] at q1
        have hsame:Same w w':=⟨q3.os,q3.tape,q3.output,q3.size,fun b hb=>q3.block b hb (by simp [kV])⟩
        rw [zv,List.nil_append] at q2
        refine ⟨_,he,Good.newArr h (eO hT h1) hver (hx _ _ q1) hsame (fun b hb=>(q4 b hb).resolve_left (by simp [kV])) (cells:=cells) q2 ?_⟩
        exact VF (fun _ _=>YJ (fun b hb=>⟨hb,n6 (hsame.block b hb.1)⟩) s') n2
       ·cases he
      ·cases he
     ·
      rename_i id ver
      split at he
      ·rename_i v e' s' xs hob
       split at he
       ·rename_i hs
        subst hs
        cases hv:(Nat.beq v ver&&Nat.beq e' e) with
        | false=>rw [hv] at he;cases he
        | true=>
          rw [hv] at he
          rw [ze] at hv
          have:=Jx.1 hv.1
          subst this
          have:=Jx.1 hv.2
          subst this
          simp only [zj] at he
          obtain ⟨s2,ys,he,hr⟩:=Nn h h3 he
          split at he
          ·rename_i hs2
           subst hs2
           obtain ⟨_,hb,he⟩:=ki he
           have hb:=Ua hb
           rw [ze] at hb
           have hb:(xs.length+ys.length)*by_≤140737488355328∧xs.length+ys.length≤140737488355328:=⟨zw hb.1,zw hb.2⟩
           obtain ⟨cells,n1,n2,n3,n4⟩:=news ys hr
           have hxv:a.eval x=nm id:=(Yd h h2).2 false e' s2 xs hob
           obtain ⟨olds,o1,o2⟩:=(h.sj id _ hob).sl (eO hT h1)
           obtain ⟨v',w',q1,q2,q3,q4⟩:=uA (P:=P) (w:=w) t o.type e' i z s2.cells hu g1 g4 g2 hzl g6 (nm id) xs.length olds o1 (a.eval y) ys.length cells n1 n4 n3 hb.2 (by rw [g3];exact hb.1)
           rw [←hxv] at q1
           exact ⟨_,he,Good.appOwn h (eO hT h1) hob (hx _ _ q1) q2 q3 q4 o2 n2⟩
          ·cases he
       ·cases he
      ·cases he
     ·
      rename_i s' xs
      split at he
      ·rename_i hs
       subst hs
       split at he
       ·rename_i ver hver
        obtain ⟨s2,ys,he,hr⟩:=Nn h h3 he
        split at he
        ·rename_i hs2
         subst hs2
         obtain ⟨_,hb,he⟩:=ki he
         have hb:=Ua hb
         rw [ze,ze] at hb
         have hb0:=zw hb.1
         have hb1:((show List s2.den from xs).length+ys.length)*by_≤140737488355328:=zw hb.2.1
         have hb2:(show List s2.den from xs).length+ys.length≤140737488355328:=zw hb.2.2
         obtain ⟨cells,n1,n2,n3,n4⟩:=news ys hr
         have hfl:Ux w (Zc w0 Z0 nm st.sj w) (.fl s2) (a.eval x) xs:=Yd h h2
         obtain ⟨hsl,ad,m,em⟩:=hfl
         simp only [List.cons.injEq,and_true] at em
         have hold:∃olds:List Value,olds.length=(show List s2.den from xs).length*s2.cells∧YF (kT w (Zc w0 Z0 nm st.sj w) s2) olds (show List s2.den from xs) ∧
          ((a.eval x=.slice none 0 0∧(show List s2.den from xs).length=0) ∨ ∃ad,a.eval x=.slice (some ad) (show List s2.den from xs).length (show List s2.den from xs).length ∧ ∀j u,olds[j]?=some u→w.cell? (ad.add j)=some u):=by
          rcases qD (t:=s2) (xs:=(show List s2.den from xs)) hsl with ⟨e1,e2⟩ | ⟨b,off,cap,cs,e1,e2,e3,e4,e5⟩ | ⟨ad',cap,e1,e2,_⟩
          ·rw [e2];exact ⟨[],by simp,rfl,.inl ⟨e1,rfl⟩⟩
          ·refine ⟨cs,Hy (fun _ _=>Yy s2) e4,e4,.inr ⟨⟨b,off,none⟩,?_,fun j u hj=>by rw [Addr.add_lit];exact e5 j u hj⟩⟩
           rw [e1] at em ⊢
           cases em
           rfl
          ·rw [e2]
           refine ⟨[],by simp,rfl,.inr ⟨ad',?_,fun j u hj=>by simp at hj⟩⟩
           rw [e1] at em ⊢
           cases em
           rfl
         obtain ⟨olds,o1,o2,o3⟩:=hold
         obtain ⟨v',w',q1,q2,q3,q4⟩:=II (P:=P) (w:=w) t o.type e i z s2.cells hu g1 g4 g2 hzl g6 (a.eval x) _ olds o1 o3 (a.eval y) ys.length cells n1 n4 n3 hb0 hb2 (by rw [g3];exact hb1)
         have hsame:Same w w':=⟨q3.os,q3.tape,q3.output,q3.size,fun b hb=>q3.block b hb (by simp)⟩
         rw [←zf] at q2
         refine ⟨_,he,Good.newArr h (eO hT h1) hver (hx _ _ q1) hsame q4 (cells:=olds++cells) q2 ?_⟩
         exact VF (fun _ _=>YJ (fun b hb=>⟨hb,n6 (hsame.block b hb.1)⟩) s2) (VE.2 ⟨olds,cells,rfl,o2,n2⟩)
        ·cases he
       ·cases he
      ·cases he
     ·cases he
    ·cases he
 ·cases he
def OU {c:Call} (ho:o.op=.call c) (hc:c.callee=.builtin .len):Uq P G o:=by
 intro hT n w0 w Z0 st a nm dst ρ k r h he
 unfold Jq at he
 rw [ho] at he
 simp only [hc] at he
 split at he
 ·rename_i x t ha1 ha2
  have hargs:c.args=#[x]:=by rw [←Array.toArray_toList (xs:=c.args),ha1]
  have hat:c.argTypes=#[t]:=by rw [←Array.toArray_toList (xs:=c.argTypes),ha2]
  have hx:∀v',(Builtin.len_ #[t] o.type #[a.eval x]).run P w=.ok v' w→(execOp a.eval o).run P w=.ok (.value v') w:=by
   intro v' hr
   exact cK ho hc (s:=Builtin.len_ #[t] o.type #[a.eval x]) (fun cs=>by simp [builtin,hargs,hat]) hr
  split at he
  ·rename_i k1 s h1 h2
   have hu:=eP hT h1 rfl
   have e1:=gY h h2
   have hsz:(⟨s.toArray⟩:ByteArray).size=s.length:=uT s
   refine ⟨_,he,Good.pure h (v:=.int .i64 s.length) (hx _ ?_) (aX ..)⟩
   rw [e1]
   simp [Builtin.len_,run_underlying hu,hsz,goInt]
  ·rename_i s e b h1 h2
   obtain ⟨hu,_⟩:=aM hT h1
   have e1:a.eval x=.slice none 0 0:=Yd h h2
   exact ⟨_,he,Good.pure h (v:=.int .i64 0) (hx _ (by rw [e1];simp [Builtin.len_,run_underlying hu,goInt])) (aX ..)⟩
  ·rename_i s e b d _ h1 h2
   obtain ⟨hu,_⟩:=aM hT h1
   obtain ⟨s',xs,he,hr⟩:=Nn h h2 he
   refine ⟨_,he,Good.pure h (v:=.int .i64 xs.length) (hx _ ?_) (aX ..)⟩
   rcases hr with ⟨e1,rfl⟩ | ⟨b,off,cap,cells,e1,_⟩ | ⟨ad,cap,e1,rfl,_⟩<;>rw [e1]<;>simp [Builtin.len_,run_underlying hu,goInt]
  ·cases he
 ·cases he
def QP (m n:Int):(if n<m then n else m)=min m n:=by omega
def QO (m n:Int):(if n>m then n else m)=max m n:=by omega
def OW {c:Call} (ho:o.op=.call c) (hc:c.callee=.builtin .min):Uq P G o:=by
 intro hT n w0 w Z0 st a nm dst ρ k r h he
 unfold Jq at he
 rw [ho] at he
 simp only [hc] at he
 split at he
 ·rename_i x y ha
  have hargs:c.args=#[x,y]:=by rw [←Array.toArray_toList (xs:=c.args),ha]
  split at he
  ·rename_i j m j' n' h1 h2
   have e1:=aJ h h1
   have e2:=aJ h h2
   refine ⟨_,he,Good.pure h (v:=.int j (min m n')) (cK ho hc (s:=Builtin.min_ c.argTypes o.type #[a.eval x,a.eval y]) (fun cs=>by simp [builtin,hargs]) ?_) (aX ..)⟩
   rw [e1,e2,run_min_int2]
   exact congrArg (fun q=>Result.ok (Value.int j q) w) (QP m n')
  ·cases he
 ·cases he
def OV {c:Call} (ho:o.op=.call c) (hc:c.callee=.builtin .max):Uq P G o:=by
 intro hT n w0 w Z0 st a nm dst ρ k r h he
 unfold Jq at he
 rw [ho] at he
 simp only [hc] at he
 split at he
 ·rename_i x y ha
  have hargs:c.args=#[x,y]:=by rw [←Array.toArray_toList (xs:=c.args),ha]
  split at he
  ·rename_i j m j' n' h1 h2
   have e1:=aJ h h1
   have e2:=aJ h h2
   refine ⟨_,he,Good.pure h (v:=.int j (max m n')) (cK ho hc (s:=Builtin.max_ c.argTypes o.type #[a.eval x,a.eval y]) (fun cs=>by simp [builtin,hargs]) ?_) (aX ..)⟩
   rw [e1,e2,run_max_int2]
   exact congrArg (fun q=>Result.ok (Value.int j q) w) (QO m n')
  ·cases he
 ·cases he
end
end Go.Ql
end

section
namespace Go.Ql
section
variable [GInv] {P:Program} {G:Env} {n:Nat} {w0 w:World} {Z0:Bs} {st st1:St} {a:Act} {nm:JY} {o:Oper} {dst:Nat} {ρ:Type} {k:Eff→Option ρ} {r:ρ}
def cG {u:kY} {id:Nat} {ob:Ob} {st':St} (h:kO st (u++[(id,ob)])=some st'):∃s,kO st u=some s∧YZ s id ob=true∧st'=⟨s.mj,YE id ob s.sj⟩:=by
 obtain ⟨s,h1,h2⟩:=cO u h
 obtain ⟨h3,h4⟩:=NY h2
 exact ⟨s,h1,h3,h4⟩
def UY:∀(u:kY) {st st1:St} {id:Nat},kO st u=some st1→(∀p∈u,p.1≠id)→look st1.sj id=look st.sj id
 | [],st,st1,id,h,_=>by simp only [kO,zd] at h;subst h;rfl
 | (j,ob)::u,st,st1,id,h,hn=>by
   simp only [kO] at h
   cases hm:YZ st j ob with
   | false=>rw [hm] at h;cases h
   | true=>
     rw [hm] at h
     simp only [zj] at h
     rw [UY u h (fun p hp=>hn p (by simp [hp]))]
     simp only [ke,if_neg (hn (j,ob) (by simp))]
def f5 {t:TypeId} {ti:TI} (hti:TiOk P t ti) {g q:Nat} {cur:Array Value} {T:TypeId} (hg:rowAt w g cur T) {v:Value} (hl:v.cells.toList.length=ti.ty.cells)
 (hfit:q+ti.ty.cells≤cur.size) (hone:∀u∈v.cells.toList,u.oneCell'=true) :
 (Instr.storeAt t (.pointer (some ⟨g,q,none⟩)) v).run P w=.ok () (w.setRow g (cur.toList.take q++v.cells.toList++cur.toList.drop (q+ti.ty.cells)).toArray):=by
 have hsz:=hti.sizeOf w
 have hs:v.cells.size=ti.ty.cells:=by simpa using hl
 have:=run_storeCells_own P g q T v.cells.toList 0 cur w hg (by rw [hl];omega) hone
 simp only [Nat.add_zero,hl] at this
 simp [Instr.storeAt,Instr.sureAddr,storeVar,hsz,hs,this]
def FzUpd.lays:∀(u:kY) {st:St},Rel n w0 Z0 st a w nm→FzUpd st u → ∃st1,kO st u=some st1
 | [],st,_,_=>⟨st,rfl⟩
 | (id,ob)::u,st,h,hu=>by
   obtain ⟨v,fz,e,t,xs,h1,h2⟩:=hu (id,ob) (by simp)
   simp only at h1 h2
   subst h2
   obtain ⟨r1,r2⟩:=h.freeze h1
   have hmay:YZ st id (.arr v true e t xs)=true:=by unfold YZ;rw [h1];simp [Jx.2]
   simp only [kO,hmay,zj]
   refine FzUpd.lays u r1 (fun p hp=>?_)
   obtain ⟨v',fz',e',t',xs',q1,q2⟩:=hu p (by simp [hp])
   rcases r2.sj p.1 with q | ⟨v2,fz2,e2,t2,xs2,q3,q4⟩
   ·exact ⟨v',fz',e',t',xs',q.trans q1,q2⟩
   ·rw [q1] at q3;cases q3;exact ⟨v',true,e',t',xs',q4,q2⟩
def Good.newPtr (h:Rel n w0 Z0 st a w nm) {u:kY} (hfu:FzUpd st u) (hnu:∀p∈u,p.1≠dst) {ver:Nat} {e:TypeId} {t:Ty} {xs:List t.den} {cells:Array Value} (hmap:t.wj=false)
 (hver:Va (look st.sj) dst=some ver)
 (hrun:(execOp a.eval o).run P w=.ok (.value (.pointer (some ⟨w.heap.size,0,none⟩))) (w.alloc (.cells cells e)))
 (hlen:cells.size=xs.length*t.cells) (hmax:xs.length≤maxLen)
 (hrd:∀st1,Frozen n w0 Z0 st st1 a w nm u→YF (kT w (Zc w0 Z0 nm st1.sj w) t) cells.toList xs) :
 Good P n w0 Z0 st a w o ⟨.one (.aptr dst ver),u++[(dst,.arr ver false e t xs)]⟩:=by
 intro st' hlay
 obtain ⟨st1,hlu,hmay,rfl⟩:=cG hlay
 obtain ⟨hrel,hfz,hcold⟩:=Rel.freezes u h hfu hlu
 have hver1:Va (look st1.sj) dst=some ver:=by
  unfold Va at hver ⊢
  rw [UY u hlu hnu]
  exact hver
 obtain ⟨q1,q2⟩:=hrel.newArr (w':=w.alloc (.cells cells e)) (nv:=.slice (some ⟨w.heap.size,0,none⟩) xs.length xs.length) (cells:=cells.toList) hmap hver1 hmay (Same.alloc _ _) (fun b hb=>by
  simp only [kV,zd] at hb
  subst hb
  exact ⟨zx _,by simp⟩) ⟨by simpa using hlen,.inr ⟨w.heap.size,xs.length,cells,rfl,.of (heap_alloc_new w _),zx _,hmax,hlen,by
   rw [←hlen,←Array.length_toList,List.take_length]⟩⟩ (VF (fun _ _=>YJ (fun b hb=>⟨hb,n6 (heap_alloc_old w _ b hb.1)⟩) t) (hrd st1 ⟨hfz,hrel,hcold⟩))
 refine Does.of_run hrun ⟨_,q1,rfl,fun fz e t xs hl=>?_⟩
 rw [kW]
 exact ⟨_,_,_,rfl,rfl⟩
def sG {id0:Nat} {ob:Ob} {nv:Value} {sj:List (Nat×Ob)} {x:At} (hx:x.fj id0=false):AtOk nm (VG nm id0 nv) sj (YE id0 ob sj) x:=by
 intro j hj
 have he:id0≠j:=fun e=>by subst e;rw [hx] at hj;cases hj
 refine ⟨fun ver fz e t xs h1 _=>?_,fun cs h1=>?_,fun f x y h1=>?_⟩
 ·rw [ke,if_neg he] at h1
  exact ⟨VU _ _ (Ne.symm he),fz,xs,h1,rfl⟩
 ·rw [ke,if_neg he] at h1
  exact ⟨VU _ _ (Ne.symm he),cs,h1⟩
 ·rw [ke,if_neg he] at h1
  exact ⟨VU _ _ (Ne.symm he),f,x,y,h1⟩
def IL {id0:Nat} {cs cs':List At} {sj:List (Nat×Ob)} {x:At} (hob:look sj id0=some (.box cs)):AtOk nm (VG nm id0 (nm id0)) sj (YE id0 (.box cs') sj) x:=by
 rw [fO]
 intro j hj
 by_cases he:id0=j
 ·subst he
  exact ⟨fun ver fz e t xs h1=>by simp [ke] at h1,fun _ _=>⟨rfl,cs,hob⟩,fun f x y h1=>by simp [ke] at h1⟩
 ·refine ⟨fun ver fz e t xs h1 _=>?_,fun cs h1=>?_,fun f x y h1=>?_⟩
  ·rw [ke,if_neg he] at h1
   exact ⟨rfl,fz,xs,h1,rfl⟩
  ·rw [ke,if_neg he] at h1
   exact ⟨rfl,cs,h1⟩
  ·rw [ke,if_neg he] at h1
   exact ⟨rfl,f,x,y,h1⟩
def i7 {fr:Bool} {ob0:Yo} {idf:Nat→Nat}:∀(l:List (Nat×(TypeId×Ty))) {ds ds':List At} {u:kY},HL fr ob0 idf l ds=some (ds',u) → ∀{st:St} {nm:JY} {vs:List Value} {st1:St},Rel n w0 Z0 st a w nm →
 (∀p∈u,look st.sj p.1=ob0 p.1)→Vx w (Zc w0 Z0 nm st.sj w) nm st.sj ds vs→kO st u=some st1 →
 ∃nm1,Rel n w0 Z0 st1 a w nm1∧Vx w (Zc w0 Z0 nm1 st1.sj w) nm1 st1.sj ds' vs ∧ ∀id,(∀p∈u,p.1≠id)→nm1 id=nm id
 | [],ds,ds',u,he,st,nm,vs,st1,h,_,hr,hlay=>by
   simp only [HL,zd,zr] at he
   obtain ⟨rfl,rfl⟩:=he
   simp only [kO,zd] at hlay
   subst hlay
   exact ⟨nm,h,hr,fun _ _=>rfl⟩
 | (j,e,s)::r,ds,ds',u,he,st,nm,vs,st1,h,hob,hr,hlay=>by
   simp only [HL] at he
   split at he
   ·rename_i hj
    split at he
    ·rename_i ver hver
     cases hall:(ds.all (fun x=>!x.fj (idf j)) && !s.wj) with
     | false=>rw [hall] at he;cases he
     | true=>
       rw [hall] at he
       simp only [zj] at he
       rw [ze,Z3] at hall
       obtain ⟨hall,hmap⟩:=hall
       split at he
       ·rename_i ds2 u2 h2
        cases hk:u2.all (fun q=>!Nat.beq q.1 (idf j)) with
        | false=>rw [hk] at he;cases he
        | true=>
          rw [hk] at he
          simp only [zj,zd,zr] at he
          obtain ⟨rfl,rfl⟩:=he
          have hne:∀p∈u2,p.1≠idf j:=by
           intro p hp
           have:=(zy.1 hk) p hp
           simp only [Z3] at this
           exact Yi.1 this
          simp only [kO] at hlay
          cases hm:YZ st (idf j) (.arr ver false e s []) with
          | false=>rw [hm] at hlay;cases hlay
          | true=>
            rw [hm] at hlay
            simp only [zj] at hlay
            have hver1:Va (look st.sj) (idf j)=some ver:=by
             unfold u7 at hver
             unfold Va
             rw [hob (idf j,.arr ver false e s []) (by simp)]
             cases hq:ob0 (idf j) with
             | none=>
               rw [hq] at hver
               cases fr with
               | true=>exact hver
               | false=>cases hver
             | some ob=>
               rw [hq] at hver
               cases ob with
               | arr v fz e t xs=>exact hver
               | box cs=>cases hver
               | clo f x y=>cases hver
               | gone=>cases hver
            obtain ⟨r1,r2⟩:=h.newArr (w':=w) (nv:=.slice none 0 0) (cells:=[]) hmap hver1 hm (Same.refl w) (fun b hb=>by cases hb) ⟨by simp,.inl ⟨rfl,rfl⟩⟩ rfl
            have hkept:Kept w w (Zc w0 Z0 nm st.sj w) (Zc w0 Z0 (VG nm (idf j) (.slice none 0 0)) (YE (idf j) (.arr ver false e s []) st.sj) w):=by
             rintro b ⟨z1,z2,z3⟩
             refine ⟨⟨z1,z2,?_⟩,rfl⟩
             rintro ⟨i,ob,y1,y2,y3⟩
             by_cases hi:idf j=i
             ·subst hi
              rw [kW] at y3
              cases y3
             ·rw [ke,if_neg hi] at y1
              rw [VU _ _ (Ne.symm hi)] at y3
              exact z3 ⟨i,ob,y1,y2,y3⟩
            have hr2:Vx w (Zc w0 Z0 (VG nm (idf j) (.slice none 0 0)) (YE (idf j) (.arr ver false e s []) st.sj) w) (VG nm (idf j) (.slice none 0 0)) (YE (idf j) (.arr ver false e s []) st.sj) (ds.set j (.own (idf j) ver)) vs:=by
             refine ⟨by rw [List.length_set];exact hr.1,fun i x v q1 q2=>?_⟩
             rw [List.getElem?_set] at q1
             by_cases hij:j=i
             ·subst hij
              have hjl:j<ds.length:=(Z6.1 hj).1
              simp only [if_true,hjl,zd] at q1
              subst q1
              have hv:v=.slice none 0 0:=hr.2 j _ v hj q2
              subst hv
              exact r2
             ·rw [if_neg hij] at q1
              have hx:=(zy.1 hall) x (List.mem_of_getElem? q1)
              exact m6 hkept (sG (by simpa using hx)) (hr.2 i x v q1 q2)
            obtain ⟨nm1,s1,s2,s3⟩:=i7 r h2 r1 (fun p hp=>by
             simp only [ke,if_neg (Ne.symm (hne p hp))]
             exact hob p (zz _ hp)) hr2 hlay
            refine ⟨nm1,s1,s2,fun id hid=>?_⟩
            rw [s3 id (fun p hp=>hid p (zz _ hp)),VU _ _ (Ne.symm (hid (idf j,.arr ver false e s []) (by simp)))]
       ·cases he
    ·cases he
   ·exact i7 r he h hob hr hlay
def Does.storeBox (h:Rel n w0 Z0 st a w nm) {t:TypeId} {ti:TI} (hti:TiOk P t ti) {id off:Nat} {cs ds:List At} {vy:Value} (hob:look st.sj id=some (.box cs)) (hl:ds.length=ti.ty.cells) (hle:off+ds.length≤cs.length)
 {b:Nat} (e1:nm id=.pointer (some ⟨b,0,none⟩)) (q1:Vx w (Zc w0 Z0 nm st.sj w) nm st.sj ds vy.cells.toList) (q2:∀u∈vy.cells.toList,u.oneCell'=true)
 (hself:∀x∈ds,x.isSelf=false) (hmay:YZ st id (.box (cs.take off++ds++cs.drop (off+ds.length)))=true)
 (hx:∀w',(Instr.storeAt t (.pointer (some ⟨b,off,none⟩)) vy).run P w=.ok () w'→(execOp a.eval o).run P w=.ok .skip w') :
 Does P o a w fun v' w'=>∃nm',Rel n w0 Z0 ⟨st.mj,YE id (.box (cs.take off++ds++cs.drop (off+ds.length))) st.sj⟩ a w' nm' ∧
  Vf w' (Zc w0 Z0 nm' (YE id (.box (cs.take off++ds++cs.drop (off+ds.length))) st.sj) w') nm' (YE id (.box (cs.take off++ds++cs.drop (off+ds.length))) st.sj) (.tup []) v':=by
 have hundef:∀(w:World) (Z:Nat→Prop) (nm:JY) (sj:List (Nat×Ob)),Vf w Z nm sj (.tup []) undef:=fun w Z nm sj=>⟨#[],rfl,aD⟩
 obtain ⟨b',vs,T,p1,p2,p3,p4⟩:=h.sj id _ hob
 rw [e1] at p1
 cases p1
 have hvl:vy.cells.toList.length=ti.ty.cells:=q1.1.trans hl
 have hcl:vs.toList.length=cs.length:=p3.1
 have hrun:=f5 hti (.of p2) (v:=vy) (q:=off) hvl (by rw [←Array.length_toList,hcl];omega) q2
 have hblk:kV (nm id)=some b:=by rw [e1];rfl
 refine Does.of_skip (hx _ hrun) ⟨VG nm id (nm id),?_,hundef _ _ _ _⟩
 have hst:eS nm id (nm id) (look st.sj id) (.box (cs.take off++ds++cs.drop (off+ds.length))):=by rw [hob];rfl
 refine h.upd id _ _ hmay hst ⟨rfl,rfl,rfl,by simp⟩ (fun b2 hb2=>?_) (fun b2 hb2=>.inl ⟨hb2,_,hob,.inl rfl⟩) ?_
 ·by_cases hbb:b2=b
  ·subst hbb;exact .inl ⟨_,hob,rfl,hblk⟩
  ·exact .inr (setRow_other w b b2 _ hbb)
 ·refine ⟨b,_,T,by rw [kW];exact e1,setRow_heap w b vs _ T (0,0) p2,?_,?_,fun T' hT=>?_⟩
  ·have hk:Kept w (w.setRow b (vs.toList.take off++vy.cells.toList++vs.toList.drop (off+ti.ty.cells)).toArray) (Zc w0 Z0 nm st.sj w)
    (Zc w0 Z0 (VG nm id (nm id)) (YE id (.box (cs.take off++ds++cs.drop (off+ds.length))) st.sj) (w.setRow b (vs.toList.take off++vy.cells.toList++vs.toList.drop (off+ti.ty.cells)).toArray)):=by
    rintro b2 ⟨z1,z2,z3⟩
    refine ⟨⟨by simpa using z1,z2,?_⟩,setRow_other w b b2 _ (fun hh=>z3 ⟨id,_,hob,rfl,by rw [hblk,hh]⟩)⟩
    rintro ⟨j,ob,y1,y2,y3⟩
    rw [fO] at y3
    by_cases hj:id=j
    ·subst hj;exact z3 ⟨id,_,hob,rfl,y3⟩
    ·rw [ke,if_neg hj] at y1
     exact z3 ⟨j,ob,y1,y2,y3⟩
   have key:Vx w (Zc w0 Z0 nm st.sj w) nm st.sj (cs.take off++ds++cs.drop (off+ds.length)) (vs.toList.take off++vy.cells.toList++vs.toList.drop (off+ti.ty.cells)):=by
    rw [hl]
    exact Uo (Uo (fL p3 off) q1) (i8 p3 _)
   simp only [List.toList_toArray]
   exact Hz hk (fun x _=>IL hob) key
  ·intro u hu
   simp only [List.toList_toArray,zq] at hu
   rcases List.mem_append.1 hu with hu | hu
   ·exact p4.1 u (List.mem_of_mem_take hu)
   ·rcases List.mem_append.1 hu with hu | hu
    ·exact q2 u hu
    ·exact p4.1 u (List.mem_of_mem_drop hu)
  ·rw [zq] at hT
   rcases List.mem_append.1 hT with hT | hT
   ·exact p4.2 T' (List.mem_of_mem_take hT)
   ·rcases List.mem_append.1 hT with hT | hT
    ·have:=hself _ hT;cases this
    ·exact p4.2 T' (List.mem_of_mem_drop hT)
def z6 {b:Bool} {dst:Nat} {T:TypeId} {ty:Ty} {cs:List At} {vs:List Value} {Z:Nat→Prop} {sj:List (Nat×Ob)} (h:Vx w Z nm sj cs vs):Vx w Z nm sj (NR b dst T ty cs) vs:=by
 unfold NR
 cases b with
 | false=>exact h
 | true=>
   simp only [zj]
   split
   ·rename_i d r
    refine ⟨h.1,fun i x v q1 q2=>?_⟩
    cases i with
    | zero=>
      simp only [List.getElem?_cons_zero,zd] at q1
      subst q1
      have hv:[v]=[Hl 0]:=h.2 0 _ v rfl q2
      obtain rfl:=(List.cons.inj hv).1
      exact ⟨rfl,fun _ _=>.inl rfl⟩
    | succ i=>exact h.2 (i+1) x v q1 q2
   ·rename_i d r
    refine ⟨h.1,fun i x v q1 q2=>?_⟩
    cases i with
    | zero=>
      simp only [List.getElem?_cons_zero,zd] at q1
      subst q1
      have hv:[v]=[Hl 0]:=h.2 0 _ v rfl q2
      obtain rfl:=(List.cons.inj hv).1
      exact ⟨rfl,fun _ _=>.inl rfl⟩
    | succ i=>exact h.2 (i+1) x v q1 q2
   ·exact h
def A0 {b:Bool} {dst:Nat} {T T':TypeId} {ty:Ty} {cs:List At} (hm:∀x∈cs,x.fj dst=false) (h:At.selfp dst T'∈NR b dst T ty cs):T'=T:=by
 have no:At.selfp dst T'∈cs→False:=fun hc=>by have:=hm _ hc;simp [At.fj] at this
 unfold NR at h
 cases b with
 | false=>exact (no h).elim
 | true=>
   simp only [zj] at h
   split at h
   ·rcases Z5.1 h with h | h
    ·injection h
    ·exact (no (zz _ h)).elim
   ·rcases Z5.1 h with h | h
    ·injection h
    ·exact (no (zz _ h)).elim
   ·exact (no h).elim
def Good.newBoxes (h:Rel n w0 Z0 st a w nm) {cs:List At} {u:kY} {l:List (Nat×(TypeId×Ty))} {idf:Nat→Nat} {cs0:List At} {cells:Array Value} {T:TypeId} {bs:Bool} {ty:Ty} (hno:look st.sj dst=none)
 (hrun:(execOp a.eval o).run P w=.ok (.value (.pointer (some ⟨w.heap.size,0,none⟩))) (w.alloc (.cells cells T)))
 (hrd:Vx w (Zc w0 Z0 nm st.sj w) nm st.sj cs0 cells.toList) (hown:HL true (look st.sj) idf l cs0=some (cs,u)) (hu:∀p∈u,p.1≠dst) (hm:∀x∈cs,x.fj dst=false) (hone:∀u∈cells.toList,u.oneCell'=true) :
 Good P n w0 Z0 st a w o ⟨.one (.ref dst 0),u++[(dst,.box (NR bs dst T ty cs))]⟩:=by
 intro st' hlay
 obtain ⟨st1,hl1,hmay,rfl⟩:=cG hlay
 obtain ⟨nm1,r1,r2,_⟩:=i7 (n:=n) (w0:=w0) (Z0:=Z0) (a:=a) (w:=w) l hown h (fun _ _=>rfl) hrd hl1
 have hno1:look st1.sj dst=none:=(UY u hl1 hu).trans hno
 have hnv:kV (.pointer (some ⟨w.heap.size,0,none⟩))=some w.heap.size:=rfl
 refine Does.of_run hrun ⟨VG nm1 dst (.pointer (some ⟨w.heap.size,0,none⟩)),?_,?_⟩
 ·refine r1.upd dst _ _ hmay (by rw [hno1];trivial) ⟨rfl,rfl,rfl,by simp⟩ (fun b hb=>.inr (heap_alloc_old w _ b hb)) (fun b hb=>?_) ?_
  ·simp only [kV,zd] at hb
   subst hb
   exact .inr ⟨zx _,by simp⟩
  ·refine ⟨w.heap.size,cells,T,kW _ _ _,heap_alloc_new w _,?_,hone,fun T' hT=>A0 hm hT⟩
   have hk:Kept w (w.alloc (.cells cells T)) (Zc w0 Z0 nm1 st1.sj w) (Zc w0 Z0 (VG nm1 dst (.pointer (some ⟨w.heap.size,0,none⟩))) (YE dst (.box (NR bs dst T ty cs)) st1.sj) (w.alloc (.cells cells T))):=by
    rintro b ⟨z1,z2,z3⟩
    refine ⟨⟨by simp;omega,z2,?_⟩,heap_alloc_old w _ b z1⟩
    rintro ⟨j,ob,y1,y2,y3⟩
    by_cases hj:dst=j
    ·subst hj
     rw [kW] at y3
     simp only [kV,zd] at y3
     omega
    ·rw [ke,if_neg hj] at y1
     rw [VU _ _ (Ne.symm hj)] at y3
     exact z3 ⟨j,ob,y1,y2,y3⟩
   exact z6 (Hz hk (fun x hx=>sG (hm x hx)) r2)
 ·exact ⟨rfl,fun _ _=>⟨_,kW _ _ _,rfl⟩⟩
def FB {t:TypeId} (ho:o.op=.alloc t):Uq P G o:=by
 intro hT n w0 w Z0 st a nm dst ρ k r h he
 unfold Jq at he
 rw [ho] at he
 simp only at he
 split at he
 ·rename_i ti h1
  obtain ⟨i,z,q1,q2,q3,q4,_⟩:=(hT _ _ h1).info
  have hrun:(execOp a.eval o).run P w=.ok (.value (.pointer (some ⟨w.heap.size,0,none⟩))) (w.alloc (.cells z.cells t)):=by simp [execOp,ho,Instr.alloc,zeroValue,typeInfo,q1,q3,newVar,newRow]
  cases hf:ti.ty.flat with
  | true=>
    rw [hf] at he
    simp only [zj] at he
    split at he
    ·rename_i hno
     split at he
     ·rename_i cs u hown
      cases hb:(u.all (fun q=>!Nat.beq q.1 dst)&&cs.all (fun x=>!x.fj dst)) with
      | false=>rw [hb] at he;cases he
      | true=>
        rw [hb] at he
        simp only [zj] at he
        rw [ze] at hb
        exact ⟨_,he,Good.newBoxes h hno hrun (bZ _ hf q4) hown (fun p hp=>by
         have:=(zy.1 hb.1) p hp
         simp only [Z3] at this
         exact Yi.1 this) (fun x hx=>by simpa using (zy.1 hb.2) x hx) (NX _ q4)⟩
     ·cases he
    ·cases he
  | false=>
    rw [hf] at he
    simp only [zk] at he
    have hzl:=Hp _ q4
    split at he
    ·rename_i ver hver
     split at he
     ·rename_i m s n' e' _
      cases hb:(Nat.blt 0 m&&Nat.ble m 1048576) with
      | false=>rw [hb] at he;cases he
      | true=>
        rw [hb] at he
        simp only [zj] at he
        rw [ze] at hb
        have hb2:=Nat.le_of_ble_eq_true hb.2
        refine ⟨_,he,Good.newPtr (u:=[]) h (fun p hp=>by cases hp) (fun p hp=>by cases hp) (xE (hT _ _ h1) hb.1) hver hrun ?_ ?_ (fun st1 _=>?_)⟩
        ·rw [List.length_replicate,←Array.length_toList];exact hzl
        ·rw [List.length_replicate];simp only [maxLen];omega
        ·exact o6 (fun _ h=>Nb s h) q4
     ·rename_i s fs _
      refine ⟨_,he,Good.newPtr (u:=[]) h (fun p hp=>by cases hp) (fun p hp=>by cases hp) rfl hver hrun ?_ ?_ (fun st1 _=>?_)⟩
      ·rw [←Array.length_toList];simpa using hzl
      ·simp [maxLen]
      ·exact ⟨z.cells.toList,[],by simp,Nb (.st s) q4,rfl⟩
     ·cases he
    ·cases he
 ·cases he
def KU (h:Rel n w0 Z0 st a w nm) {x:Operand} {d:Dv} {m:Int} (hx:kS st x=some d) (hl:lenOf (look st.sj) d=some m) :
 ∃ad c,a.eval x=.slice ad m.toNat c∧0≤m∧m.toNat≤maxLen:=by
 have hr:=Yd h hx
 unfold lenOf at hl
 split at hl
 ·cases hl
  exact ⟨none,0,hr,Int.le_refl _,by simp⟩
 ·rename_i t xs
  cases hl
  obtain ⟨v,e,hv⟩:=(show kT w (Zc w0 Z0 nm st.sj w) (.sl t) [a.eval x] xs from hr)
  simp only [List.cons.injEq,and_true] at e
  rw [e]
  rcases hv with ⟨rfl,hd⟩ | ⟨b,off,cap,cells,rfl,h1,h2,_⟩ | ⟨ad,cap,rfl,hd,h1⟩
  ·have hd:xs=[]:=hd
   subst hd
   exact ⟨none,0,rfl,Int.le_refl _,by simp⟩
  ·exact ⟨_,cap,rfl,by omega,by simp;omega⟩
  ·have hd:xs=[]:=hd
   subst hd
   exact ⟨some ad,cap,rfl,Int.le_refl _,by simp⟩
 ·rename_i id ver
  split at hl
  ·rename_i v fz e t xs ho
   cases hb:(Nat.beq v ver && !t.wj) with
   | false=>rw [hb] at hl;cases hl
   | true=>
     rw [hb] at hl
     simp only [zj,zd] at hl
     subst hl
     rw [ze] at hb
     have:=Jx.1 hb.1
     subst this
     have hv:=hr.2 fz e t xs ho
     obtain ⟨cells,h1,_⟩:=rdArr.sl (h.sj id _ ho) (by simpa using hb.2)
     rw [hv]
     rcases h1.2 with ⟨e1,e2⟩ | ⟨g,cap,cur,e1,_,e3,e4,_⟩
     ·rw [e1];exact ⟨none,0,by rw [e2];rfl,by omega,by simp [e2]⟩
     ·rw [e1];exact ⟨_,cap,rfl,by omega,by simp;omega⟩
  ·cases hl
 ·rename_i id ver lo q
  split at hl
  ·rename_i v fz e t xs ho
   cases hb:(Nat.beq v ver && !t.wj) with
   | false=>rw [hb] at hl;cases hl
   | true=>
     rw [hb] at hl
     simp only [zj,zd] at hl
     subst hl
     rw [ze] at hb
     have:=Jx.1 hb.1
     subst this
     obtain ⟨h1,h2⟩:=hr.2 fz e t xs ho
     obtain ⟨g1,g2,_⟩:=oH h2
     rcases h1 with ⟨_,e1,e2⟩ | ⟨b,q1,c,g,c',_,e2,_,e4,e5⟩
     ·rw [e1,e2];exact ⟨none,0,rfl,Int.le_refl _,by simp⟩
     ·rw [e2];exact ⟨_,c',rfl,g2,by omega⟩
  ·cases hl
 ·cases hl
def OT {t:TypeId} {x:Operand} (ho:o.op=.box t x):Uq P G o:=by
 intro hT n w0 w Z0 st a nm dst ρ k r h he
 unfold Jq at he
 rw [ho] at he
 simp only at he
 split at he
 ·rename_i ti d h1 h2
  have hrun:(execOp a.eval o).run P w=.ok (.value (.pointer (some ⟨w.heap.size,0,none⟩))) (w.alloc (.cells (a.eval x).cells t)):=by simp [execOp,ho,Instr.box,newVar,newRow]
  have cold:(match bE (look st.sj) ti.ty d with
   | some (y,[])=>k ⟨.one (.fptr ti.ty y),[]⟩
   | _=>none)=some r → ∃e:Eff,k e=some r∧Good P n w0 Z0 st a w o e:=by
   intro he
   split at he
   ·rename_i y hy
    obtain ⟨fu,frd⟩:=aI (n:=n) (w0:=w0) (w:=w) (Z0:=Z0) (a:=a) (nm:=nm) hy
    obtain ⟨st1,hl1⟩:=FzUpd.lays [] h fu
    obtain ⟨hrel,hfz,hcold⟩:=Rel.freezes [] h fu hl1
    simp only [kO,zd] at hl1
    subst hl1
    have hv:=frd st ⟨hfz,hrel,hcold⟩ (a.eval x) (Yd h h2)
    have hk:Kept w (w.alloc (.cells (a.eval x).cells t)) (Zc w0 Z0 nm st.sj w) (Zc w0 Z0 nm st.sj (w.alloc (.cells (a.eval x).cells t))):=
     fun b ⟨q1,q2,q3⟩=>⟨⟨Z2 q1 (Same.alloc w _).size,q2,q3⟩,(Same.alloc w _).block b q1⟩
    refine ⟨_,he,Good.grow h hrun (Same.alloc w _) ⟨w.heap.size,0,(a.eval x).cells.toList,rfl,⟨by simp,fun hlt=>?_,?_⟩,YJ hk _ (HA hv),fun j u hj=>?_⟩⟩
    ·have:=h.same.size;omega
    ·rintro ⟨id,ob,e1,_,e3⟩
     have:=(h.new id ob _ e1 e3).2
     omega
    ·have h0:=heap_alloc_new w (.cells (a.eval x).cells t)
     simp only [World.cell?,h0,zv]
     simpa using hj
   ·cases he
  cases hl5:JK (8500000+dst) G.muts with
  | true=>
    rw [hl5] at he
    simp only [zj] at he
    split at he
    ·rename_i m hm
     refine ⟨_,he,Good.grow h hrun (Same.alloc w _) ?_⟩
     obtain ⟨ad,c,e1,e2,e3⟩:=KU h h2 hm
     refine ⟨w.heap.size,0,(a.eval x).cells.toList,rfl,⟨by simp,fun hlt=>?_,?_⟩,?_,fun j u hj=>?_⟩
     ·have:=h.same.size;omega
     ·rintro ⟨id,ob,f1,_,f3⟩
      have:=(h.new id ob _ f1 f3).2
      omega
     ·rw [e1];exact ⟨ad,c,rfl,e2,e3⟩
     ·have h0:=heap_alloc_new w (.cells (a.eval x).cells t)
      simp only [World.cell?,h0,zv]
      simpa using hj
    ·cases he
  | false=>
  rw [hl5] at he
  simp only [zk] at he
  cases hl6:JK (8600000+dst) G.muts with
  | true=>
    rw [hl6] at he
    exact cold he
  | false=>
  rw [hl6] at he
  simp only [zk] at he
  cases hf:ti.ty.flat with
  | true=>
    rw [hf] at he
    simp only [zj] at he
    split at he
    ·rename_i cs hcs
     split at he
     ·rename_i hno
      have hr:=mI (Yd h h2) hcs
      cases hmu:JK dst G.muts with
      | true=>
        rw [hmu] at he
        simp only [zj] at he
        split at he
        ·rename_i cs' u hown
         cases hb:(Nat.beq cs.length ti.ty.cells&&u.all (fun q=>!Nat.beq q.1 dst)&&cs'.all (fun x=>!x.fj dst)) with
         | false=>rw [hb] at he;cases he
         | true=>
           rw [hb] at he
           simp only [zj] at he
           rw [ze,ze] at hb
           exact ⟨_,he,Good.newBoxes (bs:=true) (ty:=ti.ty) (cells:=(a.eval x).cells) (T:=t) h hno hrun hr.1 hown (fun p hp=>by
            have:=(zy.1 hb.1.2) p hp
            simp only [Z3] at this
            exact Yi.1 this) (fun x hx=>by simpa using (zy.1 hb.2) x hx) hr.2⟩
        ·cases he
      | false=>
      rw [hmu] at he
      simp only [zk] at he
      cases hb:Nat.beq cs.length ti.ty.cells with
      | false=>rw [hb] at he;cases he
      | true=>
        rw [hb] at he
        exact ⟨_,he,Good.newBox h hno (cells:=(a.eval x).cells) (T:=t) hrun hr.1 (fun hf=>IY hcs (MT hf h2)) hr.2⟩
     ·cases he
    ·cases he
  | false=>
    rw [hf] at he
    simp only [zk] at he
    cases hz:JK (8000000+dst) G.muts with
    | true=>
      rw [hz] at he
      exact cold he
    | false=>
    rw [hz] at he
    simp only [zk] at he
    split at he
    ·rename_i ver y u hver hy
     cases hb:(u.all fun q=>!Nat.beq q.1 dst) with
     | false=>rw [hb] at he;cases he
     | true=>
       rw [hb] at he
       simp only [zj] at he
       have hnu:∀p∈u,p.1≠dst:=by
        intro p hp
        have:=(zy.1 hb) p hp
        simp only [Z3] at this
        exact Yi.1 this
       obtain ⟨fu,frd⟩:=aI (n:=n) (w0:=w0) (w:=w) (Z0:=Z0) (a:=a) (nm:=nm) hy
       have hvr:∀st1,Frozen n w0 Z0 st st1 a w nm u→Ux w (Zc w0 Z0 nm st1.sj w) ti.ty (a.eval x) y:=fun st1 hfr=>
        frd st1 hfr (a.eval x) (Uu (fun b hb=>⟨hfr.fz.zc hb,fun _ _ hu=>hu⟩) (DvOk.refl _ _ _) (Yd h h2))
       obtain ⟨st1,hl1⟩:=FzUpd.lays u h fu
       obtain ⟨hrel,hfz,hcold⟩:=Rel.freezes u h fu hl1
       have hvl:=Yy _ (HA (hvr st1 ⟨hfz,hrel,hcold⟩))
       split at he
       ·rename_i m s n' e' y _
        cases hb:(Nat.blt 0 m&&Nat.ble m 1048576) with
        | false=>rw [hb] at he;cases he
        | true=>
          rw [hb] at he
          simp only [zj] at he
          rw [ze] at hb
          have hb2:=Nat.le_of_ble_eq_true hb.2
          have hyl:List.length (show List s.den from y)=m:=(HA (hvr st1 ⟨hfz,hrel,hcold⟩)).1
          refine ⟨_,he,Good.newPtr h fu hnu (xE (hT _ _ h1) hb.1) hver hrun ?_ ?_ (fun st1 hfr=>?_)⟩
          ·rw [←Array.length_toList,hvl]
           show m*s.cells=_
           rw [←hyl]
          ·have:(show List s.den from y).length≤maxLen:=by rw [hyl];simp only [maxLen];omega
           exact this
          ·exact (HA (hvr st1 hfr)).2
       ·rename_i s fs y _
        refine ⟨_,he,Good.newPtr h fu hnu rfl hver hrun ?_ ?_ (fun st1 hfr=>?_)⟩
        ·rw [←Array.length_toList,hvl];simp
        ·simp [maxLen]
        ·exact ⟨(a.eval x).cells.toList,[],by simp,HA (hvr st1 hfr),rfl⟩
       ·cases he
    ·cases he
 ·cases he
def FH {t:TypeId} {x y:Operand} (ho:o.op=.store t x y):Uq P G o:=by
 intro hT n w0 w Z0 st a nm dst ρ k r h he
 unfold Jq at he
 rw [ho] at he
 simp only at he
 split at he
 ·rename_i ti p d h1 h2 h3
  have hti:=hT _ _ h1
  have hr:=Yd h h2
  have hx:∀v w',a.eval x=v→(Instr.storeAt t v (a.eval y)).run P w=.ok () w'→(execOp a.eval o).run P w=.ok .skip w':=by
   intro v w' q1 q2
   simp [execOp,ho,q1,q2]
  have hundef:∀(w:World) (Z:Nat→Prop) (nm:JY) (sj:List (Nat×Ob)),Vf w Z nm sj (.tup []) undef:=fun w Z nm sj=>⟨#[],rfl,aD⟩
  split at he
  ·
   rename_i id off
   split at he
   ·rename_i cs ds0 hob hds
    split at he
    ·rename_i ds u hown
     cases hb:(Nat.beq ds.length ti.ty.cells&&Nat.ble (off+ds.length) cs.length&&u.all (fun q=>!Nat.beq q.1 id)&&ds.all (fun x=>!x.isSelf)) with
     | false=>rw [hb] at he;cases he
     | true=>
       rw [hb] at he
       simp only [zj] at he
       rw [ze] at hb
       obtain ⟨hb,hsf⟩:=hb
       have hsf:∀x∈ds,x.isSelf=false:=fun x hx=>by simpa using (zy.1 hsf) x hx
       rw [ze,ze] at hb
       have hl:=Jx.1 hb.1.1
       have hle:=Nat.le_of_ble_eq_true hb.1.2
       have hnu:∀p∈u,p.1≠id:=by
        intro p hp
        have:=(zy.1 hb.2) p hp
        simp only [Z3] at this
        exact Yi.1 this
       obtain ⟨b,e1,e2⟩:=hr.2 cs hob
       obtain ⟨q1,q2⟩:=mI (Yd h h3) hds
       refine ⟨_,he,fun st' hlay=>?_⟩
       obtain ⟨st1,hl1,hmay,rfl⟩:=cG hlay
       obtain ⟨nm1,r1,r2,r3⟩:=i7 (n:=n) (w0:=w0) (Z0:=Z0) (a:=a) (w:=w) _ hown h (fun _ _=>rfl) q1 hl1
       have hob1:look st1.sj id=some (.box cs):=(UY u hl1 hnu).trans hob
       exact Does.storeBox r1 hti hob1 hl hle (by rw [r3 id hnu];exact e1) r2 q2 hsf hmay (fun w' hw=>hx _ _ e2 hw)
    ·cases he
   ·cases he
  ·
   rename_i id ver i sz off
   split at he
   ·rename_i z u hz
    split at he
    ·rename_i v e s xs hob
     cases hb:(Nat.beq v ver&&(u.all fun q=>!Nat.beq q.1 id)) with
     | false=>rw [hb] at he;cases he
     | true=>
       rw [hb] at he
       simp only [zj] at he
       rw [ze] at hb
       have:=Jx.1 hb.1
       subst this
       have hnu:∀p∈u,p.1≠id:=by
        intro p hp
        have:=(zy.1 hb.2) p hp
        simp only [Z3] at this
        exact Yi.1 this
       obtain ⟨y0,hy,he⟩:=ki he
       obtain ⟨i1,i2,i3⟩:=eD hy
       split at he
       ·rename_i y' hy'
        refine ⟨_,he,fun st' hlay=>?_⟩
        obtain ⟨st1,hlu,hmay,rfl⟩:=cG hlay
        obtain ⟨fu,frd⟩:=aI (n:=n) (w0:=w0) (w:=w) (Z0:=Z0) (a:=a) (nm:=nm) hz
        obtain ⟨hrel,hfz,hcold⟩:=Rel.freezes u h fu hlu
        have hob1:look st1.sj id=some (.arr v false e s xs):=by rw [UY u hlu hnu];exact hob
        have hk1:Kept w w (Zc w0 Z0 nm st.sj w) (Zc w0 Z0 nm st1.sj w):=fun b hb=>⟨hfz.zc hb,rfl⟩
        have hvr:=frd st1 ⟨hfz,hrel,hcold⟩ (a.eval y) (Uu hk1 (DvOk.refl _ _ _) (Yd h h3))
        have hvc:=HA hvr
        obtain ⟨s1,s2,s3,b,m,c,s4,s5⟩:=hr.2 false e s xs hob
        subst s1
        obtain ⟨hmap,cells,t1,t2⟩:=(hrel.sj id _ hob1).of s4
        obtain ⟨c1,c2,c3,r1,r2,r3,r4,r5⟩:=eJ (fun _ _=>Yy s) t2 i3
        obtain ⟨d1,d2,d3,u1,u2,u3,u4⟩:=BS hvc hy' r3
        rcases t1.2 with ⟨t3,_⟩ | ⟨g,cap,cur,t3,t4,t5,t6,t7,t8⟩
        ·rw [s4] at t3;cases t3
        ·have hbg:b=g:=by rw [s4] at t3;injection t3 with a1 _ _;injection a1 with a1;injection a1
         subst hbg
         have hblk:kV (nm id)=some b:=by rw [s4];rfl
         have hcells:cells.length=xs.length*s.cells:=t1.1
         have hcur:cur.toList=(c1++d1)++d2++(d3++c3++cur.toList.drop (xs.length*s.cells)):=by
          have:cur.toList=cells++cur.toList.drop (xs.length*s.cells):=by rw [←t8,List.take_append_drop]
          refine this.trans ?_
          rw [r1,u1]
          simp [zq]
         have hq:(c1++d1).length=i.toNat*s.cells+off:=by rw [zf,r2,u2]
         have hfit:i.toNat*s.cells+off+ti.ty.cells≤cur.size:=by
          rw [←Array.length_toList,hcur,zf,zf,hq,u3];omega
         have hrun:=f5 hti t4 (v:=a.eval y) (q:=i.toNat*s.cells+off) (Yy _ hvc) hfit (HS _ hvc)
         have hnewcur:cur.toList.take (i.toNat*s.cells+off)++(a.eval y).cells.toList++cur.toList.drop (i.toNat*s.cells+off+ti.ty.cells) =
          (c1++(d1++(a.eval y).cells.toList++d3)++c3)++cur.toList.drop (xs.length*s.cells):=by
          have:=fU (c1++d1) d2 (d3++c3++cur.toList.drop (xs.length*s.cells)) (a.eval y).cells.toList _ _ hq u3
          rw [←hcur] at this
          rw [this]
          simp [zq]
         have hlen2:(c1++(d1++(a.eval y).cells.toList++d3)++c3).length=xs.length*s.cells:=by
          have h1:=Yy _ hvc
          have h2:cells.length=(c1++(d1++d2++d3)++c3).length:=by rw [r1,u1]
          rw [←hcells,h2]
          simp only [zf,h1,u3]
         rw [hnewcur] at hrun
         refine Does.of_skip (hx _ _ s5 hrun) ⟨VG nm id (nm id),?_,hundef _ _ _ _⟩
         have hxl:(xs.set i.toNat y').length=xs.length:=List.length_set
         refine hrel.upd id _ _ hmay (by rw [hob1];exact fun _=>⟨rfl,rfl,rfl,hxl⟩) ⟨rfl,rfl,rfl,by simp⟩ (fun b2 hb2=>?_) (fun b2 hb2=>.inl ⟨hb2,_,hob1,.inl rfl⟩) ?_
         ·by_cases hbb:b2=b
          ·subst hbb;exact .inl ⟨_,hob1,rfl,hblk⟩
          ·exact .inr (setRow_other w b b2 _ hbb)
         ·have hk:Kept w (w.setRow b ((c1++(d1++(a.eval y).cells.toList++d3)++c3)++cur.toList.drop (xs.length*s.cells)).toArray) (Zc w0 Z0 nm st1.sj w)
           (Zc w0 Z0 (VG nm id (nm id)) (YE id (.arr v false e s (xs.set i.toNat y')) st1.sj) (w.setRow b ((c1++(d1++(a.eval y).cells.toList++d3)++c3)++cur.toList.drop (xs.length*s.cells)).toArray)):=by
           rintro b2 ⟨z1,z2,z3⟩
           refine ⟨⟨by simpa using z1,z2,?_⟩,setRow_other w b b2 _ (fun hh=>z3 ⟨id,_,hob1,rfl,by rw [hblk,hh]⟩)⟩
           rintro ⟨j,ob,y1,y2,y3⟩
           rw [fO] at y3
           by_cases hj:id=j
           ·subst hj;exact z3 ⟨id,_,hob1,rfl,y3⟩
           ·rw [ke,if_neg hj] at y1
            exact z3 ⟨j,ob,y1,y2,y3⟩
          refine .inl ⟨hmap,c1++(d1++(a.eval y).cells.toList++d3)++c3,?_,?_⟩
          ·rw [kW,hxl]
           have hns:((c1++(d1++(a.eval y).cells.toList++d3)++c3)++cur.toList.drop (xs.length*s.cells)).toArray.size=cur.size:=by
            have:=congrArg List.length hnewcur
            rw [List.size_toArray,←this,zf,zf,List.length_take,zu,Yy _ hvc,Array.length_toList]
            omega
           refine ⟨hlen2,.inr ⟨b,cap,_,t3,t4.set hns,t5,t6,hns.trans t7,?_⟩⟩
           ·simp only [List.toList_toArray]
            rw [←hlen2,List.take_left]
          ·have hset:xs.set i.toNat y'=xs.take i.toNat++(y'::xs.drop (i.toNat+1)):=by rw [List.set_eq_take_append_cons_drop,if_pos i2]
           have key:YF (kT _ _ s) (c1++(d1++(a.eval y).cells.toList++d3)++c3) (xs.take i.toNat++(y'::xs.drop (i.toNat+1))):=VE.2 ⟨c1,(d1++(a.eval y).cells.toList++d3)++c3,by rw [zq],VF (fun _ _=>YJ hk.weak s) r4,_,_,rfl,YJ hk.weak s u4,VF (fun _ _=>YJ hk.weak s) r5⟩
           rw [←hset] at key
           exact key
       ·cases he
    ·cases he
   ·cases he
  ·cases he
 ·cases he
end
end Go.Ql
end

section
namespace Go.Ql
def bV (w:World) (Z:Nat→Prop) (ts:List Ty) (x:YL ts) (v:Value):Prop:=
 match ts,x with
 | [t],x=>Ux w Z t v x
 | ts,x=>∃vs,v=.tuple vs∧Ng w Z ts x vs.toList
def aQ (w w':World) (Z:Nat→Prop) (b:Nat):Prop:=Z b∨(w.heap.size≤b∧b<w'.heap.size)
structure vj [GInv] (P:Program) (f:FuncId) (ce:Callee):Prop where
 fn : ∃ fn, P.funcs[f]? = some fn ∧ (fn.name == "runtime.NumGoroutine") = false ∧ fn.body.isNone = false
 calls:∀(w:World) (Z:Nat→Prop) (vs:List Value) (x:YL ce.params) (r:YL ce.res),GInv.ok w→(∀b,Z b→b<w.heap.size)→Ng w Z ce.params x vs→ce.F x=some r →
  Calls P f vs.toArray w fun e w'=>∃v,e=.returned v∧Same w w'∧bV w' (aQ w w' Z) ce.res r v
def sB [GInv] (P:Program) (fns:List (Nat×Callee)):Prop:=∀f ce,look fns f=some ce→vj P f ce
section
variable [GInv] {P:Program} {G:Env} {n:Nat} {w0 w w':World} {Z0:Bs} {Z Z':Nat→Prop} {st st1:St} {a:Act} {nm:JY} {o:Oper} {dst:Nat} {ρ:Type} {k:Eff→Option ρ} {r:ρ}
def bI:∀(t:Ty) {cs:List Value} {d:t.den},t.free=true→kT w Z t cs d→kT w' Z' t cs d
 | .bool,_,_,_,h=>h
 | .int _,_,_,_,h=>h
 | .str,_,_,_,h=>h
 | .sl _,_,_,hf,_=>by simp [Ty.free] at hf
 | .st t,_,_,hf,h=>bI t hf h
 | .unit,_,_,_,h=>h
 | .pair a b,_,_,hf,⟨c1,c2,e,h1,h2⟩=>by
   simp only [Ty.free,ze] at hf
   exact ⟨c1,c2,e,bI a hf.1 h1,bI b hf.2 h2⟩
 | .ar _ t,_,_,hf,⟨h1,h2⟩=>⟨h1,VF (fun _ _ h=>bI t hf h) h2⟩
 | .nilv _,_,_,_,h=>h
 | .ifc _ t,_,_,hf,⟨u,us,e,h1,h2⟩=>⟨u,us,e,h1,bI t hf h2⟩
 | .nn,_,_,_,h=>h
 | .len,_,_,_,h=>h
 | .fl _,_,_,hf,_=>by simp [Ty.free] at hf
def rW {t:Ty} {v:Value} {d:t.den} (hf:t.free=true) (h:Ux w Z t v d):Ux w' Z' t v d:=by
 cases t with
 | st s=>obtain ⟨cs,e,h⟩:=h;exact ⟨cs,e,bI s hf h⟩
 | ar m s=>obtain ⟨cs,e,h⟩:=h;exact ⟨cs,e,bI (.ar m s) hf h⟩
 | _=>exact bI (w:=w) (Z:=Z) _ hf h
def cJ (hk:Kept w w' Z Z'):∀(ts:List Ty) {x:YL ts} {vs:List Value},Ng w Z ts x vs→Ng w' Z' ts x vs
 | [],_,_,h=>h
 | [_],_,_,⟨v,e,h⟩=>⟨v,e,bJ hk h⟩
 | _::t'::ts,_,_,⟨v,r,e,h1,h2⟩=>⟨v,r,e,bJ hk h1,cJ hk (t'::ts) h2⟩
def q7:∀(ts:List Ty) {x:YL ts} {vs:List Value},ts.all Ty.free=true→Ng w Z ts x vs→Ng w' Z' ts x vs
 | [],_,_,_,h=>h
 | [t],_,_,hf,⟨v,e,h⟩=>⟨v,e,rW (by simpa using hf) h⟩
 | t::t'::ts,_,_,hf,⟨v,r,e,h1,h2⟩=>by
   rw [List.all_cons,ze] at hf
   exact ⟨v,r,e,rW hf.1 h1,q7 (t'::ts) hf.2 h2⟩
def o8 {sj:List (Nat×Ob)}:∀(ts:List Ty) {x:YL ts} {vs:List Value},Ng w Z ts x vs→Vx w Z nm sj (zQ ts x) vs
 | [],_,_,h=>by have h:_=_:=h;subst h;exact aD
 | [t],x,_,⟨v,e,h⟩=>by subst e;exact Yu (x:=.val t x) h
 | t::t'::ts,x,_,⟨v,r,e,h1,h2⟩=>by
   subst e
   exact Uo (c1:=[.val t x.1]) (v1:=[v]) (Yu (x:=.val t x.1) h1) (o8 (t'::ts) h2)
def zR {sj:List (Nat×Ob)} {ts:List Ty} {x:YL ts} {v:Value} (h:bV w Z ts x v):Vf w Z nm sj (DQ ts x) v:=by
 match ts,x,h with
 | [],_,⟨vs,e,h⟩=>exact ⟨vs,e,o8 [] h⟩
 | [t],_,h=>exact h
 | t::t'::ts,_,⟨vs,e,h⟩=>exact ⟨vs,e,o8 (t::t'::ts) h⟩
def DP (hk:Kept w w' Z Z') {ts:List Ty} {x:YL ts} {v:Value} (h:bV w Z ts x v):bV w' Z' ts x v:=by
 match ts,x,h with
 | [],_,⟨vs,e,h⟩=>exact ⟨vs,e,h⟩
 | [t],_,h=>exact bJ hk h
 | t::t'::ts,_,⟨vs,e,h⟩=>exact ⟨vs,e,cJ hk (t::t'::ts) h⟩
def DO {ts:List Ty} {x:YL ts} {v:Value} (hf:ts.all Ty.free=true) (h:bV w Z ts x v):bV w' Z' ts x v:=by
 match ts,x,hf,h with
 | [],_,_,⟨vs,e,h⟩=>exact ⟨vs,e,h⟩
 | [t],_,hf,h=>exact rW (by simpa using hf) h
 | t::t'::ts,_,hf,⟨vs,e,h⟩=>exact ⟨vs,e,q7 (t::t'::ts) hf h⟩
def mJ (h:Rel n w0 Z0 st a w nm):∀{l:List Operand} {ds:List Dv},NV (kS st) l=some ds→ds.length=l.length ∧ ∀(i:Nat) d v,ds[i]?=some d→(l.map a.eval)[i]?=some v→Vf w (Zc w0 Z0 nm st.sj w) nm st.sj d v
 | [],ds,he=>by simp only [NV,zd] at he;subst he;exact ⟨rfl,fun i d v q _=>by simp at q⟩
 | x::l,ds,he=>by
   simp only [NV] at he
   split at he
   ·rename_i d l' h1 h2
    cases he
    obtain ⟨q1,q2⟩:=mJ h h2
    refine ⟨by simp [q1],fun i d v q q'=>?_⟩
    cases i with
    | zero=>simp at q q';subst q;subst q';exact Yd h h1
    | succ i=>exact q2 i d v (by simpa using q) (by simpa using q')
   ·cases he
def rU {w:World} {Z:Nat→Prop} {sj:List (Nat×Ob)}:∀{ds:List Dv} {cs:List At} {vs:List Value},bS ds=some cs→vs.length=ds.length →
 (∀(i:Nat) d v,ds[i]?=some d→vs[i]?=some v→Vf w Z nm sj d v)→Vx w Z nm sj cs vs
 | [],cs,vs,h,hl,_=>by
   simp only [bS,zd] at h
   subst h
   have:vs=[]:=zl hl
   subst this
   exact aD
 | .one x::ds,cs,vs,h,hl,hr=>by
   simp only [bS] at h
   split at h
   ·rename_i l h1
    cases h
    match vs,hl with
    | v::vs,hl=>
      exact Uo (c1:=[x]) (v1:=[v]) (Yu (hr 0 (.one x) v rfl rfl)) (rU h1 (by simpa using hl) fun i d v q1 q2=>hr (i+1) d v (by simpa using q1) (by simpa using q2))
   ·cases h
 | .agg _::_,_,_,h,_,_=>by simp [bS] at h
 | .tup _::_,_,_,h,_,_=>by simp [bS] at h
def sN (h:Rel n w0 Z0 st a w nm) {c:Call} {x:Operand} (ho:o.op=.call c) (hc:c.callee=.value x) {f:Nat} {fs cs as:List Dv}
 (h1:cS (look st.sj) (kS st x)=some (f,fs,cs)) (h2:NV (kS st) c.args.toList=some as) :
 ∃vs:List Value,vs.length=(fs++as++cs).length∧(∀(i:Nat) d v,(fs++as++cs)[i]?=some d→vs[i]?=some v→Vf w (Zc w0 Z0 nm st.sj w) nm st.sj d v) ∧
  ∀ fn, P.funcs[f]? = some fn → (fn.name == "runtime.NumGoroutine") = false → fn.body.isNone = false → (execOp a.eval o).run P w = .ok (.enter f vs.toArray) w := by
 obtain ⟨l1,l2⟩:=mJ h h2
 have key : ∀ vx vy : Array Value, a.eval x = .func (.func f) vx vy → ∀ fn, P.funcs[f]? = some fn → (fn.name == "runtime.NumGoroutine") = false → fn.body.isNone = false →
  (execOp a.eval o).run P w=.ok (.enter f (vx++c.args.map a.eval++vy)) w:=by
  intro vx vy hv fn f1 f2 f3
  have f2' : ¬ fn.name = "runtime.NumGoroutine" := by simpa using f2
  have f3':¬fn.body=none:=by intro hh;rw [hh] at f3;cases f3
  simp [execOp,ho,resolve,hc,hv,Deferred.ofValue,invoke,callFunc,f1,f2',f3']
 have hfun:∀vx vy:Array Value,(vx++c.args.map a.eval++vy)=(vx.toList++c.args.toList.map a.eval++vy.toList).toArray:=by
  intro vx vy
  apply Array.ext'
  simp
 unfold cS at h1
 split at h1
 ·rename_i g hx
  cases h1
  have hv:a.eval x=.func (.func f) #[] #[]:=Yd h hx
  refine ⟨c.args.toList.map a.eval,by simp [l1],fun i d v q1 q2=>l2 i d v (by simpa using q1) q2,fun fn f1 f2 f3=>?_⟩
  rw [key _ _ hv fn f1 f2 f3,hfun]
  simp
 ·rename_i id hx
  split at h1
  ·rename_i g p q hob
   cases h1
   have hv:a.eval x=nm id:=(Yd h hx).2 f p q hob
   obtain ⟨vx,vy,e1,r1,r2⟩:=h.sj id _ hob
   refine ⟨vx.toList++c.args.toList.map a.eval++vy.toList,by simp [l1,r1.1.symm,r2.1.symm],?_,fun fn f1 f2 f3=>?_⟩
   ·intro i d v q1 q2
    have lx:vx.toList.length=(p.map Dv.one).length:=by rw [List.length_map];exact r1.1
    rw [zq] at q1 q2
    by_cases hi:i<vx.toList.length
    ·rw [List.getElem?_append_left (by omega)] at q1
     rw [List.getElem?_append_left hi] at q2
     rw [List.getElem?_map,Z8] at q1
     obtain ⟨y,y1,rfl⟩:=q1
     exact r1.2 i y v y1 q2
    ·rw [zt (by omega)] at q1
     rw [zt (by omega)] at q2
     rw [←lx] at q1
     by_cases hi2:i-vx.toList.length<as.length
     ·rw [List.getElem?_append_left hi2] at q1
      rw [List.getElem?_append_left (by simpa [←l1] using hi2)] at q2
      exact l2 _ d v q1 q2
     ·rw [zt (by omega)] at q1
      rw [zt (by rw [List.length_map,←l1];omega),List.length_map,←l1] at q2
      rw [List.getElem?_map,Z8] at q1
      obtain ⟨y,y1,rfl⟩:=q1
      exact r2.2 _ y v y1 q2
   ·rw [key _ _ (hv.trans e1) fn f1 f2 f3,hfun]
  ·cases h1
 ·cases h1
def GL (h:Rel n w0 Z0 st a w nm) {f:Nat} {ce:Callee} (hce:vj P f ce) {ds:List Dv} {vs:List Value} (l1:vs.length=ds.length)
 (l2:∀(i:Nat) d v,ds[i]?=some d→vs[i]?=some v→Vf w (Zc w0 Z0 nm st.sj w) nm st.sj d v)
 (hrun : ∀ fn, P.funcs[f]? = some fn → (fn.name == "runtime.NumGoroutine") = false → fn.body.isNone = false → (execOp a.eval o).run P w = .ok (.enter f vs.toArray) w)
 {xs:YL ce.params} {u:kY} (hxs:args (look st.sj) ce.params ds=some (xs,u)) {res:YL ce.res} (hres:ce.F xs=some res) :
 Good P n w0 Z0 st a w o ⟨DQ ce.res res,bif ce.res.all Ty.free then [] else u⟩:=by
 obtain ⟨⟨fn,f1,f2,f3⟩,hcalls⟩:=hce
 have hrun:=hrun fn f1 f2 f3
 obtain ⟨fu,frd⟩:=uB (n:=n) (w0:=w0) (w:=w) (Z0:=Z0) (a:=a) (nm:=nm) ce.params hxs
 have key:∀(st1:St),kO st u=some st1→Ng w (Zc w0 Z0 nm st1.sj w) ce.params xs vs∧Rel n w0 Z0 st1 a w nm:=by
  intro st1 hl
  obtain ⟨hrel,hfz,hcold⟩:=Rel.freezes u h fu hl
  have hk1:Kept w w (Zc w0 Z0 nm st.sj w) (Zc w0 Z0 nm st1.sj w):=fun b hb=>⟨hfz.zc hb,rfl⟩
  exact ⟨frd st1 ⟨hfz,hrel,hcold⟩ _ l1 (fun i d v q1 q2=>Uu hk1 (DvOk.refl _ _ _) (l2 i d v q1 q2)),hrel⟩
 intro st' hlay
 cases hfree:ce.res.all Ty.free with
 | true=>
   simp only [hfree,zj] at hlay
   simp only [kO,zd] at hlay
   subst hlay
   obtain ⟨st1,hl1⟩:=FzUpd.lays u h fu
   obtain ⟨hra,_⟩:=key st1 hl1
   have hra2:=cJ (w':=w) (Z':=fun b=>b<w.heap.size) (fun b hb=>⟨hb.1,rfl⟩) ce.params hra
   refine Does.of_call hrun ?_
   refine Calls.mono (hcalls w (fun b=>b<w.heap.size) _ xs res h.gnow (fun _ hb=>hb) hra2 hres) ?_
   rintro e w' ⟨v,he,hs,hr⟩
   exact ⟨v,he,nm,h.grow hs,zR (DO hfree hr)⟩
 | false=>
   simp only [hfree,zk] at hlay
   obtain ⟨hra,hrel⟩:=key st' hlay
   refine Does.of_call hrun ?_
   refine Calls.mono (hcalls w (Zc w0 Z0 nm st'.sj w) _ xs res h.gnow (fun _ hb=>hb.1) hra hres) ?_
   rintro e w' ⟨v,he,hs,hr⟩
   refine ⟨v,he,nm,hrel.grow hs,zR (DP (fun b hb=>⟨?_,rfl⟩) hr)⟩
   rcases hb with ⟨z1,z2,z3⟩ | ⟨z1,z2⟩
   ·exact ⟨Z2 z1 hs.size,z2,z3⟩
   ·refine ⟨z2,fun hlt=>absurd hlt (by have:=hrel.same.size;omega),?_⟩
    rintro ⟨id,ob,q1,q2,q3⟩
    have:=(hrel.new id ob b q1 q3).2
    omega
end
end Go.Ql
end

section
namespace Go.Ql
def HR:∀(a b:List Ty) (x:jq a) (y:jq b),NW a b (NT a b x y)=x
 | [],_,_,_=>rfl
 | _::a,b,x,y=>by show (x.1,NW a b (NT a b x.2 y))=x;rw [HR a b]
def HT:∀(a b:List Ty) (x:jq a) (y:jq b),bK a b (NT a b x y)=y
 | [],_,_,_=>rfl
 | _::a,b,x,y=>HT a b x.2 y
def cA (nm:JY) (σ:Ren):JY:=fun j=>match look σ j with
 | some i=>nm i
 | none=>undef
def UI {nm:JY} {σ:Ren} {j i:Nat} (h:look σ j=some i):cA nm σ j=nm i:=by unfold cA;rw [h]
def Ext (σ σ':Ren):Prop:=∀j i,look σ j=some i→look σ' j=some i
def Ext.refl (σ:Ren):Ext σ σ:=fun _ _ h=>h
def Ext.trans {a b c:Ren} (h:Ext a b) (k:Ext b c):Ext a c:=fun j i q=>k j i (h j i q)
def InjR (σ:Ren):Prop:=∀j j' i,look σ j=some i→look σ j'=some i→j=j'
def uJ {i:Nat}:∀{σ:Ren},uI i σ=false → ∀j,look σ j≠some i
 | [],_,j,h=>by simp [look] at h
 | (k,v)::σ,hn,j,h=>by
   simp only [uI,Bool.or_eq_false_iff] at hn
   simp only [look] at h
   cases hb:Nat.beq k j with
   | true=>
     rw [hb] at h
     simp only [zj,zd] at h
     subst h
     exact absurd rfl (Yi.1 hn.1)
   | false=>rw [hb] at h;exact uJ hn.2 j h
def ES {σ σ':Ren} {j i:Nat} (h:xO σ j i=some σ'):Ext σ σ'∧look σ' j=some i∧(InjR σ→InjR σ'):=by
 unfold xO at h
 split at h
 ·rename_i i' hl
  cases hb:Nat.beq i' i with
  | false=>rw [hb] at h;cases h
  | true=>
    rw [hb] at h
    have:=Jx.1 hb
    subst this
    simp only [zj,zd] at h
    subst h
    exact ⟨Ext.refl _,hl,id⟩
 ·rename_i hl
  cases hb:uI i σ with
  | true=>rw [hb] at h;cases h
  | false=>
    rw [hb] at h
    simp only [zk,zd] at h
    subst h
    have hno:=uJ hb
    refine ⟨fun k q hk=>?_,by simp [look],fun hi k k' q hk hk'=>?_⟩
    ·simp only [look]
     cases hb2:Nat.beq j k with
     | true=>have:=Jx.1 hb2;subst this;rw [hl] at hk;cases hk
     | false=>exact hk
    ·simp only [look] at hk hk'
     cases hb2:Nat.beq j k with
     | true=>
       rw [hb2] at hk
       simp only [zj,zd] at hk
       subst hk
       cases hb3:Nat.beq j k' with
       | true=>rw [←Jx.1 hb2,←Jx.1 hb3]
       | false=>rw [hb3] at hk';exact absurd hk' (hno k')
     | false=>
       rw [hb2] at hk
       cases hb3:Nat.beq j k' with
       | true=>
         rw [hb3] at hk'
         simp only [zj,zd] at hk'
         subst hk'
         exact absurd hk (hno k)
       | false=>rw [hb3] at hk';exact hi k k' q hk hk'
def HH {σ σ':Ren} {j i:Nat} {α:Type} {x y:α} {u:kY} (h:eX σ j i x=some (y,u,σ')):y=x∧u=[]∧Ext σ σ'∧look σ' j=some i∧(InjR σ→InjR σ'):=by
 unfold eX at h
 split at h
 ·rename_i s hs
  simp only [zd,zr] at h
  obtain ⟨rfl,rfl,rfl⟩:=h
  exact ⟨rfl,rfl,ES hs⟩
 ·cases h
section
variable [GInv] {P:Program} {G:Env} {n:Nat} {w0 w w':World} {Z0:Bs} {Z Z':Nat→Prop} {st st1:St} {a:Act} {nm:JY} {o:Oper} {dst:Nat} {ρ:Type} {r:ρ}
def P8 (st:St) (σ:Ren) (sj:List (Nat×Ob)):Prop:=∀j i v fz e t xs,look σ j=some i→look sj j=some (.arr v fz e t xs) → ∃v' xs',look st.sj i=some (.arr v' false e t xs')∧List.length xs'=List.length xs
def FzUpd.nil:FzUpd st []:=fun p hp=>by cases hp
structure Bound (n:Nat) (w0:World) (Z0:Bs) (st:St) (a:Act) (w:World) (nm:JY) (σ σ':Ren) (u:kY) (R:(Nat→Prop)→JY→List (Nat×Ob)→Prop):Prop where
 fz:FzUpd st u
 ext:Ext σ σ'
 inj:InjR σ→InjR σ'
 rd:∀σF st1 sj,Ext σ' σF→Frozen n w0 Z0 st st1 a w nm u→P8 st σF sj→R (Zc w0 Z0 nm st1.sj w) (cA nm σF) sj
def xN {σ σ':Ren} {s:SA} {x:At} {d:jq s.tys} {u:kY} (hb:aW (look st.sj) σ s x=some (d,u,σ')) :
 Bound n w0 Z0 st a w nm σ σ' u fun Z nm' sj=>∀v,UE w Z nm st.sj x v→UE w Z nm' sj (s.inj d) v:=by
 unfold aW at hb
 split at hb
 ·
  rename_i t x
  split at hb
  ·rename_i d1 u1 h1
   simp only [zd,zr] at hb
   obtain ⟨rfl,rfl,rfl⟩:=hb
   exact ⟨(gU (n:=n) (w0:=w0) (w:=w) (Z0:=Z0) (a:=a) (nm:=nm) (v:=undef) h1).1,Ext.refl _,id,fun σF st1 sj _ hf _ v hv=>(gU h1).2 st1 hf.fz hf.rel hf.cold hv⟩
  ·cases hb
 ·simp only [zd,zr] at hb
  obtain ⟨rfl,rfl,rfl⟩:=hb
  exact ⟨FzUpd.nil,Ext.refl _,id,fun σF st1 sj _ _ _ v hv=>hv⟩
 ·
  rename_i j v0 id ver
  split at hb
  ·rename_i v' fz e t xs hob
   cases hc:(Nat.beq v' ver&&Nat.beq v0 0) with
   | false=>rw [hc] at hb;cases hb
   | true=>
     rw [hc] at hb
     rw [ze] at hc
     have:=Jx.1 hc.1
     subst this
     obtain ⟨rfl,rfl,q1,q2,q3⟩:=HH hb
     refine ⟨FzUpd.nil,q1,q3,fun σF st1 sj hx _ _ v hv=>⟨hv.1,fun _ _ _ _ _=>?_⟩⟩
     rw [UI (hx _ _ q2)]
     exact hv.2 fz e t xs hob
  ·cases hb
 ·
  rename_i j v0 id ver lo m
  split at hb
  ·rename_i v' fz e t xs hob
   cases hc:(Nat.beq v' ver&&Nat.beq v0 0) with
   | false=>rw [hc] at hb;cases hb
   | true=>
     rw [hc] at hb
     rw [ze] at hc
     have:=Jx.1 hc.1
     subst this
     obtain ⟨rfl,rfl,q1,q2,q3⟩:=HH hb
     refine ⟨FzUpd.nil,q1,q3,fun σF st1 sj hx _ hF v hv=>⟨hv.1,fun fz1 e1 t1 xs1 hl=>?_⟩⟩
     obtain ⟨v2,xs2,h2,h3⟩:=hF j id _ _ _ _ _ (hx _ _ q2) hl
     rw [UI (hx _ _ q2)]
     rw [hob] at h2
     cases h2
     rw [←h3]
     exact hv.2 false _ _ _ hob
  ·cases hb
 ·
  rename_i j v0 id ver
  split at hb
  ·rename_i v' fz e t xs hob
   cases hc:(Nat.beq v' ver&&Nat.beq v0 0 && !t.wj) with
   | false=>rw [hc] at hb;cases hb
   | true=>
     rw [hc] at hb
     rw [ze,ze,Z3] at hc
     obtain ⟨hc,hmap⟩:=hc
     have:=Jx.1 hc.1
     subst this
     obtain ⟨rfl,rfl,q1,q2,q3⟩:=HH hb
     refine ⟨FzUpd.nil,q1,q3,fun σF st1 sj hx hf hF v hv=>⟨hv.1,fun fz1 e1 t1 xs1 hl=>?_⟩⟩
     obtain ⟨v2,xs2,h2,hlen⟩:=hF j id _ _ _ _ _ (hx _ _ q2) hl
     rw [UI (hx _ _ q2)]
     have hob1:∃fz2,look st1.sj id=some (.arr v' fz2 e t xs):=by
      rcases hf.fz.sj id with q | ⟨v3,fz3,e3,t3,xs3,y1,y2⟩
      ·exact ⟨fz,q.trans hob⟩
      ·rw [hob] at y1;cases y1;exact ⟨true,y2⟩
     obtain ⟨fz2,hob1⟩:=hob1
     have hvn:=hv.2 fz e t xs hob
     rw [hvn]
     rw [hob] at h2
     cases h2
     obtain ⟨cells,p1,p2⟩:=(hf.rel.sj id _ hob1).sl hmap
     rw [←hlen]
     refine ⟨?_,by
      unfold mP
      simp only [ze,zn,Nat.ble_eq]
      show ((0:Int)≤0∧(0:Int)≤(xs.length:Int))∧(0:Int).toNat+(xs.length:Int).toNat≤_
      omega⟩
     rcases p1.2 with ⟨e2,z2⟩ | ⟨g,cap,cur,e2,_,z3,z4,_⟩
     ·exact .inl ⟨e2,e2,by show (xs.length:Int)=0;omega⟩
     ·refine .inr ⟨g,_,cap,0,cap,e2,e2,fun _=>by show 0=(0:Int).toNat*_;simp,by show (xs.length:Int).toNat≤cap;omega,z4⟩
  ·cases hb
 ·
  rename_i j o0 id o1
  split at hb
  ·rename_i cs hob
   cases hc:Nat.beq o0 o1 with
   | false=>rw [hc] at hb;cases hb
   | true=>
     rw [hc] at hb
     have:=Jx.1 hc
     subst this
     obtain ⟨rfl,rfl,q1,q2,q3⟩:=HH hb
     refine ⟨FzUpd.nil,q1,q3,fun σF st1 sj hx _ _ v hv=>⟨hv.1,fun _ _=>?_⟩⟩
     rw [UI (hx _ _ q2)]
     exact hv.2 cs hob
  ·cases hb
 ·rename_i f g
  cases hc:Nat.beq f g with
  | false=>rw [hc] at hb;cases hb
  | true=>
    rw [hc] at hb
    have:=Jx.1 hc
    subst this
    simp only [zj,zd,zr] at hb
    obtain ⟨rfl,rfl,rfl⟩:=hb
    exact ⟨FzUpd.nil,Ext.refl _,id,fun σF st1 sj _ _ _ v hv=>hv⟩
 ·rename_i j id
  split at hb
  ·rename_i f p q hob
   obtain ⟨rfl,rfl,q1,q2,q3⟩:=HH hb
   refine ⟨FzUpd.nil,q1,q3,fun σF st1 sj hx _ _ v hv=>⟨hv.1,fun _ _ _ _=>?_⟩⟩
   rw [UI (hx _ _ q2)]
   exact hv.2 f p q hob
  ·cases hb
 ·rename_i t s d1
  split at hb
  ·rename_i hs
   subst hs
   simp only [zd,zr] at hb
   obtain ⟨rfl,rfl,rfl⟩:=hb
   exact ⟨FzUpd.nil,Ext.refl _,id,fun σF st1 sj _ _ _ v hv=>hv⟩
  ·cases hb
 ·
  rename_i j v0 id ver
  split at hb
  ·rename_i v' fz e t xs hob
   cases hc:(Nat.beq v' ver&&Nat.beq v0 0) with
   | false=>rw [hc] at hb;cases hb
   | true=>
     rw [hc] at hb
     rw [ze] at hc
     have:=Jx.1 hc.1
     subst this
     obtain ⟨rfl,rfl,q1,q2,q3⟩:=HH hb
     refine ⟨FzUpd.nil,q1,q3,fun σF st1 sj hx _ _ v hv=>⟨hv.1,fun _ _ _ _ _=>?_⟩⟩
     rw [UI (hx _ _ q2)]
     exact hv.2 fz e t xs hob
  ·cases hb
 ·
  rename_i j T id T'
  split at hb
  ·rename_i cs hob
   cases hc:Nat.beq T T' with
   | false=>rw [hc] at hb;cases hb
   | true=>
     rw [hc] at hb
     obtain ⟨rfl,rfl,q1,q2,q3⟩:=HH hb
     refine ⟨FzUpd.nil,q1,q3,fun σF st1 sj hx _ _ v hv=>⟨hv.1,fun _ _=>?_⟩⟩
     rw [UI (hx _ _ q2)]
     exact hv.2 cs hob
  ·cases hb
 ·
  rename_i j v0 id ver i1 sz o1
  split at hb
  ·rename_i v' fz e t xs hob
   cases hc:(Nat.beq v' ver&&Nat.beq v0 0&&(decide (i1=0)&&Nat.beq o1 0)) with
   | false=>rw [hc] at hb;cases hb
   | true=>
     rw [hc] at hb
     simp only [ze,zn] at hc
     obtain ⟨⟨c1,c2⟩,c3,c4⟩:=hc
     have:=Jx.1 c1
     subst this
     have:=Jx.1 c4
     subst this
     subst c3
     obtain ⟨rfl,rfl,q1,q2,q3⟩:=HH hb
     refine ⟨FzUpd.nil,q1,q3,fun σF st1 sj hx _ _ v hv=>⟨hv.1,fun _ _ _ _ _=>?_⟩⟩
     rw [UI (hx _ _ q2)]
     obtain ⟨r1,_,_,b,n1,c1',p1,p2⟩:=hv.2 fz e t xs hob
     exact ⟨b,n1,c1',p1,by rw [p2];simp⟩
  ·cases hb
 ·simp only [zd,zr] at hb
  obtain ⟨rfl,rfl,rfl⟩:=hb
  exact ⟨FzUpd.nil,Ext.refl _,id,fun σF st1 sj _ _ _ v hv=>BR hv (fun _ _ h=>by cases h) (fun _ _ _ h=>by cases h)⟩
 ·simp only [zd,zr] at hb
  obtain ⟨rfl,rfl,rfl⟩:=hb
  exact ⟨FzUpd.nil,Ext.refl _,id,fun σF st1 sj _ _ _ v hv=>hv.1⟩
 ·simp only [zd,zr] at hb
  obtain ⟨rfl,rfl,rfl⟩:=hb
  exact ⟨FzUpd.nil,Ext.refl _,id,fun σF st1 sj _ _ _ v hv=>hv⟩
 ·cases hb
def Bound.both {σ σ1 σ2:Ren} {u v:kY} {R1 R2 R:(Nat→Prop)→JY→List (Nat×Ob)→Prop} (h1:Bound n w0 Z0 st a w nm σ σ1 u R1) (h2:Bound n w0 Z0 st a w nm σ1 σ2 v R2)
 (hR:∀Z nm' sj,R1 Z nm' sj→R2 Z nm' sj→R Z nm' sj):Bound n w0 Z0 st a w nm σ σ2 (u++v) R:=
 ⟨h1.fz.append h2.fz,h1.ext.trans h2.ext,fun hi=>h2.inj (h1.inj hi),fun σF st1 sj hx hf hF=>hR _ _ _ (h1.rd σF st1 sj (h2.ext.trans hx) hf.left hF) (h2.rd σF st1 sj hx hf.right hF)⟩
def GQ {Z:Nat→Prop} {sj:List (Nat×Ob)} {x:At} {cs:List At} {vs:List Value} (h:Vx w Z nm sj (x::cs) vs):∃v r,vs=v::r∧UE w Z nm sj x v∧Vx w Z nm sj cs r:=by
 match vs,h with
 | [],h=>exact absurd h.1 (by simp)
 | v::r,h=>exact ⟨v,r,rfl,h.2 0 x v rfl rfl,by simpa using h.1,fun i y u q1 q2=>h.2 (i+1) y u (by simpa using q1) (by simpa using q2)⟩
def d7:∀{s:List SA} {σ σ':Ren} {cs:List At} {d:jq (SL.tys s)} {u:kY},UX (look st.sj) σ s cs=some (d,u,σ') →
 Bound n w0 Z0 st a w nm σ σ' u fun Z nm' sj=>∀vs,Vx w Z nm st.sj cs vs→Vx w Z nm' sj (SL.inj s d) vs
 | [],σ,σ',[],d,u,hb=>by
   simp only [UX,zd,zr] at hb
   obtain ⟨rfl,rfl,rfl⟩:=hb
   exact ⟨FzUpd.nil,Ext.refl _,id,fun σF st1 sj _ _ _ vs hv=>⟨hv.1,fun i x v q _=>by simp [SL.inj_nil] at q⟩⟩
 | [],_,_,_::_,_,_,hb=>by simp [UX] at hb
 | _::_,_,_,[],_,_,hb=>by simp [UX] at hb
 | s::r,σ,σ',x::cs,d,u,hb=>by
   simp only [UX] at hb
   split at hb
   ·rename_i y u1 σ1 h1
    split at hb
    ·rename_i z u2 σ2 h2
     simp only [zd,zr] at hb
     obtain ⟨rfl,rfl,rfl⟩:=hb
     refine (xN (n:=n) (w0:=w0) (w:=w) (Z0:=Z0) (a:=a) (nm:=nm) h1).both (d7 h2) (fun Z nm' sj r1 r2 vs hv=>?_)
     obtain ⟨v,vr,rfl,v1,v2⟩:=GQ hv
     show Vx w Z nm' sj (s.inj (NW _ _ _)::SL.inj r (bK _ _ _)) _
     rw [HR,HT]
     exact Uo (c1:=[s.inj y]) (v1:=[v]) (Yu (r1 v v1)) (r2 vr v2)
    ·cases hb
   ·cases hb
def CB {ob:Yo} {σ σ':Ren} {s:SA} {x:At} {d:jq s.tys} {u:kY} (hb:aW ob σ s x=some (d,u,σ')) {j:Nat} {T:TypeId} (hs:s.inj d=At.selfp j T):∃i,look σ' j=some i∧x=At.selfp i T:=by
 cases s with
 | selfp j' T'=>
   have e:At.selfp j' T'=At.selfp j T:=hs
   cases e
   unfold aW at hb
   cases x<;>first | (cases hb;done) | skip
   rename_i id T'
   simp only at hb
   split at hb
   ·cases hc:Nat.beq T T' with
    | false=>rw [hc] at hb;cases hb
    | true=>
      rw [hc] at hb
      obtain ⟨_,_,_,q2,_⟩:=HH hb
      exact ⟨id,q2,by rw [Jx.1 hc]⟩
   ·cases hb
 | _=>cases hs
def vK {α:Type} {b:Bool} {x:Option α} {y:α} (h:(bif b then x else none)=some y):x=some y:=by
 cases b with
 | false=>cases h
 | true=>exact h
def CA {ob:Yo} {σ σ':Ren} {s:SA} {x:At} {d:jq s.tys} {u:kY} (hb:aW ob σ s x=some (d,u,σ')):Ext σ σ':=by
 unfold aW at hb
 repeat' (split at hb)
 all_goals first
  | (cases hb;done)
  | (simp only [zd,zr] at hb;obtain ⟨_,_,rfl⟩:=hb;exact Ext.refl _)
  | exact (HH hb).2.2.1
  | exact (HH (vK hb)).2.2.1
  | (have hb:=vK hb;simp only [zd,zr] at hb;obtain ⟨_,_,rfl⟩:=hb;exact Ext.refl _)
def CC {ob:Yo}:∀{s:List SA} {σ σ':Ren} {cs:List At} {d:jq (SL.tys s)} {u:kY},UX ob σ s cs=some (d,u,σ') →
 Ext σ σ' ∧ ∀{j:Nat} {T:TypeId},At.selfp j T∈SL.inj s d → ∃i,look σ' j=some i∧At.selfp i T∈cs:=by
 intro s
 induction s with
 | nil=>
   intro σ σ' cs d u hb
   cases cs with
   | nil=>
     simp only [UX,zd,zr] at hb
     obtain ⟨_,_,rfl⟩:=hb
     exact ⟨Ext.refl _,fun h=>by cases h⟩
   | cons x cs=>simp [UX] at hb
 | cons s r ih=>
   intro σ σ' cs d u hb
   cases cs with
   | nil=>simp [UX] at hb
   | cons x cs=>
     simp only [UX] at hb
     split at hb
     ·rename_i y u1 σ1 h1
      split at hb
      ·rename_i z u2 σ2 h2
       simp only [zd,zr] at hb
       obtain ⟨rfl,rfl,rfl⟩:=hb
       obtain ⟨e2,k2⟩:=ih h2
       refine ⟨(CA h1).trans e2,fun {j T} h=>?_⟩
       have he:SL.inj (s::r) (NT s.tys (SL.tys r) y z)=s.inj y::SL.inj r z:=by
        show s.inj (NW _ _ _)::SL.inj r (bK _ _ _)=_
        rw [HR,HT]
       rw [he] at h
       rcases Z5.1 h with h | h
       ·obtain ⟨i,i1,i2⟩:=CB h1 h.symm
        exact ⟨i,e2 _ _ i1,by rw [i2];exact List.mem_cons_self ..⟩
       ·obtain ⟨i,i1,i2⟩:=k2 h
        exact ⟨i,i1,zz _ i2⟩
      ·cases hb
     ·cases hb
def IR {σ σ':Ren} {s:SD} {x:Dv} {d:jq s.tys} {u:kY} (hb:wV (look st.sj) σ s x=some (d,u,σ')) :
 Bound n w0 Z0 st a w nm σ σ' u fun Z nm' sj=>∀v,Vf w Z nm st.sj x v→Vf w Z nm' sj (s.inj d) v:=by
 cases s with
 | one sa=>
   change (match mV x with
    | some y=>aW (look st.sj) σ sa y
    | none=>wW (look st.sj) σ sa x)=_ at hb
   cases hx:mV x with
   | some y=>
     rw [hx] at hb
     have:x=.one y:=by cases x<;>simp [mV] at hx;rw [hx]
     subst this
     exact xN hb
   | none=>
     rw [hx] at hb
     cases sa with
     | val t=>
       obtain ⟨⟨y,u1⟩,hq,hb⟩:=Option.map_eq_some_iff.mp (show (bE (look st.sj) t x).map (fun p=>(((p.1,()):jq (SD.one (SA.val t)).tys),p.2,σ))=some (d,u,σ') from hb)
       have e1:(y,())=d:=congrArg Prod.fst hb
       have e2:u1=u:=congrArg (fun p=>p.2.1) hb
       have e3:σ=σ':=congrArg (fun p=>p.2.2) hb
       subst e1;subst e2;subst e3
       obtain ⟨f,g⟩:=aI (n:=n) (w0:=w0) (w:=w) (Z0:=Z0) (a:=a) (nm:=nm) hq
       exact ⟨f,Ext.refl _,id,fun σF st1 sj _ hf _ v hv=>g st1 hf v hv⟩
     | _=>cases hb
 | agg ss=>
   cases x with
   | agg cs=>
     obtain ⟨f,q1,q2,q3⟩:=d7 (n:=n) (w0:=w0) (w:=w) (Z0:=Z0) (a:=a) (nm:=nm) hb
     exact ⟨f,q1,q2,fun σF st1 sj hx hf hF v ⟨vs,e,h1,h2⟩=>⟨vs,e,q3 σF st1 sj hx hf hF _ h1,h2⟩⟩
   | one y=>
     cases y with
     | val t y=>
       cases t with
       | st t=>
         cases hfl:t.flat with
         | false=>change (bif t.flat then _ else none)=_ at hb;rw [hfl] at hb;cases hb
         | true=>
         change (bif t.flat then _ else none)=_ at hb
         rw [hfl] at hb
         obtain ⟨f,q1,q2,q3⟩:=d7 (n:=n) (w0:=w0) (w:=w) (Z0:=Z0) (a:=a) (nm:=nm) hb
         exact ⟨f,q1,q2,fun σF st1 sj hx hf hF v ⟨cs,e,h1⟩=>⟨cs,e,q3 σF st1 sj hx hf hF _ (eN t hfl h1),HS t h1⟩⟩
       | _=>cases hb
     | _=>cases hb
   | tup cs=>cases hb
 | tup ss=>cases x<;>cases hb
def xQ:∀{s:List (Nat×SD)} {σ σ':Ren} {ds:List Dv} {d:jq (SS.tys s)} {u:kY},eW (look st.sj) σ s ds=some (d,u,σ') →
 ds.length=s.length∧Bound n w0 Z0 st a w nm σ σ' u fun Z nm' sj=>∀vs:List Value,vs.length=ds.length→(∀(i:Nat) x v,ds[i]?=some x→vs[i]?=some v→Vf w Z nm st.sj x v) →
  ∀(i:Nat) p v,(SS.inj s d)[i]?=some p→vs[i]?=some v→Vf w Z nm' sj p.2 v
 | [],σ,σ',[],d,u,hb=>by
   simp only [eW,zd,zr] at hb
   obtain ⟨rfl,rfl,rfl⟩:=hb
   exact ⟨rfl,FzUpd.nil,Ext.refl _,id,fun σF st1 sj _ _ _ vs _ _ i p v q _=>by simp [SS.inj_nil] at q⟩
 | [],_,_,_::_,_,_,hb=>by simp [eW] at hb
 | _::_,_,_,[],_,_,hb=>by simp [eW] at hb
 | p0::r,σ,σ',x::ds,d,u,hb=>by
   simp only [eW] at hb
   split at hb
   ·rename_i y u1 σ1 h1
    split at hb
    ·rename_i z u2 σ2 h2
     simp only [zd,zr] at hb
     obtain ⟨rfl,rfl,rfl⟩:=hb
     obtain ⟨l2,b2⟩:=xQ h2
     refine ⟨by simp [l2],(IR (n:=n) (w0:=w0) (w:=w) (Z0:=Z0) (a:=a) (nm:=nm) h1).both b2 (fun Z nm' sj r1 r2 vs hl hv i p v q1 q2=>?_)⟩
     match vs,hl with
     | v0::vs,hl=>
       cases i with
       | zero=>
         simp only [SS.inj_cons,List.getElem?_cons_zero,zd] at q1 q2
         subst q1;subst q2
         show Vf w Z nm' sj (p0.2.inj (NW _ _ _)) v0
         rw [HR]
         exact r1 v0 (hv 0 x v0 rfl rfl)
       | succ i=>
         simp only [SS.inj_cons,List.getElem?_cons_succ] at q1 q2
         rw [HT] at q1
         exact r2 vs (by simpa using hl) (fun i x v q3 q4=>hv (i+1) x v (by simpa using q3) (by simpa using q4)) i p v q1 q2
    ·cases hb
   ·cases hb
def IS {σ σ':Ren} {i:Nat} {s:SO} {d:jq s.tys} {u:kY} (hb:HZ (look st.sj) σ i s=some (d,u,σ')) :
 (∃ob,look st.sj i=some ob∧(s.inj d ≠ .gone→ob.mine=true)∧(s.inj d ≠ .gone→(s.inj d).mine=true)∧(∀v fz e t xs,s.inj d=.arr v fz e t xs→v=0 ∧ ∃v',ob=.arr v' false e t xs)∧(∀cs,s.inj d=.box cs → ∃cs',ob=.box cs')∧(∀f x y,s.inj d=.clo f x y → ∃x' y',ob=.clo f x' y')) ∧
 Bound n w0 Z0 st a w nm σ σ' u fun Z nm' sj=>∀j ob,look σ' j=some i→nm' j=nm i→look st.sj i=some ob→hY w Z nm st.sj i ob→hY w Z nm' sj j (s.inj d):=by
 cases s with
 | box ss=>
   simp only [HZ] at hb
   obtain ⟨ob1,hob⟩:∃o,look st.sj i=o:=⟨_,rfl⟩
   rw [hob] at hb
   cases ob1 with
   | none=>cases hb
   | some ob1=>
   cases ob1 with
   | gone=>cases hb
   | arr=>cases hb
   | clo=>cases hb
   | box cs=>
     simp only at hb
     obtain ⟨f,q1,q2,q3⟩:=d7 (n:=n) (w0:=w0) (w:=w) (Z0:=Z0) (a:=a) (nm:=nm) hb
     refine ⟨⟨_,hob,fun _=>rfl,fun _=>rfl,fun _ _ _ _ _ h=>(by cases h),fun _ _=>⟨cs,rfl⟩,fun _ _ _ h=>(by cases h)⟩,f,q1,q2,fun σF st1 sj hx hf hF j ob hj hn ho hr=>?_⟩
     rw [hob] at ho
     cases ho
     obtain ⟨b,vs,T,p1,p2,p3,p4⟩:=hr
     refine ⟨b,vs,T,hn.trans p1,p2,q3 σF st1 sj hx hf hF _ p3,p4.1,fun T' hT=>?_⟩
     obtain ⟨i',i1,i2⟩:=(CC hb).2 hT
     rw [hj] at i1
     cases i1
     exact p4.2 T' i2
 | arr v0 fz0 e0 t0=>
   simp only [HZ] at hb
   obtain ⟨ob1,hob⟩:∃o,look st.sj i=o:=⟨_,rfl⟩
   rw [hob] at hb
   cases ob1 with
   | none=>cases hb
   | some ob1=>
   cases ob1 with
   | gone=>cases hb
   | box=>cases hb
   | clo=>cases hb
   | arr v' fz' e' t' xs=>
     cases fz' with
     | true=>cases hb
     | false=>
     simp only at hb
     split at hb
     ·rename_i ht
      subst ht
      cases hc:(Nat.beq v0 0 && !fz0&&Nat.beq e0 e') with
      | false=>rw [hc] at hb;cases hb
      | true=>
        rw [hc] at hb
        simp only [ze,Z3] at hc
        obtain ⟨⟨c1,c2⟩,c3⟩:=hc
        have:=Jx.1 c1
        subst this
        have:=Jx.1 c3
        subst this
        subst c2
        simp only [zj,zd,zr] at hb
        obtain ⟨rfl,rfl,rfl⟩:=hb
        refine ⟨⟨_,hob,fun _=>rfl,fun _=>rfl,fun v fz e t xs' h=>?_,fun _ h=>(by cases h),fun _ _ _ h=>(by cases h)⟩,FzUpd.nil,Ext.refl _,id,fun σF st1 sj hx hf hF j ob _ hn ho hr=>?_⟩
        ·change Ob.arr 0 false e0 t' xs=_ at h
         cases h
         exact ⟨rfl,v',rfl⟩
        ·rw [hob] at ho
         cases ho
         have hr:rdArr _ _ (nm i) _ _ _:=hr
         rw [←hn] at hr
         exact hr
     ·cases hb
 | gone=>
   simp only [HZ] at hb
   split at hb
   ·rename_i hob
    simp only [zd,zr] at hb
    obtain ⟨rfl,rfl,rfl⟩:=hb
    exact ⟨⟨_,hob,fun h=>absurd rfl h,fun h=>absurd rfl h,fun _ _ _ _ _ h=>(by cases h),fun _ h=>(by cases h),fun _ _ _ h=>(by cases h)⟩,FzUpd.nil,Ext.refl _,id,fun σF st1 sj hx hf hF j ob _ hn ho hr=>trivial⟩
   ·rename_i hob
    simp only [zd,zr] at hb
    obtain ⟨rfl,rfl,rfl⟩:=hb
    exact ⟨⟨_,hob,fun h=>absurd rfl h,fun h=>absurd rfl h,fun _ _ _ _ _ h=>(by cases h),fun _ h=>(by cases h),fun _ _ _ h=>(by cases h)⟩,FzUpd.nil,Ext.refl _,id,fun σF st1 sj hx hf hF j ob _ hn ho hr=>trivial⟩
   ·cases hb
 | clo f0 sa sb=>
   simp only [HZ] at hb
   obtain ⟨ob1,hob⟩:∃o,look st.sj i=o:=⟨_,rfl⟩
   rw [hob] at hb
   cases ob1 with
   | none=>cases hb
   | some ob1=>
   cases ob1 with
   | gone=>cases hb
   | box=>cases hb
   | arr=>cases hb
   | clo g p q=>
     simp only at hb
     cases hc:Nat.beq f0 g with
     | false=>rw [hc] at hb;cases hb
     | true=>
       rw [hc] at hb
       have:=Jx.1 hc
       subst this
       simp only [zj] at hb
       split at hb
       ·rename_i x u1 σ1 h1
        split at hb
        ·rename_i y u2 σ2 h2
         simp only [zd,zr] at hb
         obtain ⟨rfl,rfl,rfl⟩:=hb
         refine ⟨⟨_,hob,fun _=>rfl,fun _=>rfl,fun _ _ _ _ _ h=>(by cases h),fun _ h=>(by cases h),fun f x y h=>?_⟩,(d7 (n:=n) (w0:=w0) (w:=w) (Z0:=Z0) (a:=a) (nm:=nm) h1).both (d7 h2) (fun Z nm' sj r1 r2 j ob _ hn ho hr=>?_)⟩
         ·cases h
          exact ⟨p,q,rfl⟩
         ·rw [hob] at ho
          cases ho
          obtain ⟨vx,vy,p1,p2,p3⟩:=hr
          refine ⟨vx,vy,hn.trans p1,?_,?_⟩
          ·have:=r1 _ p2
           rw [HR];exact this
          ·have:=r2 _ p3
           rw [HT];exact this
        ·cases hb
       ·cases hb
def xP:∀{s:List (Nat×SO)} {σ σ':Ren} {d:jq (SP.tys s)} {u:kY},iM (look st.sj) σ s=some (d,u,σ') →
 (∀j obT,look (SP.inj s d) j=some obT → ∃i ob,look σ' j=some i∧look st.sj i=some ob∧(obT ≠ .gone→ob.mine=true)∧(obT ≠ .gone→obT.mine=true)∧(∀v fz e t xs,obT=.arr v fz e t xs→v=0 ∧ ∃v',ob=.arr v' false e t xs)∧(∀cs,obT=.box cs → ∃cs',ob=.box cs')∧(∀f x y,obT=.clo f x y → ∃x' y',ob=.clo f x' y')) ∧
 Bound n w0 Z0 st a w nm σ σ' u fun Z nm' sj=>(∀j i,look σ' j=some i→nm' j=nm i)→(∀i ob,look st.sj i=some ob→hY w Z nm st.sj i ob) → ∀j obT,look (SP.inj s d) j=some obT→hY w Z nm' sj j obT
 | [],σ,σ',d,u,hb=>by
   simp only [iM,zd,zr] at hb
   obtain ⟨rfl,rfl,rfl⟩:=hb
   exact ⟨fun j obT h=>by simp [SP.inj_nil,look] at h,FzUpd.nil,Ext.refl _,id,fun σF st1 sj _ _ _ _ _ j obT h=>by simp [SP.inj_nil,look] at h⟩
 | p0::r,σ,σ',d,u,hb=>by
   simp only [iM] at hb
   split at hb
   ·rename_i i0 hi0
    split at hb
    ·rename_i x u1 σ1 h1
     split at hb
     ·rename_i y u2 σ2 h2
      simp only [zd,zr] at hb
      obtain ⟨rfl,rfl,rfl⟩:=hb
      obtain ⟨⟨ob0,m1,m2,m3⟩,b1⟩:=IS (n:=n) (w0:=w0) (w:=w) (Z0:=Z0) (a:=a) (nm:=nm) h1
      obtain ⟨m4,b2⟩:=xP h2
      have hinj:SP.inj (p0::r) (NT p0.2.tys (SP.tys r) x y)=(p0.1,p0.2.inj x)::SP.inj r y:=by
       show (p0.1,p0.2.inj (NW _ _ _))::SP.inj r (bK _ _ _)=_
       rw [HR,HT]
      rw [hinj]
      have hi1:look σ' p0.1=some i0:=b2.ext _ _ (b1.ext _ _ hi0)
      refine ⟨fun j obT h=>?_,b1.both b2 (fun Z nm' sj r1 r2 hn ho j obT h=>?_)⟩
      ·simp only [look] at h
       cases hb2:Nat.beq p0.1 j with
       | true=>
         rw [hb2] at h
         have:=Jx.1 hb2
         subst this
         simp only [zj,zd] at h
         subst h
         exact ⟨i0,ob0,hi1,m1,m2,m3⟩
       | false=>rw [hb2] at h;exact m4 j obT h
      ·simp only [look] at h
       cases hb2:Nat.beq p0.1 j with
       | true=>
         rw [hb2] at h
         have:=Jx.1 hb2
         subst this
         simp only [zj,zd] at h
         subst h
         exact r1 _ ob0 (b1.ext _ _ hi0) (hn _ _ hi1) m1 (ho _ _ m1)
       | false=>rw [hb2] at h;exact r2 hn ho j obT h
     ·cases hb
    ·cases hb
   ·cases hb
end
end Go.Ql
end

section
namespace Go.Ql
abbrev Bs.of (Z:Nat→Prop) (nm:JY) (sj:List (Nat×Ob)):Bs:={ z:=Z,m:=bT nm sj,nm:=nm }
structure Pre [GInv] (w:World) (Z:Nat→Prop) (nm:JY) (st:St) (vs:List Value):Prop where
 len:vs.length=st.mj.length
 mj:∀(i:Nat) p v,st.mj[i]?=some p→vs[i]?=some v→Vf w (Zc w (Bs.of Z nm st.sj) nm st.sj w) nm st.sj p.2 v
 sj:∀id ob,look st.sj id=some ob→hY w (Zc w (Bs.of Z nm st.sj) nm st.sj w) nm st.sj id ob
 lt:∀id ob b,look st.sj id=some ob→kV (nm id)=some b→b<w.heap.size
 inj:∀id id' ob ob' b,look st.sj id=some ob→look st.sj id'=some ob'→kV (nm id)=some b→kV (nm id')=some b→id=id'
 zlt:∀b,Z b→b<w.heap.size
 mine:∀id ob,look st.sj id=some ob→ob.mine=true
 glob:GInv.ok w ∧ ∀b,bT nm st.sj b→GInv.n≤b
def DN (w:World) (Z:Nat→Prop) (nm:JY) (sj:List (Nat×Ob)):List (Nat×Dv)→Value→Prop
 | [p],v=>Vf w Z nm sj p.2 v
 | l,v=>∃vs,v=.tuple vs∧vs.toList.length=l.length ∧ ∀(i:Nat) p u,l[i]?=some p→vs.toList[i]?=some u→Vf w Z nm sj p.2 u
structure Post (w w':World) (B:Bs) (nm':JY) (st:St) (v:Value):Prop where
 same:SameBut B.m w w'
 res:DN w' (Zc w B nm' st.sj w') nm' st.sj st.mj v
 sj:∀id ob,look st.sj id=some ob→hY w' (Zc w B nm' st.sj w') nm' st.sj id ob
 new:∀id ob b,look st.sj id=some ob→kV (nm' id)=some b→(w.heap.size≤b∨B.m b)∧b<w'.heap.size
 inj:∀id id' ob ob' b,look st.sj id=some ob→look st.sj id'=some ob'→kV (nm' id)=some b→kV (nm' id')=some b→id=id'
 given:∀id ob,eB≤id→look st.sj id=some ob→oG id ob→nm' id=B.nm id
 mine:∀id ob,look st.sj id=some ob→ob ≠ .gone→ob.mine=true
structure MOk [GInv] (P:Program) (f:FuncId) (mc:xj):Prop where
 fn : ∃ fn, P.funcs[f]? = some fn ∧ (fn.name == "runtime.NumGoroutine") = false ∧ fn.body.isNone = false
 calls:∀(w:World) (Z:Nat→Prop) (nm:JY) (vs:List Value) (x:jq mc.pre.tys) (y:jq mc.post.tys),Pre w Z nm (mc.pre.inj x) vs→mc.F x=some y →
  Calls P f vs.toArray w fun e w'=>∃v nm',e=.returned v∧Post w w' (Bs.of Z nm (mc.pre.inj x).sj) nm' (mc.post.inj y) v
def rR [GInv] {P:Program} {f:FuncId} {fn:Nat} {pre post:Sj} {F:Nat→jq pre.tys→Option (jq post.tys)} (h:∀n,MOk P f ⟨fn,pre,post,F n⟩) (m:jq pre.tys→Nat):MOk P f ⟨fn,pre,post,fun x=>F (m x) x⟩:=
 ⟨(h 0).fn,fun w Z nm vs x y hp hy=>(h (m x)).calls w Z nm vs x y hp hy⟩
structure uj [GInv] (P:Program) (f:FuncId) (ma:MAlt):Prop where
 fn : ∃ fn, P.funcs[f]? = some fn ∧ (fn.name == "runtime.NumGoroutine") = false ∧ fn.body.isNone = false
 calls:∀(w:World) (Z:Nat→Prop) (nm:JY) (vs:List Value) (x:jq ma.pre.tys) (r:jq ma.post.tys⊕jq ma.post2.tys),Pre w Z nm (ma.pre.inj x) vs→ma.F x=some r →
  Calls P f vs.toArray w fun e w'=>∃v nm',match r with
   | .inl y=>e=.returned v∧Post w w' (Bs.of Z nm (ma.pre.inj x).sj) nm' (ma.post.inj y) v
   | .inr y=>e=(bif ma.pan then .panicked [{ v,recovered:=false }] else .returned v)∧Post w w' (Bs.of Z nm (ma.pre.inj x).sj) nm' (ma.post2.inj y) v
def nT [GInv] (P:Program) (l:List (Nat×MAlt)):Prop:=∀i ma,look l i=some ma→uj P ma.fn ma
def nU [GInv] (P:Program) (l:List (Nat×xj)):Prop:=∀i mc,look l i=some mc→MOk P mc.fn mc
section
variable [GInv] {P:Program} {G:Env} {n:Nat} {w0 w w':World} {Z0:Bs} {Z Z':Nat→Prop} {st st1:St} {a:Act} {nm:JY} {o:Oper} {dst:Nat} {ρ:Type} {r:ρ}
def GC {u:kY} {σ:Ren} (h:zB u σ=true) {j i:Nat} (hj:look σ j=some i):∀p∈u,p.1≠i:=by
 intro p hp
 have:=zy.1 h p hp
 simp only [Z3] at this
 rintro rfl
 exact uJ this j hj
def sL (h:Rel n w0 Z0 st a w nm) {σ σ':Ren} {sh:Sj} {ds:List Dv} {x:jq sh.tys} {u:kY} (hb:UH (look st.sj) σ sh ds=some (x,u,σ')) (hi:InjR σ) :
 FzUpd st u∧Ext σ σ'∧InjR σ'∧ds.length=sh.mj.length ∧ ∀st1,kO st u=some st1 →
  Rel n w0 Z0 st1 a w nm∧Fz st st1 ∧
  (∀j obT,look (sh.inj x).sj j=some obT → ∃i ob,look σ' j=some i∧look st1.sj i=some ob∧look st.sj i=some ob∧(obT ≠ .gone→ob.mine=true)∧(obT ≠ .gone→obT.mine=true) ∧
   (∀v fz e t xs,obT=.arr v fz e t xs→v=0 ∧ ∃v',ob=.arr v' false e t xs)∧(∀cs,obT=.box cs → ∃cs',ob=.box cs')∧(∀f x y,obT=.clo f x y → ∃x' y',ob=.clo f x' y')) ∧
  ∀(Zt:Nat→Prop),(∀b,Zc w0 Z0 nm st1.sj w b→Zt b) →
   (∀j obT,look (sh.inj x).sj j=some obT→hY w Zt (cA nm σ') (sh.inj x).sj j obT) ∧
   ∀vs:List Value,vs.length=ds.length→(∀(i:Nat) d v,ds[i]?=some d→vs[i]?=some v→Vf w (Zc w0 Z0 nm st.sj w) nm st.sj d v) →
    ∀(i:Nat) p v,(sh.inj x).mj[i]?=some p→vs[i]?=some v→Vf w Zt (cA nm σ') (sh.inj x).sj p.2 v:=by
 unfold UH at hb
 split at hb
 ·rename_i x1 u1 σ1 h1
  split at hb
  ·rename_i y1 u2 σ2 h2
   cases hc:zB (u1++u2) σ2 with
   | false=>rw [hc] at hb;cases hb
   | true=>
     rw [hc] at hb
     simp only [zj,zd,zr] at hb
     obtain ⟨rfl,rfl,rfl⟩:=hb
     obtain ⟨l1,b1⟩:=xQ (n:=n) (w0:=w0) (w:=w) (Z0:=Z0) (a:=a) (nm:=nm) h1
     obtain ⟨m2,b2⟩:=xP (n:=n) (w0:=w0) (w:=w) (Z0:=Z0) (a:=a) (nm:=nm) h2
     have hobjs:(sh.inj (NT (SS.tys sh.mj) (SP.tys sh.sj) x1 y1)).sj=SP.inj sh.sj y1:=by
      show SP.inj sh.sj (bK _ _ _)=_
      rw [HT]
     have hslots:(sh.inj (NT (SS.tys sh.mj) (SP.tys sh.sj) x1 y1)).mj=SS.inj sh.mj x1:=by
      show SS.inj sh.mj (NW _ _ _)=_
      rw [HR]
     rw [hobjs,hslots]
     refine ⟨b1.fz.append b2.fz,b1.ext.trans b2.ext,b2.inj (b1.inj hi),l1,fun st1 hl=>?_⟩
     obtain ⟨hrel,hfz,hcold⟩:=Rel.freezes _ h (b1.fz.append b2.fz) hl
     have hfr:Frozen n w0 Z0 st st1 a w nm (u1++u2):=⟨hfz,hrel,hcold⟩
     have hk1:Kept w w (Zc w0 Z0 nm st.sj w) (Zc w0 Z0 nm st1.sj w):=fun b hb=>⟨hfz.zc hb,rfl⟩
     have hfit:P8 st σ' (SP.inj sh.sj y1):=by
      intro j i v fz e t xs hj ho
      obtain ⟨i',ob,q1,q2,_,_,q3,_⟩:=m2 j _ ho
      rw [hj] at q1
      cases q1
      obtain ⟨_,v',q4⟩:=q3 v fz e t xs rfl
      exact ⟨v',xs,q2.trans (by rw [q4]),rfl⟩
     refine ⟨hrel,hfz,fun j obT ho=>?_,fun Zt hZt=>?_⟩
     ·obtain ⟨i,ob,q1,q2,q3⟩:=m2 j obT ho
      exact ⟨i,ob,q1,(UY _ hl (GC hc q1)).trans q2,q2,q3⟩
     ·have hkt:Kept w w (Zc w0 Z0 nm st1.sj w) Zt:=fun b hb=>⟨hZt b hb,rfl⟩
      have r1:=b1.rd σ' st1 (SP.inj sh.sj y1) b2.ext hfr.left hfit
      have r2:=b2.rd σ' st1 (SP.inj sh.sj y1) (Ext.refl _) hfr.right hfit
      refine ⟨fun j obT ho=>?_,fun vs hl2 hv i p v q1 q2=>?_⟩
      ·have:=r2 (fun j i hj=>UI hj) (fun i ob ho=>Hh hk1 rfl (fun _ _=>rfl) (ObOk.refl _ _ _) (h.sj i ob ho)) j obT ho
       exact Hh hkt rfl (fun _ _=>rfl) (ObOk.refl _ _ _) this
      ·have:=r1 vs hl2 (fun i x v q3 q4=>Uu hk1 (DvOk.refl _ _ _) (hv i x v q3 q4)) i p v q1 q2
       exact Uu hkt (DvOk.refl _ _ _) this
  ·cases hb
 ·cases hb
end
end Go.Ql
end
