/- Part of the lifter: steps and blocks, for any program. -/
import Derived.Test.YtcndclcpmelgoaaDoorLcO
import Derived.Lib.AppendStr
import Derived.Laws.AppendOwnNone
import Derived.Laws.Small
set_option linter.all false
section
set_option linter.unusedSectionVars false
namespace Go.Ql
structure GrownD (w w':World) (row:Option Nat):Prop where
 os:w'.os=w.os
 tape:w'.tape=w.tape
 output:w'.output=w.output
 size:w.heap.size≤w'.heap.size
 block : ∀ k,k < w.heap.size→some k≠row→w'.heap[k]? = w.heap[k]?
 drawn:w.drawn≤w'.drawn
section
variable [GInv] {P:Program} {G:Env} {n:Nat} {w0 w:World} {Z0:Bs} {st st1:St} {a:Act} {nm:Names} {o:Oper} {dst:Nat} {ρ:Type} {k:Eff→Option ρ} {r:ρ}
theorem UC (t ty e:TypeId) (i:TypeInfo) (z:Value) (size:Nat) (ht:P.underlying t=some (.slice e)) (hi:P.info? e=some i) (hz:i.zero=some z)
 (hsize:i.size=size) (hzs:z.cells.size=size) (hsz:0 < size)
 (v:Value) (m:Nat) (xs:List Value) (hown:w.ownsM e size v m xs) (y:Value) (q:Nat) (news:List Value) (hl:news.length=q*size)
 (hy:(y = .slice none 0 0∧q=0) ∨ ∃ ad c,y = .slice (some ad) q c ∧ ∀ j u,news[j]? = some u→w.cell? (ad.add j)=some u) (h1 : ∀ u∈news,u.oneCell'=true)
 (h63:m+q≤140737488355328) (hbytes:(m+q)*i.bytes≤140737488355328) :
 ∃ v' w',(Builtin.append_ #[t,t] ty #[v,y]).run P w = .ok v' w'∧w'.ownsM e size v' (m+q) (xs++news)∧GrownD w w' (blk v) ∧
  ∀ b,blk v'=some b→blk v=some b∨(w.heap.size≤b∧b < w'.heap.size):=by
 rcases hy with ⟨rfl,rfl⟩ | ⟨ad,c,rfl,hc⟩
 ·have hn:news=[]:=List.eq_nil_of_length_eq_zero (by simpa using hl)
  subst hn
  exact ⟨v,w,run_append_none_own (P:=P) w t ty e i size ht hi v m xs hown,by simpa using hown,⟨rfl,rfl,rfl,Nat.le_refl _,fun _ _ _=>rfl,Nat.le_refl _⟩,fun b hb => .inl hb⟩
 ·subst hsize
  have hmax:m+q≤maxLen:=by simp only [maxLen];omega
  have hlen:(xs++news).length=(m+q)*i.size:=by rw [List.length_append,hown.1,hl,Nat.add_mul]
  have grown : ∀ (old:Nat) (row:Option Nat),
   (w.drew.alloc (.cells (xs.toArray++news.toArray++Builtin.zeroCells z.cells (grownCap w (m+q) old e - (m+q))) e)).ownsM e i.size
    (.slice (some ⟨w.heap.size,0,none⟩) (m+q) (grownCap w (m+q) old e)) (m+q) (xs++news) ∧
   GrownD w (w.drew.alloc (.cells (xs.toArray++news.toArray++Builtin.zeroCells z.cells (grownCap w (m+q) old e - (m+q))) e)) row:=by
   intro old row
   have hge:=grownCap_ge w (m+q) old e
   have hcm:grownCap w (m+q) old e≤maxLen:=grownCap_le_maxLen w (m+q) old e hmax
   refine ⟨⟨hlen,.inr ⟨w.heap.size,_,_,rfl,.of (heap_alloc_new w.drew _),hge,hcm,?_,?_⟩⟩,⟨rfl,rfl,rfl,by simp,fun k hk _=>heap_alloc_old w.drew _ k hk,Nat.le_succ _⟩⟩
   ·simp only [Array.size_append,List.size_toArray,size_zeroCells,hzs,hown.1,hl,← Nat.add_mul]
    congr 1
    omega
   ·simp only [Array.toList_append,List.append_assoc]
    rw [← List.append_assoc,← hlen]
    exact List.take_left
  have hnew : ∀ (old:Nat) (c:Obj) (b:Nat),blk (.slice (some ⟨w.heap.size,0,none⟩) (m+q) (grownCap w (m+q) old e))=some b→w.heap.size≤b∧b < (w.drew.alloc c).heap.size:=by
   intro old c b hb
   simp only [blk,Option.some.injEq] at hb
   subst hb
   exact ⟨Nat.le_refl _,by simp⟩
  rcases hown.2 with ⟨rfl,rfl⟩ | ⟨g,cap,cur,rfl,hg,hnc,hcm,hcs,htake⟩
  ·have hx:xs=[]:=List.eq_nil_of_length_eq_zero (by simpa using hown.1)
   subst hx
   by_cases hq:q=0
   ·subst hq
    have hn:news=[]:=List.eq_nil_of_length_eq_zero (by simpa using hl)
    subst hn
    refine ⟨.slice none 0 0,w,?_,Vj w e i.size,⟨rfl,rfl,rfl,Nat.le_refl _,fun _ _ _=>rfl,Nat.le_refl _⟩,fun b hb => .inl hb⟩
    simp [Builtin.append_,run_underlying ht,sizeOf,typeInfo,hi,Builtin.lenOf,Builtin.firstCells,loadCells,loadCellsFrom]
   ·have hr:=run_append_nil (P:=P) w t ty e i z ht hi hz ad q c news hl hc (by omega) (by omega) (by have hb:=hbytes;simp only [Nat.zero_add] at hb;omega)
    have hgr:=grown 0 (blk (.slice none 0 0))
    have hnw:=hnew 0
    simp only [Nat.zero_add,List.nil_append,Array.empty_append] at hgr hnw ⊢
    exact ⟨_,_,hr,hgr.1,hgr.2,fun b hb => .inr (hnw _ b hb)⟩
  ·by_cases hroom:m+q≤cap
   ·have hfit:m*i.size+news.length≤cur.size:=by rw [hl,hcs,← Nat.add_mul];exact Nat.mul_le_mul_right _ hroom
    have hr:=run_append_room_own (P:=P) w t ty e i ht hi g m cap cur hg ad q c news hl hc h1 hroom hfit
    have hsame:(cur.toList.take (m*i.size)++news++cur.toList.drop (m*i.size+news.length)).toArray.size=cur.size:=by
     simp only [List.size_toArray,List.length_append,List.length_take,List.length_drop,Array.length_toList]
     omega
    refine ⟨_,_,hr,⟨hlen,.inr ⟨g,cap,_,rfl,hg.set hsame,hroom,hcm,?_,?_⟩⟩,⟨rfl,rfl,rfl,by simp,fun k _ hk=>setRow_other w g k _ (fun e=>hk (by simp [blk,e])),by first | exact Nat.le_refl _ | exact Nat.le_succ _⟩,fun b hb => .inl hb⟩
    ·rw [hsame,hcs]
    ·rw [htake,← hlen]
     exact List.take_left
   ·have holds:=ownsM_cells hown
    have hr:=run_append_grow (P:=P) w t ty e i z ht hi hz ⟨g,0,none⟩ m cap xs hown.1 holds ad q c news hl hc (by omega) (by omega) (growslice_fits (by omega) hbytes)
    have hgr:=grown cap (blk (.slice (some ⟨g,0,none⟩) m cap))
    exact ⟨_,_,hr,hgr.1,hgr.2,fun b hb => .inr (hnew cap _ b hb)⟩
theorem app_full (t ty e:TypeId) (i:TypeInfo) (z:Value) (size:Nat) (ht:P.underlying t=some (.slice e)) (hi:P.info? e=some i) (hz:i.zero=some z)
 (hsize:i.size=size) (hzs:z.cells.size=size) (hsz:0 < size)
 (v:Value) (m:Nat) (xs:List Value) (hxl:xs.length=m*size) (hv:(v = .slice none 0 0∧m=0) ∨ ∃ ad,v = .slice (some ad) m m ∧ ∀ j u,xs[j]? = some u→w.cell? (ad.add j)=some u) (y:Value) (q:Nat) (news:List Value) (hl:news.length=q*size)
 (hy:(y = .slice none 0 0∧q=0) ∨ ∃ ad c,y = .slice (some ad) q c ∧ ∀ j u,news[j]? = some u→w.cell? (ad.add j)=some u) (h1 : ∀ u∈news,u.oneCell'=true) (hq:0 < q)
 (h63:m+q≤140737488355328) (hbytes:(m+q)*i.bytes≤140737488355328) :
 ∃ v' w',(Builtin.append_ #[t,t] ty #[v,y]).run P w = .ok v' w'∧w'.ownsM e size v' (m+q) (xs++news)∧GrownD w w' none ∧
  ∀ b,blk v'=some b→w.heap.size≤b∧b < w'.heap.size:=by
 rcases hv with ⟨rfl,rfl⟩ | ⟨ad0,rfl,holds⟩
 ·have hx:xs=[]:=List.eq_nil_of_length_eq_zero (by simpa using hxl)
  subst hx
  obtain ⟨v',w',a1,a2,a3,a4⟩:=UC (P:=P) (w:=w) t ty e i z size ht hi hz hsize hzs hsz (.slice none 0 0) 0 [] ⟨by simp,.inl ⟨rfl,rfl⟩⟩ y q news hl hy h1 h63 hbytes
  exact ⟨v',w',a1,a2,a3,fun b hb=>(a4 b hb).resolve_left (by simp [blk])⟩
 ·rcases hy with ⟨rfl,rfl⟩ | ⟨ad,c,rfl,hc⟩
  ·omega
  ·subst hsize
   have hmax:m+q≤maxLen:=by simp only [maxLen];omega
   have hlen:(xs++news).length=(m+q)*i.size:=by rw [List.length_append,hxl,hl,Nat.add_mul]
   have hge:=grownCap_ge w (m+q) m e
   have hcm:grownCap w (m+q) m e≤maxLen:=grownCap_le_maxLen w (m+q) m e hmax
   have hr:=run_append_grow (P:=P) w t ty e i z ht hi hz ad0 m m xs hxl holds ad q c news hl hc (by omega) (by omega) (growslice_fits (by omega) hbytes)
   refine ⟨_,_,hr,⟨hlen,.inr ⟨w.heap.size,_,_,rfl,.of (heap_alloc_new w.drew _),hge,hcm,?_,?_⟩⟩,⟨rfl,rfl,rfl,by simp,fun k hk _=>heap_alloc_old w.drew _ k hk,Nat.le_succ _⟩,fun b hb => ?_⟩
   ·simp only [Array.size_append,List.size_toArray,size_zeroCells,hzs,hxl,hl,← Nat.add_mul]
    congr 1
    omega
   ·simp only [Array.toList_append,List.append_assoc]
    rw [← List.append_assoc,← hlen]
    exact List.take_left
   ·simp only [blk,Option.some.injEq] at hb
    subst hb
    exact ⟨Nat.le_refl _,by simp⟩
theorem Vc {c:Call} {b:Builtin} (ho:o.op = .call c) (hc:c.callee = .builtin b) {s:Sem Value} (hs : ∀ cs,builtin b c.argTypes o.type cs (c.args.map a.eval)=(do pure (Next.value (← s)))) {v:Value} {w':World}
 (hr:s.run P w = .ok v w'):(execOp a.eval o).run P w = .ok (.value v) w':=by
 simp only [execOp,ho,resolve,hc,Sem.run_bind,Sem.run_pure,Result.andThen_ok,invoke,hs,hr]
theorem app_run_str (t u ty e:TypeId) (i:TypeInfo) (z:Value) (ht:P.underlying t=some (.slice e)) (hu:P.underlying u=some .string) (hi:P.info? e=some i) (hz:i.zero=some z)
 (hsize:i.size=1) (hby:i.bytes=1) (hzs:z.cells.size=1) (v:Value) (m:Nat) (xs:List Value) (hown:w.ownsM e 1 v m xs) (s:ByteArray) (hb:m+s.size≤140737488355328) :
 ∃ v' w',(Builtin.append_ #[t,u] ty #[v,.string s]).run P w = .ok v' w'∧w'.ownsM e 1 v' (m+s.size) (xs++Lib.strCells s)∧GrownD w w' (blk v) ∧
  ∀ b,blk v'=some b→blk v=some b∨(w.heap.size≤b∧b < w'.heap.size):=by
 have hxl:xs.length=m:=by simpa using hown.1
 have hlen:(xs++Lib.strCells s).length=(m+s.size)*1:=by rw [List.length_append,hxl,Lib.strCells_length,Nat.mul_one]
 have hmax:m+s.size≤maxLen:=by simp only [maxLen];omega
 have grown : ∀ (old:Nat) (row:Option Nat),
  (w.drew.alloc (.cells (xs.toArray++(Lib.strCells s).toArray++Builtin.zeroCells z.cells (grownCap w (m+s.size) old e - (m+s.size))) e)).ownsM e 1
   (.slice (some ⟨w.heap.size,0,none⟩) (m+s.size) (grownCap w (m+s.size) old e)) (m+s.size) (xs++Lib.strCells s) ∧
  GrownD w (w.drew.alloc (.cells (xs.toArray++(Lib.strCells s).toArray++Builtin.zeroCells z.cells (grownCap w (m+s.size) old e - (m+s.size))) e)) row:=by
  intro old row
  have hge:=grownCap_ge w (m+s.size) old e
  have hcm:grownCap w (m+s.size) old e≤maxLen:=grownCap_le_maxLen w (m+s.size) old e hmax
  refine ⟨⟨hlen,.inr ⟨w.heap.size,_,_,rfl,.of (heap_alloc_new w.drew _),hge,hcm,?_,?_⟩⟩,⟨rfl,rfl,rfl,by simp,fun k hk _=>heap_alloc_old w.drew _ k hk,Nat.le_succ _⟩⟩
  ·simp only [Array.size_append,List.size_toArray,size_zeroCells,hzs,hxl,Lib.strCells_length]
   omega
  ·simp only [Array.toList_append,List.append_assoc]
   rw [← List.append_assoc,← hlen]
   exact List.take_left
 have hnew : ∀ (old:Nat) (c:Obj) (b:Nat),blk (.slice (some ⟨w.heap.size,0,none⟩) (m+s.size) (grownCap w (m+s.size) old e))=some b→w.heap.size≤b∧b < (w.drew.alloc c).heap.size:=by
  intro old c b hb
  simp only [blk,Option.some.injEq] at hb
  subst hb
  exact ⟨Nat.le_refl _,by simp⟩
 rcases hown.2 with ⟨rfl,rfl⟩ | ⟨g,cap,cur,rfl,hg,hnc,hcm,hcs,htake⟩
 ·have hx:xs=[]:=List.eq_nil_of_length_eq_zero hxl
  subst hx
  by_cases hm:s.size=0
  ·have hn:Lib.strCells s=[]:=List.eq_nil_of_length_eq_zero (by rw [Lib.strCells_length];exact hm)
   refine ⟨.slice none 0 0,w,?_,by rw [hm,hn];exact Vj w e 1,⟨rfl,rfl,rfl,Nat.le_refl _,fun _ _ _=>rfl,Nat.le_refl _⟩,fun b hb => .inl hb⟩
   have hf:=Lib.run_firstCells_string (P:=P) w 1 s
   rw [hm] at hf
   simp [Builtin.append_,run_underlying ht,run_underlying hu,sizeOf,typeInfo,hi,hsize,Builtin.lenOf,hm,hf]
  ·have hr:=run_append_nil_string (P:=P) w t u ty e i z ht hu hi hz s (by omega) (by omega) (by rw [hby];omega)
   have hgr:=grown 0 (blk (.slice none 0 0))
   have hnw:=hnew 0
   simp only [Nat.zero_add,List.nil_append,Array.empty_append] at hgr hnw ⊢
   have e1:(s.data.map fun b=>Value.int .u8 b.toNat)=(Lib.strCells s).toArray:=by
    apply Array.ext'
    simp [Lib.strCells]
   rw [e1] at hr
   exact ⟨_,_,hr,hgr.1,hgr.2,fun b hb => .inr (hnw _ b hb)⟩
 ·by_cases hroom:m+s.size≤cap
  ·have hcs':cur.size=cap:=by simpa using hcs
   have hr:=run_append_room_string_own (P:=P) w t u ty e i ht hu hi hsize g m cap cur hg s hroom (by omega)
   have hsame:(cur.toList.take m++Lib.strCells s++cur.toList.drop (m+s.size)).toArray.size=cur.size:=by
    simp only [List.size_toArray,List.length_append,List.length_take,List.length_drop,Array.length_toList,Lib.strCells_length]
    omega
   refine ⟨_,_,hr,⟨hlen,.inr ⟨g,cap,_,rfl,hg.set hsame,hroom,hcm,?_,?_⟩⟩,⟨rfl,rfl,rfl,by simp,fun k _ hk=>setRow_other w g k _ (fun e=>hk (by simp [blk,e])),by first | exact Nat.le_refl _ | exact Nat.le_succ _⟩,fun b hb => .inl hb⟩
   ·rw [hsame,hcs]
   ·have ht':cur.toList.take m=xs:=by simpa using htake
    simp only [List.toList_toArray]
    rw [ht',← hlen]
    exact List.take_left
  ·have holds : ∀ j u,xs[j]? = some u→w.cell? ((⟨g,0,none⟩:Addr).add j)=some u:=ownsM_cells hown
   have hr:=Lib.run_append_grow_string (P:=P) w t u ty e i z ht hu hi hz ⟨g,0,none⟩ m cap xs (by rw [hsize];simpa using hxl) holds s (by omega) (by omega) (by rw [hby];exact growslice_fits (by omega) (by omega))
   have hgr:=grown cap (blk (.slice (some ⟨g,0,none⟩) m cap))
   exact ⟨_,_,hr,hgr.1,hgr.2,fun b hb => .inr (hnew cap _ b hb)⟩
theorem Good.appDeep (h:Rel n w0 Z0 st a w nm) {id tv id2 v2:Nat} {e te:TypeId} {s:Ty} {xs ys:List s.den} (hob2:look st.objs id2=some (.deep v2 false e te s ys none)) (hne:id2≠id)
 {hd1 hd2:Value} {us1 us2 c1 c2:List Value} (hst : ∀ nv,Stays nm id nv (look st.objs id) (.deep tv false e te s (xs++ys) none))
 (hbl : ∀ u∈hd1::us1,∀ b,blk u=some b → ∃ ob,look st.objs id=some ob∧ob.mine=true∧hasB (nm id) b)
 (h2:rdIs w (Zc w0 Z0 nm st.objs w) te s c1 xs us1) (h3:kD (hd1::us1)) (k0:nm id2 = .tuple (hd2::us2).toArray) (k2:rdIs w (Zc w0 Z0 nm st.objs w) te s c2 ys us2) (k3:kD (hd2::us2))
 {v':Value} {w':World} (q1:(execOp a.eval o).run P w = .ok (.value v') w') (q2:w'.ownsM e s.cells v' (xs.length+ys.length) (c1++c2)) (q3:GrownD w w' (blk hd1))
 (q4 : ∀ b,blk v'=some b→blk hd1=some b∨(w.heap.size≤b∧b < w'.heap.size)) :
 Good P n w0 Z0 st a w o ⟨.one (.down id tv),[(id,.deep tv false e te s (xs++ys) none),(id2,.gone)]⟩:=by
 intro st' hl
 have hn1:setN (setN nm id2 .nilIface) id (.tuple (v'::(us1++us2)).toArray) id = .tuple (v'::(us1++us2)).toArray:=jW _ _ _
 have hn2:setN (setN nm id2 .nilIface) id (.tuple (v'::(us1++us2)).toArray) id2 = .nilIface:=by rw [ka _ _ hne,jW]
 have hb2 : ∀ u∈us2,∀ b,blk u=some b→hasB (nm id2) b:=fun u hu b hb=>by rw [k0];exact km.2 ⟨u,by simp [hu],hb⟩
 have lt1 : ∀ u∈hd1::us1,∀ b,blk u=some b→b < w.heap.size:=fun u hu b hb=>by
  obtain ⟨ob,p1,_,p3⟩:=hbl u hu b hb
  exact (h.new id ob b p1 p3).2
 have lt2 : ∀ u∈us2,∀ b,blk u=some b→b < w.heap.size:=fun u hu b hb=>(h.new id2 _ b hob2 (hb2 u hu b hb)).2
 have x12 : ∀ u∈hd1::us1,∀ x∈us2,∀ b,blk u=some b→blk x≠some b:=fun u hu x hx b hb hb'=>by
  obtain ⟨ob,p1,_,p3⟩:=hbl u hu b hb
  exact hne (h.inj id2 id _ ob b hob2 p1 (hb2 x hx b hb') p3)
 unfold kD at h3 k3
 have h3:=List.pairwise_cons.1 h3
 have k3:=List.pairwise_cons.1 k3
 refine Does.of_run q1 ⟨_,h.updM (setN (setN nm id2 .nilIface) id (.tuple (v'::(us1++us2)).toArray)) hl (by simp [kj,Jb.2 hne]) (fun j hj => ?_) ?_ ⟨q3.os,q3.tape,q3.output,q3.size⟩ (fun b hb => ?_) ?_ ?_ (fun hk => ?_),Va q2,fun _ _ _ _ _ _ _=>by rw [hn1,JR]⟩
 ·rw [ka _ _ (Ne.symm (hj _ (List.mem_cons_self ..))),ka _ _ (Ne.symm (hj _ (List.mem_cons_of_mem _ (List.mem_cons_self ..))))]
 ·simp only [List.forall_mem_cons,List.not_mem_nil,false_imp_iff,implies_true,and_true]
  exact ⟨hst _,by rw [hob2];trivial⟩
 ·by_cases hbb:blk hd1=some b
  ·obtain ⟨ob,p⟩:=hbl hd1 (by simp) b hbb
   exact .inl ⟨_,List.mem_cons_self ..,ob,p⟩
  ·exact .inr (q3.block b hb (fun hh=>hbb hh.symm))
 ·simp only [List.forall_mem_cons,List.not_mem_nil,false_imp_iff,implies_true,and_true,hn1,hn2]
  refine ⟨fun b hb => ?_,fun b hb=>by cases hb⟩
  obtain ⟨u,hu,hub⟩:=km.1 hb
  have old : ∀ u∈hd1::us1,blk u=some b → ∃ q∈[(id,Ob.deep tv false e te s (xs++ys) none),(id2,Ob.gone)],∃ ob,look st.objs q.1=some ob∧(ob.mine=true∨(Ob.deep tv false e te s (xs++ys) none).mine=false)∧hasB (nm q.1) b:=fun u hu hb=>by
   obtain ⟨ob,p1,p2,p3⟩:=hbl u hu b hb
   exact ⟨_,List.mem_cons_self ..,ob,p1,.inl p2,p3⟩
  rcases List.mem_cons.1 hu with rfl | hu
  ·rcases q4 b hub with hh | hh
   ·exact .inl (old hd1 (by simp) hh)
   ·exact .inr hh
  ·rcases List.mem_append.1 hu with hu | hu
   ·exact .inl (old u (by simp [hu]) hub)
   ·exact .inl ⟨_,List.mem_cons_of_mem _ (List.mem_cons_self ..),_,hob2,.inl rfl,hb2 u hu b hub⟩
 ·have hno : ∀ b,¬ hasB (setN (setN nm id2 .nilIface) id (.tuple (v'::(us1++us2)).toArray) id2) b:=fun b hb=>by rw [hn2] at hb;cases hb
  simp only [List.forall_mem_cons,List.not_mem_nil,false_imp_iff,implies_true,and_true,true_and]
  exact ⟨fun b _ h2=>absurd h2 (hno b),fun b h1=>absurd h1 (hno b)⟩
 ·simp only [List.forall_mem_cons,List.not_mem_nil,false_imp_iff,implies_true,and_true]
  refine ⟨?_,trivial⟩
  show rdDeep w' _ _ e te s (xs++ys)
  rw [hn1]
  refine ⟨v',us1++us2,c1++c2,rfl,by rw [List.length_append];exact q2,rdIs_append (YM hk.weak (fun u hu b hb=>q3.block b (lt1 u (by simp [hu]) b hb) fun hh=>h3.1 u hu b hh.symm hb) h2)
   (YM hk.weak (fun u hu b hb=>q3.block b (lt2 u hu b hb) fun hh=>x12 hd1 (by simp) u hu b hh.symm hb) k2),?_⟩
  refine List.pairwise_cons.2 ⟨fun u hu b hb hb' => ?_,List.pairwise_append.2 ⟨h3.2,k3.2,fun u hu x hx b hb=>x12 u (by simp [hu]) x hx b hb⟩⟩
  rcases q4 b hb with hh | hh
  ·rcases List.mem_append.1 hu with hu | hu
   ·exact h3.1 u hu b hh hb'
   ·exact x12 hd1 (by simp) u hu b hh hb'
  ·rcases List.mem_append.1 hu with hu | hu
   ·have:=lt1 u (by simp [hu]) b hb';omega
   ·have:=lt2 u hu b hb';omega
theorem Good.appOwn (h:Rel n w0 Z0 st a w nm) {id v:Nat} {e:TypeId} {s:Ty} {xs ys:List s.den} (hmap:s.isMap=false) (hob:look st.objs id=some (.arr v false e s xs)) {v':Value} {w':World} {olds cells:List Value}
 (q1:(execOp a.eval o).run P w = .ok (.value v') w') (q2:w'.ownsM e s.cells v' (xs.length+ys.length) (olds++cells)) (q3:GrownD w w' (blk (nm id)))
 (q4 : ∀ b,blk v'=some b→blk (nm id)=some b∨(w.heap.size≤b∧b < w'.heap.size)) (q5 : ∀ b,hasB (nm id) b↔blk (nm id)=some b) (o2:rdAll (rdC w (Zc w0 Z0 nm st.objs w) s) olds xs) (n2:rdAll (rdC w (Zc w0 Z0 nm st.objs w) s) cells ys) :
 Good P n w0 Z0 st a w o ⟨.one (.own id (v+1)),[(id,.arr (v+1) false e s (xs++ys))]⟩:=by
 intro st' hl
 obtain ⟨hmay,rfl⟩:=kF hl
 have hkz:Kept w w' (Zc w0 Z0 nm st.objs w) (Zc w0 Z0 (setN nm id v') (ins id (.arr (v+1) false e s (xs++ys)) st.objs) w'):=by
  rintro b ⟨z1,z2,z3⟩
  refine ⟨⟨Nat.lt_of_lt_of_le z1 q3.size,z2,?_⟩,q3.block b z1 (fun hb=>z3 ⟨id,_,hob,rfl,Yw hb.symm⟩)⟩
  rintro ⟨j,ob,y1,y2,y3⟩
  by_cases hj:id=j
  ·subst hj
   rw [jW] at y3
   rcases q4 b ((Yh q2).1 y3) with hh | hh
   ·exact z3 ⟨id,_,hob,rfl,Yw hh⟩
   ·omega
  ·rw [Jl,if_neg hj] at y1
   rw [ka _ _ (Ne.symm hj)] at y3
   exact z3 ⟨j,ob,y1,y2,y3⟩
 refine Does.of_run q1 ⟨setN nm id v',?_,?_⟩
 ·refine h.upd id _ v' hmay (by rw [hob];exact fun hh=>absurd hh (by omega)) ⟨q3.os,q3.tape,q3.output,q3.size⟩ (fun b hb => ?_) (fun b hb => ?_) ?_
  ·by_cases hbb:blk (nm id)=some b
   ·exact .inl ⟨_,hob,rfl,Yw hbb⟩
   ·exact .inr (q3.block b hb (fun hh=>hbb hh.symm))
  ·rcases q4 b ((Yh q2).1 hb) with hh | hh
   ·exact .inl ⟨Yw hh,_,hob,.inl rfl⟩
   ·exact .inr hh
  ·refine .inl ⟨hmap,olds++cells,by rw [jW,List.length_append];exact q2,JN.2 ⟨olds,cells,rfl,?_,?_⟩⟩
   ·exact JK (fun _ _=>JD hkz s) o2
   ·exact JK (fun _ _=>JD hkz s) n2
 ·refine ⟨?_,fun fz e t xs hl=>(jW _ _ _).symm⟩
  rcases q2.2 with ⟨e1,_⟩ | ⟨g,cap,cur,e1,_⟩ <;> rw [e1] <;> rfl
theorem bytes_rd (Z:Nat→Prop) (bs:List UInt8):rdAll (rdC w Z (.int .u8)) (Lib.strCells ⟨bs.toArray⟩) (bs.map fun b=>(b.toNat:Int)):=by
 have e:Lib.strCells ⟨bs.toArray⟩=(bs.map fun b=>(b.toNat:Int)).map (Value.int .u8):=by
  simp [Lib.strCells,List.map_map,Function.comp_def]
 rw [e]
 exact rdAll_ints w Z .u8 _
theorem eff_append {c:Call} (ho:o.op = .call c) (hc:c.callee = .builtin .append):EffOk P G o:=by
 have hc':=hc
 intro hT n w0 w Z0 st a nm dst ρ k r h he
 unfold effK at he
 rw [ho] at he
 simp only [hc] at he
 split at he
 ·rename_i x y t t' ha1 ha2
  cases htt:Nat.beq t t' with
  | false=>
    rw [htt] at he
    simp only [cond_false] at he
    split at he
    ·rename_i e by_ kd dx bs h1 h1' h2 h3
     cases hby:Nat.beq by_ 1 with
     | false=>rw [hby] at he;cases he
     | true=>
       rw [hby] at he
       simp only [cond_true] at he
       have hby:=beqN.1 hby
       obtain ⟨hu,i,z,g1,g2,g3,g4,g5,g6⟩:=kM hT h1
       have hus:=VF hT h1' rfl
       have hzl:z.cells.size=1:=by have:=kE (.int .u8) g5;simpa [Ty.cells] using this
       have hargs:c.args = #[x,y]:=by rw [← Array.toArray_toList (xs:=c.args),ha1]
       have hat:c.argTypes = #[t,t']:=by rw [← Array.toArray_toList (xs:=c.argTypes),ha2]
       have hys:a.eval y = .string ⟨bs.toArray⟩:=Uh h h3
       have hx : ∀ v' w',(Builtin.append_ #[t,t'] o.type #[a.eval x,a.eval y]).run P w = .ok v' w'→(execOp a.eval o).run P w = .ok (.value v') w':=by
        intro v' w' hr
        exact Vc ho hc (s:=Builtin.append_ #[t,t'] o.type #[a.eval x,a.eval y]) (fun cs=>by simp [builtin,hargs,hat]) hr
       have hsz:(⟨bs.toArray⟩:ByteArray).size=bs.length:=by simp [ByteArray.size]
       have hml:(bs.map fun b=>(b.toNat:Int)).length=bs.length:=by simp
       split at he
       ·split at he
        ·rename_i ver hver
         obtain ⟨_,hb,he⟩:=ju he
         have hb:=of_decide_eq_true (JB hb)
         simp only [kz] at hb
         have hxv:a.eval x = .slice none 0 0:=ev_rd h h2
         obtain ⟨v',w',q1,q2,q3,q4⟩:=app_run_str (P:=P) (w:=w) t t' o.type e i z hu hus g1 g4 g2 (g3.trans hby) hzl (.slice none 0 0) 0 [] ⟨by simp,.inl ⟨rfl,rfl⟩⟩ ⟨bs.toArray⟩ (by rw [hsz];omega)
         rw [← hxv,← hys] at q1
         have hsame:Same w w':=⟨q3.os,q3.tape,q3.output,q3.size,fun b hb=>q3.block b hb (by simp [blk])⟩
         rw [Nat.zero_add,List.nil_append,hsz,← hml] at q2
         refine ⟨_,he,Good.newArr h rfl hver (hx _ _ q1) hsame (fun b hb=>(q4 b ((Yh q2).1 hb)).resolve_left (by simp [blk])) q2 ?_⟩
         exact bytes_rd _ bs
        ·cases he
       ·rename_i id ver
        split at he
        ·rename_i v e' s' xs hob
         split at he
         ·rename_i hs
          subst hs
          cases hv:(Nat.beq v ver && Nat.beq e' e) with
          | false=>rw [hv] at he;cases he
          | true=>
            rw [hv] at he
            rw [Bool.and_eq_true] at hv
            have:=beqN.1 hv.1
            subst this
            have:=beqN.1 hv.2
            subst this
            simp only [cond_true] at he
            obtain ⟨_,hb,he⟩:=ju he
            have hb:=of_decide_eq_true (JB hb)
            simp only [kz] at hb
            have hxv:a.eval x=nm id:=(ev_rd h h2).2 false e' (.int .u8) xs hob
            obtain ⟨olds,o1,o2⟩:=(h.objs id _ hob).sl rfl
            obtain ⟨v',w',q1,q2,q3,q4⟩:=app_run_str (P:=P) (w:=w) t t' o.type e' i z hu hus g1 g4 g2 (g3.trans hby) hzl (nm id) xs.length olds o1 ⟨bs.toArray⟩ (by rw [hsz];exact hb)
            rw [← hxv,← hys] at q1
            rw [hsz,← hml] at q2
            exact ⟨_,he,Good.appOwn h rfl hob (hx _ _ q1) q2 q3 q4 (fun b=>Yh o1) o2 (bytes_rd _ bs)⟩
         ·cases he
        ·cases he
       ·cases he
    ·cases he
  | true=>
    rw [htt] at he
    have:=beqN.1 htt
    subst this
    simp only [cond_true] at he
    split at he
    ·rename_i s e by_ dx id2 ver2 h1 h2 h3
     split at he
     ·rename_i v2 e2 te2 s2 ys hob2
      split at he
      ·rename_i hs2
       subst hs2
       cases hc:(Nat.beq v2 ver2 && Nat.beq e2 e) with
       | false=>rw [hc] at he;cases he
       | true=>
         rw [hc] at he
         simp only [cond_true] at he
         rw [Bool.and_eq_true] at hc
         have:=beqN.1 hc.1
         subst this
         have:=beqN.1 hc.2
         subst this
         obtain ⟨hu,i,z,g1,g2,g3,g4,g5,g6⟩:=kM hT h1
         have hzl:z.cells.size=s2.cells:=by have:=kE s2 g5;simpa using this
         have hargs:c.args = #[x,y]:=by rw [← Array.toArray_toList (xs:=c.args),ha1]
         have hat:c.argTypes = #[t,t]:=by rw [← Array.toArray_toList (xs:=c.argTypes),ha2]
         have hx : ∀ v' w',(Builtin.append_ #[t,t] o.type #[a.eval x,a.eval y]).run P w = .ok v' w'→(execOp a.eval o).run P w = .ok (.value v') w':=by
          intro v' w' hr
          exact Vc ho hc' (s:=Builtin.append_ #[t,t] o.type #[a.eval x,a.eval y]) (fun cs=>by simp [builtin,hargs,hat]) hr
         obtain ⟨hd2,us2,c2,k0,k1,k2,k3⟩:=h.objs id2 _ hob2
         have hyv:a.eval y=hd2:=by have:=(ev_rd h h3).2 _ _ _ _ _ _ hob2;rw [k0,JR] at this;exact this
         have hy:(a.eval y = .slice none 0 0∧ys.length=0) ∨ ∃ ad c,a.eval y = .slice (some ad) ys.length c ∧ ∀ j u,c2[j]? = some u→w.cell? (ad.add j)=some u:=by
          rw [hyv]
          rcases k1.2 with e1 | ⟨g,cap,cur,e1,_⟩
          ·exact .inl e1
          ·exact .inr ⟨_,cap,e1,fun j u hj=>by rw [Addr.add_lit,Nat.zero_add];exact own_cell k1 e1 hj⟩
         split at he
         ·split at he
          ·rename_i ver hver
           cases hn:Nat.beq id2 dst with
           | true=>rw [hn] at he;cases he
           | false=>
             rw [hn] at he
             have hn:=Jb.1 hn
             obtain ⟨_,hb,he⟩:=ju he
             have hb:=JB hb
             rw [Bool.and_eq_true] at hb
             have hb:ys.length*by_≤140737488355328∧ys.length≤140737488355328:=⟨of_decide_eq_true hb.1,of_decide_eq_true hb.2⟩
             have hxv:a.eval x = .slice none 0 0:=ev_rd h h2
             obtain ⟨v',w',q1,q2,q3,q4⟩:=UC (P:=P) (w:=w) t o.type e2 i z s2.cells hu g1 g4 g2 hzl g6 (.slice none 0 0) 0 [] (Vj w e2 s2.cells) (a.eval y) ys.length c2 k1.1 hy (rdIs_one k2) (by omega) (by rw [g3,Nat.zero_add];exact hb.1)
             rw [← hxv] at q1
             refine ⟨_,he,Good.appDeep (xs:=[]) (us1:=[]) (c1:=[]) h hob2 hn (fun nv => ?_) (fun u hu b hb => ?_) ⟨rfl,rfl⟩ (by simp [kD]) k0 k2 k3 (hx _ _ q1) q2 q3 q4⟩
             ·unfold verD at hver
              split at hver
              ·rename_i hh;rw [hh];trivial
              ·rename_i hh;rw [hh];cases hver;exact fun hh=>absurd hh (by omega)
              ·cases hver
             ·rw [List.mem_singleton.1 hu] at hb;cases hb
          ·cases he
         ·rename_i id ver
          split at he
          ·rename_i v e' te s' xs hob
           split at he
           ·rename_i hs
            subst hs
            cases hv:(Nat.beq v ver && Nat.beq e' e2 && Nat.beq te te2 && !Nat.beq id2 id) with
            | false=>rw [hv] at he;cases he
            | true=>
              rw [hv] at he
              simp only [cond_true] at he
              simp only [Bool.and_eq_true,Bool.not_eq_true'] at hv
              obtain ⟨⟨⟨y1,y2⟩,y3⟩,y4⟩:=hv
              have:=beqN.1 y1
              subst this
              have:=beqN.1 y2
              subst this
              have:=beqN.1 y3
              subst this
              have hn:=Jb.1 y4
              obtain ⟨_,hb,he⟩:=ju he
              have hb:=JB hb
              rw [Bool.and_eq_true] at hb
              have hb:(xs.length+ys.length)*by_≤140737488355328∧xs.length+ys.length≤140737488355328:=⟨of_decide_eq_true hb.1,of_decide_eq_true hb.2⟩
              obtain ⟨hd1,us1,c1,m0,m1,m2,m3⟩:=h.objs id _ hob
              have hxv:a.eval x=hd1:=by have:=(ev_rd h h2).2 _ _ _ _ _ _ hob;rw [m0,JR] at this;exact this
              obtain ⟨v',w',q1,q2,q3,q4⟩:=UC (P:=P) (w:=w) t o.type e' i z s'.cells hu g1 g4 g2 hzl g6 hd1 xs.length c1 m1 (a.eval y) ys.length c2 k1.1 hy (rdIs_one k2) hb.2 (by rw [g3];exact hb.1)
              rw [← hxv] at q1
              refine ⟨_,he,Good.appDeep h hob2 hn (fun nv => ?_) (fun u hu b hb=>⟨_,hob,rfl,by rw [m0];exact km.2 ⟨u,hu,hb⟩⟩) m2 m3 k0 k2 k3 (hx _ _ q1) q2 q3 q4⟩
              rw [hob]
              exact fun hh=>absurd hh (by omega)
           ·cases he
          ·cases he
         ·cases he
      ·cases he
     ·cases he
    ·rename_i s e by_ dx dy h0 h1 h2 h3
     obtain ⟨hu,i,z,g1,g2,g3,g4,g5,g6⟩:=kM hT h1
     have hzl:z.cells.size=s.cells:=by have:=kE s g5;simpa using this
     have hargs:c.args = #[x,y]:=by rw [← Array.toArray_toList (xs:=c.args),ha1]
     have hat:c.argTypes = #[t,t]:=by rw [← Array.toArray_toList (xs:=c.argTypes),ha2]
     have hx : ∀ v' w',(Builtin.append_ #[t,t] o.type #[a.eval x,a.eval y]).run P w = .ok v' w'→(execOp a.eval o).run P w = .ok (.value v') w':=by
      intro v' w' hr
      exact Vc ho hc (s:=Builtin.append_ #[t,t] o.type #[a.eval x,a.eval y]) (fun cs=>by simp [builtin,hargs,hat]) hr
     
     have news : ∀ ys:List s.den,rdS w (Zc w0 Z0 nm st.objs w) s (a.eval y) ys → ∃ cells,cells.length=ys.length*s.cells∧rdAll (rdC w (Zc w0 Z0 nm st.objs w) s) cells ys∧(∀ u∈cells,u.oneCell'=true) ∧
      ((a.eval y = .slice none 0 0∧ys.length=0) ∨ ∃ ad c,a.eval y = .slice (some ad) ys.length c ∧ ∀ j u,cells[j]? = some u→w.cell? (ad.add j)=some u):=by
      intro ys hr
      rcases hr with ⟨e1,rfl⟩ | ⟨b,off,cap,cells,e1,e2,e3,e4,e5⟩ | ⟨ad,cap,e1,rfl,_⟩
      ·exact ⟨[],by simp,rfl,by simp,.inl ⟨e1,rfl⟩⟩
      rotate_left
      ·exact ⟨[],by simp,rfl,by simp,.inr ⟨ad,cap,e1,fun j u hj=>by simp at hj⟩⟩
      ·refine ⟨cells,Yc (fun _ _=>Ji s) e4,e4,?_,.inr ⟨_,cap,e1,fun j u hj=>by rw [Addr.add_lit];exact e5 j u hj⟩⟩
       have : ∀ (ys:List s.den) (cells:List Value),rdAll (rdC w (Zc w0 Z0 nm st.objs w) s) cells ys → ∀ u∈cells,u.oneCell'=true:=by
        intro ys
        induction ys with
        | nil=>intro cells h u hu;have h:_=_:=h;subst h;cases hu
        | cons q ys ih=>
          rintro cells ⟨c1,c2,e,h1,h2⟩ u hu
          rw [e,List.mem_append] at hu
          exact hu.elim (kC s h1 u) (ih c2 h2 u)
       exact this ys cells e4
     split at he
     ·
      split at he
      ·rename_i ver hver
       obtain ⟨s',ys,he,hr⟩:=YE h h3 he
       split at he
       ·rename_i hs
        subst hs
        obtain ⟨_,hb,he⟩:=ju he
        have hb:=JB hb
        simp only [Bool.and_eq_true,decide_eq_true_eq,kz,List.length_nil,Nat.zero_add] at hb
        obtain ⟨cells,n1,n2,n3,n4⟩:=news ys hr
        have hxv:a.eval x = .slice none 0 0:=ev_rd h h2
        obtain ⟨v',w',q1,q2,q3,q4⟩:=UC (P:=P) (w:=w) t o.type e i z s'.cells hu g1 g4 g2 hzl g6 (.slice none 0 0) 0 [] ⟨by simp,.inl ⟨rfl,rfl⟩⟩ (a.eval y) ys.length cells n1 n4 n3 (by omega) (by rw [g3,Nat.zero_add];exact hb.1)
        rw [← hxv] at q1
        have hsame:Same w w':=⟨q3.os,q3.tape,q3.output,q3.size,fun b hb=>q3.block b hb (by simp [blk])⟩
        rw [Nat.zero_add,List.nil_append] at q2
        refine ⟨_,he,Good.newArr h (Vn hT h1) hver (hx _ _ q1) hsame (fun b hb=>(q4 b ((Yh q2).1 hb)).resolve_left (by simp [blk])) (cells:=cells) q2 ?_⟩
        exact JK (fun _ _=>JD (fun b hb=>⟨hb,UD (hsame.block b hb.1)⟩) s') n2
       ·cases he
      ·cases he
     ·
      rename_i id ver
      split at he
      ·rename_i v e' s' xs hob
       split at he
       ·rename_i hs
        subst hs
        cases hv:(Nat.beq v ver && Nat.beq e' e) with
        | false=>rw [hv] at he;cases he
        | true=>
          rw [hv] at he
          rw [Bool.and_eq_true] at hv
          have:=beqN.1 hv.1
          subst this
          have:=beqN.1 hv.2
          subst this
          simp only [cond_true] at he
          obtain ⟨s2,ys,he,hr⟩:=YE h h3 he
          split at he
          ·rename_i hs2
           subst hs2
           obtain ⟨_,hb,he⟩:=ju he
           have hb:=JB hb
           rw [Bool.and_eq_true] at hb
           have hb:(xs.length+ys.length)*by_≤140737488355328∧xs.length+ys.length≤140737488355328:=⟨of_decide_eq_true hb.1,of_decide_eq_true hb.2⟩
           obtain ⟨cells,n1,n2,n3,n4⟩:=news ys hr
           have hxv:a.eval x=nm id:=(ev_rd h h2).2 false e' s2 xs hob
           obtain ⟨olds,o1,o2⟩:=(h.objs id _ hob).sl (Vn hT h1)
           obtain ⟨v',w',q1,q2,q3,q4⟩:=UC (P:=P) (w:=w) t o.type e' i z s2.cells hu g1 g4 g2 hzl g6 (nm id) xs.length olds o1 (a.eval y) ys.length cells n1 n4 n3 hb.2 (by rw [g3];exact hb.1)
           rw [← hxv] at q1
           exact ⟨_,he,Good.appOwn h (Vn hT h1) hob (hx _ _ q1) q2 q3 q4 (fun b=>Yh o1) o2 n2⟩
          ·cases he
       ·cases he
      ·cases he
     ·
      rename_i s' xs
      split at he
      ·rename_i hs
       subst hs
       split at he
       ·rename_i ver hver
        obtain ⟨s2,ys,he,hr⟩:=YE h h3 he
        split at he
        ·rename_i hs2
         subst hs2
         obtain ⟨_,hb,he⟩:=ju he
         have hb:=JB hb
         rw [Bool.and_eq_true,Bool.and_eq_true] at hb
         have hb0:=of_decide_eq_true hb.1
         have hb1:((show List s2.den from xs).length+ys.length)*by_≤140737488355328:=of_decide_eq_true hb.2.1
         have hb2:(show List s2.den from xs).length+ys.length≤140737488355328:=of_decide_eq_true hb.2.2
         obtain ⟨cells,n1,n2,n3,n4⟩:=news ys hr
         have hfl:rdV w (Zc w0 Z0 nm st.objs w) (.fl s2) (a.eval x) xs:=ev_rd h h2
         obtain ⟨hsl,ad,m,em⟩:=hfl
         simp only [List.cons.injEq,and_true] at em
         have hold : ∃ olds:List Value,olds.length=(show List s2.den from xs).length*s2.cells∧rdAll (rdC w (Zc w0 Z0 nm st.objs w) s2) olds (show List s2.den from xs) ∧
          ((a.eval x = .slice none 0 0∧(show List s2.den from xs).length=0) ∨ ∃ ad,a.eval x = .slice (some ad) (show List s2.den from xs).length (show List s2.den from xs).length ∧ ∀ j u,olds[j]? = some u→w.cell? (ad.add j)=some u):=by
          rcases rdS_val (t:=s2) (xs:=(show List s2.den from xs)) hsl with ⟨e1,e2⟩ | ⟨b,off,cap,cs,e1,e2,e3,e4,e5⟩ | ⟨ad',cap,e1,e2,_⟩
          ·rw [e2];exact ⟨[],by simp,rfl,.inl ⟨e1,rfl⟩⟩
          ·refine ⟨cs,Yc (fun _ _=>Ji s2) e4,e4,.inr ⟨⟨b,off,none⟩,?_,fun j u hj=>by rw [Addr.add_lit];exact e5 j u hj⟩⟩
           rw [e1] at em ⊢
           cases em
           rfl
          ·rw [e2]
           refine ⟨[],by simp,rfl,.inr ⟨ad',?_,fun j u hj=>by simp at hj⟩⟩
           rw [e1] at em ⊢
           cases em
           rfl
         obtain ⟨olds,o1,o2,o3⟩:=hold
         obtain ⟨v',w',q1,q2,q3,q4⟩:=app_full (P:=P) (w:=w) t o.type e i z s2.cells hu g1 g4 g2 hzl g6 (a.eval x) _ olds o1 o3 (a.eval y) ys.length cells n1 n4 n3 hb0 hb2 (by rw [g3];exact hb1)
         have hsame:Same w w':=⟨q3.os,q3.tape,q3.output,q3.size,fun b hb=>q3.block b hb (by simp)⟩
         rw [← List.length_append] at q2
         refine ⟨_,he,Good.newArr h (Vn hT h1) hver (hx _ _ q1) hsame (fun b hb=>q4 b ((Yh q2).1 hb)) (cells:=olds++cells) q2 ?_⟩
         exact JK (fun _ _=>JD (fun b hb=>⟨hb,UD (hsame.block b hb.1)⟩) s2) (JN.2 ⟨olds,cells,rfl,o2,n2⟩)
        ·cases he
       ·cases he
      ·cases he
     ·cases he
    ·cases he
 ·cases he
theorem eff_len {c:Call} (ho:o.op = .call c) (hc:c.callee = .builtin .len):EffOk P G o:=by
 intro hT n w0 w Z0 st a nm dst ρ k r h he
 unfold effK at he
 rw [ho] at he
 simp only [hc] at he
 split at he
 ·rename_i x t ha1 ha2
  have hargs:c.args = #[x]:=by rw [← Array.toArray_toList (xs:=c.args),ha1]
  have hat:c.argTypes = #[t]:=by rw [← Array.toArray_toList (xs:=c.argTypes),ha2]
  have hx : ∀ v',(Builtin.len_ #[t] o.type #[a.eval x]).run P w = .ok v' w→(execOp a.eval o).run P w = .ok (.value v') w:=by
   intro v' hr
   exact Vc ho hc (s:=Builtin.len_ #[t] o.type #[a.eval x]) (fun cs=>by simp [builtin,hargs,hat]) hr
  split at he
  ·rename_i k1 s h1 h2
   have hu:=VF hT h1 rfl
   have e1:=Uh h h2
   have hsz:(⟨s.toArray⟩:ByteArray).size=s.length:=VE s
   refine ⟨_,he,Good.pure h (v:=.int .i64 s.length) (hx _ ?_) (rd_vI ..)⟩
   rw [e1]
   simp [Builtin.len_,run_underlying hu,hsz,goInt]
  ·rename_i s e b h1 h2
   obtain ⟨hu,_⟩:=kM hT h1
   have e1:a.eval x = .slice none 0 0:=ev_rd h h2
   exact ⟨_,he,Good.pure h (v:=.int .i64 0) (hx _ (by rw [e1];simp [Builtin.len_,run_underlying hu,goInt])) (rd_vI ..)⟩
  ·rename_i s e b id ver h1 h2
   obtain ⟨hu,_⟩:=kM hT h1
   split at he
   ·rename_i v fz e1 te t1 xs hole hob
    cases hv:Nat.beq v ver with
    | false=>rw [hv] at he;cases he
    | true=>
      rw [hv] at he
      have:=beqN.1 hv
      subst this
      obtain ⟨hd,us,cells,k0,k1⟩:=Uo (h.objs id _ hob)
      have hxv:a.eval x=hd:=by have:=(ev_rd h h2).2 _ _ _ _ _ _ hob;rw [k0,JR] at this;exact this
      refine ⟨_,he,Good.pure h (v:=.int .i64 xs.length) (hx _ ?_) (rd_vI ..)⟩
      rcases k1.2 with ⟨q1,q2⟩ | ⟨g,cap,cur,q1,_⟩
      ·rw [hxv,q1,q2];simp [Builtin.len_,run_underlying hu,goInt]
      ·rw [hxv,q1];simp [Builtin.len_,run_underlying hu,goInt]
   ·cases he
  ·rename_i s e b id ver i off h1 h2
   obtain ⟨hu,_⟩:=kM hT h1
   split at he
   ·rename_i v e1 te t1 xs hob
    cases hv:Nat.beq v ver with
    | false=>rw [hv] at he;cases he
    | true=>
      rw [hv] at he
      have:=beqN.1 hv
      subst this
      simp only [cond_true] at he
      obtain ⟨x1,hy,he⟩:=ju he
      obtain ⟨p1,p2,p3⟩:=JQ hy
      split at he
      ·rename_i ys hys
       obtain ⟨_,_,hd,us,n1,n2⟩:=(ev_rd h h2).2 _ _ _ _ _ hob
       obtain ⟨u,hd',us',es,k1,k2,k3,k4,_⟩:=rdDeep.peek (h.objs id _ hob) p1 p3 hys
       have hxv:a.eval x=u:=by
        rw [n1] at k1
        have:hd::us=hd'::us':=by injection k1 with k1;exact (Array.mk.injEq ..).mp k1
        injection this with _ this
        rw [this,k2] at n2
        exact (Option.some.inj n2).symm
       refine ⟨_,he,Good.pure h (v:=.int .i64 (List.length (show List s.den from ys))) (hx _ ?_) (rd_vI ..)⟩
       rcases k4.2 with ⟨q1,q2⟩ | ⟨g,cap,cur,q1,_⟩
       ·have q2:List.length (show List s.den from ys)=0:=q2
        rw [hxv,q1,q2];simp [Builtin.len_,run_underlying hu,goInt]
       ·have q1:u = .slice (some ⟨g,0,none⟩) (List.length (show List s.den from ys)) cap:=q1
        rw [hxv,q1];simp [Builtin.len_,run_underlying hu,goInt]
      ·cases he
   ·cases he
  ·rename_i s e b d _ _ _ h1 h2
   obtain ⟨hu,_⟩:=kM hT h1
   obtain ⟨s',xs,he,hr⟩:=YE h h2 he
   refine ⟨_,he,Good.pure h (v:=.int .i64 xs.length) (hx _ ?_) (rd_vI ..)⟩
   rcases hr with ⟨e1,rfl⟩ | ⟨b,off,cap,cells,e1,_⟩ | ⟨ad,cap,e1,rfl,_⟩ <;> rw [e1] <;> simp [Builtin.len_,run_underlying hu,goInt]
  ·cases he
 ·cases he
theorem min_if (m n:Int):(if n < m then n else m)=min m n:=by omega
theorem max_if (m n:Int):(if n > m then n else m)=max m n:=by omega
theorem eff_min {c:Call} (ho:o.op = .call c) (hc:c.callee = .builtin .min):EffOk P G o:=by
 intro hT n w0 w Z0 st a nm dst ρ k r h he
 unfold effK at he
 rw [ho] at he
 simp only [hc] at he
 split at he
 ·rename_i x y ha
  have hargs:c.args = #[x,y]:=by rw [← Array.toArray_toList (xs:=c.args),ha]
  split at he
  ·rename_i j m j' n' h1 h2
   have e1:=Yk h h1
   have e2:=Yk h h2
   refine ⟨_,he,Good.pure h (v:=.int j (min m n')) (Vc ho hc (s:=Builtin.min_ c.argTypes o.type #[a.eval x,a.eval y]) (fun cs=>by simp [builtin,hargs]) ?_) (rd_vI ..)⟩
   rw [e1,e2,run_min_int2]
   exact congrArg (fun q=>Result.ok (Value.int j q) w) (min_if m n')
  ·cases he
 ·cases he
theorem eff_max {c:Call} (ho:o.op = .call c) (hc:c.callee = .builtin .max):EffOk P G o:=by
 intro hT n w0 w Z0 st a nm dst ρ k r h he
 unfold effK at he
 rw [ho] at he
 simp only [hc] at he
 split at he
 ·rename_i x y ha
  have hargs:c.args = #[x,y]:=by rw [← Array.toArray_toList (xs:=c.args),ha]
  split at he
  ·rename_i j m j' n' h1 h2
   have e1:=Yk h h1
   have e2:=Yk h h2
   refine ⟨_,he,Good.pure h (v:=.int j (max m n')) (Vc ho hc (s:=Builtin.max_ c.argTypes o.type #[a.eval x,a.eval y]) (fun cs=>by simp [builtin,hargs]) ?_) (rd_vI ..)⟩
   rw [e1,e2,run_max_int2]
   exact congrArg (fun q=>Result.ok (Value.int j q) w) (max_if m n')
  ·cases he
 ·cases he
end
end Go.Ql
end

section
set_option linter.unusedSectionVars false
namespace Go.Ql
section
variable [GInv] {P:Program} {G:Env} {n:Nat} {w0 w:World} {Z0:Bs} {st st1:St} {a:Act} {nm:Names} {o:Oper} {dst:Nat} {ρ:Type} {k:Eff→Option ρ} {r:ρ}
theorem kW {u:Upd} {id:Nat} {ob:Ob} {st':St} (h:Jh st (u++[(id,ob)])=some st') : ∃ s,Jh st u=some s∧mayOb s id ob=true∧st'=⟨s.slots,ins id ob s.objs⟩:=by
 obtain ⟨s,h1,h2⟩:=layObs_append u h
 obtain ⟨h3,h4⟩:=kF h2
 exact ⟨s,h1,h3,h4⟩
theorem run_storeAt_cells {t:TypeId} {ti:TI} (hti:TiOk P t ti) {g q:Nat} {cur:Array Value} {T:TypeId} (hg:rowAt w g cur T) {v:Value} (hl:v.cells.toList.length=ti.ty.cells)
 (hfit:q+ti.ty.cells≤cur.size) (hone : ∀ u∈v.cells.toList,u.oneCell'=true) :
 (Instr.storeAt t (.pointer (some ⟨g,q,none⟩)) v).run P w = .ok () (w.setRow g (cur.toList.take q++v.cells.toList++cur.toList.drop (q+ti.ty.cells)).toArray):=by
 have hsz:=hti.sizeOf w
 have hs:v.cells.size=ti.ty.cells:=by simpa using hl
 have:=run_storeCells_own P g q T v.cells.toList 0 cur w hg (by rw [hl];omega) hone
 simp only [Nat.add_zero,hl] at this
 simp [Instr.storeAt,Instr.sureAddr,storeVar,hsz,hs,this]
theorem FzUpd.lays : ∀ (u:Upd) {st:St},Rel n w0 Z0 st a w nm→FzUpd st u → ∃ st1,Jh st u=some st1
 | [],st,_,_=>⟨st,rfl⟩
 | (id,ob)::u,st,h,hu=>by
   obtain ⟨r1,_,hm,_,hu'⟩:=hu.step h
   simp only [Jh,hm,cond_true]
   exact FzUpd.lays u r1 hu'
theorem Does.storeRow (hrel:Rel n w0 Z0 st a w nm) {t:TypeId} {ti:TI} (hti:TiOk P t ti) {id v:Nat} {e:TypeId} {s:Ty} {xs xs':List s.den} (hob:look st.objs id=some (.arr v false e s xs))
 (hxl:xs'.length=xs.length) (hmay:mayOb st id (.arr v false e s xs')=true) {b m c:Nat} (s4:nm id = .slice (some ⟨b,0,none⟩) m c) {cells:List Value} (t1:w.ownsM e s.cells (nm id) xs.length cells)
 {pre old post:List Value} (hc:cells=pre++old++post) (hol:old.length=ti.ty.cells) {vy:Value} (hvl:vy.cells.toList.length=ti.ty.cells) (hone : ∀ u∈vy.cells.toList,u.oneCell'=true)
 (hrd:rdAll (rdC w (Zc w0 Z0 nm st.objs w) s) (pre++vy.cells.toList++post) xs')
 (hx : ∀ w',(Instr.storeAt t (.pointer (some ⟨b,pre.length,none⟩)) vy).run P w = .ok () w'→(execOp a.eval o).run P w = .ok .skip w') :
 Does P o a w fun v' w' => ∃ nm',Rel n w0 Z0 ⟨st.slots,ins id (.arr v false e s xs') st.objs⟩ a w' nm'∧rdD w' (Zc w0 Z0 nm' (ins id (.arr v false e s xs') st.objs) w') nm' (ins id (.arr v false e s xs') st.objs) (.tup []) v':=by
 have hundef : ∀ (w:World) (Z:Nat→Prop) (nm:Names) (objs:List (Nat×Ob)),rdD w Z nm objs (.tup []) undef:=fun w Z nm objs=>⟨#[],rfl,Yi⟩
 have hcl:cells.length=xs.length*s.cells:=t1.1
 have hsm:s.isMap=false:=((hrel.objs id _ hob).of s4).1
 rcases t1.2 with ⟨t3,_⟩ | ⟨g,cap,cur,t3,t4,t5,t6,t7,t8⟩
 ·rw [s4] at t3;cases t3
 have hbg:b=g:=by rw [s4] at t3;injection t3 with a1 _ _;injection a1 with a1;injection a1
 subst hbg
 have hblk:hasB (nm id) b:=by rw [s4];exact rfl
 have hcur:cur.toList=pre++old++(post++cur.toList.drop (xs.length*s.cells)):=by
  have:cur.toList=cells++cur.toList.drop (xs.length*s.cells):=by rw [← t8,List.take_append_drop]
  refine this.trans ?_
  rw [hc]
  simp [List.append_assoc]
 have hfit:pre.length+ti.ty.cells≤cur.size:=by
  rw [← Array.length_toList,hcur,List.length_append,List.length_append,hol];omega
 have hrun:=run_storeAt_cells hti t4 (v:=vy) (q:=pre.length) hvl hfit hone
 have hnewcur:cur.toList.take pre.length++vy.cells.toList++cur.toList.drop (pre.length+ti.ty.cells)=(pre++vy.cells.toList++post)++cur.toList.drop (xs.length*s.cells):=by
  have:=YY pre old (post++cur.toList.drop (xs.length*s.cells)) vy.cells.toList _ _ rfl hol
  rw [← hcur] at this
  rw [this]
  simp [List.append_assoc]
 have hlen2:(pre++vy.cells.toList++post).length=xs.length*s.cells:=by
  rw [← hcl,hc]
  simp only [List.length_append,hvl,hol]
 rw [hnewcur] at hrun
 refine Does.of_skip (hx _ hrun) ⟨setN nm id (nm id),?_,hundef _ _ _ _⟩
 refine hrel.upd id _ _ hmay (by rw [hob];exact fun _=>⟨rfl,rfl,rfl,hxl⟩) ⟨rfl,rfl,rfl,by simp⟩ (fun b2 hb2 => ?_) (fun b2 hb2 => .inl ⟨hb2,_,hob,.inl rfl⟩) ?_
 ·by_cases hbb:b2=b
  ·subst hbb;exact .inl ⟨_,hob,rfl,hblk⟩
  ·exact .inr (setRow_other w b b2 _ hbb)
 ·have hk:Kept w (w.setRow b ((pre++vy.cells.toList++post)++cur.toList.drop (xs.length*s.cells)).toArray) (Zc w0 Z0 nm st.objs w)
   (Zc w0 Z0 (setN nm id (nm id)) (ins id (.arr v false e s xs') st.objs) (w.setRow b ((pre++vy.cells.toList++post)++cur.toList.drop (xs.length*s.cells)).toArray)):=by
   rintro b2 ⟨z1,z2,z3⟩
   refine ⟨⟨by simpa using z1,z2,?_⟩,setRow_other w b b2 _ (fun hh=>z3 ⟨id,_,hob,rfl,hh ▸ hblk⟩)⟩
   rintro ⟨j,ob,y1,y2,y3⟩
   rw [kO] at y3
   by_cases hj:id=j
   ·subst hj;exact z3 ⟨id,_,hob,rfl,y3⟩
   ·rw [Jl,if_neg hj] at y1
    exact z3 ⟨j,ob,y1,y2,y3⟩
  refine .inl ⟨hsm,pre++vy.cells.toList++post,?_,JK (fun _ _=>JD hk s) hrd⟩
  rw [jW,hxl]
  have hns:((pre++vy.cells.toList++post)++cur.toList.drop (xs.length*s.cells)).toArray.size=cur.size:=by
   have h1:xs.length*s.cells≤cap*s.cells:=Nat.mul_le_mul_right _ t5
   have h2:cur.toList.length=cap*s.cells:=by simpa using t7
   rw [List.size_toArray,List.length_append,hlen2,List.length_drop,h2,t7]
   omega
  refine ⟨hlen2,.inr ⟨b,cap,_,t3,t4.set hns,t5,t6,hns.trans t7,?_⟩⟩
  ·simp only [List.toList_toArray]
   rw [← hlen2,List.take_left]
theorem Good.newPtr (h:Rel n w0 Z0 st a w nm) {u:Upd} (hfu:FzUpd st u) (hnu : ∀ p∈u,p.1≠dst) {ver:Nat} {e:TypeId} {t:Ty} {xs:List t.den} {cells:Array Value} (hmap:t.isMap=false)
 (hver:verOf (look st.objs) dst=some ver)
 (hrun:(execOp a.eval o).run P w = .ok (.value (.pointer (some ⟨w.heap.size,0,none⟩))) (w.alloc (.cells cells e)))
 (hlen:cells.size=xs.length*t.cells) (hmax:xs.length≤maxLen)
 (hrd : ∀ st1,Frozen n w0 Z0 st st1 a w nm u→rdAll (rdC w (Zc w0 Z0 nm st1.objs w) t) cells.toList xs) :
 Good P n w0 Z0 st a w o ⟨.one (.aptr dst ver),u++[(dst,.arr ver false e t xs)]⟩:=by
 intro st' hlay
 obtain ⟨st1,hlu,hmay,rfl⟩:=kW hlay
 obtain ⟨hrel,hfz,hcold⟩:=Rel.freezes u h hfu hlu
 have hver1:verOf (look st1.objs) dst=some ver:=by
  unfold verOf at hver ⊢
  rw [JI u hlu hnu]
  exact hver
 obtain ⟨q1,q2⟩:=hrel.newArr (w':=w.alloc (.cells cells e)) (nv:=.slice (some ⟨w.heap.size,0,none⟩) xs.length xs.length) (cells:=cells.toList) hmap hver1 hmay (Same.alloc _ _) (fun b hb=>by
  have hb:blk _=some _:=hb
  simp only [blk,Option.some.injEq] at hb
  subst hb
  exact ⟨Nat.le_refl _,by simp⟩) ⟨by simpa using hlen,.inr ⟨w.heap.size,xs.length,cells,rfl,.of (heap_alloc_new w _),Nat.le_refl _,hmax,hlen,by
   rw [← hlen,← Array.length_toList,List.take_length]⟩⟩ (JK (fun _ _=>JD (fun b hb=>⟨hb,UD (heap_alloc_old w _ b hb.1)⟩) t) (hrd st1 ⟨hfz,hrel,hcold⟩))
 refine Does.of_run hrun ⟨_,q1,rfl,fun fz e t xs hl => ?_⟩
 rw [jW]
 exact ⟨_,_,_,rfl,rfl⟩
theorem atOk_other {id0:Nat} {ob:Ob} {nv:Value} {objs:List (Nat×Ob)} {x:At} (hx:x.mentions id0=false):AtOk nm (setN nm id0 nv) objs (ins id0 ob objs) x:=by
 intro j hj
 have he:id0≠j:=fun e=>by subst e;rw [hx] at hj;cases hj
 have:=AtOk.refl nm objs x j hj
 simpa only [Jl,if_neg he,ka nm nv (Ne.symm he)] using this
theorem atOk_box {id0:Nat} {cs cs':List At} {objs:List (Nat×Ob)} {x:At} (hob:look objs id0=some (.box cs)):AtOk nm (setN nm id0 (nm id0)) objs (ins id0 (.box cs') objs) x:=by
 rw [kO]
 intro j hj
 by_cases he:id0=j
 ·subst he
  exact ⟨fun ver fz e t xs h1=>by simp [Jl] at h1,fun _ _=>⟨rfl,cs,hob⟩,fun f x y h1=>by simp [Jl] at h1,fun ver fz e te t xs hh h1=>by simp [Jl] at h1⟩
 ·have:=AtOk.refl nm objs x j hj
  simpa only [Jl,if_neg he] using this
theorem ownNil_ok {fr:Bool} {dq:Nat→TypeId→Option TypeId} {ob0:Objs} {idf:Nat→Nat} : ∀ (l:List (Nat×(TypeId×Ty))) {ds ds':List At} {u:Upd},Yb fr dq ob0 idf l ds=some (ds',u) → ∀ {st:St} {nm:Names} {vs:List Value} {st1:St},Rel n w0 Z0 st a w nm →
 (∀ p∈u,look st.objs p.1=ob0 p.1)→rdAs w (Zc w0 Z0 nm st.objs w) nm st.objs ds vs→Jh st u=some st1 →
 ∃ nm1,Rel n w0 Z0 st1 a w nm1∧rdAs w (Zc w0 Z0 nm1 st1.objs w) nm1 st1.objs ds' vs ∧ ∀ id,(∀ p∈u,p.1≠id)→nm1 id=nm id
 | [],ds,ds',u,he,st,nm,vs,st1,h,_,hr,hlay=>by
   simp only [Yb,Option.some.injEq,Prod.mk.injEq] at he
   obtain ⟨rfl,rfl⟩:=he
   simp only [Jh,Option.some.injEq] at hlay
   subst hlay
   exact ⟨nm,h,hr,fun _ _=>rfl⟩
 | (j,e,s)::r,ds,ds',u,he,st,nm,vs,st1,h,hob,hr,hlay=>by
   simp only [Yb] at he
   split at he
   ·rename_i hj
    have step : ∀ (obj:Ob) (atm:At) (nv:Value) (ds2:List At) (u2:Upd),ds.all (fun x => !x.mentions (idf j))=true→Yb fr dq ob0 idf r (ds.set j atm)=some (ds2,u2) →
     (bif u2.all (fun q => !Nat.beq q.1 (idf j)) then some (ds2,(idf j,obj)::u2) else none)=some (ds',u)→(∀ b,¬ hasB nv b) →
     (mayOb st (idf j) obj=true→look st.objs (idf j)=ob0 (idf j)→Rel n w0 Z0 ⟨st.slots,ins (idf j) obj st.objs⟩ a w (setN nm (idf j) nv)∧rdA w (Zc w0 Z0 (setN nm (idf j) nv) (ins (idf j) obj st.objs) w) (setN nm (idf j) nv) (ins (idf j) obj st.objs) atm (.slice none 0 0)) →
     ∃ nm1,Rel n w0 Z0 st1 a w nm1∧rdAs w (Zc w0 Z0 nm1 st1.objs w) nm1 st1.objs ds' vs ∧ ∀ id,(∀ p∈u,p.1≠id)→nm1 id=nm id:=by
     intro obj atm nv ds2 u2 hall h2 he hnb hmk
     cases hk:u2.all (fun q => !Nat.beq q.1 (idf j)) with
     | false=>rw [hk] at he;cases he
     | true=>
       rw [hk] at he
       simp only [cond_true,Option.some.injEq,Prod.mk.injEq] at he
       obtain ⟨rfl,rfl⟩:=he
       have hne : ∀ p∈u2,p.1≠idf j:=by
        intro p hp
        have:=(List.all_eq_true.1 hk) p hp
        simp only [Bool.not_eq_true'] at this
        exact Jb.1 this
       simp only [Jh] at hlay
       cases hm:mayOb st (idf j) obj with
       | false=>rw [hm] at hlay;cases hlay
       | true=>
         rw [hm] at hlay
         simp only [cond_true] at hlay
         obtain ⟨r1,r2⟩:=hmk hm (hob (idf j,obj) (by simp))
         have hkept:Kept w w (Zc w0 Z0 nm st.objs w) (Zc w0 Z0 (setN nm (idf j) nv) (ins (idf j) obj st.objs) w):=by
          rintro b ⟨z1,z2,z3⟩
          refine ⟨⟨z1,z2,?_⟩,rfl⟩
          rintro ⟨i,ob,y1,y2,y3⟩
          by_cases hi:idf j=i
          ·subst hi
           rw [jW] at y3
           exact hnb b y3
          ·rw [Jl,if_neg hi] at y1
           rw [ka _ _ (Ne.symm hi)] at y3
           exact z3 ⟨i,ob,y1,y2,y3⟩
         have hr2:rdAs w (Zc w0 Z0 (setN nm (idf j) nv) (ins (idf j) obj st.objs) w) (setN nm (idf j) nv) (ins (idf j) obj st.objs) (ds.set j atm) vs:=by
          refine ⟨by rw [List.length_set];exact hr.1,fun i x v q1 q2 => ?_⟩
          rw [List.getElem?_set] at q1
          by_cases hij:j=i
          ·subst hij
           have hjl:j < ds.length:=(List.getElem?_eq_some_iff.1 hj).1
           simp only [if_true,hjl,Option.some.injEq] at q1
           subst q1
           have hv:v = .slice none 0 0:=hr.2 j _ v hj q2
           subst hv
           exact r2
          ·rw [if_neg hij] at q1
           have hx:=(List.all_eq_true.1 hall) x (List.mem_of_getElem? q1)
           exact Uz hkept (atOk_other (by simpa using hx)) (hr.2 i x v q1 q2)
         obtain ⟨nm1,s1,s2,s3⟩:=ownNil_ok r h2 r1 (fun p hp=>by
          simp only [Jl,if_neg (Ne.symm (hne p hp))]
          exact hob p (List.mem_cons_of_mem _ hp)) hr2 hlay
         refine ⟨nm1,s1,s2,fun id hid => ?_⟩
         rw [s3 id (fun p hp=>hid p (List.mem_cons_of_mem _ hp)),ka _ _ (Ne.symm (hid (idf j,obj) (by simp)))]
    split at he
    ·rename_i te hte
     split at he
     ·rename_i ver hver
      cases hall:ds.all (fun x => !x.mentions (idf j)) with
      | false=>rw [hall] at he;cases he
      | true=>
        rw [hall] at he
        simp only [cond_true] at he
        split at he
        ·rename_i ds2 u2 h2
         refine step _ _ (.tuple #[.slice none 0 0]) ds2 u2 hall h2 he (UH (w:=w) (Z:=fun _=>True) (e:=e) (te:=te) (t:=s)).2 fun hm hl => ?_
         have hver1:verD (look st.objs) (idf j)=some ver:=by
          unfold verKD at hver
          unfold verD
          rw [hl]
          cases hq:ob0 (idf j) with
          | none=>
            rw [hq] at hver
            cases fr with
            | true=>exact hver
            | false=>cases hver
          | some ob=>
            rw [hq] at hver
            cases ob with
            | deep v fz e te t xs hole=>exact hver
            | _=>cases hver
         exact ⟨h.newDeep hver1 hm (Same.refl w) (fun b hb=>absurd hb ((UH (w:=w) (Z:=fun _=>True) (e:=e) (te:=te) (t:=s)).2 b)) UH.1,rfl,fun _ _ _ _ _ _ _=>(congrArg hdr (jW nm (idf j) (.tuple #[.slice none 0 0]))).symm⟩
        ·cases he
     ·cases he
    split at he
    ·rename_i ver hver
     cases hall:(ds.all (fun x => !x.mentions (idf j)) && !s.isMap) with
     | false=>rw [hall] at he;cases he
     | true=>
       rw [hall] at he
       simp only [cond_true] at he
       rw [Bool.and_eq_true,Bool.not_eq_true'] at hall
       obtain ⟨hall,hmap⟩:=hall
       split at he
       ·rename_i ds2 u2 h2
        refine step _ _ (.slice none 0 0) ds2 u2 hall h2 he (fun b hb=>by cases hb) fun hm hl => ?_
        have hver1:verOf (look st.objs) (idf j)=some ver:=by
         unfold verK at hver
         unfold verOf
         rw [hl]
         cases hq:ob0 (idf j) with
         | none=>
           rw [hq] at hver
           cases fr with
           | true=>exact hver
           | false=>cases hver
         | some ob=>
           rw [hq] at hver
           cases ob with
           | arr v fz e t xs=>exact hver
           | _=>cases hver
        exact h.newArr (w':=w) (nv:=.slice none 0 0) (cells:=[]) hmap hver1 hm (Same.refl w) (fun b hb=>by cases hb) ⟨by simp,.inl ⟨rfl,rfl⟩⟩ rfl
       ·cases he
    ·cases he
   ·exact ownNil_ok r he h hob hr hlay
theorem Does.storeBox (h:Rel n w0 Z0 st a w nm) {t:TypeId} {ti:TI} (hti:TiOk P t ti) {id off:Nat} {cs ds:List At} {vy:Value} (hob:look st.objs id=some (.box cs)) (hl:ds.length=ti.ty.cells) (hle:off+ds.length≤cs.length)
 {b:Nat} (e1:nm id = .pointer (some ⟨b,0,none⟩)) (q1:rdAs w (Zc w0 Z0 nm st.objs w) nm st.objs ds vy.cells.toList) (q2 : ∀ u∈vy.cells.toList,u.oneCell'=true)
 (hself : ∀ x∈ds,x.isSelf=false) (hmay:mayOb st id (.box (cs.take off++ds++cs.drop (off+ds.length)))=true)
 (hx : ∀ w',(Instr.storeAt t (.pointer (some ⟨b,off,none⟩)) vy).run P w = .ok () w'→(execOp a.eval o).run P w = .ok .skip w') :
 Does P o a w fun v' w' => ∃ nm',Rel n w0 Z0 ⟨st.slots,ins id (.box (cs.take off++ds++cs.drop (off+ds.length))) st.objs⟩ a w' nm' ∧
  rdD w' (Zc w0 Z0 nm' (ins id (.box (cs.take off++ds++cs.drop (off+ds.length))) st.objs) w') nm' (ins id (.box (cs.take off++ds++cs.drop (off+ds.length))) st.objs) (.tup []) v':=by
 have hundef : ∀ (w:World) (Z:Nat→Prop) (nm:Names) (objs:List (Nat×Ob)),rdD w Z nm objs (.tup []) undef:=fun w Z nm objs=>⟨#[],rfl,Yi⟩
 obtain ⟨b',vs,T,p1,p2,p3,p4⟩:=h.objs id _ hob
 rw [e1] at p1
 cases p1
 have hvl:vy.cells.toList.length=ti.ty.cells:=q1.1.trans hl
 have hcl:vs.toList.length=cs.length:=p3.1
 have hrun:=run_storeAt_cells hti (.of p2) (v:=vy) (q:=off) hvl (by rw [← Array.length_toList,hcl];omega) q2
 have hblk:hasB (nm id) b:=by rw [e1];exact rfl
 refine Does.of_skip (hx _ hrun) ⟨setN nm id (nm id),?_,hundef _ _ _ _⟩
 have hst:Stays nm id (nm id) (look st.objs id) (.box (cs.take off++ds++cs.drop (off+ds.length))):=by rw [hob];rfl
 refine h.upd id _ _ hmay hst ⟨rfl,rfl,rfl,by simp⟩ (fun b2 hb2 => ?_) (fun b2 hb2 => .inl ⟨hb2,_,hob,.inl rfl⟩) ?_
 ·by_cases hbb:b2=b
  ·subst hbb;exact .inl ⟨_,hob,rfl,hblk⟩
  ·exact .inr (setRow_other w b b2 _ hbb)
 ·refine ⟨b,_,T,by rw [jW];exact e1,setRow_heap w b vs _ T (0,0) p2,?_,?_,fun T' hT => ?_⟩
  ·have hk:Kept w (w.setRow b (vs.toList.take off++vy.cells.toList++vs.toList.drop (off+ti.ty.cells)).toArray) (Zc w0 Z0 nm st.objs w)
    (Zc w0 Z0 (setN nm id (nm id)) (ins id (.box (cs.take off++ds++cs.drop (off+ds.length))) st.objs) (w.setRow b (vs.toList.take off++vy.cells.toList++vs.toList.drop (off+ti.ty.cells)).toArray)):=by
    rintro b2 ⟨z1,z2,z3⟩
    refine ⟨⟨by simpa using z1,z2,?_⟩,setRow_other w b b2 _ (fun hh=>z3 ⟨id,_,hob,rfl,hh ▸ hblk⟩)⟩
    rintro ⟨j,ob,y1,y2,y3⟩
    rw [kO] at y3
    by_cases hj:id=j
    ·subst hj;exact z3 ⟨id,_,hob,rfl,y3⟩
    ·rw [Jl,if_neg hj] at y1
     exact z3 ⟨j,ob,y1,y2,y3⟩
   have key:rdAs w (Zc w0 Z0 nm st.objs w) nm st.objs (cs.take off++ds++cs.drop (off+ds.length)) (vs.toList.take off++vy.cells.toList++vs.toList.drop (off+ti.ty.cells)):=by
    rw [hl]
    exact ko (ko (VD p3 off) q1) (Um p3 _)
   simp only [List.toList_toArray]
   exact Yd hk (fun x _=>atOk_box hob) key
  ·intro u hu
   simp only [List.toList_toArray,List.append_assoc] at hu
   rcases List.mem_append.1 hu with hu | hu
   ·exact p4.1 u (List.mem_of_mem_take hu)
   ·rcases List.mem_append.1 hu with hu | hu
    ·exact q2 u hu
    ·exact p4.1 u (List.mem_of_mem_drop hu)
  ·rw [List.append_assoc] at hT
   rcases List.mem_append.1 hT with hT | hT
   ·exact p4.2 T' (List.mem_of_mem_take hT)
   ·rcases List.mem_append.1 hT with hT | hT
    ·have:=hself _ hT;cases this
    ·exact p4.2 T' (List.mem_of_mem_drop hT)
theorem selfCells_rd {b:Bool} {dst:Nat} {T:TypeId} {ty:Ty} {cs:List At} {vs:List Value} {Z:Nat→Prop} {objs:List (Nat×Ob)} (h:rdAs w Z nm objs cs vs):rdAs w Z nm objs (YQ b dst T ty cs) vs:=by
 unfold YQ
 cases b with
 | false=>exact h
 | true=>
   simp only [cond_true]
   split
   ·rename_i d r
    refine ⟨h.1,fun i x v q1 q2 => ?_⟩
    cases i with
    | zero=>
      simp only [List.getElem?_cons_zero,Option.some.injEq] at q1
      subst q1
      have hv:[v]=[Yl 0]:=h.2 0 _ v rfl q2
      obtain rfl:=(List.cons.inj hv).1
      exact ⟨rfl,fun _ _ => .inl rfl⟩
    | succ i=>exact h.2 (i+1) x v q1 q2
   ·rename_i d r
    refine ⟨h.1,fun i x v q1 q2 => ?_⟩
    cases i with
    | zero=>
      simp only [List.getElem?_cons_zero,Option.some.injEq] at q1
      subst q1
      have hv:[v]=[Yl 0]:=h.2 0 _ v rfl q2
      obtain rfl:=(List.cons.inj hv).1
      exact ⟨rfl,fun _ _ => .inl rfl⟩
    | succ i=>exact h.2 (i+1) x v q1 q2
   ·exact h
theorem selfCells_T {b:Bool} {dst:Nat} {T T':TypeId} {ty:Ty} {cs:List At} (hm : ∀ x∈cs,x.mentions dst=false) (h:At.selfp dst T'∈YQ b dst T ty cs):T'=T:=by
 have no:At.selfp dst T'∈cs→False:=fun hc=>by have:=hm _ hc;simp [At.mentions] at this
 unfold YQ at h
 cases b with
 | false=>exact (no h).elim
 | true=>
   simp only [cond_true] at h
   split at h
   ·rcases List.mem_cons.1 h with h | h
    ·injection h
    ·exact (no (List.mem_cons_of_mem _ h)).elim
   ·rcases List.mem_cons.1 h with h | h
    ·injection h
    ·exact (no (List.mem_cons_of_mem _ h)).elim
   ·exact (no h).elim
theorem Good.newBoxes (h:Rel n w0 Z0 st a w nm) {cs:List At} {u:Upd} {l:List (Nat×(TypeId×Ty))} {idf:Nat→Nat} {cs0:List At} {cells:Array Value} {T:TypeId} {bs:Bool} {ty:Ty} (hno:look st.objs dst=none)
 (hrun:(execOp a.eval o).run P w = .ok (.value (.pointer (some ⟨w.heap.size,0,none⟩))) (w.alloc (.cells cells T)))
 (hrd:rdAs w (Zc w0 Z0 nm st.objs w) nm st.objs cs0 cells.toList) {dq:Nat→TypeId→Option TypeId} (hown:Yb true dq (look st.objs) idf l cs0=some (cs,u)) (hu : ∀ p∈u,p.1≠dst) (hm : ∀ x∈cs,x.mentions dst=false) (hone : ∀ u∈cells.toList,u.oneCell'=true) :
 Good P n w0 Z0 st a w o ⟨.one (.ref dst 0),u++[(dst,.box (YQ bs dst T ty cs))]⟩:=by
 intro st' hlay
 obtain ⟨st1,hl1,hmay,rfl⟩:=kW hlay
 obtain ⟨nm1,r1,r2,_⟩:=ownNil_ok (n:=n) (w0:=w0) (Z0:=Z0) (a:=a) (w:=w) l hown h (fun _ _=>rfl) hrd hl1
 have hno1:look st1.objs dst=none:=(JI u hl1 hu).trans hno
 have hnv:blk (.pointer (some ⟨w.heap.size,0,none⟩))=some w.heap.size:=rfl
 refine Does.of_run hrun ⟨setN nm1 dst (.pointer (some ⟨w.heap.size,0,none⟩)),?_,?_⟩
 ·refine r1.upd dst _ _ hmay (by rw [hno1];trivial) ⟨rfl,rfl,rfl,by simp⟩ (fun b hb => .inr (heap_alloc_old w _ b hb)) (fun b hb => ?_) ?_
  ·have hb:blk _=some _:=hb
   simp only [blk,Option.some.injEq] at hb
   subst hb
   exact .inr ⟨Nat.le_refl _,by simp⟩
  ·refine ⟨w.heap.size,cells,T,jW _ _ _,heap_alloc_new w _,?_,hone,fun T' hT=>selfCells_T hm hT⟩
   have hk:Kept w (w.alloc (.cells cells T)) (Zc w0 Z0 nm1 st1.objs w) (Zc w0 Z0 (setN nm1 dst (.pointer (some ⟨w.heap.size,0,none⟩))) (ins dst (.box (YQ bs dst T ty cs)) st1.objs) (w.alloc (.cells cells T))):=by
    rintro b ⟨z1,z2,z3⟩
    refine ⟨⟨by simp;omega,z2,?_⟩,heap_alloc_old w _ b z1⟩
    rintro ⟨j,ob,y1,y2,y3⟩
    by_cases hj:dst=j
    ·subst hj
     rw [jW] at y3
     have y3:blk _=some _:=y3
     simp only [blk,Option.some.injEq] at y3
     omega
    ·rw [Jl,if_neg hj] at y1
     rw [ka _ _ (Ne.symm hj)] at y3
     exact z3 ⟨j,ob,y1,y2,y3⟩
   exact selfCells_rd (Yd hk (fun x hx=>atOk_other (hm x hx)) r2)
 ·exact ⟨rfl,fun _ _=>⟨_,jW _ _ _,rfl⟩⟩
theorem eff_alloc {t:TypeId} (ho:o.op = .alloc t):EffOk P G o:=by
 intro hT n w0 w Z0 st a nm dst ρ k r h he
 unfold effK at he
 rw [ho] at he
 simp only at he
 split at he
 ·rename_i ti h1
  obtain ⟨i,z,q1,q2,q3,q4,_⟩:=(hT _ _ h1).info
  have hrun:(execOp a.eval o).run P w = .ok (.value (.pointer (some ⟨w.heap.size,0,none⟩))) (w.alloc (.cells z.cells t)):=by simp [execOp,ho,Instr.alloc,zeroValue,typeInfo,q1,q3,newVar,newRow]
  cases hf:ti.ty.flat with
  | true=>
    rw [hf] at he
    simp only [cond_true] at he
    split at he
    ·rename_i hno
     split at he
     ·rename_i cs u hown
      cases hb:(u.all (fun q => !Nat.beq q.1 dst) && cs.all (fun x => !x.mentions dst)) with
      | false=>rw [hb] at he;cases he
      | true=>
        rw [hb] at he
        simp only [cond_true] at he
        rw [Bool.and_eq_true] at hb
        exact ⟨_,he,Good.newBoxes h hno hrun (Vo _ hf q4) hown (fun p hp=>by
         have:=(List.all_eq_true.1 hb.1) p hp
         simp only [Bool.not_eq_true'] at this
         exact Jb.1 this) (fun x hx=>by simpa using (List.all_eq_true.1 hb.2) x hx) (YS _ q4)⟩
     ·cases he
    ·cases he
  | false=>
    rw [hf] at he
    simp only [cond_false] at he
    have hzl:=kE _ q4
    split at he
    ·rename_i ver hver
     split at he
     ·rename_i m s n' e' _
      cases hb:(Nat.blt 0 m && Nat.ble m 1048576) with
      | false=>rw [hb] at he;cases he
      | true=>
        rw [hb] at he
        simp only [cond_true] at he
        rw [Bool.and_eq_true] at hb
        have hb2:=Nat.le_of_ble_eq_true hb.2
        refine ⟨_,he,Good.newPtr (u:=[]) h (fun p hp=>by cases hp) (fun p hp=>by cases hp) (ar_noMap (hT _ _ h1) hb.1) hver hrun ?_ ?_ (fun st1 _ => ?_)⟩
        ·rw [List.length_replicate,← Array.length_toList];exact hzl
        ·rw [List.length_replicate];simp only [maxLen];omega
        ·exact repAll_rd (fun _ h=>kZ s h) q4
     ·rename_i s fs _
      refine ⟨_,he,Good.newPtr (u:=[]) h (fun p hp=>by cases hp) (fun p hp=>by cases hp) rfl hver hrun ?_ ?_ (fun st1 _ => ?_)⟩
      ·rw [← Array.length_toList];simpa using hzl
      ·simp [maxLen]
      ·exact ⟨z.cells.toList,[],by simp,kZ (.st s) q4,rfl⟩
     ·cases he
    ·cases he
 ·cases he
theorem lenOf_rd (h:Rel n w0 Z0 st a w nm) {x:Operand} {d:Dv} {m:Int} (hx:evSt st x=some d) (hl:lenOf (look st.objs) d=some m) :
 ∃ ad c,a.eval x = .slice ad m.toNat c∧0≤m∧m.toNat≤maxLen:=by
 have hr:=ev_rd h hx
 unfold lenOf at hl
 split at hl
 ·cases hl
  exact ⟨none,0,hr,Int.le_refl _,by simp⟩
 ·rename_i t xs
  cases hl
  obtain ⟨v,e,hv⟩:=(show rdC w (Zc w0 Z0 nm st.objs w) (.sl t) [a.eval x] xs from hr)
  simp only [List.cons.injEq,and_true] at e
  rw [e]
  rcases hv with ⟨rfl,hd⟩ | ⟨b,off,cap,cells,rfl,h1,h2,_⟩ | ⟨ad,cap,rfl,hd,h1⟩
  ·have hd:xs=[]:=hd
   subst hd
   exact ⟨none,0,rfl,Int.le_refl _,by simp⟩
  ·exact ⟨_,cap,rfl,by omega,by simp;omega⟩
  ·have hd:xs=[]:=hd
   subst hd
   exact ⟨some ad,cap,rfl,Int.le_refl _,by simp⟩
 ·rename_i id ver
  split at hl
  ·rename_i v fz e t xs ho
   cases hb:(Nat.beq v ver && !t.isMap) with
   | false=>rw [hb] at hl;cases hl
   | true=>
     rw [hb] at hl
     simp only [cond_true,Option.some.injEq] at hl
     subst hl
     rw [Bool.and_eq_true] at hb
     have:=beqN.1 hb.1
     subst this
     have hv:=hr.2 fz e t xs ho
     obtain ⟨cells,h1,_⟩:=rdArr.sl (h.objs id _ ho) (by simpa using hb.2)
     rw [hv]
     rcases h1.2 with ⟨e1,e2⟩ | ⟨g,cap,cur,e1,_,e3,e4,_⟩
     ·rw [e1];exact ⟨none,0,by rw [e2];rfl,by omega,by simp [e2]⟩
     ·rw [e1];exact ⟨_,cap,rfl,by omega,by simp;omega⟩
  ·cases hl
 ·rename_i id ver lo q
  split at hl
  ·rename_i v fz e t xs ho
   cases hb:(Nat.beq v ver && !t.isMap) with
   | false=>rw [hb] at hl;cases hl
   | true=>
     rw [hb] at hl
     simp only [cond_true,Option.some.injEq] at hl
     subst hl
     rw [Bool.and_eq_true] at hb
     have:=beqN.1 hb.1
     subst this
     obtain ⟨h1,h2⟩:=hr.2 fz e t xs ho
     obtain ⟨g1,g2,_⟩:=Uj h2
     rcases h1 with ⟨_,e1,e2⟩ | ⟨b,q1,c,g,c',_,e2,_,e4,e5⟩
     ·rw [e1,e2];exact ⟨none,0,rfl,Int.le_refl _,by simp⟩
     ·rw [e2];exact ⟨_,c',rfl,g2,by omega⟩
  ·cases hl
 ·rename_i id ver
  split at hl
  ·rename_i v fz e te t xs hole ho
   cases hb:Nat.beq v ver with
   | false=>rw [hb] at hl;cases hl
   | true=>
     rw [hb] at hl
     simp only [cond_true,Option.some.injEq] at hl
     subst hl
     have:=beqN.1 hb
     subst this
     have hv:=hr.2 fz e te t xs hole ho
     obtain ⟨hd,us,cells,k0,h1⟩:=Uo (h.objs id _ ho)
     rw [hv,k0,JR]
     rcases h1.2 with ⟨e1,e2⟩ | ⟨g,cap,cur,e1,_,e3,e4,_⟩
     ·rw [e1];exact ⟨none,0,by rw [e2];rfl,by omega,by simp [e2]⟩
     ·rw [e1];exact ⟨_,cap,rfl,by omega,by simp;omega⟩
  ·cases hl
 ·cases hl
theorem eff_box {t:TypeId} {x:Operand} (ho:o.op = .box t x):EffOk P G o:=by
 intro hT n w0 w Z0 st a nm dst ρ k r h he
 unfold effK at he
 rw [ho] at he
 simp only at he
 split at he
 ·rename_i ti d h1 h2
  have hrun:(execOp a.eval o).run P w = .ok (.value (.pointer (some ⟨w.heap.size,0,none⟩))) (w.alloc (.cells (a.eval x).cells t)):=by simp [execOp,ho,Instr.box,newVar,newRow]
  have cold:(match dvV (look st.objs) ti.ty d with
   | some (y,[])=>k ⟨.one (.fptr ti.ty y),[]⟩
   | _=>none)=some r → ∃ e:Eff,k e=some r∧Good P n w0 Z0 st a w o e:=by
   intro he
   split at he
   ·rename_i y hy
    obtain ⟨fu,frd⟩:=Yj (n:=n) (w0:=w0) (w:=w) (Z0:=Z0) (a:=a) (nm:=nm) hy
    obtain ⟨st1,hl1⟩:=FzUpd.lays [] h fu
    obtain ⟨hrel,hfz,hcold⟩:=Rel.freezes [] h fu hl1
    simp only [Jh,Option.some.injEq] at hl1
    subst hl1
    have hv:=frd st ⟨hfz,hrel,hcold⟩ (a.eval x) (ev_rd h h2)
    have hk:Kept w (w.alloc (.cells (a.eval x).cells t)) (Zc w0 Z0 nm st.objs w) (Zc w0 Z0 nm st.objs (w.alloc (.cells (a.eval x).cells t))):=
     fun b ⟨q1,q2,q3⟩=>⟨⟨Nat.lt_of_lt_of_le q1 (Same.alloc w _).size,q2,q3⟩,(Same.alloc w _).block b q1⟩
    refine ⟨_,he,Good.grow h hrun (Same.alloc w _) ⟨w.heap.size,0,(a.eval x).cells.toList,rfl,⟨by simp,fun hlt => ?_,?_⟩,JD hk _ (kA hv),fun j u hj => ?_⟩⟩
    ·have:=h.same.size;omega
    ·rintro ⟨id,ob,e1,_,e3⟩
     have:=(h.new id ob _ e1 e3).2
     omega
    ·have h0:=heap_alloc_new w (.cells (a.eval x).cells t)
     simp only [World.cell?,h0,Nat.zero_add]
     simpa using hj
   ·cases he
  cases hl5:memN (8500000+dst) G.muts with
  | true=>
    rw [hl5] at he
    simp only [cond_true] at he
    split at he
    ·rename_i m hm
     refine ⟨_,he,Good.grow h hrun (Same.alloc w _) ?_⟩
     obtain ⟨ad,c,e1,e2,e3⟩:=lenOf_rd h h2 hm
     refine ⟨w.heap.size,0,(a.eval x).cells.toList,rfl,⟨by simp,fun hlt => ?_,?_⟩,?_,fun j u hj => ?_⟩
     ·have:=h.same.size;omega
     ·rintro ⟨id,ob,f1,_,f3⟩
      have:=(h.new id ob _ f1 f3).2
      omega
     ·rw [e1];exact ⟨ad,c,rfl,e2,e3⟩
     ·have h0:=heap_alloc_new w (.cells (a.eval x).cells t)
      simp only [World.cell?,h0,Nat.zero_add]
      simpa using hj
    ·cases he
  | false=>
  rw [hl5] at he
  simp only [cond_false] at he
  cases hl6:memN (8600000+dst) G.muts with
  | true=>
    rw [hl6] at he
    exact cold he
  | false=>
  rw [hl6] at he
  simp only [cond_false] at he
  cases hf:ti.ty.flat with
  | true=>
    rw [hf] at he
    simp only [cond_true] at he
    split at he
    ·rename_i cs hcs
     split at he
     ·rename_i hno
      have hr:=dvCells_rd (ev_rd h h2) hcs
      cases hmu:memN dst G.muts with
      | true=>
        rw [hmu] at he
        simp only [cond_true] at he
        split at he
        ·rename_i cs' u hown
         cases hb:(Nat.beq cs.length ti.ty.cells && u.all (fun q => !Nat.beq q.1 dst) && cs'.all (fun x => !x.mentions dst)) with
         | false=>rw [hb] at he;cases he
         | true=>
           rw [hb] at he
           simp only [cond_true] at he
           rw [Bool.and_eq_true,Bool.and_eq_true] at hb
           exact ⟨_,he,Good.newBoxes (bs:=true) (ty:=ti.ty) (cells:=(a.eval x).cells) (T:=t) h hno hrun hr.1 hown (fun p hp=>by
            have:=(List.all_eq_true.1 hb.1.2) p hp
            simp only [Bool.not_eq_true'] at this
            exact Jb.1 this) (fun x hx=>by simpa using (List.all_eq_true.1 hb.2) x hx) hr.2⟩
        ·cases he
      | false=>
      rw [hmu] at he
      simp only [cond_false] at he
      cases hb:Nat.beq cs.length ti.ty.cells with
      | false=>rw [hb] at he;cases he
      | true=>
        rw [hb] at he
        exact ⟨_,he,Good.newBox h hno (cells:=(a.eval x).cells) (T:=t) hrun hr.1 (fun hf=>cells_no hcs (ev_no hf h2)) hr.2⟩
     ·cases he
    ·cases he
  | false=>
    rw [hf] at he
    simp only [cond_false] at he
    cases hz:memN (8000000+dst) G.muts with
    | true=>
      rw [hz] at he
      exact cold he
    | false=>
    rw [hz] at he
    simp only [cond_false] at he
    split at he
    ·rename_i ver y u hver hy
     cases hb:(u.all fun q => !Nat.beq q.1 dst) with
     | false=>rw [hb] at he;cases he
     | true=>
       rw [hb] at he
       simp only [cond_true] at he
       have hnu : ∀ p∈u,p.1≠dst:=by
        intro p hp
        have:=(List.all_eq_true.1 hb) p hp
        simp only [Bool.not_eq_true'] at this
        exact Jb.1 this
       obtain ⟨fu,frd⟩:=Yj (n:=n) (w0:=w0) (w:=w) (Z0:=Z0) (a:=a) (nm:=nm) hy
       have hvr : ∀ st1,Frozen n w0 Z0 st st1 a w nm u→rdV w (Zc w0 Z0 nm st1.objs w) ti.ty (a.eval x) y:=fun st1 hfr=>
        frd st1 hfr (a.eval x) (JU (fun b hb=>⟨hfr.fz.zc hb,fun _ _ hu=>hu⟩) (DvOk.refl _ _ _) (ev_rd h h2))
       obtain ⟨st1,hl1⟩:=FzUpd.lays u h fu
       obtain ⟨hrel,hfz,hcold⟩:=Rel.freezes u h fu hl1
       have hvl:=Ji _ (kA (hvr st1 ⟨hfz,hrel,hcold⟩))
       split at he
       ·rename_i m s n' e' y _
        cases hb:(Nat.blt 0 m && Nat.ble m 1048576) with
        | false=>rw [hb] at he;cases he
        | true=>
          rw [hb] at he
          simp only [cond_true] at he
          rw [Bool.and_eq_true] at hb
          have hb2:=Nat.le_of_ble_eq_true hb.2
          have hyl:List.length (show List s.den from y)=m:=(kA (hvr st1 ⟨hfz,hrel,hcold⟩)).1
          refine ⟨_,he,Good.newPtr h fu hnu (ar_noMap (hT _ _ h1) hb.1) hver hrun ?_ ?_ (fun st1 hfr => ?_)⟩
          ·rw [← Array.length_toList,hvl]
           show m*s.cells=_
           rw [← hyl]
          ·have:(show List s.den from y).length≤maxLen:=by rw [hyl];simp only [maxLen];omega
           exact this
          ·exact (kA (hvr st1 hfr)).2
       ·rename_i s fs y _
        refine ⟨_,he,Good.newPtr h fu hnu rfl hver hrun ?_ ?_ (fun st1 hfr => ?_)⟩
        ·rw [← Array.length_toList,hvl];simp
        ·simp [maxLen]
        ·exact ⟨(a.eval x).cells.toList,[],by simp,kA (hvr st1 hfr),rfl⟩
       ·cases he
    ·cases he
 ·cases he
theorem row_stored {t:TypeId} {ti:TI} (hti:TiOk P t ti) {e:TypeId} {size m:Nat} {u:Value} {cells:List Value} (t1:w.ownsM e size u m cells) {b len c:Nat} (hu:u = .slice (some ⟨b,0,none⟩) len c)
 {pre old post:List Value} (hc:cells=pre++old++post) (hol:old.length=ti.ty.cells) {vy:Value} (hvl:vy.cells.toList.length=ti.ty.cells) (hone : ∀ u∈vy.cells.toList,u.oneCell'=true) :
 ∃ w':World,(Instr.storeAt t (.pointer (some ⟨b,pre.length,none⟩)) vy).run P w = .ok () w'∧w'.os=w.os∧w'.tape=w.tape∧w'.output=w.output∧w'.heap.size=w.heap.size∧(∀ b2,b2≠b→w'.heap[b2]? = w.heap[b2]?) ∧
  w'.ownsM e size u m (pre++vy.cells.toList++post):=by
 rcases t1.2 with ⟨t3,_⟩ | ⟨g,cap,cur,t3,t4,t5,t6,t7,t8⟩
 ·rw [hu] at t3;cases t3
 have hbg:b=g:=by rw [hu] at t3;injection t3 with a1 _ _;injection a1 with a1;injection a1
 subst hbg
 have hcur:cur.toList=pre++old++(post++cur.toList.drop (m*size)):=by
  have:cur.toList=cells++cur.toList.drop (m*size):=by rw [← t8,List.take_append_drop]
  refine this.trans ?_
  rw [hc]
  simp [List.append_assoc]
 have hfit:pre.length+ti.ty.cells≤cur.size:=by
  rw [← Array.length_toList,hcur,List.length_append,List.length_append,hol];omega
 have hrun:=run_storeAt_cells hti t4 (v:=vy) (q:=pre.length) hvl hfit hone
 have hnewcur:cur.toList.take pre.length++vy.cells.toList++cur.toList.drop (pre.length+ti.ty.cells)=(pre++vy.cells.toList++post)++cur.toList.drop (m*size):=by
  have:=YY pre old (post++cur.toList.drop (m*size)) vy.cells.toList _ _ rfl hol
  rw [← hcur] at this
  rw [this]
  simp [List.append_assoc]
 have hlen2:(pre++vy.cells.toList++post).length=m*size:=by
  rw [← t1.1,hc]
  simp only [List.length_append,hvl,hol]
 rw [hnewcur] at hrun
 refine ⟨_,hrun,rfl,rfl,rfl,by simp,fun b2 hb2=>setRow_other w b b2 _ hb2,hlen2,.inr ⟨b,cap,_,t3,t4.set ?_,t5,t6,?_,?_⟩⟩
 ·have h1:m*size≤cap*size:=Nat.mul_le_mul_right _ t5
  have h2:cur.toList.length=cap*size:=by simpa using t7
  rw [List.size_toArray,List.length_append,hlen2,List.length_drop,h2,t7]
  omega
 ·have h1:m*size≤cap*size:=Nat.mul_le_mul_right _ t5
  have h2:cur.toList.length=cap*size:=by simpa using t7
  rw [List.size_toArray,List.length_append,hlen2,List.length_drop,h2]
  omega
 ·simp only [List.toList_toArray]
  rw [← hlen2,List.take_left]
theorem Does.storeDeep (hrel:Rel n w0 Z0 st a w nm) {id v:Nat} {e te:TypeId} {s:Ty} {xs xs':List s.den} {hole nh:Option (Option (Int×Nat×Ty×Nat×Nat))} (hob:look st.objs id=some (.deep v false e te s xs hole))
 (hmay:mayOb st id (.deep v false e te s xs' nh)=true) (hxl:xs'.length=xs.length) {T:Value} (hT:hdr T=hdr (nm id)) (hTn:hole=none→nh=none→T=nm id) (hTb : ∀ b,hasB T b→hasB (nm id) b)
 {w':World} {b:Nat} (hb:hasB (nm id) b) (hs:w'.os=w.os∧w'.tape=w.tape∧w'.output=w.output∧w'.heap.size=w.heap.size) (hoth : ∀ b2,b2≠b→w'.heap[b2]? = w.heap[b2]?)
 (hfin:Kept w w' (Zc w0 Z0 nm st.objs w) (Zc w0 Z0 (setN nm id T) (ins id (.deep v false e te s xs' nh) st.objs) w')→rdO w' (Zc w0 Z0 (setN nm id T) (ins id (.deep v false e te s xs' nh) st.objs) w') (setN nm id T) (ins id (.deep v false e te s xs' nh) st.objs) id (.deep v false e te s xs' nh))
 (hx:(execOp a.eval o).run P w = .ok .skip w') :
 Does P o a w fun v' w' => ∃ nm',Rel n w0 Z0 ⟨st.slots,ins id (.deep v false e te s xs' nh) st.objs⟩ a w' nm'∧rdD w' (Zc w0 Z0 nm' (ins id (.deep v false e te s xs' nh) st.objs) w') nm' (ins id (.deep v false e te s xs' nh) st.objs) (.tup []) v':=by
 have hl:Jh st [(id,.deep v false e te s xs' nh)]=some ⟨st.slots,ins id (.deep v false e te s xs' nh) st.objs⟩:=by simp only [Jh,hmay,cond_true]
 refine Does.of_skip hx ⟨setN nm id T,hrel.updM _ hl rfl (fun j hj=>ka _ _ (Ne.symm (hj _ (List.mem_cons_self ..)))) ?_ ⟨hs.1,hs.2.1,hs.2.2.1,by omega⟩ (fun b2 hb2 => ?_) ?_ ?_ (fun hk => ?_),#[],rfl,Yi⟩
 ·simp only [List.forall_mem_cons,List.not_mem_nil,false_imp_iff,implies_true,and_true,jW]
  rw [hob]
  exact fun _=>⟨hT,rfl,rfl,rfl,hxl,hTn⟩
 ·by_cases hbb:b2=b
  ·subst hbb;exact .inl ⟨_,List.mem_cons_self ..,_,hob,rfl,hb⟩
  ·exact .inr (hoth b2 hbb)
 ·simp only [List.forall_mem_cons,List.not_mem_nil,false_imp_iff,implies_true,and_true,jW]
  exact fun b hb => .inl ⟨_,List.mem_cons_self ..,_,hob,.inl rfl,hTb b hb⟩
 ·simp
 ·simp only [List.forall_mem_cons,List.not_mem_nil,false_imp_iff,implies_true,and_true]
  exact hfin hk
theorem eff_store {t:TypeId} {x y:Operand} (ho:o.op = .store t x y):EffOk P G o:=by
 intro hT n w0 w Z0 st a nm dst ρ k r h he
 unfold effK at he
 rw [ho] at he
 simp only at he
 split at he
 ·rename_i ti p d h1 h2 h3
  have hti:=hT _ _ h1
  have hr:=ev_rd h h2
  have hx : ∀ v w',a.eval x=v→(Instr.storeAt t v (a.eval y)).run P w = .ok () w'→(execOp a.eval o).run P w = .ok .skip w':=by
   intro v w' q1 q2
   simp [execOp,ho,q1,q2]
  have hundef : ∀ (w:World) (Z:Nat→Prop) (nm:Names) (objs:List (Nat×Ob)),rdD w Z nm objs (.tup []) undef:=fun w Z nm objs=>⟨#[],rfl,Yi⟩
  split at he
  ·
   rename_i id off
   split at he
   ·rename_i cs ds0 hob hds
    split at he
    ·rename_i ds u hown
     cases hb:(Nat.beq ds.length ti.ty.cells && Nat.ble (off+ds.length) cs.length && u.all (fun q => !Nat.beq q.1 id) && ds.all (fun x => !x.isSelf)) with
     | false=>rw [hb] at he;cases he
     | true=>
       rw [hb] at he
       simp only [cond_true] at he
       rw [Bool.and_eq_true] at hb
       obtain ⟨hb,hsf⟩:=hb
       have hsf : ∀ x∈ds,x.isSelf=false:=fun x hx=>by simpa using (List.all_eq_true.1 hsf) x hx
       rw [Bool.and_eq_true,Bool.and_eq_true] at hb
       have hl:=beqN.1 hb.1.1
       have hle:=Nat.le_of_ble_eq_true hb.1.2
       have hnu : ∀ p∈u,p.1≠id:=by
        intro p hp
        have:=(List.all_eq_true.1 hb.2) p hp
        simp only [Bool.not_eq_true'] at this
        exact Jb.1 this
       obtain ⟨b,e1,e2⟩:=hr.2 cs hob
       obtain ⟨q1,q2⟩:=dvCells_rd (ev_rd h h3) hds
       refine ⟨_,he,fun st' hlay => ?_⟩
       obtain ⟨st1,hl1,hmay,rfl⟩:=kW hlay
       obtain ⟨nm1,r1,r2,r3⟩:=ownNil_ok (n:=n) (w0:=w0) (Z0:=Z0) (a:=a) (w:=w) _ hown h (fun _ _=>rfl) q1 hl1
       have hob1:look st1.objs id=some (.box cs):=(JI u hl1 hnu).trans hob
       exact Does.storeBox r1 hti hob1 hl hle (by rw [r3 id hnu];exact e1) r2 q2 hsf hmay (fun w' hw=>hx _ _ e2 hw)
    ·cases he
   ·cases he
  ·
   rename_i id ver i sz off
   split at he
   ·rename_i z u hz
    split at he
    ·rename_i v e s xs hob
     cases hb:(Nat.beq v ver && (u.all fun q => !Nat.beq q.1 id)) with
     | false=>rw [hb] at he;cases he
     | true=>
       rw [hb] at he
       simp only [cond_true] at he
       rw [Bool.and_eq_true] at hb
       have:=beqN.1 hb.1
       subst this
       have hnu : ∀ p∈u,p.1≠id:=by
        intro p hp
        have:=(List.all_eq_true.1 hb.2) p hp
        simp only [Bool.not_eq_true'] at this
        exact Jb.1 this
       obtain ⟨y0,hy,he⟩:=ju he
       obtain ⟨i1,i2,i3⟩:=JQ hy
       split at he
       ·rename_i y' hy'
        refine ⟨_,he,fun st' hlay => ?_⟩
        obtain ⟨st1,hlu,hmay,rfl⟩:=kW hlay
        obtain ⟨fu,frd⟩:=Yj (n:=n) (w0:=w0) (w:=w) (Z0:=Z0) (a:=a) (nm:=nm) hz
        obtain ⟨hrel,hfz,hcold⟩:=Rel.freezes u h fu hlu
        have hob1:look st1.objs id=some (.arr v false e s xs):=by rw [JI u hlu hnu];exact hob
        have hk1:Kept w w (Zc w0 Z0 nm st.objs w) (Zc w0 Z0 nm st1.objs w):=fun b hb=>⟨hfz.zc hb,rfl⟩
        have hvr:=frd st1 ⟨hfz,hrel,hcold⟩ (a.eval y) (JU hk1 (DvOk.refl _ _ _) (ev_rd h h3))
        have hvc:=kA hvr
        obtain ⟨s1,s2,s3,b,m,c,s4,s5⟩:=hr.2 false e s xs hob
        subst s1
        obtain ⟨hmap,cells,t1,t2⟩:=(hrel.objs id _ hob1).of s4
        obtain ⟨c1,c2,c3,r1,r2,r3,r4,r5⟩:=kI (fun _ _=>Ji s) t2 i3
        obtain ⟨d1,d2,d3,u1,u2,u3,u4⟩:=Ub hvc hy' r3
        rcases t1.2 with ⟨t3,_⟩ | ⟨g,cap,cur,t3,t4,t5,t6,t7,t8⟩
        ·rw [s4] at t3;cases t3
        ·have hbg:b=g:=by rw [s4] at t3;injection t3 with a1 _ _;injection a1 with a1;injection a1
         subst hbg
         have hblk:hasB (nm id) b:=by rw [s4];exact rfl
         have hcells:cells.length=xs.length*s.cells:=t1.1
         have hcur:cur.toList=(c1++d1)++d2++(d3++c3++cur.toList.drop (xs.length*s.cells)):=by
          have:cur.toList=cells++cur.toList.drop (xs.length*s.cells):=by rw [← t8,List.take_append_drop]
          refine this.trans ?_
          rw [r1,u1]
          simp [List.append_assoc]
         have hq:(c1++d1).length=i.toNat*s.cells+off:=by rw [List.length_append,r2,u2]
         have hfit:i.toNat*s.cells+off+ti.ty.cells≤cur.size:=by
          rw [← Array.length_toList,hcur,List.length_append,List.length_append,hq,u3];omega
         have hrun:=run_storeAt_cells hti t4 (v:=a.eval y) (q:=i.toNat*s.cells+off) (Ji _ hvc) hfit (kC _ hvc)
         have hnewcur:cur.toList.take (i.toNat*s.cells+off)++(a.eval y).cells.toList++cur.toList.drop (i.toNat*s.cells+off+ti.ty.cells) =
          (c1++(d1++(a.eval y).cells.toList++d3)++c3)++cur.toList.drop (xs.length*s.cells):=by
          have:=YY (c1++d1) d2 (d3++c3++cur.toList.drop (xs.length*s.cells)) (a.eval y).cells.toList _ _ hq u3
          rw [← hcur] at this
          rw [this]
          simp [List.append_assoc]
         have hlen2:(c1++(d1++(a.eval y).cells.toList++d3)++c3).length=xs.length*s.cells:=by
          have h1:=Ji _ hvc
          have h2:cells.length=(c1++(d1++d2++d3)++c3).length:=by rw [r1,u1]
          rw [← hcells,h2]
          simp only [List.length_append,h1,u3]
         rw [hnewcur] at hrun
         refine Does.of_skip (hx _ _ s5 hrun) ⟨setN nm id (nm id),?_,hundef _ _ _ _⟩
         have hxl:(xs.set i.toNat y').length=xs.length:=List.length_set
         refine hrel.upd id _ _ hmay (by rw [hob1];exact fun _=>⟨rfl,rfl,rfl,hxl⟩) ⟨rfl,rfl,rfl,by simp⟩ (fun b2 hb2 => ?_) (fun b2 hb2 => .inl ⟨hb2,_,hob1,.inl rfl⟩) ?_
         ·by_cases hbb:b2=b
          ·subst hbb;exact .inl ⟨_,hob1,rfl,hblk⟩
          ·exact .inr (setRow_other w b b2 _ hbb)
         ·have hk:Kept w (w.setRow b ((c1++(d1++(a.eval y).cells.toList++d3)++c3)++cur.toList.drop (xs.length*s.cells)).toArray) (Zc w0 Z0 nm st1.objs w)
           (Zc w0 Z0 (setN nm id (nm id)) (ins id (.arr v false e s (xs.set i.toNat y')) st1.objs) (w.setRow b ((c1++(d1++(a.eval y).cells.toList++d3)++c3)++cur.toList.drop (xs.length*s.cells)).toArray)):=by
           rintro b2 ⟨z1,z2,z3⟩
           refine ⟨⟨by simpa using z1,z2,?_⟩,setRow_other w b b2 _ (fun hh=>z3 ⟨id,_,hob1,rfl,hh ▸ hblk⟩)⟩
           rintro ⟨j,ob,y1,y2,y3⟩
           rw [kO] at y3
           by_cases hj:id=j
           ·subst hj;exact z3 ⟨id,_,hob1,rfl,y3⟩
           ·rw [Jl,if_neg hj] at y1
            exact z3 ⟨j,ob,y1,y2,y3⟩
          refine .inl ⟨hmap,c1++(d1++(a.eval y).cells.toList++d3)++c3,?_,?_⟩
          ·rw [jW,hxl]
           have hns:((c1++(d1++(a.eval y).cells.toList++d3)++c3)++cur.toList.drop (xs.length*s.cells)).toArray.size=cur.size:=by
            have:=congrArg List.length hnewcur
            rw [List.size_toArray,← this,List.length_append,List.length_append,List.length_take,List.length_drop,Ji _ hvc,Array.length_toList]
            omega
           refine ⟨hlen2,.inr ⟨b,cap,_,t3,t4.set hns,t5,t6,hns.trans t7,?_⟩⟩
           ·simp only [List.toList_toArray]
            rw [← hlen2,List.take_left]
          ·have hset:xs.set i.toNat y'=xs.take i.toNat++(y'::xs.drop (i.toNat+1)):=by rw [List.set_eq_take_append_cons_drop,if_pos i2]
           have key:rdAll (rdC _ _ s) (c1++(d1++(a.eval y).cells.toList++d3)++c3) (xs.take i.toNat++(y'::xs.drop (i.toNat+1))):=JN.2 ⟨c1,(d1++(a.eval y).cells.toList++d3)++c3,by rw [List.append_assoc],JK (fun _ _=>JD hk.weak s) r4,_,_,rfl,JD hk.weak s u4,JK (fun _ _=>JD hk.weak s) r5⟩
           rw [← hset] at key
           exact key
       ·cases he
    ·cases he
   ·cases he
  ·
   rename_i id ver i sz q n1 e1 j off
   split at he
   ·rename_i z u hz
    split at he
    ·rename_i v e s xs hob
     cases hb:(Nat.beq v ver && (u.all fun q => !Nat.beq q.1 id)) with
     | false=>rw [hb] at he;cases he
     | true=>
       rw [hb] at he
       simp only [cond_true] at he
       rw [Bool.and_eq_true] at hb
       have:=beqN.1 hb.1
       subst this
       have hnu : ∀ p∈u,p.1≠id:=by
        intro p hp
        have:=(List.all_eq_true.1 hb.2) p hp
        simp only [Bool.not_eq_true'] at this
        exact Jb.1 this
       obtain ⟨y0,hy,he⟩:=ju he
       obtain ⟨i1,i2,i3⟩:=JQ hy
       split at he
       ·rename_i zs hzs
        obtain ⟨y1,hy1,he⟩:=ju he
        obtain ⟨j1,j2,j3⟩:=JQ hy1
        split at he
        ·rename_i y2 hy2
         split at he
         ·rename_i y' hy'
          refine ⟨_,he,fun st' hlay => ?_⟩
          obtain ⟨st1,hlu,hmay,rfl⟩:=kW hlay
          obtain ⟨fu,frd⟩:=Yj (n:=n) (w0:=w0) (w:=w) (Z0:=Z0) (a:=a) (nm:=nm) hz
          obtain ⟨hrel,hfz,hcold⟩:=Rel.freezes u h fu hlu
          have hob1:look st1.objs id=some (.arr v false e s xs):=by rw [JI u hlu hnu];exact hob
          have hk1:Kept w w (Zc w0 Z0 nm st.objs w) (Zc w0 Z0 nm st1.objs w):=fun b hb=>⟨hfz.zc hb,rfl⟩
          have hvr:=frd st1 ⟨hfz,hrel,hcold⟩ (a.eval y) (JU hk1 (DvOk.refl _ _ _) (ev_rd h h3))
          have hvc:=kA hvr
          obtain ⟨s1,s2,s3,s6,s7,b,m,c,s4,s5⟩:=hr.2 false e s xs hob
          subst s1
          obtain ⟨hmap,cells,t1,t2⟩:=(hrel.objs id _ hob1).of s4
          obtain ⟨c1,c2,c3,r1,r2,r3,r4,r5⟩:=kI (fun _ _=>Ji s) t2 i3
          obtain ⟨d1,d2,d3,u1,u2,u3⟩:=Vb hzs r3
          obtain ⟨l1,l2⟩:=u3
          obtain ⟨f1,f2,f3,v1,v2,v3,v4,v5⟩:=kI (fun _ _=>Ji e1) l2 j3
          obtain ⟨g1,g2,g3,x1,x2,x3,x4⟩:=Ub hvc hy2 v3
          have hset:zs.set j.toNat y2=zs.take j.toNat++(y2::zs.drop (j.toNat+1)):=by rw [List.set_eq_take_append_cons_drop,if_pos j2]
          have harr:rdC w (Zc w0 Z0 nm st1.objs w) (.ar n1 e1) (f1++(g1++(a.eval y).cells.toList++g3)++f3) (zs.set j.toNat y2):=by
           refine ⟨by rw [List.length_set];exact l1,?_⟩
           rw [hset]
           exact JN.2 ⟨f1,(g1++(a.eval y).cells.toList++g3)++f3,by rw [List.append_assoc],v4,g1++(a.eval y).cells.toList++g3,f3,rfl,x4,v5⟩
          obtain ⟨h1',h2',h3',w1,w2,w3,w4⟩:=Ub harr hy' r3
          have hd:d1=h1'∧d2=h2'∧d3=h3':=by
           have e1':d1++(d2++d3)=h1'++(h2'++h3'):=by rw [← List.append_assoc,← u1,w1,List.append_assoc]
           obtain ⟨q1,q2⟩:=List.append_inj e1' (by rw [u2,w2])
           have hl2:d2.length=h2'.length:=by rw [w3,Yc (fun _ _=>Ji e1) l2,l1];rfl
           obtain ⟨q3,q4⟩:=List.append_inj q2 hl2
           exact ⟨q1,q3,q4⟩
          obtain ⟨rfl,rfl,rfl⟩:=hd
          have hpre:(c1++(d1++(f1++g1))).length=i.toNat*s.cells+q+j.toNat*e1.cells+off:=by
           simp only [List.length_append,r2,u2,v2,x2];omega
          refine Does.storeRow hrel hti hob1 (xs':=xs.set i.toNat y') List.length_set hmay s4 t1 (pre:=c1++(d1++(f1++g1))) (old:=g2) (post:=g3++(f3++(d3++c3))) ?_ x3 (Ji _ hvc) (kC _ hvc) ?_ (fun w' hw=>hx _ w' s5 (by rw [hpre] at hw;exact hw))
          ·rw [r1,u1,v1,x1]
           simp [List.append_assoc]
          ·have hset2:xs.set i.toNat y'=xs.take i.toNat++(y'::xs.drop (i.toNat+1)):=by rw [List.set_eq_take_append_cons_drop,if_pos i2]
           rw [hset2]
           refine JN.2 ⟨c1,(d1++(f1++(g1++(a.eval y).cells.toList++g3)++f3)++d3)++c3,by simp [List.append_assoc],r4,_,c3,rfl,w4,r5⟩
         ·cases he
        ·cases he
       ·cases he
    ·cases he
   ·cases he
  ·
   rename_i id ver
   split at he
   ·rename_i z u hz
    split at he
    ·rename_i v e s xs hob
     cases hb:(Nat.beq v ver && (u.all fun q => !Nat.beq q.1 id)) with
     | false=>rw [hb] at he;cases he
     | true=>
       rw [hb] at he
       simp only [cond_true] at he
       rw [Bool.and_eq_true] at hb
       have:=beqN.1 hb.1
       subst this
       have hnu : ∀ p∈u,p.1≠id:=by
        intro p hp
        have:=(List.all_eq_true.1 hb.2) p hp
        simp only [Bool.not_eq_true'] at this
        exact Jb.1 this
       have go : ∀ st1,Jh st u=some st1→Rel n w0 Z0 st1 a w nm∧look st1.objs id=some (.arr v false e s xs)∧rdC w (Zc w0 Z0 nm st1.objs w) ti.ty (a.eval y).cells.toList z:=by
        intro st1 hlu
        obtain ⟨fu,frd⟩:=Yj (n:=n) (w0:=w0) (w:=w) (Z0:=Z0) (a:=a) (nm:=nm) hz
        obtain ⟨hrel,hfz,hcold⟩:=Rel.freezes u h fu hlu
        have hk1:Kept w w (Zc w0 Z0 nm st.objs w) (Zc w0 Z0 nm st1.objs w):=fun b hb=>⟨hfz.zc hb,rfl⟩
        exact ⟨hrel,by rw [JI u hlu hnu];exact hob,kA (frd st1 ⟨hfz,hrel,hcold⟩ (a.eval y) (JU hk1 (DvOk.refl _ _ _) (ev_rd h h3)))⟩
       obtain ⟨b,m,c,s4,s5⟩:=hr.2 false e s xs hob
       split at he
       ·rename_i n1 s' n2 e2 zs _
        split at he
        ·rename_i hs
         subst hs
         obtain ⟨_,hl,he⟩:=ju he
         have hl:=of_decide_eq_true (JB hl)
         refine ⟨_,he,fun st' hlay => ?_⟩
         obtain ⟨st1,hlu,hmay,rfl⟩:=kW hlay
         obtain ⟨hrel,hob1,hvc⟩:=go st1 hlu
         obtain ⟨hmap,cells,t1,t2⟩:=(hrel.objs id _ hob1).of s4
         refine Does.storeRow hrel hti hob1 (xs':=zs) hl hmay s4 t1 (pre:=[]) (old:=cells) (post:=[]) (by simp) ?_ (Ji _ hvc) (kC _ hvc) ?_ (fun w' hw=>hx _ w' s5 hw)
         ·rw [t1.1,← hl]
          show _=n1*s'.cells
          rw [hvc.1]
         ·simpa using hvc.2
        ·cases he
       ·rename_i ty kd z _ _
        obtain ⟨y0,hy,he⟩:=ju he
        obtain ⟨i1,i2,i3⟩:=JQ hy
        split at he
        ·rename_i y' hy'
         refine ⟨_,he,fun st' hlay => ?_⟩
         obtain ⟨st1,hlu,hmay,rfl⟩:=kW hlay
         obtain ⟨hrel,hob1,hvc⟩:=go st1 hlu
         obtain ⟨hmap,cells,t1,t2⟩:=(hrel.objs id _ hob1).of s4
         obtain ⟨c1,c2,c3,r1,r2,r3,r4,r5⟩:=kI (fun _ _=>Ji s) t2 i3
         obtain ⟨d1,d2,d3,u1,u2,u3,u4⟩:=Ub hvc hy' r3
         have h1:c1=[]:=List.eq_nil_of_length_eq_zero (by rw [r2];simp)
         have h2:d1=[]:=List.eq_nil_of_length_eq_zero u2
         subst h1;subst h2
         refine Does.storeRow hrel hti hob1 (xs':=xs.set 0 y') List.length_set hmay s4 t1 (pre:=[]) (old:=d2) (post:=d3++c3) ?_ u3 (Ji _ hvc) (kC _ hvc) ?_ (fun w' hw=>hx _ w' s5 hw)
         ·rw [r1,u1];simp
         ·have i2':0 < xs.length:=i2
          have hset2:xs.set 0 y'=xs.take 0++(y'::xs.drop (0+1)):=by rw [List.set_eq_take_append_cons_drop,if_pos i2']
          rw [hset2]
          exact JN.2 ⟨[],([]++(a.eval y).cells.toList++d3)++c3,by simp,r4,_,c3,rfl,u4,r5⟩
        ·cases he
    ·cases he
   ·cases he
  ·
   rename_i id ver i off
   split at he
   ·rename_i v e te s xs hole hob
    cases hv:Nat.beq v ver with
    | false=>rw [hv] at he;cases he
    | true=>
      rw [hv] at he
      have:=beqN.1 hv
      subst this
      simp only [cond_true] at he
      obtain ⟨i1,i2,b,m,c,s4,s5⟩:=hr.2 false e te s xs hole hob
      have hbb:hasB (nm id) b:=by
       obtain ⟨hd,us,cells,k0,_⟩:=Uo (h.objs id _ hob)
       rw [k0,JR] at s4
       rw [k0,km]
       exact ⟨hd,by simp,by rw [s4];rfl⟩
      split at he
      ·
       rename_i s' e' by_ oid v1
       split at he
       ·rename_i v2 te' s2 ys hob2
        cases hc:(decide (s2=s') && Nat.beq v2 v1 && Nat.beq te' te && Nat.beq e' te && !s'.isMap && !Nat.beq oid id) with
        | false=>rw [hc] at he;cases he
        | true=>
          rw [hc] at he
          simp only [cond_true] at he
          simp only [Bool.and_eq_true,Bool.not_eq_true',decide_eq_true_eq] at hc
          obtain ⟨⟨⟨⟨⟨c0,c1⟩,c2⟩,c3⟩,c4⟩,c5⟩:=hc
          subst c0
          have:=beqN.1 c1
          subst this
          have:=beqN.1 c2
          subst this
          have hne:=Jb.1 c5
          obtain ⟨_,hg,he⟩:=ju he
          obtain ⟨x,hy,he⟩:=ju he
          obtain ⟨q1,q2,q3⟩:=JQ hy
          split at he
          ·rename_i zs hz
           have hnv:a.eval y=nm oid:=(ev_rd h h3).2 _ _ _ _ hob2
           obtain ⟨es,m1,m2⟩:=(h.objs oid _ hob2).sl c4
           have hH : ∃ v' u,rdHole w (Zc w0 Z0 nm st.objs w) v' e te' s xs i off s2 u∧hdr v'=hdr (nm id) ∧ ∀ b,hasB v' b→hasB (nm id) b:=by
            match hole,hob,hg with
            | none,hob,hg=>
              obtain ⟨u,v',_,_,k1,k2,_,_,_,k6,_⟩:=rdDeep.take (h.objs id _ hob) q1 q3 hz
              exact ⟨v',u,k1,k2,k6⟩
            | some none,hob,hg=>cases hg
            | some (some (i',off',s3,oid',v3)),hob,hg=>
              simp only at hg
              cases hd:(Nat.beq off off' && Nat.beq oid oid' && decide (s3=s2)) with
              | false=>rw [hd] at hg;cases hg
              | true=>
                rw [hd] at hg
                simp only [cond_true] at hg
                have hi:=of_decide_eq_true (JB hg)
                simp only [Bool.and_eq_true,decide_eq_true_eq] at hd
                have h1:=beqN.1 hd.1.1
                have h2:=hd.2
                obtain ⟨u,_,_,k⟩:=h.objs id _ hob
                exact ⟨nm id,u,by rw [hi,h1,← h2];exact k,rfl,fun _ h=>h⟩
           obtain ⟨v',u,k1,k2,k6⟩:=hH
           obtain ⟨d1,d3,p1,p2,p3⟩:=k1.over
           rw [k2] at p2
           have hcl:(a.eval y).cells = #[nm oid]:=by rw [hnv];exact cells_one (Va m1)
           obtain ⟨w',g1,g2,g3,g4,g5,g6,g7⟩:=row_stored hti p2 s4 rfl (old:=[u]) rfl (vy:=a.eval y) (by rw [hcl];rfl) (by rw [hcl];simp [Va m1])
           refine ⟨_,he,fun st' hlay => ?_⟩
           obtain ⟨hmay,rfl⟩:=kF hlay
           refine Does.storeDeep h hob hmay rfl k2 (fun _ hh=>by cases hh) k6 hbb ⟨g2,g3,g4,g5⟩ g6 (fun hk => ?_) (hx _ w' s5 (by rw [← p1];exact g1))
           rw [hcl] at g7
           refine ⟨nm oid,Va m1,⟨Va m1,fun fz1 e1 t1 xs1 hl=>(ka _ _ hne).symm⟩,?_⟩
           show rdHole w' _ (setN nm id v' id) e te' s xs i off s2 (nm oid)
           rw [jW]
           exact p3 hk.weak (by rw [k2];exact g7) (fun b2 hb2 _=>g6 b2 (fun hh=>hb2 (by rw [k2,s4,hh];rfl)))
          ·cases he
       ·cases he
      ·
       rename_i d ty kd _
       split at he
       ·cases hf:ty.free with
        | false=>rw [hf] at he;cases he
        | true=>
          rw [hf] at he
          simp only [cond_true] at he
          split at he
          ·rename_i z hz
           obtain ⟨x,hy,he⟩:=ju he
           obtain ⟨q1,q2,q3⟩:=JQ hy
           split at he
           ·rename_i x' hx'
            obtain ⟨_,frd⟩:=Yj (n:=n) (w0:=w0) (w:=w) (Z0:=Z0) (a:=a) (nm:=nm) hz
            have hvc:=kA (frd st ⟨Fz.refl st,h,fun p hp=>by cases hp⟩ (a.eval y) (ev_rd h h3))
            obtain ⟨hd,us,cells,p0,t1,t2,t3⟩:=h.objs id _ hob
            have hd':hdr (nm id)=hd:=by rw [p0,JR]
            obtain ⟨c1,c2,c3,u1,u2,u3,r1,r1',r2,_,r3,r4⟩:=rdIs_at t2 q3
            obtain ⟨d1,d2,d3,g1,g2,g3,g4⟩:=rdI_upd hf hvc hx' r3
            rw [← hd'] at t1
            obtain ⟨w',k1,k2,k3,k4,k5,k6,k7⟩:=row_stored hti t1 s4 (pre:=c1++d1) (old:=d2) (post:=d3++c3) (by rw [r1,g1];simp) g3 (vy:=a.eval y) (Ji _ hvc) (kC _ hvc)
            refine ⟨_,he,fun st' hlay => ?_⟩
            obtain ⟨hmay,rfl⟩:=kF hlay
            refine Does.storeDeep h hob hmay List.length_set rfl (fun _ _=>rfl) (fun _ hb=>hb) hbb ⟨k2,k3,k4,k5⟩ k6 (fun hk => ?_) (hx _ w' s5 (by rw [← r2,← g2,← List.length_append];exact k1))
            show rdDeep w' _ (setN nm id (nm id) id) e te s _
            rw [jW]
            have hav:=List.pairwise_cons.1 t3
            refine ⟨hd,us,_,p0,by rw [List.length_set,← hd'];exact k7,YM hk.weak (fun y hy b2 hb2=>k6 b2 (fun hh=>hav.1 y hy b (by rw [← hd',s4];rfl) (by rw [hb2,hh]))) ?_,t3⟩
            have:=r4 _ _ _ g4
            rw [← r1'] at this
            simpa [List.append_assoc] using this
           ·cases he
          ·cases he
       ·cases he
   ·cases he
  ·
   rename_i id ver i off s' j o1
   split at he
   ·rename_i z u hz
    split at he
    ·rename_i v e te s xs hob
     cases hb:(Nat.beq v ver && (u.all fun q => !Nat.beq q.1 id)) with
     | false=>rw [hb] at he;cases he
     | true=>
       rw [hb] at he
       simp only [cond_true] at he
       rw [Bool.and_eq_true] at hb
       have:=beqN.1 hb.1
       subst this
       have hnu : ∀ p∈u,p.1≠id:=by
        intro p hp
        have:=(List.all_eq_true.1 hb.2) p hp
        simp only [Bool.not_eq_true'] at this
        exact Jb.1 this
       obtain ⟨x,hy,he⟩:=ju he
       obtain ⟨q1,q2,q3⟩:=JQ hy
       split at he
       ·rename_i ys hys
        obtain ⟨y1,hy1,he⟩:=ju he
        obtain ⟨p1,p2,p3⟩:=JQ hy1
        split at he
        ·rename_i y' hy'
         split at he
         ·rename_i x' hx'
          refine ⟨_,he,fun st' hlay => ?_⟩
          obtain ⟨st1,hlu,hmay,rfl⟩:=kW hlay
          obtain ⟨fu,frd⟩:=Yj (n:=n) (w0:=w0) (w:=w) (Z0:=Z0) (a:=a) (nm:=nm) hz
          obtain ⟨hrel,hfz,hcold⟩:=Rel.freezes u h fu hlu
          have hob1:look st1.objs id=some (.deep v false e te s xs none):=by rw [JI u hlu hnu];exact hob
          have hk1:Kept w w (Zc w0 Z0 nm st.objs w) (Zc w0 Z0 nm st1.objs w):=fun b hb=>⟨hfz.zc hb,rfl⟩
          have hvc:=kA (frd st1 ⟨hfz,hrel,hcold⟩ (a.eval y) (JU hk1 (DvOk.refl _ _ _) (ev_rd h h3)))
          obtain ⟨_,_,hd,us,b,m,c,n1,n2,n3⟩:=hr.2 false e te s xs hob
          obtain ⟨uu,hd',us',es,k1,k2,k3,k4,k5,_,k7⟩:=rdDeep.peek (hrel.objs id _ hob1) q1 q3 hys
          have hu:uu = .slice (some ⟨b,0,none⟩) m c:=by
           rw [n1] at k1
           have:hd::us=hd'::us':=by injection k1 with k1;exact (Array.mk.injEq ..).mp k1
           injection this with _ this
           rw [this,k2] at n2
           exact Option.some.inj n2
          obtain ⟨c1,c2,c3,r1,r2,r3,r4,r5⟩:=kI (fun _ _=>Ji s') k5 p3
          obtain ⟨d1,d2,d3,u1,u2,u3,u4⟩:=Ub hvc hy' r3
          obtain ⟨w',g1,g2,g3,g4,g5,g6,g7⟩:=row_stored hti k4 hu (pre:=c1++d1) (old:=d2) (post:=d3++c3) (by rw [r1,u1];simp) u3 (vy:=a.eval y) (Ji _ hvc) (kC _ hvc)
          refine Does.storeDeep hrel hob1 hmay List.length_set rfl (fun _ _=>rfl) (fun _ hb=>hb) (k7 b (by rw [hu];rfl)) ⟨g2,g3,g4,g5⟩ g6 (fun hk => ?_) (hx _ w' n3 (by rw [← r2,← u2,← List.length_append];exact g1))
          show rdDeep w' _ (setN nm id (nm id) id) e te s _
          rw [jW]
          have hset:List.set (show List s'.den from ys) j.toNat y'=(show List s'.den from ys).take j.toNat++(y'::(show List s'.den from ys).drop (j.toNat+1)):=by rw [List.set_eq_take_append_cons_drop,if_pos p2]
          refine (rdDeep.inner (hrel.objs id _ hob1) q1 q3 hys hx' k1 k2 hk.weak (fun b2 hb2 _=>g6 b2 (fun hh=>hb2 (by rw [hu,hh];rfl))) (es:=c1++d1++(a.eval y).cells.toList++(d3++c3)) ?_ ?_)
          ·rw [List.length_set];exact g7
          ·rw [hset]
           exact JN.2 ⟨c1,(d1++(a.eval y).cells.toList++d3)++c3,by simp [List.append_assoc],JK (fun _ _=>JD hk.weak s') r4,_,_,rfl,JD hk.weak s' u4,JK (fun _ _=>JD hk.weak s') r5⟩
         ·cases he
        ·cases he
       ·cases he
    ·cases he
   ·cases he
  ·cases he
 ·cases he
end
end Go.Ql
end

section
set_option linter.unusedSectionVars false
namespace Go.Ql
def rdRes (w:World) (Z:Nat→Prop) (ts:List Ty) (x:dens ts) (v:Value):Prop:=
 match ts,x with
 | [t],x=>rdV w Z t v x
 | ts,x => ∃ vs,v = .tuple vs∧YC w Z ts x vs.toList
def UL (w w':World) (Z:Nat→Prop) (b:Nat):Prop:=Z b∨(w.heap.size≤b∧b < w'.heap.size)
structure CalleeOk [GInv] (P:Program) (f:FuncId) (ce:Callee):Prop where
 fn : ∃ fn, P.funcs[f]? = some fn ∧ (fn.name == "runtime.NumGoroutine") = false ∧ fn.body.isNone = false
 calls : ∀ (w:World) (Z:Nat→Prop) (vs:List Value) (x:dens ce.params) (r:dens ce.res),GInv.ok w→(∀ b,Z b→b < w.heap.size)→YC w Z ce.params x vs→ce.F x=some r →
  Calls P f vs.toArray w fun e w' => ∃ v,e = .returned v∧Same w w'∧rdRes w' (UL w w' Z) ce.res r v
def FnsOk [GInv] (P:Program) (fns:List (Nat×Callee)):Prop:=∀ f ce,look fns f=some ce→CalleeOk P f ce
section
variable [GInv] {P:Program} {G:Env} {n:Nat} {w0 w w':World} {Z0:Bs} {Z Z':Nat→Prop} {st st1:St} {a:Act} {nm:Names} {o:Oper} {dst:Nat} {ρ:Type} {k:Eff→Option ρ} {r:ρ}
theorem Vl : ∀ (t:Ty) {cs:List Value} {d:t.den},t.free=true→rdC w Z t cs d→rdC w' Z' t cs d
 | .bool,_,_,_,h=>h
 | .int _,_,_,_,h=>h
 | .str,_,_,_,h=>h
 | .sl _,_,_,hf,_=>by simp [Ty.free] at hf
 | .st t,_,_,hf,h=>Vl t hf h
 | .unit,_,_,_,h=>h
 | .pair a b,_,_,hf,⟨c1,c2,e,h1,h2⟩=>by
   simp only [Ty.free,Bool.and_eq_true] at hf
   exact ⟨c1,c2,e,Vl a hf.1 h1,Vl b hf.2 h2⟩
 | .ar _ t,_,_,hf,⟨h1,h2⟩=>⟨h1,JK (fun _ _ h=>Vl t hf h) h2⟩
 | .nilv _,_,_,_,h=>h
 | .ifc _ t,_,_,hf,⟨u,us,e,h1,h2⟩=>⟨u,us,e,h1,Vl t hf h2⟩
 | .nn,_,_,_,h=>h
 | .len,_,_,_,h=>h
 | .fl _,_,_,hf,_=>by simp [Ty.free] at hf
 | .raw,_,_,_,h=>h
theorem rdV_free {t:Ty} {v:Value} {d:t.den} (hf:t.free=true) (h:rdV w Z t v d):rdV w' Z' t v d:=by
 cases t with
 | st s=>obtain ⟨cs,e,h⟩:=h;exact ⟨cs,e,Vl s hf h⟩
 | ar m s=>obtain ⟨cs,e,h⟩:=h;exact ⟨cs,e,Vl (.ar m s) hf h⟩
 | _=>exact Vl (w:=w) (Z:=Z) _ hf h
theorem rdArgs_mono (hk:Kept w w' Z Z') : ∀ (ts:List Ty) {x:dens ts} {vs:List Value},YC w Z ts x vs→YC w' Z' ts x vs
 | [],_,_,h=>h
 | [_],_,_,⟨v,e,h⟩=>⟨v,e,Vx hk h⟩
 | _::t'::ts,_,_,⟨v,r,e,h1,h2⟩=>⟨v,r,e,Vx hk h1,rdArgs_mono hk (t'::ts) h2⟩
theorem rdArgs_free : ∀ (ts:List Ty) {x:dens ts} {vs:List Value},ts.all Ty.free=true→YC w Z ts x vs→YC w' Z' ts x vs
 | [],_,_,_,h=>h
 | [t],_,_,hf,⟨v,e,h⟩=>⟨v,e,rdV_free (by simpa using hf) h⟩
 | t::t'::ts,_,_,hf,⟨v,r,e,h1,h2⟩=>by
   rw [List.all_cons,Bool.and_eq_true] at hf
   exact ⟨v,r,e,rdV_free hf.1 h1,rdArgs_free (t'::ts) hf.2 h2⟩
theorem resAts_rd {objs:List (Nat×Ob)} : ∀ (ts:List Ty) {x:dens ts} {vs:List Value},YC w Z ts x vs→rdAs w Z nm objs (resAts ts x) vs
 | [],_,_,h=>by have h:_=_:=h;subst h;exact Yi
 | [t],x,_,⟨v,e,h⟩=>by subst e;exact JC (x:=.val t x) h
 | t::t'::ts,x,_,⟨v,r,e,h1,h2⟩=>by
   subst e
   exact ko (c1:=[.val t x.1]) (v1:=[v]) (JC (x:=.val t x.1) h1) (resAts_rd (t'::ts) h2)
theorem resDv_rd {objs:List (Nat×Ob)} {ts:List Ty} {x:dens ts} {v:Value} (h:rdRes w Z ts x v):rdD w Z nm objs (resDv ts x) v:=by
 match ts,x,h with
 | [],_,⟨vs,e,h⟩=>exact ⟨vs,e,resAts_rd [] h⟩
 | [t],_,h=>exact h
 | t::t'::ts,_,⟨vs,e,h⟩=>exact ⟨vs,e,resAts_rd (t::t'::ts) h⟩
theorem rdRes_mono (hk:Kept w w' Z Z') {ts:List Ty} {x:dens ts} {v:Value} (h:rdRes w Z ts x v):rdRes w' Z' ts x v:=by
 match ts,x,h with
 | [],_,⟨vs,e,h⟩=>exact ⟨vs,e,h⟩
 | [t],_,h=>exact Vx hk h
 | t::t'::ts,_,⟨vs,e,h⟩=>exact ⟨vs,e,rdArgs_mono hk (t::t'::ts) h⟩
theorem rdRes_free {ts:List Ty} {x:dens ts} {v:Value} (hf:ts.all Ty.free=true) (h:rdRes w Z ts x v):rdRes w' Z' ts x v:=by
 match ts,x,hf,h with
 | [],_,_,⟨vs,e,h⟩=>exact ⟨vs,e,h⟩
 | [t],_,hf,h=>exact rdV_free (by simpa using hf) h
 | t::t'::ts,_,hf,⟨vs,e,h⟩=>exact ⟨vs,e,rdArgs_free (t::t'::ts) hf h⟩
theorem evAll_rd (h:Rel n w0 Z0 st a w nm) : ∀ {l:List Operand} {ds:List Dv},evAll (evSt st) l=some ds→ds.length=l.length ∧ ∀ (i:Nat) d v,ds[i]? = some d→(l.map a.eval)[i]? = some v→rdD w (Zc w0 Z0 nm st.objs w) nm st.objs d v
 | [],ds,he=>by simp only [evAll,Option.some.injEq] at he;subst he;exact ⟨rfl,fun i d v q _=>by simp at q⟩
 | x::l,ds,he=>by
   simp only [evAll] at he
   split at he
   ·rename_i d l' h1 h2
    cases he
    obtain ⟨q1,q2⟩:=evAll_rd h h2
    refine ⟨by simp [q1],fun i d v q q' => ?_⟩
    cases i with
    | zero=>simp at q q';subst q;subst q';exact ev_rd h h1
    | succ i=>exact q2 i d v (by simpa using q) (by simpa using q')
   ·cases he
theorem onesD_rd {w:World} {Z:Nat→Prop} {objs:List (Nat×Ob)} : ∀ {ds:List Dv} {cs:List At} {vs:List Value},onesD ds=some cs→vs.length=ds.length →
 (∀ (i:Nat) d v,ds[i]? = some d→vs[i]? = some v→rdD w Z nm objs d v)→rdAs w Z nm objs cs vs
 | [],cs,vs,h,hl,_=>by
   simp only [onesD,Option.some.injEq] at h
   subst h
   have:vs=[]:=List.eq_nil_of_length_eq_zero hl
   subst this
   exact Yi
 | .one x::ds,cs,vs,h,hl,hr=>by
   simp only [onesD] at h
   split at h
   ·rename_i l h1
    cases h
    match vs,hl with
    | v::vs,hl=>
      exact ko (c1:=[x]) (v1:=[v]) (JC (hr 0 (.one x) v rfl rfl)) (onesD_rd h1 (by simpa using hl) fun i d v q1 q2=>hr (i+1) d v (by simpa using q1) (by simpa using q2))
   ·cases h
 | .agg _::_,_,_,h,_,_=>by simp [onesD] at h
 | .tup _::_,_,_,h,_,_=>by simp [onesD] at h
 | .tgg _ _::_,_,_,h,_,_=>by simp [onesD] at h
theorem callee_run (h:Rel n w0 Z0 st a w nm) {c:Call} {x:Operand} (ho:o.op = .call c) (hc:c.callee = .value x) {f:Nat} {fs cs as:List Dv}
 (h1:Vu (look st.objs) (evSt st x)=some (f,fs,cs)) (h2:evAll (evSt st) c.args.toList=some as) :
 ∃ vs:List Value,vs.length=(fs++as++cs).length∧(∀ (i:Nat) d v,(fs++as++cs)[i]? = some d→vs[i]? = some v→rdD w (Zc w0 Z0 nm st.objs w) nm st.objs d v) ∧
  ∀ fn, P.funcs[f]? = some fn → (fn.name == "runtime.NumGoroutine") = false → fn.body.isNone = false → (execOp a.eval o).run P w = .ok (.enter f vs.toArray) w := by
 obtain ⟨l1,l2⟩:=evAll_rd h h2
 have key : ∀ vx vy : Array Value, a.eval x = .func (.func f) vx vy → ∀ fn, P.funcs[f]? = some fn → (fn.name == "runtime.NumGoroutine") = false → fn.body.isNone = false →
  (execOp a.eval o).run P w = .ok (.enter f (vx++c.args.map a.eval++vy)) w:=by
  intro vx vy hv fn f1 f2 f3
  have f2' : ¬ fn.name = "runtime.NumGoroutine" := by simpa using f2
  have f3' : ¬ fn.body=none:=by intro hh;rw [hh] at f3;cases f3
  simp [execOp,ho,resolve,hc,hv,Deferred.ofValue,invoke,callFunc,f1,f2',f3']
 have hfun : ∀ vx vy:Array Value,(vx++c.args.map a.eval++vy)=(vx.toList++c.args.toList.map a.eval++vy.toList).toArray:=by
  intro vx vy
  apply Array.ext'
  simp
 unfold Vu at h1
 split at h1
 ·rename_i g hx
  cases h1
  have hv:a.eval x = .func (.func f) #[] #[]:=ev_rd h hx
  refine ⟨c.args.toList.map a.eval,by simp [l1],fun i d v q1 q2=>l2 i d v (by simpa using q1) q2,fun fn f1 f2 f3 => ?_⟩
  rw [key _ _ hv fn f1 f2 f3,hfun]
  simp
 ·rename_i id hx
  split at h1
  ·rename_i g p q hob
   cases h1
   have hv:a.eval x=nm id:=(ev_rd h hx).2 f p q hob
   obtain ⟨vx,vy,e1,r1,r2⟩:=h.objs id _ hob
   refine ⟨vx.toList++c.args.toList.map a.eval++vy.toList,by simp [l1,r1.1.symm,r2.1.symm],?_,fun fn f1 f2 f3 => ?_⟩
   ·intro i d v q1 q2
    have lx:vx.toList.length=(p.map Dv.one).length:=by rw [List.length_map];exact r1.1
    rw [List.append_assoc] at q1 q2
    by_cases hi:i < vx.toList.length
    ·rw [List.getElem?_append_left (by omega)] at q1
     rw [List.getElem?_append_left hi] at q2
     rw [List.getElem?_map,Option.map_eq_some_iff] at q1
     obtain ⟨y,y1,rfl⟩:=q1
     exact r1.2 i y v y1 q2
    ·rw [List.getElem?_append_right (by omega)] at q1
     rw [List.getElem?_append_right (by omega)] at q2
     rw [← lx] at q1
     by_cases hi2:i - vx.toList.length < as.length
     ·rw [List.getElem?_append_left hi2] at q1
      rw [List.getElem?_append_left (by simpa [← l1] using hi2)] at q2
      exact l2 _ d v q1 q2
     ·rw [List.getElem?_append_right (by omega)] at q1
      rw [List.getElem?_append_right (by rw [List.length_map,← l1];omega),List.length_map,← l1] at q2
      rw [List.getElem?_map,Option.map_eq_some_iff] at q1
      obtain ⟨y,y1,rfl⟩:=q1
      exact r2.2 _ y v y1 q2
   ·rw [key _ _ (hv.trans e1) fn f1 f2 f3,hfun]
  ·cases h1
 ·cases h1
theorem pure_call (h:Rel n w0 Z0 st a w nm) {f:Nat} {ce:Callee} (hce:CalleeOk P f ce) {ds:List Dv} {vs:List Value} (l1:vs.length=ds.length)
 (l2 : ∀ (i:Nat) d v,ds[i]? = some d→vs[i]? = some v→rdD w (Zc w0 Z0 nm st.objs w) nm st.objs d v)
 (hrun : ∀ fn, P.funcs[f]? = some fn → (fn.name == "runtime.NumGoroutine") = false → fn.body.isNone = false → (execOp a.eval o).run P w = .ok (.enter f vs.toArray) w)
 {xs:dens ce.params} {u:Upd} (hxs:args (look st.objs) ce.params ds=some (xs,u)) {res:dens ce.res} (hres:ce.F xs=some res) :
 Good P n w0 Z0 st a w o ⟨resDv ce.res res,bif ce.res.all Ty.free then [] else u⟩:=by
 obtain ⟨⟨fn,f1,f2,f3⟩,hcalls⟩:=hce
 have hrun:=hrun fn f1 f2 f3
 obtain ⟨fu,frd⟩:=args_rd (n:=n) (w0:=w0) (w:=w) (Z0:=Z0) (a:=a) (nm:=nm) ce.params hxs
 have key : ∀ (st1:St),Jh st u=some st1→YC w (Zc w0 Z0 nm st1.objs w) ce.params xs vs∧Rel n w0 Z0 st1 a w nm:=by
  intro st1 hl
  obtain ⟨hrel,hfz,hcold⟩:=Rel.freezes u h fu hl
  have hk1:Kept w w (Zc w0 Z0 nm st.objs w) (Zc w0 Z0 nm st1.objs w):=fun b hb=>⟨hfz.zc hb,rfl⟩
  exact ⟨frd st1 ⟨hfz,hrel,hcold⟩ _ l1 (fun i d v q1 q2=>JU hk1 (DvOk.refl _ _ _) (l2 i d v q1 q2)),hrel⟩
 intro st' hlay
 cases hfree:ce.res.all Ty.free with
 | true=>
   simp only [hfree,cond_true] at hlay
   simp only [Jh,Option.some.injEq] at hlay
   subst hlay
   obtain ⟨st1,hl1⟩:=FzUpd.lays u h fu
   obtain ⟨hra,_⟩:=key st1 hl1
   have hra2:=rdArgs_mono (w':=w) (Z':=fun b=>b < w.heap.size) (fun b hb=>⟨hb.1,rfl⟩) ce.params hra
   refine Does.of_call hrun ?_
   refine Calls.mono (hcalls w (fun b=>b < w.heap.size) _ xs res h.gnow (fun _ hb=>hb) hra2 hres) ?_
   rintro e w' ⟨v,he,hs,hr⟩
   exact ⟨v,he,nm,h.grow hs,resDv_rd (rdRes_free hfree hr)⟩
 | false=>
   simp only [hfree,cond_false] at hlay
   obtain ⟨hra,hrel⟩:=key st' hlay
   refine Does.of_call hrun ?_
   refine Calls.mono (hcalls w (Zc w0 Z0 nm st'.objs w) _ xs res h.gnow (fun _ hb=>hb.1) hra hres) ?_
   rintro e w' ⟨v,he,hs,hr⟩
   refine ⟨v,he,nm,hrel.grow hs,resDv_rd (rdRes_mono (fun b hb=>⟨?_,rfl⟩) hr)⟩
   rcases hb with ⟨z1,z2,z3⟩ | ⟨z1,z2⟩
   ·exact ⟨Nat.lt_of_lt_of_le z1 hs.size,z2,z3⟩
   ·refine ⟨z2,fun hlt=>absurd hlt (by have:=hrel.same.size;omega),?_⟩
    rintro ⟨id,ob,q1,q2,q3⟩
    have:=(hrel.new id ob b q1 q3).2
    omega
end
end Go.Ql
end

section
set_option linter.unusedSectionVars false
namespace Go.Ql
theorem Yv : ∀ (a b:List Ty) (x:densU a) (y:densU b),fstU a b (appU a b x y)=x
 | [],_,_,_=>rfl
 | _::a,b,x,y=>by show (x.1,fstU a b (appU a b x.2 y))=x;rw [Yv a b]
theorem Yy : ∀ (a b:List Ty) (x:densU a) (y:densU b),sndU a b (appU a b x y)=y
 | [],_,_,_=>rfl
 | _::a,b,x,y=>Yy a b x.2 y
def nmT (nm:Names) (σ:Ren):Names:=fun j=>match look σ j with
 | some i=>nm i
 | none=>undef
theorem kw {nm:Names} {σ:Ren} {j i:Nat} (h:look σ j=some i):nmT nm σ j=nm i:=by unfold nmT;rw [h]
def Ext (σ σ':Ren):Prop:=∀ j i,look σ j=some i→look σ' j=some i
theorem Ext.refl (σ:Ren):Ext σ σ:=fun _ _ h=>h
theorem Ext.trans {a b c:Ren} (h:Ext a b) (k:Ext b c):Ext a c:=fun j i q=>k j i (h j i q)
def InjR (σ:Ren):Prop:=∀ j j' i,look σ j=some i→look σ j'=some i→j=j'
theorem hasV_no {i:Nat} : ∀ {σ:Ren},hasV i σ=false → ∀ j,look σ j≠some i
 | [],_,j,h=>by simp [look] at h
 | (k,v)::σ,hn,j,h=>by
   simp only [hasV,Bool.or_eq_false_iff] at hn
   simp only [look] at h
   cases hb:Nat.beq k j with
   | true=>
     rw [hb] at h
     simp only [cond_true,Option.some.injEq] at h
     subst h
     exact absurd rfl (Jb.1 hn.1)
   | false=>rw [hb] at h;exact hasV_no hn.2 j h
theorem bindId_ok {σ σ':Ren} {j i:Nat} (h:bindId σ j i=some σ'):Ext σ σ'∧look σ' j=some i∧(InjR σ→InjR σ'):=by
 unfold bindId at h
 split at h
 ·rename_i i' hl
  cases hb:Nat.beq i' i with
  | false=>rw [hb] at h;cases h
  | true=>
    rw [hb] at h
    have:=beqN.1 hb
    subst this
    simp only [cond_true,Option.some.injEq] at h
    subst h
    exact ⟨Ext.refl _,hl,id⟩
 ·rename_i hl
  cases hb:hasV i σ with
  | true=>rw [hb] at h;cases h
  | false=>
    rw [hb] at h
    simp only [cond_false,Option.some.injEq] at h
    subst h
    have hno:=hasV_no hb
    refine ⟨fun k q hk => ?_,by simp [look],fun hi k k' q hk hk' => ?_⟩
    ·simp only [look]
     cases hb2:Nat.beq j k with
     | true=>have:=beqN.1 hb2;subst this;rw [hl] at hk;cases hk
     | false=>exact hk
    ·simp only [look] at hk hk'
     cases hb2:Nat.beq j k with
     | true=>
       rw [hb2] at hk
       simp only [cond_true,Option.some.injEq] at hk
       subst hk
       cases hb3:Nat.beq j k' with
       | true=>rw [← beqN.1 hb2,← beqN.1 hb3]
       | false=>rw [hb3] at hk';exact absurd hk' (hno k')
     | false=>
       rw [hb2] at hk
       cases hb3:Nat.beq j k' with
       | true=>
         rw [hb3] at hk'
         simp only [cond_true,Option.some.injEq] at hk'
         subst hk'
         exact absurd hk (hno k)
       | false=>rw [hb3] at hk';exact hi k k' q hk hk'
theorem Yf {σ σ':Ren} {j i:Nat} {α:Type} {x y:α} {u:Upd} (h:bindU σ j i x=some (y,u,σ')):y=x∧u=[]∧Ext σ σ'∧look σ' j=some i∧(InjR σ→InjR σ'):=by
 unfold bindU at h
 split at h
 ·rename_i s hs
  simp only [Option.some.injEq,Prod.mk.injEq] at h
  obtain ⟨rfl,rfl,rfl⟩:=h
  exact ⟨rfl,rfl,bindId_ok hs⟩
 ·cases h
section
variable [GInv] {P:Program} {G:Env} {n:Nat} {w0 w w':World} {Z0:Bs} {Z Z':Nat→Prop} {st st1:St} {a:Act} {nm:Names} {o:Oper} {dst:Nat} {ρ:Type} {r:ρ}
def Fits (st:St) (σ:Ren) (objs:List (Nat×Ob)):Prop:=∀ j i v fz e t xs,look σ j=some i→look objs j=some (.arr v fz e t xs) → ∃ v' xs',look st.objs i=some (.arr v' false e t xs')∧List.length xs'=List.length xs
theorem FzUpd.nil:FzUpd st []:=fun p hp=>by cases hp
structure Bound (n:Nat) (w0:World) (Z0:Bs) (st:St) (a:Act) (w:World) (nm:Names) (σ σ':Ren) (u:Upd) (R:(Nat→Prop)→Names→List (Nat×Ob)→Prop):Prop where
 fz:FzUpd st u
 ext:Ext σ σ'
 inj:InjR σ→InjR σ'
 rd : ∀ σF st1 objs,Ext σ' σF→Frozen n w0 Z0 st st1 a w nm u→Fits st σF objs→R (Zc w0 Z0 nm st1.objs w) (nmT nm σF) objs
theorem bindA_ok {σ σ':Ren} {s:SA} {x:At} {d:densU s.tys} {u:Upd} (hb:bindA (look st.objs) σ s x=some (d,u,σ')) :
 Bound n w0 Z0 st a w nm σ σ' u fun Z nm' objs => ∀ v,rdA w Z nm st.objs x v→rdA w Z nm' objs (s.inj d) v:=by
 unfold bindA at hb
 split at hb
 ·
  rename_i t x
  split at hb
  ·rename_i d1 u1 h1
   simp only [Option.some.injEq,Prod.mk.injEq] at hb
   obtain ⟨rfl,rfl,rfl⟩:=hb
   exact ⟨(Us (n:=n) (w0:=w0) (w:=w) (Z0:=Z0) (a:=a) (nm:=nm) (v:=undef) h1).1,Ext.refl _,id,fun σF st1 objs _ hf _ v hv=>(Us h1).2 st1 hf.fz hf.rel hf.cold hv⟩
  ·cases hb
 ·simp only [Option.some.injEq,Prod.mk.injEq] at hb
  obtain ⟨rfl,rfl,rfl⟩:=hb
  exact ⟨FzUpd.nil,Ext.refl _,id,fun σF st1 objs _ _ _ v hv=>hv⟩
 ·
  rename_i j v0 id ver
  split at hb
  ·rename_i v' fz e t xs hob
   cases hc:(Nat.beq v' ver && Nat.beq v0 0) with
   | false=>rw [hc] at hb;cases hb
   | true=>
     rw [hc] at hb
     rw [Bool.and_eq_true] at hc
     have:=beqN.1 hc.1
     subst this
     obtain ⟨rfl,rfl,q1,q2,q3⟩:=Yf hb
     refine ⟨FzUpd.nil,q1,q3,fun σF st1 objs hx _ _ v hv=>⟨hv.1,fun _ _ _ _ _ => ?_⟩⟩
     rw [kw (hx _ _ q2)]
     exact hv.2 fz e t xs hob
  ·cases hb
 ·
  rename_i j v0 id ver lo m
  split at hb
  ·rename_i v' fz e t xs hob
   cases hc:(Nat.beq v' ver && Nat.beq v0 0) with
   | false=>rw [hc] at hb;cases hb
   | true=>
     rw [hc] at hb
     rw [Bool.and_eq_true] at hc
     have:=beqN.1 hc.1
     subst this
     obtain ⟨rfl,rfl,q1,q2,q3⟩:=Yf hb
     refine ⟨FzUpd.nil,q1,q3,fun σF st1 objs hx _ hF v hv=>⟨hv.1,fun fz1 e1 t1 xs1 hl => ?_⟩⟩
     obtain ⟨v2,xs2,h2,h3⟩:=hF j id _ _ _ _ _ (hx _ _ q2) hl
     rw [kw (hx _ _ q2)]
     rw [hob] at h2
     cases h2
     rw [← h3]
     exact hv.2 false _ _ _ hob
  ·cases hb
 ·
  rename_i j v0 id ver
  split at hb
  ·rename_i v' fz e t xs hob
   cases hc:(Nat.beq v' ver && Nat.beq v0 0 && !t.isMap) with
   | false=>rw [hc] at hb;cases hb
   | true=>
     rw [hc] at hb
     rw [Bool.and_eq_true,Bool.and_eq_true,Bool.not_eq_true'] at hc
     obtain ⟨hc,hmap⟩:=hc
     have:=beqN.1 hc.1
     subst this
     obtain ⟨rfl,rfl,q1,q2,q3⟩:=Yf hb
     refine ⟨FzUpd.nil,q1,q3,fun σF st1 objs hx hf hF v hv=>⟨hv.1,fun fz1 e1 t1 xs1 hl => ?_⟩⟩
     obtain ⟨v2,xs2,h2,hlen⟩:=hF j id _ _ _ _ _ (hx _ _ q2) hl
     rw [kw (hx _ _ q2)]
     have hob1 : ∃ fz2,look st1.objs id=some (.arr v' fz2 e t xs):=by
      rcases hf.fz.objs id with q | ⟨v3,fz3,e3,t3,xs3,y1,y2⟩ | ⟨v3,fz3,e3,te3,t3,xs3,y1,y2⟩
      ·exact ⟨fz,q.trans hob⟩
      ·rw [hob] at y1;cases y1;exact ⟨true,y2⟩
      ·rw [hob] at y1;cases y1
     obtain ⟨fz2,hob1⟩:=hob1
     have hvn:=hv.2 fz e t xs hob
     rw [hvn]
     rw [hob] at h2
     cases h2
     obtain ⟨cells,p1,p2⟩:=(hf.rel.objs id _ hob1).sl hmap
     rw [← hlen]
     refine ⟨?_,by
      unfold inWin
      simp only [Bool.and_eq_true,decide_eq_true_eq,Nat.ble_eq]
      show ((0:Int)≤0∧(0:Int)≤(xs.length:Int))∧(0:Int).toNat+(xs.length:Int).toNat≤_
      omega⟩
     rcases p1.2 with ⟨e2,z2⟩ | ⟨g,cap,cur,e2,_,z3,z4,_⟩
     ·exact .inl ⟨e2,e2,by show (xs.length:Int)=0;omega⟩
     ·refine .inr ⟨g,_,cap,0,cap,e2,e2,fun _=>by show 0=(0:Int).toNat*_;simp,by show (xs.length:Int).toNat≤cap;omega,z4⟩
  ·cases hb
 ·
  rename_i j o0 id o1
  split at hb
  ·rename_i cs hob
   cases hc:Nat.beq o0 o1 with
   | false=>rw [hc] at hb;cases hb
   | true=>
     rw [hc] at hb
     have:=beqN.1 hc
     subst this
     obtain ⟨rfl,rfl,q1,q2,q3⟩:=Yf hb
     refine ⟨FzUpd.nil,q1,q3,fun σF st1 objs hx _ _ v hv=>⟨hv.1,fun _ _ => ?_⟩⟩
     rw [kw (hx _ _ q2)]
     exact hv.2 cs hob
  ·cases hb
 ·rename_i f g
  cases hc:Nat.beq f g with
  | false=>rw [hc] at hb;cases hb
  | true=>
    rw [hc] at hb
    have:=beqN.1 hc
    subst this
    simp only [cond_true,Option.some.injEq,Prod.mk.injEq] at hb
    obtain ⟨rfl,rfl,rfl⟩:=hb
    exact ⟨FzUpd.nil,Ext.refl _,id,fun σF st1 objs _ _ _ v hv=>hv⟩
 ·rename_i j id
  split at hb
  ·rename_i f p q hob
   obtain ⟨rfl,rfl,q1,q2,q3⟩:=Yf hb
   refine ⟨FzUpd.nil,q1,q3,fun σF st1 objs hx _ _ v hv=>⟨hv.1,fun _ _ _ _ => ?_⟩⟩
   rw [kw (hx _ _ q2)]
   exact hv.2 f p q hob
  ·cases hb
 ·rename_i t s d1
  split at hb
  ·rename_i hs
   subst hs
   simp only [Option.some.injEq,Prod.mk.injEq] at hb
   obtain ⟨rfl,rfl,rfl⟩:=hb
   exact ⟨FzUpd.nil,Ext.refl _,id,fun σF st1 objs _ _ _ v hv=>hv⟩
  ·cases hb
 ·
  rename_i j v0 id ver
  split at hb
  ·rename_i v' fz e t xs hob
   cases hc:(Nat.beq v' ver && Nat.beq v0 0) with
   | false=>rw [hc] at hb;cases hb
   | true=>
     rw [hc] at hb
     rw [Bool.and_eq_true] at hc
     have:=beqN.1 hc.1
     subst this
     obtain ⟨rfl,rfl,q1,q2,q3⟩:=Yf hb
     refine ⟨FzUpd.nil,q1,q3,fun σF st1 objs hx _ _ v hv=>⟨hv.1,fun _ _ _ _ _ => ?_⟩⟩
     rw [kw (hx _ _ q2)]
     exact hv.2 fz e t xs hob
  ·cases hb
 ·
  rename_i j T id T'
  split at hb
  ·rename_i cs hob
   cases hc:Nat.beq T T' with
   | false=>rw [hc] at hb;cases hb
   | true=>
     rw [hc] at hb
     obtain ⟨rfl,rfl,q1,q2,q3⟩:=Yf hb
     refine ⟨FzUpd.nil,q1,q3,fun σF st1 objs hx _ _ v hv=>⟨hv.1,fun _ _ => ?_⟩⟩
     rw [kw (hx _ _ q2)]
     exact hv.2 cs hob
  ·cases hb
 ·
  rename_i j v0 id ver i1 sz o1
  split at hb
  ·rename_i v' fz e t xs hob
   cases hc:(Nat.beq v' ver && Nat.beq v0 0 && (decide (i1=0) && Nat.beq o1 0)) with
   | false=>rw [hc] at hb;cases hb
   | true=>
     rw [hc] at hb
     simp only [Bool.and_eq_true,decide_eq_true_eq] at hc
     obtain ⟨⟨c1,c2⟩,c3,c4⟩:=hc
     have:=beqN.1 c1
     subst this
     have:=beqN.1 c4
     subst this
     subst c3
     obtain ⟨rfl,rfl,q1,q2,q3⟩:=Yf hb
     refine ⟨FzUpd.nil,q1,q3,fun σF st1 objs hx _ _ v hv=>⟨hv.1,fun _ _ _ _ _ => ?_⟩⟩
     rw [kw (hx _ _ q2)]
     obtain ⟨r1,_,_,b,n1,c1',p1,p2⟩:=hv.2 fz e t xs hob
     exact ⟨b,n1,c1',p1,by rw [p2];simp⟩
  ·cases hb
 ·simp only [Option.some.injEq,Prod.mk.injEq] at hb
  obtain ⟨rfl,rfl,rfl⟩:=hb
  exact ⟨FzUpd.nil,Ext.refl _,id,fun σF st1 objs _ _ _ v hv=>rdA_one hv (fun _ _ h=>by cases h) (fun _ _ _ h=>by cases h)⟩
 ·simp only [Option.some.injEq,Prod.mk.injEq] at hb
  obtain ⟨rfl,rfl,rfl⟩:=hb
  exact ⟨FzUpd.nil,Ext.refl _,id,fun σF st1 objs _ _ _ v hv=>hv.1⟩
 ·simp only [Option.some.injEq,Prod.mk.injEq] at hb
  obtain ⟨rfl,rfl,rfl⟩:=hb
  exact ⟨FzUpd.nil,Ext.refl _,id,fun σF st1 objs _ _ _ v hv=>hv⟩
 ·
  rename_i j v0 id ver
  split at hb
  ·rename_i v' fz e te t xs hole hob
   cases hc:(Nat.beq v' ver && Nat.beq v0 0) with
   | false=>rw [hc] at hb;cases hb
   | true=>
     rw [hc] at hb
     rw [Bool.and_eq_true] at hc
     have:=beqN.1 hc.1
     subst this
     obtain ⟨rfl,rfl,q1,q2,q3⟩:=Yf hb
     refine ⟨FzUpd.nil,q1,q3,fun σF st1 objs hx _ _ v hv=>⟨hv.1,fun _ _ _ _ _ _ _ => ?_⟩⟩
     rw [kw (hx _ _ q2)]
     exact hv.2 fz e te t xs hole hob
  ·cases hb
 ·cases hb
theorem Bound.both {σ σ1 σ2:Ren} {u v:Upd} {R1 R2 R:(Nat→Prop)→Names→List (Nat×Ob)→Prop} (h1:Bound n w0 Z0 st a w nm σ σ1 u R1) (h2:Bound n w0 Z0 st a w nm σ1 σ2 v R2)
 (hR : ∀ Z nm' objs,R1 Z nm' objs→R2 Z nm' objs→R Z nm' objs):Bound n w0 Z0 st a w nm σ σ2 (u++v) R:=
 ⟨h1.fz.append h2.fz,h1.ext.trans h2.ext,fun hi=>h2.inj (h1.inj hi),fun σF st1 objs hx hf hF=>hR _ _ _ (h1.rd σF st1 objs (h2.ext.trans hx) hf.left hF) (h2.rd σF st1 objs hx hf.right hF)⟩
theorem rdAs_cons {Z:Nat→Prop} {objs:List (Nat×Ob)} {x:At} {cs:List At} {vs:List Value} (h:rdAs w Z nm objs (x::cs) vs) : ∃ v r,vs=v::r∧rdA w Z nm objs x v∧rdAs w Z nm objs cs r:=by
 match vs,h with
 | [],h=>exact absurd h.1 (by simp)
 | v::r,h=>exact ⟨v,r,rfl,h.2 0 x v rfl rfl,by simpa using h.1,fun i y u q1 q2=>h.2 (i+1) y u (by simpa using q1) (by simpa using q2)⟩
theorem VS : ∀ {s:List SA} {σ σ':Ren} {cs:List At} {d:densU (SL.tys s)} {u:Upd},bindL (look st.objs) σ s cs=some (d,u,σ') →
 Bound n w0 Z0 st a w nm σ σ' u fun Z nm' objs => ∀ vs,rdAs w Z nm st.objs cs vs→rdAs w Z nm' objs (SL.inj s d) vs
 | [],σ,σ',[],d,u,hb=>by
   simp only [bindL,Option.some.injEq,Prod.mk.injEq] at hb
   obtain ⟨rfl,rfl,rfl⟩:=hb
   exact ⟨FzUpd.nil,Ext.refl _,id,fun σF st1 objs _ _ _ vs hv=>⟨hv.1,fun i x v q _=>by simp [SL.inj_nil] at q⟩⟩
 | [],_,_,_::_,_,_,hb=>by simp [bindL] at hb
 | _::_,_,_,[],_,_,hb=>by simp [bindL] at hb
 | s::r,σ,σ',x::cs,d,u,hb=>by
   simp only [bindL] at hb
   split at hb
   ·rename_i y u1 σ1 h1
    split at hb
    ·rename_i z u2 σ2 h2
     simp only [Option.some.injEq,Prod.mk.injEq] at hb
     obtain ⟨rfl,rfl,rfl⟩:=hb
     refine (bindA_ok (n:=n) (w0:=w0) (w:=w) (Z0:=Z0) (a:=a) (nm:=nm) h1).both (VS h2) (fun Z nm' objs r1 r2 vs hv => ?_)
     obtain ⟨v,vr,rfl,v1,v2⟩:=rdAs_cons hv
     show rdAs w Z nm' objs (s.inj (fstU _ _ _)::SL.inj r (sndU _ _ _)) _
     rw [Yv,Yy]
     exact ko (c1:=[s.inj y]) (v1:=[v]) (JC (r1 v v1)) (r2 vr v2)
    ·cases hb
   ·cases hb
theorem bindA_self {ob:Objs} {σ σ':Ren} {s:SA} {x:At} {d:densU s.tys} {u:Upd} (hb:bindA ob σ s x=some (d,u,σ')) {j:Nat} {T:TypeId} (hs:s.inj d=At.selfp j T) : ∃ i,look σ' j=some i∧x=At.selfp i T:=by
 cases s with
 | selfp j' T'=>
   have e:At.selfp j' T'=At.selfp j T:=hs
   cases e
   unfold bindA at hb
   cases x <;> first | (cases hb;done) | skip
   rename_i id T'
   simp only at hb
   split at hb
   ·cases hc:Nat.beq T T' with
    | false=>rw [hc] at hb;cases hb
    | true=>
      rw [hc] at hb
      obtain ⟨_,_,_,q2,_⟩:=Yf hb
      exact ⟨id,q2,by rw [beqN.1 hc]⟩
   ·cases hb
 | _=>cases hs
theorem cond_some {α:Type} {b:Bool} {x:Option α} {y:α} (h:(bif b then x else none)=some y):x=some y:=by
 cases b with
 | false=>cases h
 | true=>exact h
theorem bindA_more {ob:Objs} {σ σ':Ren} {s:SA} {x:At} {d:densU s.tys} {u:Upd} (hb:bindA ob σ s x=some (d,u,σ')):Ext σ σ':=by
 unfold bindA at hb
 repeat' (split at hb)
 all_goals first
  | (cases hb;done)
  | (simp only [Option.some.injEq,Prod.mk.injEq] at hb;obtain ⟨_,_,rfl⟩:=hb;exact Ext.refl _)
  | exact (Yf hb).2.2.1
  | exact (Yf (cond_some hb)).2.2.1
  | (have hb:=cond_some hb;simp only [Option.some.injEq,Prod.mk.injEq] at hb;obtain ⟨_,_,rfl⟩:=hb;exact Ext.refl _)
theorem bindL_self {ob:Objs} : ∀ {s:List SA} {σ σ':Ren} {cs:List At} {d:densU (SL.tys s)} {u:Upd},bindL ob σ s cs=some (d,u,σ') →
 Ext σ σ' ∧ ∀ {j:Nat} {T:TypeId},At.selfp j T∈SL.inj s d → ∃ i,look σ' j=some i∧At.selfp i T∈cs:=by
 intro s
 induction s with
 | nil=>
   intro σ σ' cs d u hb
   cases cs with
   | nil=>
     simp only [bindL,Option.some.injEq,Prod.mk.injEq] at hb
     obtain ⟨_,_,rfl⟩:=hb
     exact ⟨Ext.refl _,fun h=>by cases h⟩
   | cons x cs=>simp [bindL] at hb
 | cons s r ih=>
   intro σ σ' cs d u hb
   cases cs with
   | nil=>simp [bindL] at hb
   | cons x cs=>
     simp only [bindL] at hb
     split at hb
     ·rename_i y u1 σ1 h1
      split at hb
      ·rename_i z u2 σ2 h2
       simp only [Option.some.injEq,Prod.mk.injEq] at hb
       obtain ⟨rfl,rfl,rfl⟩:=hb
       obtain ⟨e2,k2⟩:=ih h2
       refine ⟨(bindA_more h1).trans e2,fun {j T} h => ?_⟩
       have he:SL.inj (s::r) (appU s.tys (SL.tys r) y z)=s.inj y::SL.inj r z:=by
        show s.inj (fstU _ _ _)::SL.inj r (sndU _ _ _)=_
        rw [Yv,Yy]
       rw [he] at h
       rcases List.mem_cons.1 h with h | h
       ·obtain ⟨i,i1,i2⟩:=bindA_self h1 h.symm
        exact ⟨i,e2 _ _ i1,by rw [i2];exact List.mem_cons_self ..⟩
       ·obtain ⟨i,i1,i2⟩:=k2 h
        exact ⟨i,i1,List.mem_cons_of_mem _ i2⟩
      ·cases hb
     ·cases hb
theorem bindD_ok {σ σ':Ren} {s:SD} {x:Dv} {d:densU s.tys} {u:Upd} (hb:bindD (look st.objs) σ s x=some (d,u,σ')) :
 Bound n w0 Z0 st a w nm σ σ' u fun Z nm' objs => ∀ v,rdD w Z nm st.objs x v→rdD w Z nm' objs (s.inj d) v:=by
 cases s with
 | one sa=>
   change (match oneAt x with
    | some y=>bindA (look st.objs) σ sa y
    | none=>bindV (look st.objs) σ sa x)=_ at hb
   cases hx:oneAt x with
   | some y=>
     rw [hx] at hb
     have:x = .one y:=by cases x <;> simp [oneAt] at hx;rw [hx]
     subst this
     exact bindA_ok hb
   | none=>
     rw [hx] at hb
     cases sa with
     | val t=>
       obtain ⟨⟨y,u1⟩,hq,hb⟩:=Option.map_eq_some_iff.mp (show (dvV (look st.objs) t x).map (fun p=>(((p.1,()):densU (SD.one (SA.val t)).tys),p.2,σ))=some (d,u,σ') from hb)
       have e1:(y,())=d:=congrArg Prod.fst hb
       have e2:u1=u:=congrArg (fun p=>p.2.1) hb
       have e3:σ=σ':=congrArg (fun p=>p.2.2) hb
       subst e1;subst e2;subst e3
       obtain ⟨f,g⟩:=Yj (n:=n) (w0:=w0) (w:=w) (Z0:=Z0) (a:=a) (nm:=nm) hq
       exact ⟨f,Ext.refl _,id,fun σF st1 objs _ hf _ v hv=>g st1 hf v hv⟩
     | _=>cases hb
 | agg ss=>
   cases x with
   | agg cs=>
     obtain ⟨f,q1,q2,q3⟩:=VS (n:=n) (w0:=w0) (w:=w) (Z0:=Z0) (a:=a) (nm:=nm) hb
     exact ⟨f,q1,q2,fun σF st1 objs hx hf hF v ⟨vs,e,h1,h2⟩=>⟨vs,e,q3 σF st1 objs hx hf hF _ h1,h2⟩⟩
   | one y=>
     cases y with
     | val t y=>
       cases t with
       | st t=>
         cases hfl:t.flat with
         | false=>change (bif t.flat then _ else none)=_ at hb;rw [hfl] at hb;cases hb
         | true=>
         change (bif t.flat then _ else none)=_ at hb
         rw [hfl] at hb
         obtain ⟨f,q1,q2,q3⟩:=VS (n:=n) (w0:=w0) (w:=w) (Z0:=Z0) (a:=a) (nm:=nm) hb
         exact ⟨f,q1,q2,fun σF st1 objs hx hf hF v ⟨cs,e,h1⟩=>⟨cs,e,q3 σF st1 objs hx hf hF _ (Ue t hfl h1),kC t h1⟩⟩
       | _=>cases hb
     | _=>cases hb
   | tup cs=>cases hb
   | tgg k cs=>cases hb
 | tup ss=>cases x <;> cases hb
theorem bindS_ok : ∀ {s:List (Nat×SD)} {σ σ':Ren} {ds:List Dv} {d:densU (SS.tys s)} {u:Upd},bindS (look st.objs) σ s ds=some (d,u,σ') →
 ds.length=s.length∧Bound n w0 Z0 st a w nm σ σ' u fun Z nm' objs => ∀ vs:List Value,vs.length=ds.length→(∀ (i:Nat) x v,ds[i]? = some x→vs[i]? = some v→rdD w Z nm st.objs x v) →
  ∀ (i:Nat) p v,(SS.inj s d)[i]? = some p→vs[i]? = some v→rdD w Z nm' objs p.2 v
 | [],σ,σ',[],d,u,hb=>by
   simp only [bindS,Option.some.injEq,Prod.mk.injEq] at hb
   obtain ⟨rfl,rfl,rfl⟩:=hb
   exact ⟨rfl,FzUpd.nil,Ext.refl _,id,fun σF st1 objs _ _ _ vs _ _ i p v q _=>by simp [SS.inj_nil] at q⟩
 | [],_,_,_::_,_,_,hb=>by simp [bindS] at hb
 | _::_,_,_,[],_,_,hb=>by simp [bindS] at hb
 | p0::r,σ,σ',x::ds,d,u,hb=>by
   simp only [bindS] at hb
   split at hb
   ·rename_i y u1 σ1 h1
    split at hb
    ·rename_i z u2 σ2 h2
     simp only [Option.some.injEq,Prod.mk.injEq] at hb
     obtain ⟨rfl,rfl,rfl⟩:=hb
     obtain ⟨l2,b2⟩:=bindS_ok h2
     refine ⟨by simp [l2],(bindD_ok (n:=n) (w0:=w0) (w:=w) (Z0:=Z0) (a:=a) (nm:=nm) h1).both b2 (fun Z nm' objs r1 r2 vs hl hv i p v q1 q2 => ?_)⟩
     match vs,hl with
     | v0::vs,hl=>
       cases i with
       | zero=>
         simp only [SS.inj_cons,List.getElem?_cons_zero,Option.some.injEq] at q1 q2
         subst q1;subst q2
         show rdD w Z nm' objs (p0.2.inj (fstU _ _ _)) v0
         rw [Yv]
         exact r1 v0 (hv 0 x v0 rfl rfl)
       | succ i=>
         simp only [SS.inj_cons,List.getElem?_cons_succ] at q1 q2
         rw [Yy] at q1
         exact r2 vs (by simpa using hl) (fun i x v q3 q4=>hv (i+1) x v (by simpa using q3) (by simpa using q4)) i p v q1 q2
    ·cases hb
   ·cases hb
theorem bindO_ok {σ σ':Ren} {i:Nat} {s:SO} {d:densU s.tys} {u:Upd} (hb:bindO (look st.objs) σ i s=some (d,u,σ')) :
 (∃ ob,look st.objs i=some ob∧(s.inj d ≠ .gone→ob.mine=true)∧(s.inj d ≠ .gone→(s.inj d).mine=true)∧(∀ v fz e t xs,s.inj d = .arr v fz e t xs→v=0 ∧ ∃ v',ob = .arr v' false e t xs)∧(∀ cs,s.inj d = .box cs → ∃ cs',ob = .box cs')∧(∀ f x y,s.inj d = .clo f x y → ∃ x' y',ob = .clo f x' y')∧(∀ v fz e te t xs h,s.inj d = .deep v fz e te t xs h→v=0∧h=none ∧ ∃ v',ob = .deep v' false e te t xs none)) ∧
 Bound n w0 Z0 st a w nm σ σ' u fun Z nm' objs => ∀ j ob,look σ' j=some i→nm' j=nm i→look st.objs i=some ob→rdO w Z nm st.objs i ob→rdO w Z nm' objs j (s.inj d):=by
 cases s with
 | box ss=>
   simp only [bindO] at hb
   obtain ⟨ob1,hob⟩ : ∃ o,look st.objs i=o:=⟨_,rfl⟩
   rw [hob] at hb
   cases ob1 with
   | none=>cases hb
   | some ob1=>
   cases ob1 with
   | gone=>cases hb
   | arr=>cases hb
   | clo=>cases hb
   | deep=>cases hb
   | box cs=>
     simp only at hb
     obtain ⟨f,q1,q2,q3⟩:=VS (n:=n) (w0:=w0) (w:=w) (Z0:=Z0) (a:=a) (nm:=nm) hb
     refine ⟨⟨_,hob,fun _=>rfl,fun _=>rfl,fun _ _ _ _ _ h=>(by cases h),fun _ _=>⟨cs,rfl⟩,fun _ _ _ h=>(by cases h),fun _ _ _ _ _ _ _ h=>(by cases h)⟩,f,q1,q2,fun σF st1 objs hx hf hF j ob hj hn ho hr => ?_⟩
     rw [hob] at ho
     cases ho
     obtain ⟨b,vs,T,p1,p2,p3,p4⟩:=hr
     refine ⟨b,vs,T,hn.trans p1,p2,q3 σF st1 objs hx hf hF _ p3,p4.1,fun T' hT => ?_⟩
     obtain ⟨i',i1,i2⟩:=(bindL_self hb).2 hT
     rw [hj] at i1
     cases i1
     exact p4.2 T' i2
 | arr v0 fz0 e0 t0=>
   simp only [bindO] at hb
   obtain ⟨ob1,hob⟩ : ∃ o,look st.objs i=o:=⟨_,rfl⟩
   rw [hob] at hb
   cases ob1 with
   | none=>cases hb
   | some ob1=>
   cases ob1 with
   | gone=>cases hb
   | box=>cases hb
   | clo=>cases hb
   | deep=>cases hb
   | arr v' fz' e' t' xs=>
     cases fz' with
     | true=>cases hb
     | false=>
     simp only at hb
     split at hb
     ·rename_i ht
      subst ht
      cases hc:(Nat.beq v0 0 && !fz0 && Nat.beq e0 e') with
      | false=>rw [hc] at hb;cases hb
      | true=>
        rw [hc] at hb
        simp only [Bool.and_eq_true,Bool.not_eq_true'] at hc
        obtain ⟨⟨c1,c2⟩,c3⟩:=hc
        have:=beqN.1 c1
        subst this
        have:=beqN.1 c3
        subst this
        subst c2
        simp only [cond_true,Option.some.injEq,Prod.mk.injEq] at hb
        obtain ⟨rfl,rfl,rfl⟩:=hb
        refine ⟨⟨_,hob,fun _=>rfl,fun _=>rfl,fun v fz e t xs' h => ?_,fun _ h=>(by cases h),fun _ _ _ h=>(by cases h),fun _ _ _ _ _ _ _ h=>(by cases h)⟩,FzUpd.nil,Ext.refl _,id,fun σF st1 objs hx hf hF j ob _ hn ho hr => ?_⟩
        ·change Ob.arr 0 false e0 t' xs=_ at h
         cases h
         exact ⟨rfl,v',rfl⟩
        ·rw [hob] at ho
         cases ho
         have hr:rdArr _ _ (nm i) _ _ _:=hr
         rw [← hn] at hr
         exact hr
     ·cases hb
 | gone=>
   simp only [bindO] at hb
   split at hb
   ·rename_i hob
    simp only [Option.some.injEq,Prod.mk.injEq] at hb
    obtain ⟨rfl,rfl,rfl⟩:=hb
    exact ⟨⟨_,hob,fun h=>absurd rfl h,fun h=>absurd rfl h,fun _ _ _ _ _ h=>(by cases h),fun _ h=>(by cases h),fun _ _ _ h=>(by cases h),fun _ _ _ _ _ _ _ h=>(by cases h)⟩,FzUpd.nil,Ext.refl _,id,fun σF st1 objs hx hf hF j ob _ hn ho hr=>trivial⟩
   ·rename_i hob
    simp only [Option.some.injEq,Prod.mk.injEq] at hb
    obtain ⟨rfl,rfl,rfl⟩:=hb
    exact ⟨⟨_,hob,fun h=>absurd rfl h,fun h=>absurd rfl h,fun _ _ _ _ _ h=>(by cases h),fun _ h=>(by cases h),fun _ _ _ h=>(by cases h),fun _ _ _ _ _ _ _ h=>(by cases h)⟩,FzUpd.nil,Ext.refl _,id,fun σF st1 objs hx hf hF j ob _ hn ho hr=>trivial⟩
   ·cases hb
 | clo f0 sa sb=>
   simp only [bindO] at hb
   obtain ⟨ob1,hob⟩ : ∃ o,look st.objs i=o:=⟨_,rfl⟩
   rw [hob] at hb
   cases ob1 with
   | none=>cases hb
   | some ob1=>
   cases ob1 with
   | gone=>cases hb
   | box=>cases hb
   | arr=>cases hb
   | deep=>cases hb
   | clo g p q=>
     simp only at hb
     cases hc:Nat.beq f0 g with
     | false=>rw [hc] at hb;cases hb
     | true=>
       rw [hc] at hb
       have:=beqN.1 hc
       subst this
       simp only [cond_true] at hb
       split at hb
       ·rename_i x u1 σ1 h1
        split at hb
        ·rename_i y u2 σ2 h2
         simp only [Option.some.injEq,Prod.mk.injEq] at hb
         obtain ⟨rfl,rfl,rfl⟩:=hb
         refine ⟨⟨_,hob,fun _=>rfl,fun _=>rfl,fun _ _ _ _ _ h=>(by cases h),fun _ h=>(by cases h),fun f x y h => ?_,fun _ _ _ _ _ _ _ h=>(by cases h)⟩,(VS (n:=n) (w0:=w0) (w:=w) (Z0:=Z0) (a:=a) (nm:=nm) h1).both (VS h2) (fun Z nm' objs r1 r2 j ob _ hn ho hr => ?_)⟩
         ·cases h
          exact ⟨p,q,rfl⟩
         ·rw [hob] at ho
          cases ho
          obtain ⟨vx,vy,p1,p2,p3⟩:=hr
          refine ⟨vx,vy,hn.trans p1,?_,?_⟩
          ·have:=r1 _ p2
           rw [Yv];exact this
          ·have:=r2 _ p3
           rw [Yy];exact this
        ·cases hb
       ·cases hb
 | deep v0 e0 te0 t0=>
   simp only [bindO] at hb
   split at hb
   ·rename_i v' e' te' t' xs hob
    split at hb
    ·rename_i ht
     subst ht
     cases hc:(Nat.beq v0 0 && Nat.beq e0 e' && Nat.beq te0 te') with
     | false=>rw [hc] at hb;cases hb
     | true=>
       rw [hc] at hb
       simp only [Bool.and_eq_true] at hc
       obtain ⟨⟨c1,c2⟩,c3⟩:=hc
       have:=beqN.1 c1
       subst this
       have:=beqN.1 c2
       subst this
       have:=beqN.1 c3
       subst this
       simp only [cond_true,Option.some.injEq,Prod.mk.injEq] at hb
       obtain ⟨rfl,rfl,rfl⟩:=hb
       refine ⟨⟨_,hob,fun _=>rfl,fun _=>rfl,fun _ _ _ _ _ h=>(by cases h),fun _ h=>(by cases h),fun _ _ _ h=>(by cases h),fun v fz e te t xs' h hh => ?_⟩,FzUpd.nil,Ext.refl _,id,fun σF st1 objs hx hf hF j ob _ hn ho hr => ?_⟩
       ·change Ob.deep 0 false e0 te0 t' xs none=_ at hh
        cases hh
        exact ⟨rfl,rfl,v',rfl⟩
       ·rw [hob] at ho
        cases ho
        have hr:rdDeep _ _ (nm i) _ _ _ _:=hr
        rw [← hn] at hr
        exact hr
    ·cases hb
   ·cases hb
theorem bindP_ok : ∀ {s:List (Nat×SO)} {σ σ':Ren} {d:densU (SP.tys s)} {u:Upd},bindP (look st.objs) σ s=some (d,u,σ') →
 (∀ j obT,look (SP.inj s d) j=some obT → ∃ i ob,look σ' j=some i∧look st.objs i=some ob∧(obT ≠ .gone→ob.mine=true)∧(obT ≠ .gone→obT.mine=true)∧(∀ v fz e t xs,obT = .arr v fz e t xs→v=0 ∧ ∃ v',ob = .arr v' false e t xs)∧(∀ cs,obT = .box cs → ∃ cs',ob = .box cs')∧(∀ f x y,obT = .clo f x y → ∃ x' y',ob = .clo f x' y')∧(∀ v fz e te t xs h,obT = .deep v fz e te t xs h→v=0∧h=none ∧ ∃ v',ob = .deep v' false e te t xs none)) ∧
 Bound n w0 Z0 st a w nm σ σ' u fun Z nm' objs=>(∀ j i,look σ' j=some i→nm' j=nm i)→(∀ i ob,look st.objs i=some ob→rdO w Z nm st.objs i ob) → ∀ j obT,look (SP.inj s d) j=some obT→rdO w Z nm' objs j obT
 | [],σ,σ',d,u,hb=>by
   simp only [bindP,Option.some.injEq,Prod.mk.injEq] at hb
   obtain ⟨rfl,rfl,rfl⟩:=hb
   exact ⟨fun j obT h=>by simp [SP.inj_nil,look] at h,FzUpd.nil,Ext.refl _,id,fun σF st1 objs _ _ _ _ _ j obT h=>by simp [SP.inj_nil,look] at h⟩
 | p0::r,σ,σ',d,u,hb=>by
   simp only [bindP] at hb
   split at hb
   ·rename_i i0 hi0
    split at hb
    ·rename_i x u1 σ1 h1
     split at hb
     ·rename_i y u2 σ2 h2
      simp only [Option.some.injEq,Prod.mk.injEq] at hb
      obtain ⟨rfl,rfl,rfl⟩:=hb
      obtain ⟨⟨ob0,m1,m2,m3⟩,b1⟩:=bindO_ok (n:=n) (w0:=w0) (w:=w) (Z0:=Z0) (a:=a) (nm:=nm) h1
      obtain ⟨m4,b2⟩:=bindP_ok h2
      have hinj:SP.inj (p0::r) (appU p0.2.tys (SP.tys r) x y)=(p0.1,p0.2.inj x)::SP.inj r y:=by
       show (p0.1,p0.2.inj (fstU _ _ _))::SP.inj r (sndU _ _ _)=_
       rw [Yv,Yy]
      rw [hinj]
      have hi1:look σ' p0.1=some i0:=b2.ext _ _ (b1.ext _ _ hi0)
      refine ⟨fun j obT h => ?_,b1.both b2 (fun Z nm' objs r1 r2 hn ho j obT h => ?_)⟩
      ·simp only [look] at h
       cases hb2:Nat.beq p0.1 j with
       | true=>
         rw [hb2] at h
         have:=beqN.1 hb2
         subst this
         simp only [cond_true,Option.some.injEq] at h
         subst h
         exact ⟨i0,ob0,hi1,m1,m2,m3⟩
       | false=>rw [hb2] at h;exact m4 j obT h
      ·simp only [look] at h
       cases hb2:Nat.beq p0.1 j with
       | true=>
         rw [hb2] at h
         have:=beqN.1 hb2
         subst this
         simp only [cond_true,Option.some.injEq] at h
         subst h
         exact r1 _ ob0 (b1.ext _ _ hi0) (hn _ _ hi1) m1 (ho _ _ m1)
       | false=>rw [hb2] at h;exact r2 hn ho j obT h
     ·cases hb
    ·cases hb
   ·cases hb
end
end Go.Ql
end

section
set_option linter.unusedSectionVars false
namespace Go.Ql
abbrev Bs.of (Z:Nat→Prop) (nm:Names) (objs:List (Nat×Ob)):Bs:={ z:=Z,m:=owned nm objs,nm:=nm }
structure Pre [GInv] (w:World) (Z:Nat→Prop) (nm:Names) (st:St) (vs:List Value):Prop where
 len:vs.length=st.slots.length
 slots : ∀ (i:Nat) p v,st.slots[i]? = some p→vs[i]? = some v→rdD w (Zc w (Bs.of Z nm st.objs) nm st.objs w) nm st.objs p.2 v
 objs : ∀ id ob,look st.objs id=some ob→rdO w (Zc w (Bs.of Z nm st.objs) nm st.objs w) nm st.objs id ob
 lt : ∀ id ob b,look st.objs id=some ob→hasB (nm id) b→b < w.heap.size
 inj : ∀ id id' ob ob' b,look st.objs id=some ob→look st.objs id'=some ob'→hasB (nm id) b→hasB (nm id') b→id=id'
 zlt : ∀ b,Z b→b < w.heap.size
 mine : ∀ id ob,look st.objs id=some ob→ob.mine=true
 glob:GInv.ok w ∧ ∀ b,owned nm st.objs b→GInv.n≤b
def rdAns (w:World) (Z:Nat→Prop) (nm:Names) (objs:List (Nat×Ob)):List (Nat×Dv)→Value→Prop
 | [p],v=>rdD w Z nm objs p.2 v
 | l,v => ∃ vs,v = .tuple vs∧vs.toList.length=l.length ∧ ∀ (i:Nat) p u,l[i]? = some p→vs.toList[i]? = some u→rdD w Z nm objs p.2 u
structure Post (w w':World) (B:Bs) (nm':Names) (st:St) (v:Value):Prop where
 same:SameBut B.m w w'
 res:rdAns w' (Zc w B nm' st.objs w') nm' st.objs st.slots v
 objs : ∀ id ob,look st.objs id=some ob→rdO w' (Zc w B nm' st.objs w') nm' st.objs id ob
 new : ∀ id ob b,look st.objs id=some ob→hasB (nm' id) b→(w.heap.size≤b∨B.m b)∧b < w'.heap.size
 inj : ∀ id id' ob ob' b,look st.objs id=some ob→look st.objs id'=some ob'→hasB (nm' id) b→hasB (nm' id') b→id=id'
 given : ∀ id ob,gBox≤id→look st.objs id=some ob→(held id ob→nm' id=B.nm id)∧(heldD id ob→hdr (nm' id)=hdr (B.nm id))
 mine : ∀ id ob,look st.objs id=some ob→ob ≠ .gone→ob.mine=true
structure MOk [GInv] (P:Program) (f:FuncId) (mc:MCallee):Prop where
 fn : ∃ fn, P.funcs[f]? = some fn ∧ (fn.name == "runtime.NumGoroutine") = false ∧ fn.body.isNone = false
 calls : ∀ (w:World) (Z:Nat→Prop) (nm:Names) (vs:List Value) (x:densU mc.pre.tys) (y:densU mc.post.tys),Pre w Z nm (mc.pre.inj x) vs→mc.F x=some y →
  Calls P f vs.toArray w fun e w' => ∃ v nm',e = .returned v∧Post w w' (Bs.of Z nm (mc.pre.inj x).objs) nm' (mc.post.inj y) v
structure AltOk [GInv] (P:Program) (f:FuncId) (ma:MAlt):Prop where
 fn : ∃ fn, P.funcs[f]? = some fn ∧ (fn.name == "runtime.NumGoroutine") = false ∧ fn.body.isNone = false
 calls : ∀ (w:World) (Z:Nat→Prop) (nm:Names) (vs:List Value) (x:densU ma.pre.tys) (r:densU ma.post.tys⊕densU ma.post2.tys),Pre w Z nm (ma.pre.inj x) vs→ma.F x=some r →
  Calls P f vs.toArray w fun e w' => ∃ v nm',match r with
   | .inl y=>e = .returned v∧Post w w' (Bs.of Z nm (ma.pre.inj x).objs) nm' (ma.post.inj y) v
   | .inr y=>e=(bif ma.pan then .panicked [{ v,recovered:=false }] else .returned v)∧Post w w' (Bs.of Z nm (ma.pre.inj x).objs) nm' (ma.post2.inj y) v
def AltsOk [GInv] (P:Program) (l:List (Nat×MAlt)):Prop:=∀ i ma,look l i=some ma→AltOk P ma.fn ma
def MfnsOk [GInv] (P:Program) (l:List (Nat×MCallee)):Prop:=∀ i mc,look l i=some mc→MOk P mc.fn mc
section
variable [GInv] {P:Program} {G:Env} {n:Nat} {w0 w w':World} {Z0:Bs} {Z Z':Nat→Prop} {st st1:St} {a:Act} {nm:Names} {o:Oper} {dst:Nat} {ρ:Type} {r:ρ}
theorem noneOf_ok {u:Upd} {σ:Ren} (h:noneOf u σ=true) {j i:Nat} (hj:look σ j=some i) : ∀ p∈u,p.1≠i:=by
 intro p hp
 have:=List.all_eq_true.1 h p hp
 simp only [Bool.not_eq_true'] at this
 rintro rfl
 exact hasV_no this j hj
theorem bindAll_ok (h:Rel n w0 Z0 st a w nm) {σ σ':Ren} {sh:Shape} {ds:List Dv} {x:densU sh.tys} {u:Upd} (hb:Ye (look st.objs) σ sh ds=some (x,u,σ')) (hi:InjR σ) :
 FzUpd st u∧Ext σ σ'∧InjR σ'∧ds.length=sh.slots.length ∧ ∀ st1,Jh st u=some st1 →
  Rel n w0 Z0 st1 a w nm∧Fz st st1 ∧
  (∀ j obT,look (sh.inj x).objs j=some obT → ∃ i ob,look σ' j=some i∧look st1.objs i=some ob∧look st.objs i=some ob∧(obT ≠ .gone→ob.mine=true)∧(obT ≠ .gone→obT.mine=true) ∧
   (∀ v fz e t xs,obT = .arr v fz e t xs→v=0 ∧ ∃ v',ob = .arr v' false e t xs)∧(∀ cs,obT = .box cs → ∃ cs',ob = .box cs')∧(∀ f x y,obT = .clo f x y → ∃ x' y',ob = .clo f x' y')∧(∀ v fz e te t xs h,obT = .deep v fz e te t xs h→v=0∧h=none ∧ ∃ v',ob = .deep v' false e te t xs none)) ∧
  ∀ (Zt:Nat→Prop),(∀ b,Zc w0 Z0 nm st1.objs w b→Zt b) →
   (∀ j obT,look (sh.inj x).objs j=some obT→rdO w Zt (nmT nm σ') (sh.inj x).objs j obT) ∧
   ∀ vs:List Value,vs.length=ds.length→(∀ (i:Nat) d v,ds[i]? = some d→vs[i]? = some v→rdD w (Zc w0 Z0 nm st.objs w) nm st.objs d v) →
    ∀ (i:Nat) p v,(sh.inj x).slots[i]? = some p→vs[i]? = some v→rdD w Zt (nmT nm σ') (sh.inj x).objs p.2 v:=by
 unfold Ye at hb
 split at hb
 ·rename_i x1 u1 σ1 h1
  split at hb
  ·rename_i y1 u2 σ2 h2
   cases hc:noneOf (u1++u2) σ2 with
   | false=>rw [hc] at hb;cases hb
   | true=>
     rw [hc] at hb
     simp only [cond_true,Option.some.injEq,Prod.mk.injEq] at hb
     obtain ⟨rfl,rfl,rfl⟩:=hb
     obtain ⟨l1,b1⟩:=bindS_ok (n:=n) (w0:=w0) (w:=w) (Z0:=Z0) (a:=a) (nm:=nm) h1
     obtain ⟨m2,b2⟩:=bindP_ok (n:=n) (w0:=w0) (w:=w) (Z0:=Z0) (a:=a) (nm:=nm) h2
     have hobjs:(sh.inj (appU (SS.tys sh.slots) (SP.tys sh.objs) x1 y1)).objs=SP.inj sh.objs y1:=by
      show SP.inj sh.objs (sndU _ _ _)=_
      rw [Yy]
     have hslots:(sh.inj (appU (SS.tys sh.slots) (SP.tys sh.objs) x1 y1)).slots=SS.inj sh.slots x1:=by
      show SS.inj sh.slots (fstU _ _ _)=_
      rw [Yv]
     rw [hobjs,hslots]
     refine ⟨b1.fz.append b2.fz,b1.ext.trans b2.ext,b2.inj (b1.inj hi),l1,fun st1 hl => ?_⟩
     obtain ⟨hrel,hfz,hcold⟩:=Rel.freezes _ h (b1.fz.append b2.fz) hl
     have hfr:Frozen n w0 Z0 st st1 a w nm (u1++u2):=⟨hfz,hrel,hcold⟩
     have hk1:Kept w w (Zc w0 Z0 nm st.objs w) (Zc w0 Z0 nm st1.objs w):=fun b hb=>⟨hfz.zc hb,rfl⟩
     have hfit:Fits st σ' (SP.inj sh.objs y1):=by
      intro j i v fz e t xs hj ho
      obtain ⟨i',ob,q1,q2,_,_,q3,_⟩:=m2 j _ ho
      rw [hj] at q1
      cases q1
      obtain ⟨_,v',q4⟩:=q3 v fz e t xs rfl
      exact ⟨v',xs,q2.trans (by rw [q4]),rfl⟩
     refine ⟨hrel,hfz,fun j obT ho => ?_,fun Zt hZt => ?_⟩
     ·obtain ⟨i,ob,q1,q2,q3⟩:=m2 j obT ho
      exact ⟨i,ob,q1,(JI _ hl (noneOf_ok hc q1)).trans q2,q2,q3⟩
     ·have hkt:Kept w w (Zc w0 Z0 nm st1.objs w) Zt:=fun b hb=>⟨hZt b hb,rfl⟩
      have r1:=b1.rd σ' st1 (SP.inj sh.objs y1) b2.ext hfr.left hfit
      have r2:=b2.rd σ' st1 (SP.inj sh.objs y1) (Ext.refl _) hfr.right hfit
      refine ⟨fun j obT ho => ?_,fun vs hl2 hv i p v q1 q2 => ?_⟩
      ·have:=r2 (fun j i hj=>kw hj) (fun i ob ho=>kL hk1 rfl (fun _ _=>rfl) (ObOk.refl _ _ _) (h.objs i ob ho)) j obT ho
       exact kL hkt rfl (fun _ _=>rfl) (ObOk.refl _ _ _) this
      ·have:=r1 vs hl2 (fun i x v q3 q4=>JU hk1 (DvOk.refl _ _ _) (hv i x v q3 q4)) i p v q1 q2
       exact JU hkt (DvOk.refl _ _ _) this
  ·cases hb
 ·cases hb
end
end Go.Ql
end
