/- Part of the lifter: memory, for any program. -/
import Derived.Test.YtcndclcpmelgoaaDoorLbO
import Derived.MapKept
set_option linter.all false
section
set_option linter.unusedSectionVars false
namespace Go.Ql
section
variable [GInv] {P:Program} {G:Env} {n:Nat} {w0 w:World} {Z0:Bs} {st:St} {a:Act} {nm:Names} {o:Oper} {dst:Nat} {ρ:Type} {k:Eff→Option ρ} {r:ρ}
theorem YB {c1 c2 c3:List Value} {j:Nat} {u:Value} (h:c2[j]? = some u):(c1++c2++c3)[c1.length+j]? = some u:=by
 rw [List.append_assoc,List.getElem?_append_right (by omega),show c1.length+j - c1.length=j by omega,List.getElem?_append_left (List.getElem?_eq_some_iff.1 h).1]
 exact h
theorem inR_some {m:Nat} {i:Int} {u:Unit} (h:inR m i=some u):0≤i∧i < (m:Int):=by
 unfold inR at h
 cases hc:(decide (0≤i) && decide (i < (m:Int))) with
 | false=>rw [hc] at h;cases h
 | true=>rw [Bool.and_eq_true] at hc;exact ⟨of_decide_eq_true hc.1,of_decide_eq_true hc.2⟩
theorem eff_indexAddr {t:TypeId} {x ix:Operand} (ho:o.op = .indexAddr t x ix):EffOk P G o:=by
 intro hT n w0 w Z0 st a nm dst ρ k r h he
 unfold effK at he
 rw [ho] at he
 simp only at he
 split at he
 ·rename_i s e b d j i0 h1 h2 h3
  obtain ⟨i,hi'⟩ : ∃ i:Int,i=i0:=⟨i0,rfl⟩
  subst hi'
  obtain ⟨hu,ti,z,g1,g2,_⟩:=kM hT h1
  have e2:=Yk h h3
  have hrun : ∀ (bb off len cap:Nat),a.eval x = .slice (some ⟨bb,off,none⟩) len cap→0≤i→i.toNat < len →
   (execOp a.eval o).run P w = .ok (.value (.pointer (some ⟨bb,off+i.toNat*s.cells,none⟩))) w:=by
   intro bb off len cap hv hi hl
   have hsz:(sizeOf e).run P w = .ok s.cells w:=by simp [sizeOf,typeInfo,g1,g2]
   have hil:i < (len:Int):=by omega
   simp [execOp,ho,hv,e2,Instr.indexAt,asIntOf,run_underlying hu,hi,hil,hsz,Addr.add_lit]
  have hr:=ev_rd h h2
  split at he
  ·rename_i s' xs
   by_cases hs:s'=s
   ·subst hs
    simp only [decide_true,cond_true] at he
    obtain ⟨y,hy,he⟩:=ju he
    obtain ⟨q1,q2,q3⟩:=JQ hy
    obtain ⟨v,hv,hr⟩:=hr
    simp only [List.cons.injEq,and_true] at hv
    subst hv
    rcases hr with ⟨_,hn⟩ | ⟨bb,off,cap,cells,p1,p2,p3,p4,p5,p6⟩ | ⟨_,_,_,hn,_⟩
    ·rw [hn] at q2;simp at q2
    rotate_left
    ·rw [hn] at q2;simp at q2
    ·obtain ⟨c1,c2,c3,r1,r2,r3,_⟩:=kI (fun _ _=>Ji s') p5 q3
     refine ⟨_,he,Good.pure h (hrun bb off _ _ p1 q1 q2) ⟨bb,off+i.toNat*s'.cells,c2,rfl,p4,r3,fun j u hj => ?_⟩⟩
     rw [Nat.add_assoc,← r2]
     refine p6 _ u ?_
     rw [r1]
     exact YB hj
   ·simp [hs] at he
  ·rename_i id ver
   split at he
   ·rename_i v fz e' s' xs hob
    cases hv:(Nat.beq v ver && decide (s'=s)) with
    | false=>rw [hv] at he;cases he
    | true=>
      rw [hv] at he
      simp only [cond_true] at he
      rw [Bool.and_eq_true] at hv
      have:=beqN.1 hv.1
      subst this
      have:=of_decide_eq_true hv.2
      subst this
      obtain ⟨u,hu2,he⟩:=ju he
      have hin:=inR_some hu2
      have hv:=hr.2 fz e' s' xs hob
      obtain ⟨cells,p1,p2⟩:=(h.objs id _ hob).sl (Vn hT h1)
      rcases p1.2 with ⟨_,hz⟩ | ⟨g,cap,cur,p3,_⟩
      ·omega
      ·refine ⟨_,he,Good.pure h (hrun g 0 _ _ (hv.trans p3) hin.1 (by omega)) ⟨rfl,fun fz1 e1 t1 xs1 hl => ?_⟩⟩
       rw [hob] at hl
       simp only [Option.some.injEq,Ob.arr.injEq,true_and] at hl
       obtain ⟨_,_,rfl,hl⟩:=hl
       have:=eq_of_heq hl
       subst this
       exact ⟨rfl,hin.1,by omega,g,_,cap,p3,by rw [Nat.zero_add,Nat.add_zero]⟩
   ·cases he
  ·rename_i id ver lo m
   split at he
   ·rename_i v fz e' s' xs hob
    cases hv:(Nat.beq v ver && decide (s'=s)) with
    | false=>rw [hv] at he;cases he
    | true=>
      rw [hv] at he
      simp only [cond_true] at he
      rw [Bool.and_eq_true] at hv
      have:=beqN.1 hv.1
      subst this
      have:=of_decide_eq_true hv.2
      subst this
      obtain ⟨hw,hi⟩:=hr.2 fz e' s' xs hob
      obtain ⟨i1,i2,i3⟩:=Uj hi
      obtain ⟨u,hu2,he⟩:=ju he
      have hin:=JB hu2
      have hin:0≤i∧i < m:=by simpa only [Bool.and_eq_true,decide_eq_true_eq] using hin
      rcases hw with ⟨_,_,h0⟩ | ⟨b1,q1,c1,g,c',p3,p4,p5,p6,p7⟩
      ·omega
      ·have hg:=p5 (by omega)
       refine ⟨_,he,Good.pure h (hrun b1 g _ _ p4 hin.1 (by omega)) ⟨rfl,fun fz1 e1 t1 xs1 hl => ?_⟩⟩
       rw [hob] at hl
       simp only [Option.some.injEq,Ob.arr.injEq,true_and] at hl
       obtain ⟨_,_,rfl,hl⟩:=hl
       have:=eq_of_heq hl
       subst this
       refine ⟨rfl,by omega,by omega,b1,q1,c1,p3,?_⟩
       have:(lo+i).toNat=lo.toNat+i.toNat:=by omega
       rw [hg,this,Nat.add_mul,Nat.add_zero]
   ·cases he
  ·rename_i id ver
   split at he
   ·rename_i v fz e' te s' xs hole hob
    cases hv:(Nat.beq v ver && decide (s'=s)) with
    | false=>rw [hv] at he;cases he
    | true=>
      rw [hv] at he
      simp only [cond_true] at he
      rw [Bool.and_eq_true] at hv
      have:=beqN.1 hv.1
      subst this
      have:=of_decide_eq_true hv.2
      subst this
      obtain ⟨u,hu2,he⟩:=ju he
      have hin:=inR_some hu2
      have hv:=hr.2 fz e' te s' xs hole hob
      obtain ⟨hd,us,cells,p0,p1⟩:=Uo (h.objs id _ hob)
      rw [p0,JR] at hv
      rcases p1.2 with ⟨_,hz⟩ | ⟨g,cap,cur,p3,_⟩
      ·omega
      ·refine ⟨_,he,Good.pure h (hrun g 0 _ _ (hv.trans p3) hin.1 (by omega)) ⟨rfl,fun fz1 e1 te1 t1 xs1 h1 hl => ?_⟩⟩
       rw [hob] at hl
       cases hl
       exact ⟨hin.1,by omega,g,_,cap,by rw [p0,JR];exact p3,by rw [Nat.zero_add,Nat.add_zero]⟩
   ·cases he
  ·rename_i id ver i0 off
   split at he
   ·rename_i v e' te s' xs hob
    cases hv:(Nat.beq v ver && Nat.beq e te) with
    | false=>rw [hv] at he;cases he
    | true=>
      rw [hv] at he
      simp only [cond_true] at he
      rw [Bool.and_eq_true] at hv
      have:=beqN.1 hv.1
      subst this
      obtain ⟨x1,hy,he⟩:=ju he
      obtain ⟨q1,q2,q3⟩:=JQ hy
      split at he
      ·rename_i ys hys
       obtain ⟨_,hu2,he⟩:=ju he
       have hin:=inR_some hu2
       obtain ⟨_,_,hd,us,n1,n2⟩:=hr.2 false e' te s' xs hob
       obtain ⟨u,hd',us',es,k1,k2,k3,k4,k5,k6,_⟩:=rdDeep.peek (h.objs id _ hob) q1 q3 hys
       have hu:a.eval x=u:=by
        rw [n1] at k1
        have:hd::us=hd'::us':=by injection k1 with k1;exact (Array.mk.injEq ..).mp k1
        injection this with _ this
        rw [this,k2] at n2
        exact (Option.some.inj n2).symm
       rcases k4.2 with ⟨_,hz⟩ | ⟨g,cap,cur,p3,_⟩
       ·have hz:List.length (show List s.den from ys)=0:=hz
        omega
       ·have hlt:i.toNat < List.length (show List s.den from ys):=by have h1:=hin.1;have h2:=hin.2;exact (Int.toNat_lt h1).2 h2
        refine ⟨_,he,Good.pure h (hrun g 0 _ _ (hu.trans p3) hin.1 hlt) ⟨rfl,fun fz1 e1 te1 t1 xs1 hl => ?_⟩⟩
        rw [hob] at hl
        cases hl
        exact ⟨q1,q2,hd',us',g,_,cap,k1,by rw [k2,p3],by rw [Nat.zero_add,Nat.add_zero]⟩
      ·cases he
   ·cases he
  ·cases he
 ·
  rename_i nn s m1 e p j i0 h1 h2 h3
  obtain ⟨i,hi'⟩ : ∃ i:Int,i=i0:=⟨i0,rfl⟩
  subst hi'
  obtain ⟨s0,ti,z,g0,hu,g1,g2,_⟩:=(hT _ _ h1).kind
  cases g0
  have e2:=Yk h h3
  have hsz:(sizeOf e).run P w = .ok s.cells w:=by simp [sizeOf,typeInfo,g1,g2]
  have hrun : ∀ (bb off:Nat),a.eval x = .pointer (some ⟨bb,off,none⟩)→0≤i→i < (nn:Int) →
   (execOp a.eval o).run P w = .ok (.value (.pointer (some ⟨bb,off+i.toNat*s.cells,none⟩))) w:=by
   intro bb off hv hi hl
   simp [execOp,ho,hv,e2,Instr.indexAt,Instr.sureAddr,asIntOf,run_underlying hu,hi,hl,hsz,Addr.add_lit]
  have hr:=ev_rd h h2
  split at he
  ·rename_i id ver
   split at he
   ·rename_i v fz e' s' xs hob
    cases hv:(Nat.beq v ver && decide (s'=s)) with
    | false=>
      rw [hv] at he
      simp only [cond_false] at he
      cases hw:Nat.beq v ver with
      | false=>rw [hw] at he;cases he
      | true=>
        rw [hw] at he
        simp only [cond_true] at he
        have:=beqN.1 hw
        subst this
        obtain ⟨_,hb,he⟩:=ju he
        have hb:=JB hb
        simp only [Bool.and_eq_true,decide_eq_true_eq] at hb
        have hb1:0≤i:=hb.1
        have hb2:i < (nn:Int):=hb.2
        obtain ⟨u,hu2,he⟩:=ju he
        have hin:0 < xs.length:=by
         unfold inR at hu2
         cases hc:(decide ((0:Int)≤0) && decide ((0:Int) < (xs.length:Int))) with
         | false=>rw [hc] at hu2;cases hu2
         | true=>rw [Bool.and_eq_true] at hc;have:=of_decide_eq_true hc.2;omega
        obtain ⟨b,m,c,p1,p2⟩:=hr.2 fz e' s' xs hob
        refine ⟨_,he,Good.pure h (hrun b 0 p2 hb.1 hb.2) ⟨rfl,fun fz1 e1 t1 xs1 hl => ?_⟩⟩
        rw [hob] at hl
        cases hl
        exact ⟨rfl,Int.le_refl 0,hin,hb.1,by omega,b,m,c,p1,by simp⟩
    | true=>
      rw [hv] at he
      simp only [cond_true] at he
      rw [Bool.and_eq_true] at hv
      have:=beqN.1 hv.1
      subst this
      have:=of_decide_eq_true hv.2
      subst this
      obtain ⟨_,hb,he⟩:=ju he
      have hb:=JB hb
      simp only [Bool.and_eq_true,decide_eq_true_eq] at hb
      have hb1:0≤i:=hb.1
      have hb2:i < (nn:Int):=hb.2
      obtain ⟨u,hu2,he⟩:=ju he
      have hin:i < (xs.length:Int):=by
       unfold inR at hu2
       cases hc:(decide (0≤i) && decide (i < (xs.length:Int))) with
       | false=>rw [hc] at hu2;cases hu2
       | true=>rw [Bool.and_eq_true] at hc;exact of_decide_eq_true hc.2
      obtain ⟨b,m,c,p1,p2⟩:=hr.2 fz e' s' xs hob
      refine ⟨_,he,Good.pure h (hrun b 0 p2 hb.1 hb.2) ⟨rfl,fun fz1 e1 t1 xs1 hl => ?_⟩⟩
      rw [hob] at hl
      cases hl
      exact ⟨rfl,hb.1,by omega,b,m,c,p1,by rw [Nat.zero_add,Nat.add_zero]⟩
   ·cases he
  ·rename_i id ver i1 sz off
   split at he
   ·rename_i v fz e' s' xs hob
    cases hv:Nat.beq v ver with
    | false=>rw [hv] at he;cases he
    | true=>
      rw [hv] at he
      simp only [cond_true] at he
      have:=beqN.1 hv
      subst this
      obtain ⟨_,hb,he⟩:=ju he
      have hb:=JB hb
      simp only [Bool.and_eq_true,decide_eq_true_eq] at hb
      have hb1:0≤i:=hb.1
      have hb2:i < (nn:Int):=hb.2
      obtain ⟨q1,q2,q3,b,m,c,p1,p2⟩:=hr.2 fz e' s' xs hob
      refine ⟨_,he,Good.pure h (hrun b _ p2 hb.1 hb.2) ⟨rfl,fun fz1 e1 t1 xs1 hl => ?_⟩⟩
      rw [hob] at hl
      cases hl
      exact ⟨q1,q2,q3,hb.1,by omega,b,m,c,p1,by rw [Nat.add_zero]⟩
   ·cases he
  ·rename_i n' s' xs
   cases hv:(decide (s'=s) && Nat.beq n' nn) with
   | false=>rw [hv] at he;cases he
   | true=>
     rw [hv] at he
     simp only [cond_true] at he
     rw [Bool.and_eq_true] at hv
     have:=of_decide_eq_true hv.1
     subst this
     have:=beqN.1 hv.2
     subst this
     obtain ⟨y,hy,he⟩:=ju he
     obtain ⟨q1,q2,q3⟩:=JQ hy
     obtain ⟨b,off,cs,p1,p2,⟨p3,p4⟩,p5⟩:=hr
     obtain ⟨c1,c2,c3,r1,r2,r3,_⟩:=kI (fun _ _=>Ji s') p4 q3
     refine ⟨_,he,Good.pure h (hrun b off p1 q1 (by omega)) ⟨b,off+i.toNat*s'.cells,c2,rfl,p2,r3,fun j u hj => ?_⟩⟩
     rw [Nat.add_assoc,← r2]
     refine p5 _ u ?_
     rw [r1]
     exact YB hj
  ·cases he
 ·cases he
theorem kG {t:TypeId} {ti:TI} (hti:TiOk P t ti) {Z:Nat→Prop} {b q:Nat} {cs:List Value} {d:ti.ty.den} (hr:rdC w Z ti.ty cs d) (hns:ti.ty.isSt=false→ti.ty.cells=1)
 (hc : ∀ j u,cs[j]? = some u→w.cell? ⟨b,q+j,none⟩=some u) :
 ∃ v,(Instr.loadAt t (.pointer (some ⟨b,q,none⟩))).run P w = .ok v w∧rdV w Z ti.ty v d:=by
 have hag:=hti.agg w
 have hsz:=hti.sizeOf w
 have hlen:=Ji _ hr
 cases hst:ti.ty.isSt with
 | true=>
   rw [hst] at hag
   have hl:=run_loadCells_list (P:=P) (w:=w) ⟨b,q,none⟩ cs (fun j v hj=>by rw [Addr.add_lit];exact hc j v hj)
   rw [hlen] at hl
   refine ⟨.agg cs.toArray,by simp [Instr.loadAt,Instr.sureAddr,loadVar,hag,hsz,hl],?_⟩
   obtain ⟨ty,kind⟩:=ti
   cases ty <;> simp only [Ty.isSt,Bool.false_eq_true] at hst
   ·exact ⟨cs.toArray,rfl,hr⟩
   ·exact ⟨cs.toArray,rfl,hr⟩
 | false=>
   rw [hst] at hag
   have h1:=hns hst
   rw [h1] at hlen
   match cs,hlen with
   | [u],_=>
     have:=hc 0 u rfl
     rw [Nat.add_zero] at this
     refine ⟨u,by simp [Instr.loadAt,Instr.sureAddr,loadVar,hag,this],?_⟩
     obtain ⟨ty,kind⟩:=ti
     cases ty <;> first | exact hr | (simp [Ty.isSt] at hst;done)
theorem eff_load {t:TypeId} {x:Operand} (ho:o.op = .load t x):EffOk P G o:=by
 intro hT n w0 w Z0 st a nm dst ρ k r h he
 unfold effK at he
 rw [ho] at he
 simp only at he
 split at he
 ·rename_i ti p h1 h2
  have hti:=hT _ _ h1
  have hr:=ev_rd h h2
  have hx : ∀ v v':Value,a.eval x=v→(Instr.loadAt t v).run P w = .ok v' w→(execOp a.eval o).run P w = .ok (.value v') w:=by
   intro v v' q1 q2
   simp [execOp,ho,q1,q2]
  split at he
  ·
   rename_i id off
   split at he
   ·rename_i cs hob
    obtain ⟨b,e1,e2⟩:=hr.2 cs hob
    obtain ⟨b',vs,T,p1,p2,p3,p4⟩:=h.objs id _ hob
    rw [e1] at p1
    cases p1
    have hcell : ∀ j,w.cell? ⟨b,j,none⟩=vs[j]?:=fun j=>cell_of_row w b j vs T (0,0) p2
    have hag:=hti.agg w
    have hsz:=hti.sizeOf w
    cases hst:ti.ty.isSt with
    | true=>
      rw [hst] at he hag
      simp only [cond_true] at he
      cases hle:Nat.ble (off+ti.ty.cells) cs.length with
      | false=>rw [hle] at he;cases he
      | true=>
        rw [hle] at he
        have hle:=Nat.le_of_ble_eq_true hle
        simp only [cond_true] at he
        have hvl:vs.toList.length=cs.length:=p3.1
        have hl:=run_loadCells_list (P:=P) (w:=w) ⟨b,off,none⟩ ((vs.toList.drop off).take ti.ty.cells) (fun j v hj=>by
         rw [Addr.add_lit,hcell,← Array.getElem?_toList]
         rw [List.getElem?_take] at hj
         split at hj
         ·rw [List.getElem?_drop] at hj;exact hj
         ·cases hj)
        have hln:((vs.toList.drop off).take ti.ty.cells).length=ti.ty.cells:=by rw [List.length_take,List.length_drop];omega
        rw [hln] at hl
        refine ⟨_,he,Good.pure h (hx _ (.agg ((vs.toList.drop off).take ti.ty.cells).toArray) e2 (by simp [Instr.loadAt,Instr.sureAddr,loadVar,hag,hsz,hl])) ?_⟩
        refine ⟨_,rfl,⟨by simp [hvl],fun i a' v' q1 q2 => ?_⟩,fun u hu=>p4.1 u ?_⟩
        ·simp only [List.getElem?_take] at q1 q2
         split at q1
         ·rw [if_pos (by assumption)] at q2
          rw [List.getElem?_drop] at q1 q2
          exact p3.2 _ _ _ q1 q2
         ·cases q1
        ·exact List.mem_of_mem_drop (List.mem_of_mem_take (by simpa using hu))
    | false=>
      rw [hst] at he hag
      simp only [cond_false] at he
      split at he
      ·rename_i q hq
       have hvl:vs.toList.length=cs.length:=p3.1
       have hlt:off < vs.toList.length:=by rw [hvl];exact (List.getElem?_eq_some_iff.1 hq).1
       have hv:vs.toList[off]? = some vs.toList[off]:=List.getElem?_eq_getElem hlt
       refine ⟨_,he,Good.pure h (hx _ vs.toList[off] e2 ?_) (p3.2 off q _ hq hv)⟩
       have:=hcell off
       rw [← Array.getElem?_toList,hv] at this
       simp [Instr.loadAt,Instr.sureAddr,loadVar,hag,this]
      ·cases he
   ·cases he
  ·
   rename_i id ver i sz off
   split at he
   ·rename_i v fz e s xs hob
    cases hv:Nat.beq v ver with
    | false=>rw [hv] at he;cases he
    | true=>
      rw [hv] at he
      have:=beqN.1 hv
      subst this
      simp only [cond_true] at he
      obtain ⟨y,hy,he⟩:=ju he
      obtain ⟨q1,q2,q3⟩:=JQ hy
      split at he
      ·rename_i z hz
       obtain ⟨s1,s2,s3,b,m,c,s4,s5⟩:=hr.2 fz e s xs hob
       subst s1
       obtain ⟨_,cells,t1,t2⟩:=(h.objs id _ hob).of s4
       obtain ⟨c1,c2,c3,r1,r2,r3,_⟩:=kI (fun _ _=>Ji s) t2 q3
       obtain ⟨d1,d2,d3,u1,u2,u3⟩:=Vb hz r3
       rcases t1.2 with ⟨t3,_⟩ | ⟨g,cap,cur,t3,t4,t5,t6,t7,t8⟩
       ·rw [s4] at t3;cases t3
       ·rw [s4] at t3
        cases t3
        obtain ⟨v',l1,l2⟩:=kG (w:=w) hti u3 (kq hti) (b:=b) (q:=i.toNat*s.cells+off) (fun j u hj=>by
         rw [t4.cell,← Array.getElem?_toList]
         have hin:cells[i.toNat*s.cells+off+j]? = some u:=by
          rw [r1,← r2,← u2,Nat.add_assoc]
          refine YB ?_
          rw [u1]
          exact YB hj
         rw [← t8,List.getElem?_take] at hin
         split at hin
         ·exact hin
         ·cases hin)
        exact ⟨_,he,Good.pure h (hx _ v' s5 l1) l2⟩
      ·cases he
   ·cases he
  ·
   rename_i id ver i sz q n' e' j off
   split at he
   ·rename_i v fz e s xs hob
    cases hv:Nat.beq v ver with
    | false=>rw [hv] at he;cases he
    | true=>
      rw [hv] at he
      have:=beqN.1 hv
      subst this
      simp only [cond_true] at he
      obtain ⟨y,hy,he⟩:=ju he
      obtain ⟨q1,q2,q3⟩:=JQ hy
      split at he
      ·rename_i zs hzs
       obtain ⟨y',hy',he⟩:=ju he
       obtain ⟨w1,w2,w3⟩:=JQ hy'
       split at he
       ·rename_i z hz
        obtain ⟨s1,s2,s3,s6,s7,b,m,c,s4,s5⟩:=hr.2 fz e s xs hob
        subst s1
        obtain ⟨_,cells,t1,t2⟩:=(h.objs id _ hob).of s4
        obtain ⟨c1,c2,c3,r1,r2,r3,_⟩:=kI (fun _ _=>Ji s) t2 q3
        obtain ⟨d1,d2,d3,u1,u2,u3,u4⟩:=Vb hzs r3
        obtain ⟨f1,f2,f3,v1,v2,v3,_⟩:=kI (fun _ _=>Ji e') u4 w3
        obtain ⟨g1,g2,g3,x1,x2,x3⟩:=Vb hz v3
        rcases t1.2 with ⟨t3,_⟩ | ⟨g,cap,cur,t3,t4,t5,t6,t7,t8⟩
        ·rw [s4] at t3;cases t3
        ·rw [s4] at t3
         cases t3
         obtain ⟨v',l1,l2⟩:=kG (w:=w) hti x3 (kq hti) (b:=b) (q:=i.toNat*s.cells+q+j.toNat*e'.cells+off) (fun k u hk=>by
          rw [t4.cell,← Array.getElem?_toList]
          have hin:cells[i.toNat*s.cells+q+j.toNat*e'.cells+off+k]? = some u:=by
           rw [r1,← r2,← u2,← v2,← x2,Nat.add_assoc,Nat.add_assoc,Nat.add_assoc]
           refine YB ?_
           rw [u1]
           refine YB ?_
           rw [v1]
           refine YB ?_
           rw [x1]
           exact YB hk
          rw [← t8,List.getElem?_take] at hin
          split at hin
          ·exact hin
          ·cases hin)
         exact ⟨_,he,Good.pure h (hx _ v' s5 l1) l2⟩
       ·cases he
      ·cases he
   ·cases he
  ·
   rename_i id ver
   split at he
   ·rename_i v fz e s xs hob
    cases hv:Nat.beq v ver with
    | false=>rw [hv] at he;cases he
    | true=>
      rw [hv] at he
      have:=beqN.1 hv
      subst this
      simp only [cond_true] at he
      obtain ⟨b,m,c,s4,s5⟩:=hr.2 fz e s xs hob
      obtain ⟨_,cells,t1,t2⟩:=(h.objs id _ hob).of s4
      rcases t1.2 with ⟨t3,_⟩ | ⟨g,cap,cur,t3,t4,t5,t6,t7,t8⟩
      ·rw [s4] at t3;cases t3
      rw [s4] at t3
      cases t3
      have hcell : ∀ k u,cells[k]? = some u→w.cell? ⟨b,k,none⟩=some u:=by
       intro k u hk
       rw [t4.cell,← Array.getElem?_toList]
       rw [← t8,List.getElem?_take] at hk
       split at hk
       ·exact hk
       ·cases hk
      split at he
      ·rename_i n1 s' m1 e1
       split at he
       ·rename_i hs
        subst hs
        obtain ⟨_,hb,he⟩:=ju he
        have hb:=of_decide_eq_true (JB hb)
        obtain ⟨v',l1,l2⟩:=kG (w:=w) hti (cs:=cells) (d:=xs) ⟨hb,t2⟩ (kq hti) (b:=b) (q:=0) (fun k u hk=>by rw [Nat.zero_add];exact hcell k u hk)
        exact ⟨_,he,Good.pure h (hx _ v' s5 l1) l2⟩
       ·cases he
      ·rename_i ty kd _
       obtain ⟨y,hy,he⟩:=ju he
       obtain ⟨q1,q2,q3⟩:=JQ hy
       split at he
       ·rename_i z hz
        obtain ⟨c1,c2,c3,r1,r2,r3,_⟩:=kI (fun _ _=>Ji s) t2 q3
        obtain ⟨d1,d2,d3,u1,u2,u3⟩:=Vb hz r3
        obtain ⟨v',l1,l2⟩:=kG (w:=w) hti u3 (kq hti) (b:=b) (q:=0) (fun k u hk=>by
         refine hcell _ u ?_
         have h1:c1=[]:=List.eq_nil_of_length_eq_zero (by rw [r2];simp)
         have h2:d1=[]:=List.eq_nil_of_length_eq_zero u2
         rw [r1,u1,h1,h2,List.nil_append,List.nil_append,List.append_assoc,Nat.zero_add,List.getElem?_append_left (List.getElem?_eq_some_iff.1 hk).1]
         exact hk)
        exact ⟨_,he,Good.pure h (hx _ v' s5 l1) l2⟩
       ·cases he
   ·cases he
  ·
   rename_i s d
   split at he
   ·rename_i z hz
    obtain ⟨b,q,cs,s1,s2,s3,s4⟩:=hr
    obtain ⟨d1,d2,d3,u1,u2,u3⟩:=Vb hz s3
    obtain ⟨v',l1,l2⟩:=kG (w:=w) hti u3 (kq hti) (b:=b) (q:=q) (fun j u hj=>by
     refine s4 j u ?_
     have:=YB (c1:=d1) (c3:=d3) hj
     rw [← u1,u2,Nat.zero_add] at this
     exact this)
    exact ⟨_,he,Good.pure h (hx _ v' s1 l1) l2⟩
   ·cases he
  ·
   rename_i id ver i off
   split at he
   ·rename_i v e te s xs hole hob
    cases hv:Nat.beq v ver with
    | false=>rw [hv] at he;cases he
    | true=>
      rw [hv] at he
      have:=beqN.1 hv
      subst this
      simp only [cond_true] at he
      obtain ⟨i1,i2,b,m,c,s4,s5⟩:=hr.2 false e te s xs hole hob
      have hload:ti.ty.isSt=false → ∀ u,w.cell? ⟨b,i.toNat*s.cells+off,none⟩=some u→(execOp a.eval o).run P w = .ok (.value u) w:=fun hst u hu=>by
       have hag:=hti.agg w
       rw [hst] at hag
       exact hx _ u s5 (by simp [Instr.loadAt,Instr.sureAddr,loadVar,hag,hu])
      split at he
      ·
       rename_i s' e' by_
       cases hc:(Nat.beq e' te && !s'.isMap) with
       | false=>rw [hc] at he;cases he
       | true=>
         rw [hc] at he
         simp only [cond_true] at he
         cases hmt:memN (31000000+dst) G.muts with
         | false=>
           rw [hmt] at he
           simp only [cond_false] at he
           obtain ⟨y,hy,he⟩:=ju he
           obtain ⟨q1,q2,q3⟩:=JQ hy
           split at he
           ·rename_i ys hys
            obtain ⟨u,hd,us,es,k1,k2,k3,k4,k5,k6,_⟩:=rdDeep.peek (h.objs id _ hob) q1 q3 hys
            rw [k1,JR] at s4
            refine ⟨_,he,Good.pure h (hload rfl u (k6 b m c s4)) ⟨Va k4,fun fz1 e1 te1 t1 xs1 hl => ?_⟩⟩
            rw [hob] at hl
            cases hl
            exact ⟨q1,q2,hd,us,k1,k2⟩
           ·cases he
         | true=>
         rw [hmt] at he
         simp only [cond_true] at he
         obtain ⟨y,hy,he⟩:=ju he
         obtain ⟨q1,q2,q3⟩:=JQ hy
         split at he
         ·rename_i ys dv hys hdv
          obtain ⟨u,v',es,k0,k1,k2,k3,k4,k5,k6,k7,_⟩:=rdDeep.take (h.objs id _ hob) q1 q3 hys
          have hne:dst≠id:=fun hh=>by rw [hh] at hdv;unfold verOf at hdv;rw [hob] at hdv;cases hdv
          have hld:look st.objs dst=none ∨ ∃ v1 fz1 e1 t1 xs1,look st.objs dst=some (.arr v1 fz1 e1 t1 xs1)∧dv=v1+1:=by
           unfold verOf at hdv
           split at hdv
           ·rename_i hh;exact .inl hh
           ·rename_i hh;cases hdv;exact .inr ⟨_,_,_,_,_,hh,rfl⟩
           ·cases hdv
          have hn1:setN (setN nm id v') dst u dst=u:=jW _ _ _
          have hn2:setN (setN nm id v') dst u id=v':=by rw [ka _ _ (Ne.symm hne),jW]
          refine ⟨_,he,fun st' hl=>Does.of_run (hload rfl u (k1.cell (k2.trans s4))) ⟨setN (setN nm id v') dst u,?_,k0,fun _ _ _ _ _=>hn1.symm⟩⟩
          refine h.updM _ hl (by simp [kj,Jb.2 (Ne.symm hne)]) (fun j hj => ?_) ?_ ⟨rfl,rfl,rfl,Nat.le_refl _⟩ (fun b hb => .inr rfl) ?_ ?_ (fun hk => ?_)
          ·rw [ka _ _ (Ne.symm (hj _ (List.mem_cons_self ..))),ka _ _ (Ne.symm (hj _ (List.mem_cons_of_mem _ (List.mem_cons_self ..))))]
          ·simp only [List.forall_mem_cons,List.not_mem_nil,false_imp_iff,implies_true,and_true]
           refine ⟨?_,?_⟩
           ·rcases hld with hh | ⟨v1,fz1,e1,t1,xs1,hh,h2⟩
            ·rw [hh];trivial
            ·rw [hh];exact fun h3=>by omega
           ·rw [hob,hn2];exact fun _=>⟨k2,rfl,rfl,rfl,rfl,fun _ hh=>by cases hh⟩
          ·simp only [List.forall_mem_cons,List.not_mem_nil,false_imp_iff,implies_true,and_true,hn1,hn2]
           exact ⟨fun b hb => .inl ⟨_,List.mem_cons_of_mem _ (List.mem_cons_self ..),_,hob,.inl rfl,(k7 b ((Yh k4).1 hb)).1⟩,fun b hb => .inl ⟨_,List.mem_cons_of_mem _ (List.mem_cons_self ..),_,hob,.inl rfl,k6 b hb⟩⟩
          ·simp only [List.forall_mem_cons,List.not_mem_nil,false_imp_iff,implies_true,and_true,hn1,hn2,true_and]
           exact ⟨fun b h1 h2=>absurd h2 (k7 b ((Yh k4).1 h1)).2,fun b h1 h2=>absurd h1 (k7 b ((Yh k4).1 h2)).2⟩
          ·simp only [List.forall_mem_cons,List.not_mem_nil,false_imp_iff,implies_true,and_true]
           refine ⟨?_,u,k0,⟨k0,fun _ _ _ _ _=>hn1.symm⟩,?_⟩
           ·show rdArr w _ _ te s' ys
            rw [hn1]
            exact .inl ⟨k3,es,k4,JK (fun _ _=>JD hk.weak s') k5⟩
           ·rw [hn2]
            exact rdHole_mono hk.weak (fun _ _=>rfl) k1
         ·cases he
      ·
       rename_i ty kd h3
       cases hf:ty.free with
       | false=>rw [hf] at he;cases he
       | true=>
         rw [hf] at he
         simp only [cond_true] at he
         obtain ⟨y,hy,he⟩:=ju he
         obtain ⟨q1,q2,q3⟩:=JQ hy
         split at he
         ·rename_i z hz
          obtain ⟨hd,us,cells,p0,t1,t2,_⟩:=h.objs id _ hob
          obtain ⟨c1,c2,c3,u1,u2,u3,r1,_,r2,_,r3,_⟩:=rdIs_at t2 q3
          obtain ⟨d1,d2,d3,g1,g2,g3⟩:=rdI_sub hf hz r3
          rw [p0,JR] at s4
          obtain ⟨v',l1,l2⟩:=kG (w:=w) hti g3 (kq hti) (b:=b) (q:=i.toNat*s.cells+off) (fun j u hj=>own_cell t1 s4 (by
           rw [r1,← r2,← g2,Nat.add_assoc]
           refine YB ?_
           rw [g1]
           exact YB hj))
          exact ⟨_,he,Good.pure h (hx _ v' s5 l1) l2⟩
         ·cases he
      ·cases he
   ·cases he
  ·
   rename_i id ver i off s' j o1
   split at he
   ·rename_i v e te s xs hob
    cases hv:Nat.beq v ver with
    | false=>rw [hv] at he;cases he
    | true=>
      rw [hv] at he
      have:=beqN.1 hv
      subst this
      simp only [cond_true] at he
      obtain ⟨y,hy,he⟩:=ju he
      obtain ⟨q1,q2,q3⟩:=JQ hy
      split at he
      ·rename_i ys hys
       obtain ⟨y1,hy1,he⟩:=ju he
       obtain ⟨p1,p2,p3⟩:=JQ hy1
       split at he
       ·rename_i z hz
        obtain ⟨_,_,hd,us,b,m,c,n1,n2,n3⟩:=hr.2 false e te s xs hob
        obtain ⟨u,hd',us',es,k1,k2,k3,k4,k5,_⟩:=rdDeep.peek (h.objs id _ hob) q1 q3 hys
        have hu:u = .slice (some ⟨b,0,none⟩) m c:=by
         rw [n1] at k1
         have:hd::us=hd'::us':=by injection k1 with k1;exact (Array.mk.injEq ..).mp k1
         injection this with _ this
         rw [this,k2] at n2
         exact Option.some.inj n2
        obtain ⟨c1,c2,c3,r1,r2,r3,_⟩:=kI (fun _ _=>Ji s') k5 p3
        obtain ⟨d1,d2,d3,g1,g2,g3⟩:=Vb hz r3
        obtain ⟨v',l1,l2⟩:=kG (w:=w) hti g3 (kq hti) (b:=b) (q:=j.toNat*s'.cells+o1) (fun jj u hj=>own_cell k4 hu (by
         rw [r1,← r2,← g2,Nat.add_assoc]
         refine YB ?_
         rw [g1]
         exact YB hj))
        exact ⟨_,he,Good.pure h (hx _ v' n3 l1) l2⟩
       ·cases he
      ·cases he
   ·cases he
  ·cases he
 ·cases he
end
end Go.Ql
end

section
set_option linter.unusedSectionVars false
namespace Go.Ql
section
variable [GInv] {P:Program} {G:Env} {n:Nat} {w0 w:World} {Z0:Bs} {st:St} {a:Act} {nm:Names} {o:Oper} {dst:Nat} {ρ:Type} {k:Eff→Option ρ} {r:ρ}
theorem kF {st st':St} {id:Nat} {ob:Ob} (h:Jh st [(id,ob)]=some st'):mayOb st id ob=true∧st'=⟨st.slots,ins id ob st.objs⟩:=by
 simp only [Jh] at h
 cases hm:mayOb st id ob with
 | false=>rw [hm] at h;cases h
 | true=>rw [hm] at h;simp only [cond_true,Option.some.injEq] at h;exact ⟨rfl,h.symm⟩
theorem Yr {k:IntKind} {i:Int} {y:Nat} {code:BoundsCode} (h0:0≤i) (h1:i≤(y:Int)):(Instr.sliceBound (.int k i) y code).run P w = .ok i.toNat w:=by
 simp [Instr.sliceBound,asIntOf,h0,h1]
theorem JT (h:Rel n w0 Z0 st a w nm) {x:Option Operand} {d:Int} {kk:Int→Option ρ} (he:optK (evSt st) x d kk=some r) :
 ∃ l,kk l=some r∧((x=none∧l=d) ∨ ∃ y j,x=some y∧a.eval y = .int j l):=by
 unfold optK at he
 split at he
 ·exact ⟨d,he,.inl ⟨rfl,rfl⟩⟩
 ·rename_i y
  split at he
  ·rename_i j l hl
   exact ⟨l,he,.inr ⟨y,j,rfl,Yk h hl⟩⟩
  ·cases he
theorem kY {isSl:Bool} {len cap:Nat} (hlc:len≤cap) {lo hi:Option Operand} {l q:Int}
 (h1:(lo=none∧l=0) ∨ ∃ y j,lo=some y∧a.eval y = .int j l) (h2:(hi=none∧q=(len:Int)) ∨ ∃ y j,hi=some y∧a.eval y = .int j q)
 (b1:0≤l) (b2:l≤q) (b3:q≤(len:Int)):(Instr.sliceBounds isSl len cap (lo.map a.eval) (hi.map a.eval) none).run P w = .ok (l.toNat,q.toNat,cap) w:=by
 have hq:q≤(cap:Int):=by omega
 have hl:l≤(q.toNat:Int):=by omega
 have g1 : ∀ j code,(Instr.sliceBound (.int j q) cap code).run P w = .ok q.toNat w:=fun j code=>Yr (by omega) hq
 have g2 : ∀ j code,(Instr.sliceBound (.int j l) q.toNat code).run P w = .ok l.toNat w:=fun j code=>Yr b1 hl
 rcases h1 with ⟨rfl,rfl⟩ | ⟨y,j,rfl,e1⟩ <;> rcases h2 with ⟨rfl,rfl⟩ | ⟨y',j',rfl,e2⟩
 ·simp [Instr.sliceBounds]
 ·simp [Instr.sliceBounds,e2,g1]
 ·have g3 : ∀ code,(Instr.sliceBound (.int j l) len code).run P w = .ok l.toNat w:=fun code=>Yr b1 (by omega)
  simp [Instr.sliceBounds,e1,g3]
 ·simp [Instr.sliceBounds,e1,e2,g1,g2]
theorem run_bounds3 {len cap:Nat} (hlc:len≤cap) {lo:Option Operand} {y1 y2:Operand} {j1 j2:IntKind} {l q m:Int}
 (h1:(lo=none∧l=0) ∨ ∃ y j,lo=some y∧a.eval y = .int j l) (h2:a.eval y1 = .int j1 q) (h3:a.eval y2 = .int j2 m)
 (b1:0≤l) (b2:l≤q) (b3:q≤m) (b4:m≤(len:Int)):(Instr.sliceBounds true len cap (lo.map a.eval) (some (a.eval y1)) (some (a.eval y2))).run P w = .ok (l.toNat,q.toNat,m.toNat) w:=by
 have g1 : ∀ code,(Instr.sliceBound (.int j2 m) cap code).run P w = .ok m.toNat w:=fun code=>Yr (by omega) (by omega)
 have g2 : ∀ code,(Instr.sliceBound (.int j1 q) m.toNat code).run P w = .ok q.toNat w:=fun code=>Yr (by omega) (by omega)
 have g3 : ∀ j code,(Instr.sliceBound (.int j l) q.toNat code).run P w = .ok l.toNat w:=fun j code=>Yr b1 (by omega)
 rcases h1 with ⟨rfl,rfl⟩ | ⟨y,j,rfl,e1⟩
 ·simp [Instr.sliceBounds,h2,h3,g1,g2]
 ·simp [Instr.sliceBounds,e1,h2,h3,g1,g2,g3]
theorem rdV_part {Z:Nat→Prop} {s:Ty} {v:Value} {xs:List s.den} (hv:rdV w Z (.sl s) v xs) {l q m:Nat} (h1:l≤q) (h2:q≤xs.length) (h3:q≤m) :
 ∀ b off cap,v = .slice (some ⟨b,off,none⟩) xs.length cap→m≤cap →
  rdV w Z (.sl s) (.slice (if m=l then some ⟨b,off,none⟩ else some ⟨b,off+l*s.cells,none⟩) (q - l) (m - l)) ((xs.take q).drop l):=by
 intro b off cap e hm
 obtain ⟨u,hu,hr⟩:=hv
 simp only [List.cons.injEq,and_true] at hu
 subst hu
 have hlen:((xs.take q).drop l).length=q - l:=by rw [List.length_drop,List.length_take];omega
 rcases hr with ⟨p1,p2⟩ | ⟨b',off',cap',cells,p1,p2,p3,p4,p5,p6⟩ | ⟨ad,cap',p1,p2,p3⟩
 ·rw [p1] at e;cases e
 rotate_left
 ·rw [p1] at e
  have hm0:q=0:=by rw [p2] at h2;simpa using h2
  have hl0:l=0:=by omega
  have hc:cap=cap':=by injection e with _ _ e;exact e.symm
  subst p2
  refine ⟨_,rfl,.inr (.inr ⟨if m=l then ⟨b,off,none⟩ else ⟨b,off+l*s.cells,none⟩,m - l,?_,by simp,by omega⟩)⟩
  rw [hm0,hl0]
  split <;> rfl
 ·rw [p1] at e
  cases e
  have hsplit:xs=(xs.take q).take l++((xs.take q).drop l++xs.drop q):=by rw [← List.append_assoc,List.take_append_drop,List.take_append_drop]
  rw [hsplit] at p5
  obtain ⟨c1,c2,e1,r1,r2⟩:=JN.1 p5
  obtain ⟨c3,c4,e2,r3,r4⟩:=JN.1 r2
  have l1:c1.length=l*s.cells:=by
   rw [Yc (fun _ _=>Ji s) r1,List.length_take,List.length_take]
   congr 1;omega
  by_cases hml:m=l
  ·
   refine ⟨_,rfl,.inr (.inl ⟨b,off,m - l,[],by rw [if_pos hml,hlen],by rw [hlen];omega,by omega,p4,?_,by simp⟩)⟩
   have:(xs.take q).drop l=[]:=List.eq_nil_of_length_eq_zero (by rw [hlen];omega)
   rw [this];rfl
  ·refine ⟨_,rfl,.inr (.inl ⟨b,off+l*s.cells,m - l,c3,by rw [if_neg hml,hlen],by rw [hlen];omega,by omega,p4,r3,fun j u hj => ?_⟩)⟩
   rw [Nat.add_assoc,← l1]
   refine p6 _ u ?_
   rw [e1,e2,← List.append_assoc]
   exact YB hj
theorem extract_mk (s:List UInt8) (l h:Nat):(⟨s.toArray⟩:ByteArray).extract l h=⟨((s.take h).drop l).toArray⟩:=by
 apply ByteArray.ext
 rw [ByteArray.data_extract]
 apply Array.ext'
 simp [List.drop_take]
theorem eff_slice {t:TypeId} {x:Operand} {lo hi mx:Option Operand} (ho:o.op = .slice t x lo hi mx):EffOk P G o:=by
 intro hT n w0 w Z0 st a nm dst ρ k r h he
 unfold effK at he
 rw [ho] at he
 simp only at he
 have hx : ∀ v v':Value,∀ w',a.eval x=v→(Instr.sliceAt t v (lo.map a.eval) (hi.map a.eval) (mx.map a.eval)).run P w = .ok v' w'→(execOp a.eval o).run P w = .ok (.value v') w':=by
  intro v v' w' q1 q2
  simp [execOp,ho,q1,q2]
 split at he
 ·
  rename_i k1 s h1 h2
  have hu:=VF hT h1 rfl
  split at he
  ·obtain ⟨l,he,hlo⟩:=JT h he
   obtain ⟨q,he,hhi⟩:=JT h he
   obtain ⟨_,hb,he⟩:=ju he
   have hb:=JB hb
   simp only [Bool.and_eq_true,decide_eq_true_eq] at hb
   refine ⟨_,he,Good.pure h (hx _ (.string ⟨((s.take q.toNat).drop l.toNat).toArray⟩) w (Uh h h2) ?_) (rd_vS ..)⟩
   have hsz:(⟨s.toArray⟩:ByteArray).size=s.length:=VE s
   have hb2:=kY (P:=P) (w:=w) (isSl:=false) (Nat.le_refl s.length) hlo hhi hb.1.1 hb.1.2 hb.2
   simp [Instr.sliceAt,Instr.slice,run_underlying hu,hsz,hb2,extract_mk]
  ·cases he
 ·
  rename_i s' e b s xs h1 h2
  obtain ⟨hu,ti,z,g1,g2,_⟩:=kM hT h1
  by_cases hs:s=s'
  ·subst hs
   simp only [decide_true,cond_true] at he
   have hsz:(sizeOf e).run P w = .ok s.cells w:=by simp [sizeOf,typeInfo,g1,g2]
   have hr:=ev_rd h h2
   have fin : ∀ (l q:Nat) (m:Option Nat),l≤q→q≤xs.length→(∀ m',m=some m'→q≤m'∧m'≤xs.length) →
    (∀ base len cap,a.eval x = .slice base len cap→len≤cap→len=xs.length→(Instr.sliceBounds true len cap (lo.map a.eval) (hi.map a.eval) (mx.map a.eval)).run P w = .ok (l,q,m.getD cap) w) →
    Good P n w0 Z0 st a w o ⟨.one (.val (.sl s) ((xs.take q).drop l)),[]⟩:=by
    intro l q m b1 b2 b3 hbd
    rcases rdS_val hr with ⟨e1,rfl⟩ | ⟨bb,off,cap,cells,e1,e2,e3,_⟩ | ⟨ad,cap,e1,rfl,e3⟩
    ·have hq:q=0:=by simpa using b2
     subst hq
     have hl:l=0:=by omega
     subst hl
     have hm:m.getD 0=0:=by
      cases m with
      | none=>rfl
      | some m'=>have:=b3 m' rfl;simp at this;simp [this]
     have hb:=hbd none 0 0 e1 (Nat.le_refl _) rfl
     rw [hm] at hb
     exact Good.pure h (hx _ (.slice none 0 0) w e1 (by simp [Instr.sliceAt,Instr.slice,run_underlying hu,hb,hsz])) ⟨_,rfl,.inl ⟨rfl,by simp⟩⟩
    ·have hb:=hbd _ _ _ e1 e2 rfl
     have hmc:q≤m.getD cap∧m.getD cap≤cap:=by
      cases m with
      | none=>exact ⟨by simp;omega,by simp⟩
      | some m'=>have:=b3 m' rfl;exact ⟨this.1,by simp;omega⟩
     refine Good.pure h (hx _ (.slice (if m.getD cap=l then some ⟨bb,off,none⟩ else some ⟨bb,off+l*s.cells,none⟩) (q - l) (m.getD cap - l)) w e1 ?_) (rdV_part hr b1 b2 hmc.1 bb off cap e1 hmc.2)
     simp only [Instr.sliceAt,Instr.slice,Sem.run_bind,run_underlying hu,Result.andThen_ok,hb,hsz,Sem.run_pure,Option.map_some,Addr.add_lit]
    ·have hq:q=0:=by simpa using b2
     subst hq
     have hl:l=0:=by omega
     subst hl
     have hb:=hbd (some ad) 0 cap e1 (Nat.zero_le _) rfl
     have hmc:m.getD cap≤cap:=by
      cases m with
      | none=>simp
      | some m'=>have:=b3 m' rfl;simp at this;simp [this]
     refine Good.pure h (hx _ (.slice (if m.getD cap=0 then some ad else some (ad.add (0*s.cells))) (0 - 0) (m.getD cap - 0)) w e1 ?_) ?_
     ·simp only [Instr.sliceAt,Instr.slice,Sem.run_bind,run_underlying hu,Result.andThen_ok,hb,hsz,Sem.run_pure,Option.map_some]
     ·refine ⟨_,rfl,.inr (.inr ⟨if m.getD cap=0 then ad else ad.add (0*s.cells),m.getD cap - 0,?_,by simp,by omega⟩)⟩
      split <;> rfl
   split at he
   ·obtain ⟨l,he,hlo⟩:=JT h he
    obtain ⟨q,he,hhi⟩:=JT h he
    obtain ⟨_,hb,he⟩:=ju he
    have hb:=JB hb
    simp only [Bool.and_eq_true,decide_eq_true_eq] at hb
    refine ⟨_,he,fin l.toNat q.toNat none (by omega) (by omega) (by simp) (fun base len cap _ hlc hl => ?_)⟩
    subst hl
    exact kY hlc hlo hhi hb.1.1 hb.1.2 hb.2
   ·rename_i y
    split at he
    ·rename_i y1
     cases hfl:memN (8700000+dst) G.muts with
     | true=>
       rw [hfl] at he
       simp only [cond_true] at he
       obtain ⟨m,he,hmm⟩:=JT h he
       obtain ⟨l,he,hlo⟩:=JT h he
       obtain ⟨q,he,hhi⟩:=JT h he
       obtain ⟨_,hb,he5⟩:=ju he
       have hb:=JB hb
       simp only [Bool.and_eq_true,decide_eq_true_eq] at hb
       obtain ⟨⟨⟨b1,b2⟩,b3⟩,b4⟩:=hb
       subst b3
       rcases hhi with ⟨hn,_⟩ | ⟨y2,j2,hy,e2⟩
       ·cases hn
       ·cases hy
        rcases hmm with ⟨hn,_⟩ | ⟨y3,j3,hy,e3⟩
        ·cases hn
        ·cases hy
         have hbd : ∀ base len cap,a.eval x = .slice base len cap→len≤cap→len=xs.length→(Instr.sliceBounds true len cap (lo.map a.eval) (some (a.eval y1)) (some (a.eval y))).run P w = .ok (l.toNat,q.toNat,q.toNat) w:=fun base len cap _ hlc hl=>by
          subst hl
          exact run_bounds3 hlc hlo e2 e3 b1 b2 (Int.le_refl _) b4
         refine ⟨_,he5,?_⟩
         rcases rdS_val hr with ⟨e1,rfl⟩ | ⟨bb,off,cap,cells,e1,f2,f3,_⟩ | ⟨ad,cap,e1,rfl,f3⟩
         ·have hq:q.toNat=0:=by simp at b4;omega
          have hl:l.toNat=0:=by omega
          have hb:=hbd none 0 0 e1 (Nat.le_refl _) rfl
          rw [hq,hl] at hb
          refine Good.pure h (hx _ (.slice none 0 0) w e1 (by simp [Instr.sliceAt,Instr.slice,run_underlying hu,hb,hsz])) ⟨⟨_,rfl,.inl ⟨rfl,?_⟩⟩,none,0,rfl⟩
          simp
         ·have hb:=hbd _ _ _ e1 f2 rfl
          have hpart:=rdV_part hr (show l.toNat≤q.toNat by omega) (show q.toNat≤xs.length by omega) (Nat.le_refl _) bb off cap e1 (show q.toNat≤cap by omega)
          refine Good.pure h (hx _ (.slice (if q.toNat=l.toNat then some ⟨bb,off,none⟩ else some ⟨bb,off+l.toNat*s.cells,none⟩) (q.toNat - l.toNat) (q.toNat - l.toNat)) w e1 ?_) ⟨hpart,_,_,rfl⟩
          simp only [Instr.sliceAt,Instr.slice,Sem.run_bind,run_underlying hu,Result.andThen_ok,hb,hsz,Sem.run_pure,Option.map_some,Addr.add_lit]
         ·have hq:q.toNat=0:=by simp at b4;omega
          have hl:l.toNat=0:=by omega
          have hb:=hbd (some ad) 0 cap e1 (Nat.zero_le _) rfl
          rw [hq,hl] at hb
          refine Good.pure h (hx _ (.slice (some ad) 0 0) w e1 ?_) ⟨⟨_,rfl,.inr (.inr ⟨ad,0,rfl,?_,Nat.zero_le _⟩)⟩,some ad,0,rfl⟩
          ·simp [Instr.sliceAt,Instr.slice,run_underlying hu,hb,hsz]
          ·simp
     | false=>
     rw [hfl] at he
     simp only [cond_false] at he
     obtain ⟨m,he,hmm⟩:=JT h he
     obtain ⟨l,he,hlo⟩:=JT h he
     obtain ⟨q,he,hhi⟩:=JT h he
     obtain ⟨_,hb,he⟩:=ju he
     have hb:=JB hb
     simp only [Bool.and_eq_true,decide_eq_true_eq] at hb
     rcases hhi with ⟨hn,_⟩ | ⟨y2,j2,hy,e2⟩
     ·cases hn
     ·cases hy
      rcases hmm with ⟨hn,_⟩ | ⟨y3,j3,hy,e3⟩
      ·cases hn
      ·cases hy
       refine ⟨_,he,fin l.toNat q.toNat (some m.toNat) (by omega) (by omega) (by intro m' hm';cases hm';omega) (fun base len cap _ hlc hl => ?_)⟩
       subst hl
       exact run_bounds3 hlc hlo e2 e3 hb.1.1.1 hb.1.1.2 hb.1.2 hb.2
    ·cases he
  ·simp [hs] at he
 ·
  rename_i s' e b id ver h1 h2
  obtain ⟨hu,ti,z,g1,g2,_⟩:=kM hT h1
  split at he
  ·rename_i v e' s xs hob
   cases hv:(Nat.beq v ver && decide (s=s')) with
   | false=>rw [hv] at he;cases he
   | true=>
     rw [hv] at he
     simp only [cond_true] at he
     rw [Bool.and_eq_true] at hv
     have:=beqN.1 hv.1
     subst this
     have:=of_decide_eq_true hv.2
     subst this
     obtain ⟨q,he,hhi⟩:=JT h he
     obtain ⟨_,hb,he⟩:=ju he
     have hb:=JB hb
     simp only [Bool.and_eq_true,decide_eq_true_eq] at hb
     refine ⟨_,he,?_⟩
     have hsz:(sizeOf e).run P w = .ok s.cells w:=by simp [sizeOf,typeInfo,g1,g2]
     have hv1:=(ev_rd h h2).2 false e' s xs hob
     have hnm:=Vn hT h1
     obtain ⟨cells,p1,p2⟩:=(h.objs id _ hob).sl hnm
     have hq:q.toNat≤xs.length:=by omega
     have htl:(xs.take q.toNat).length=q.toNat:=by rw [List.length_take];omega
     intro st' hl
     obtain ⟨hmay,rfl⟩:=kF hl
     ·rcases p1.2 with ⟨e1,e2⟩ | ⟨g,cap,cur,e1,e3,e4,e5,e6,e7⟩
      ·have hx0:xs=[]:=List.eq_nil_of_length_eq_zero e2
       subst hx0
       have hq0:q.toNat=0:=by simpa using hq
       have hb2:=kY (P:=P) (w:=w) (isSl:=true) (a:=a) (lo:=none) (l:=0) (Nat.le_refl 0) (.inl ⟨rfl,rfl⟩) hhi (by omega) (by omega) hb.2
       rw [hq0] at hb2
       refine Does.of_run (hx _ (.slice none 0 0) w (hv1.trans e1) (by simp at hb2;simp [Instr.sliceAt,Instr.slice,run_underlying hu,hb2,hsz])) ⟨setN nm id (.slice none 0 0),?_,?_⟩
       ·refine h.upd id _ _ hmay (by rw [hob];simp only [Stays];omega) ⟨rfl,rfl,rfl,Nat.le_refl _⟩ (fun _ _ => .inr rfl) (fun b hb=>by cases hb) ?_
        exact .inl ⟨hnm,[],by rw [jW];exact ⟨by simp,.inl ⟨rfl,by simp⟩⟩,by simp;rfl⟩
       ·exact ⟨rfl,fun fz e t xs hl=>by rw [jW]⟩
      ·have hb2:=kY (P:=P) (w:=w) (isSl:=true) (a:=a) (lo:=none) (l:=0) e4 (.inl ⟨rfl,rfl⟩) hhi (by omega) (by omega) hb.2
       have hnew:(Instr.sliceAt t (.slice (some ⟨g,0,none⟩) xs.length cap) (Option.map a.eval none) (hi.map a.eval) (Option.map a.eval none)).run P w = .ok (.slice (some ⟨g,0,none⟩) q.toNat cap) w:=by
        simp only [Option.map_none] at hb2
        simp only [Instr.sliceAt,Instr.slice,Sem.run_bind,run_underlying hu,Result.andThen_ok,Option.map_none,hb2,hsz,Sem.run_pure,Option.map_some,Addr.add_lit]
        simp
       refine Does.of_run (hx _ _ w (hv1.trans e1) hnew) ⟨setN nm id (.slice (some ⟨g,0,none⟩) q.toNat cap),?_,?_⟩
       ·have hblk:hasB (nm id) g:=by rw [e1];exact rfl
        refine h.upd id _ _ hmay (by rw [hob];simp only [Stays];omega) ⟨rfl,rfl,rfl,Nat.le_refl _⟩ (fun _ _ => .inr rfl) (fun b hb => ?_) ?_
        ·have hb:blk _=some _:=hb
         simp only [blk,Option.some.injEq] at hb
         subst hb
         exact .inl ⟨hblk,_,hob,.inl rfl⟩
        ·have hsplit:xs=xs.take q.toNat++xs.drop q.toNat:=(List.take_append_drop _ _).symm
         have p2':=p2
         rw [hsplit] at p2'
         obtain ⟨c1,c2,r1,r2,r3⟩:=JN.1 p2'
         have l1:c1.length=q.toNat*s.cells:=by rw [Yc (fun _ _=>Ji s) r2,htl]
         have hk:Kept w w (Zc w0 Z0 nm st.objs w) (Zc w0 Z0 (setN nm id (.slice (some ⟨g,0,none⟩) q.toNat cap)) (ins id (.arr (v+1) false e' s (xs.take q.toNat)) st.objs) w):=by
          rintro b ⟨z1,z2,z3⟩
          refine ⟨⟨z1,z2,?_⟩,rfl⟩
          rintro ⟨j,ob,y1,y2,y3⟩
          by_cases hj:id=j
          ·subst hj
           rw [jW] at y3
           exact z3 ⟨id,_,hob,rfl,by have y3:blk _=some _:=y3;simp only [blk,Option.some.injEq] at y3;exact y3 ▸ hblk⟩
          ·rw [Jl,if_neg hj] at y1
           rw [ka _ _ (Ne.symm hj)] at y3
           exact z3 ⟨j,ob,y1,y2,y3⟩
         refine .inl ⟨hnm,c1,?_,JK (fun _ _=>JD hk s) r2⟩
         rw [jW,htl]
         refine ⟨l1,.inr ⟨g,cap,cur,rfl,e3,by omega,e5,e6,?_⟩⟩
         have:cur.toList.take (q.toNat*s.cells)=(cur.toList.take (xs.length*s.cells)).take (q.toNat*s.cells):=by
          rw [List.take_take]
          congr 1
          exact (Nat.min_eq_left (Nat.mul_le_mul_right _ hq)).symm
         rw [this,e7,r1,← l1,List.take_left]
       ·exact ⟨rfl,fun fz e t xs hl=>by rw [jW]⟩
  ·
   rename_i v fz e' s xs y hob
   cases hv:(Nat.beq v ver && decide (s=s')) with
   | false=>rw [hv] at he;cases he
   | true=>
     rw [hv] at he
     simp only [cond_true] at he
     rw [Bool.and_eq_true] at hv
     have:=beqN.1 hv.1
     subst this
     have:=of_decide_eq_true hv.2
     subst this
     obtain ⟨l,he,hlo⟩:=JT h he
     obtain ⟨q,he,hhi⟩:=JT h he
     obtain ⟨_,hb,he⟩:=ju he
     have hb:=JB hb
     simp only [Bool.and_eq_true,decide_eq_true_eq] at hb
     have hsz:(sizeOf e).run P w = .ok s.cells w:=by simp [sizeOf,typeInfo,g1,g2]
     have hv1:=(ev_rd h h2).2 fz e' s xs hob
     obtain ⟨cells,p1,p2⟩:=(h.objs id _ hob).sl (Vn hT h1)
     have hwin:inWin l (q - l) xs.length=true:=by
      unfold inWin
      simp only [Bool.and_eq_true,decide_eq_true_eq,Nat.ble_eq]
      omega
     have key : ∀ u,winOf (nm id) s.cells l (q - l) u→u.oneCell'=true→rdD w (Zc w0 Z0 nm st.objs w) nm st.objs (.one (.win id v l (q - l))) u:=by
      intro u hu h1
      refine ⟨h1,fun fz1 e1 t1 xs1 hl => ?_⟩
      rw [hob] at hl
      cases hl
      exact ⟨hu,hwin⟩
     rcases p1.2 with ⟨e1,e2⟩ | ⟨g,cap,cur,e1,e3,e4,e5,e6,e7⟩
     ·rw [e2] at hb
      have hb2:=kY (P:=P) (w:=w) (isSl:=true) (a:=a) (Nat.le_refl 0) hlo (by rw [e2] at hhi;exact hhi) hb.1.1 hb.1.2 hb.2
      have hq:q.toNat=0:=by omega
      have hl0:l.toNat=0:=by omega
      rw [hq,hl0] at hb2
      simp only [Option.map_some] at hb2
      exact ⟨_,he,Good.pure h (hx _ (.slice none 0 0) w (hv1.trans e1) (by simp [Instr.sliceAt,Instr.slice,run_underlying hu,hb2,hsz])) (key _ (.inl ⟨e1,rfl,by omega⟩) rfl)⟩
     ·have hb2:=kY (P:=P) (w:=w) (isSl:=true) (a:=a) e4 hlo hhi hb.1.1 hb.1.2 hb.2
      simp only [Option.map_some] at hb2
      refine ⟨_,he,Good.pure h (hx _ (.slice (if cap=l.toNat then some ⟨g,0,none⟩ else some ⟨g,0+l.toNat*s.cells,none⟩) (q.toNat - l.toNat) (cap - l.toNat)) w (hv1.trans e1) ?_) (key _ (.inr ⟨g,_,cap,if cap=l.toNat then 0 else l.toNat*s.cells,cap - l.toNat,e1,?_,?_,?_,?_⟩) ?_)⟩
      ·simp only [Instr.sliceAt,Instr.slice,Sem.run_bind,run_underlying hu,Result.andThen_ok,Option.map_none,hb2,hsz,Sem.run_pure,Option.map_some,Addr.add_lit]
      ·have:(q - l).toNat=q.toNat - l.toNat:=by omega
       rw [this]
       by_cases hc:cap=l.toNat
       ·simp only [if_pos hc]
       ·simp only [if_neg hc,Nat.zero_add]
      ·intro hm
       rw [if_neg (by omega)]
      ·omega
      ·omega
      ·rfl
  ·cases he
 ·
  rename_i n1 s' m1 e id ver h1 h2
  obtain ⟨s0,ti,z,g0,hu,g1,g2,_⟩:=(hT _ _ h1).kind
  cases g0
  split at he
  ·rename_i v fz e' s xs hob
   cases hv:(Nat.beq v ver && decide (s=s')) with
   | false=>rw [hv] at he;cases he
   | true=>
     rw [hv] at he
     simp only [cond_true] at he
     rw [Bool.and_eq_true] at hv
     have:=beqN.1 hv.1
     subst this
     have:=of_decide_eq_true hv.2
     subst this
     obtain ⟨_,hn,he⟩:=ju he
     have hn:=of_decide_eq_true (JB hn)
     obtain ⟨l,he,hlo⟩:=JT h he
     obtain ⟨q,he,hhi⟩:=JT h he
     obtain ⟨_,hb,he⟩:=ju he
     have hb:=JB hb
     simp only [Bool.and_eq_true,decide_eq_true_eq] at hb
     have hsz:(sizeOf e).run P w = .ok s.cells w:=by simp [sizeOf,typeInfo,g1,g2]
     obtain ⟨bb,mm,cc,e1,e2⟩:=(ev_rd h h2).2 fz e' s xs hob
     have hwin:inWin l (q - l) xs.length=true:=by
      unfold inWin
      simp only [Bool.and_eq_true,decide_eq_true_eq,Nat.ble_eq]
      omega
     have key : ∀ u,winOf (nm id) s.cells l (q - l) u→u.oneCell'=true→rdD w (Zc w0 Z0 nm st.objs w) nm st.objs (.one (.win id v l (q - l))) u:=by
      intro u hu h1
      refine ⟨h1,fun fz1 e1 t1 xs1 hl => ?_⟩
      rw [hob] at hl
      cases hl
      exact ⟨hu,hwin⟩
     obtain ⟨_,cells,p1,p2⟩:=(h.objs id _ hob).of e1
     rcases p1.2 with ⟨f1,_⟩ | ⟨g,cap,cur,f1,f3,f4,f5,f6,f7⟩
     ·rw [e1] at f1;cases f1
     have hb2:=kY (P:=P) (w:=w) (isSl:=false) (a:=a) (Nat.le_refl n1) hlo hhi hb.1.1 hb.1.2 hb.2
     refine ⟨_,he,Good.pure h (hx _ (.slice (some (if n1=l.toNat then ⟨bb,0,none⟩ else ⟨bb,0+l.toNat*s.cells,none⟩)) (q.toNat - l.toNat) (n1 - l.toNat)) w e2 ?_) (key _ (.inr ⟨bb,mm,cc,if n1=l.toNat then 0 else l.toNat*s.cells,n1 - l.toNat,e1,?_,?_,?_,?_⟩) rfl)⟩
     ·simp only [Instr.sliceAt,Instr.sureAddr,Sem.run_bind,run_underlying hu,Result.andThen_ok,Option.map_none,hb2,hsz,Sem.run_pure,Addr.add_lit]
     ·have:(q - l).toNat=q.toNat - l.toNat:=by omega
      rw [this]
      by_cases hc:n1=l.toNat
      ·simp only [if_pos hc]
      ·simp only [if_neg hc,Nat.zero_add]
     ·intro hm
      rw [if_neg (by omega)]
     ·omega
     ·have:xs.length≤maxLen:=by
       rw [e1] at f1
       cases f1
       omega
      omega
  ·cases he
 ·
  rename_i n1 s' m1 e n2 s xs h1 h2
  obtain ⟨s0,ti,z,g0,hu,g1,g2,_⟩:=(hT _ _ h1).kind
  cases g0
  split at he
  ·cases hv:(decide (s=s') && Nat.beq n2 n1 && Nat.ble n1 1048576) with
   | false=>rw [hv] at he;cases he
   | true=>
     rw [hv] at he
     simp only [cond_true] at he
     rw [Bool.and_eq_true,Bool.and_eq_true] at hv
     have:=of_decide_eq_true hv.1.1
     subst this
     have:=beqN.1 hv.1.2
     subst this
     have hmax:=Nat.le_of_ble_eq_true hv.2
     obtain ⟨l,he,hlo⟩:=JT h he
     obtain ⟨q,he,hhi⟩:=JT h he
     obtain ⟨_,hb,he⟩:=ju he
     have hb:=JB hb
     simp only [Bool.and_eq_true,decide_eq_true_eq] at hb
     have hsz:(sizeOf e).run P w = .ok s.cells w:=by simp [sizeOf,typeInfo,g1,g2]
     obtain ⟨bb,off,cs,e2,hz,⟨hl0,hall⟩,hcl⟩:=ev_rd h h2
     have hr0:rdV w (Zc w0 Z0 nm st.objs w) (.sl s) (.slice (some ⟨bb,off,none⟩) (List.length (show List s.den from xs)) n2) xs:=
      ⟨_,rfl,.inr (.inl ⟨bb,off,n2,cs,rfl,Nat.le_of_eq hl0,by simp only [maxLen];omega,hz,hall,hcl⟩)⟩
     have hb2:=kY (P:=P) (w:=w) (isSl:=false) (a:=a) (Nat.le_refl n2) hlo hhi hb.1.1 hb.1.2 hb.2
     refine ⟨_,he,Good.pure h (hx _ (.slice (some (if n2=l.toNat then ⟨bb,off,none⟩ else ⟨bb,off+l.toNat*s.cells,none⟩)) (q.toNat - l.toNat) (n2 - l.toNat)) w e2 ?_) ?_⟩
     ·simp only [Instr.sliceAt,Instr.sureAddr,Sem.run_bind,run_underlying hu,Result.andThen_ok,Option.map_none,hb2,hsz,Sem.run_pure,Addr.add_lit]
     ·have hp:=rdV_part (l:=l.toNat) (q:=q.toNat) (m:=n2) hr0 (by omega) (by rw [hl0];omega) (by omega) bb off n2 rfl (Nat.le_refl _)
      have:(some (if n2=l.toNat then (⟨bb,off,none⟩:Addr) else ⟨bb,off+l.toNat*s.cells,none⟩))=if n2=l.toNat then some ⟨bb,off,none⟩ else some ⟨bb,off+l.toNat*s.cells,none⟩:=by split <;> rfl
      rw [this]
      exact hp
  ·cases he
 ·
  rename_i s' e b id ver lo0 n0 h1 h2
  obtain ⟨hu,ti,z,g1,g2,_⟩:=kM hT h1
  split at he
  ·rename_i v fz e' s xs hob
   cases hv:(Nat.beq v ver && decide (s=s')) with
   | false=>rw [hv] at he;cases he
   | true=>
     rw [hv] at he
     simp only [cond_true] at he
     rw [Bool.and_eq_true] at hv
     have:=beqN.1 hv.1
     subst this
     have:=of_decide_eq_true hv.2
     subst this
     obtain ⟨hw0,hi0⟩:=(ev_rd h h2).2 fz e' s xs hob
     obtain ⟨i1,i2,i3⟩:=Uj hi0
     obtain ⟨l,he,hlo⟩:=JT h he
     obtain ⟨q,he,hhi⟩:=JT h he
     obtain ⟨_,hb,he⟩:=ju he
     have hb:=JB hb
     simp only [Bool.and_eq_true,decide_eq_true_eq] at hb
     have hsz:(sizeOf e).run P w = .ok s.cells w:=by simp [sizeOf,typeInfo,g1,g2]
     have hwin:inWin (lo0+l) (q - l) xs.length=true:=by
      unfold inWin
      simp only [Bool.and_eq_true,decide_eq_true_eq,Nat.ble_eq]
      omega
     have key : ∀ u,winOf (nm id) s.cells (lo0+l) (q - l) u→u.oneCell'=true→rdD w (Zc w0 Z0 nm st.objs w) nm st.objs (.one (.win id v (lo0+l) (q - l))) u:=by
      intro u hu h1
      refine ⟨h1,fun fz1 e1 t1 xs1 hl => ?_⟩
      rw [hob] at hl
      cases hl
      exact ⟨hu,hwin⟩
     have hhi':(hi=none∧q=(n0.toNat:Int)) ∨ ∃ y j,hi=some y∧a.eval y = .int j q:=by
      rcases hhi with ⟨q1,q2⟩ | q1
      ·exact .inl ⟨q1,by omega⟩
      ·exact .inr q1
     rcases hw0 with ⟨w1,w2,w3⟩ | ⟨b1,q1,c1,g,c',w1,w2,w3,w4,w5⟩
     ·have hq:q.toNat=0:=by omega
      have hl0:l.toNat=0:=by omega
      have hb2:=kY (P:=P) (w:=w) (isSl:=true) (a:=a) (Nat.le_refl 0) hlo (by rw [w3] at hhi';exact hhi') hb.1.1 hb.1.2 (by omega)
      rw [hq,hl0] at hb2
      exact ⟨_,he,Good.pure h (hx _ (.slice none 0 0) w w2 (by simp [Instr.sliceAt,Instr.slice,run_underlying hu,hb2,hsz])) (key _ (.inl ⟨w1,rfl,by omega⟩) rfl)⟩
     ·have hb2:=kY (P:=P) (w:=w) (isSl:=true) (a:=a) w4 hlo hhi' hb.1.1 hb.1.2 (by omega)
      refine ⟨_,he,Good.pure h (hx _ (.slice (if c'=l.toNat then some ⟨b1,g,none⟩ else some ⟨b1,g+l.toNat*s.cells,none⟩) (q.toNat - l.toNat) (c' - l.toNat)) w w2 ?_) (key _ (.inr ⟨b1,q1,c1,if c'=l.toNat then g else g+l.toNat*s.cells,c' - l.toNat,w1,?_,?_,?_,?_⟩) ?_)⟩
      ·simp only [Instr.sliceAt,Instr.slice,Sem.run_bind,run_underlying hu,Result.andThen_ok,Option.map_none,hb2,hsz,Sem.run_pure,Option.map_some,Addr.add_lit]
      ·have:(q - l).toNat=q.toNat - l.toNat:=by omega
       rw [this]
       by_cases hc:c'=l.toNat
       ·simp only [if_pos hc]
       ·simp only [if_neg hc]
      ·intro hm
       have:(lo0+l).toNat=lo0.toNat+l.toNat:=by omega
       rw [if_neg (by omega),w3 (by omega),this,Nat.add_mul]
      ·omega
      ·omega
      ·rfl
  ·cases he
 ·cases he
end
end Go.Ql
end

section
set_option linter.unusedSectionVars false
namespace Go.Ql
section
variable [GInv] {P:Program} {G:Env} {n:Nat} {w0 w:World} {Z0:Bs} {st:St} {a:Act} {nm:Names} {o:Oper} {dst:Nat} {ρ:Type} {k:Eff→Option ρ} {r:ρ}
theorem repAll_len {p:List Value→Prop} {m:Nat} (h : ∀ cs,p cs→cs.length=m) : ∀ {n:Nat} {cs:List Value},VR p n cs→cs.length=n*m
 | 0,_,hr=>by simp only [VR] at hr;simp [hr]
 | _+1,_,⟨c1,c2,e,h1,h2⟩=>by rw [e,List.length_append,h _ h1,repAll_len h h2,Nat.succ_mul,Nat.add_comm]
theorem repAll_one {p:List Value→Prop} (h : ∀ cs,p cs → ∀ u∈cs,u.oneCell'=true) : ∀ {n:Nat} {cs:List Value},VR p n cs → ∀ u∈cs,u.oneCell'=true
 | 0,_,hr,u,hu=>by simp only [VR] at hr;subst hr;cases hu
 | _+1,_,⟨c1,c2,e,h1,h2⟩,u,hu=>by
   rw [e,List.mem_append] at hu
   exact hu.elim (h _ h1 u) (repAll_one h h2 u)
theorem repAll_rd {α:Type} {p:List Value→Prop} {q:List Value→α→Prop} {z:α} (h : ∀ cs,p cs→q cs z) : ∀ {n:Nat} {cs:List Value},VR p n cs→rdAll q cs (List.replicate n z)
 | 0,_,hr=>hr
 | _+1,_,⟨c1,c2,e,h1,h2⟩=>⟨c1,c2,e,h _ h1,repAll_rd h h2⟩
theorem kE : ∀ (t:Ty) {cs:List Value},JJ t cs→cs.length=t.cells
 | .bool,_,h=>by simp [JJ] at h;simp [h,Ty.cells]
 | .int _,_,h=>by simp [JJ] at h;simp [h,Ty.cells]
 | .str,_,h=>by simp [JJ] at h;simp [h,Ty.cells]
 | .sl _,_,h=>by simp [JJ] at h;simp [h.1,Ty.cells]
 | .st t,_,h=>kE t h
 | .unit,_,h=>by simp [JJ] at h;simp [h,Ty.cells]
 | .pair a b,_,⟨c1,c2,e,h1,h2⟩=>by rw [e,List.length_append,kE a h1,kE b h2];rfl
 | .ar n t,_,h=>repAll_len (fun _ h=>kE t h) h
 | .nilv _,_,h=>by simp [JJ] at h;simp [h,Ty.cells]
 | .node t,_,⟨c1,e,h1⟩=>by rw [e,List.length_append,kE t h1];rfl
 | .raw,_,h=>by simp [JJ] at h;simp [h,Ty.cells]
theorem YS : ∀ (t:Ty) {cs:List Value},JJ t cs → ∀ u∈cs,u.oneCell'=true
 | .bool,_,h=>by simp [JJ] at h;simp [h,Value.oneCell']
 | .int _,_,h=>by simp [JJ] at h;simp [h,Value.oneCell']
 | .str,_,h=>by simp [JJ] at h;simp [h,Value.oneCell']
 | .sl _,_,h=>by simp [JJ] at h;simp [h.1,Value.oneCell']
 | .st t,_,h=>YS t h
 | .unit,_,h=>by simp [JJ] at h;simp [h]
 | .pair a b,_,⟨c1,c2,e,h1,h2⟩=>by
   intro u hu
   rw [e,List.mem_append] at hu
   exact hu.elim (YS a h1 u) (YS b h2 u)
 | .ar n t,_,h=>repAll_one (fun _ h=>YS t h) h
 | .nilv k,_,h=>by simp [JJ] at h;simp [h,nilVal_one]
 | .raw,_,h=>by simp [JJ] at h;simp [h,Value.oneCell']
 | .node t,_,⟨c1,e,h1⟩=>by
   intro u hu
   rw [e,List.mem_append] at hu
   exact hu.elim (YS t h1 u) fun hu=>by rw [List.mem_singleton.1 hu];rfl
theorem kZ {Z:Nat→Prop} : ∀ (t:Ty) {cs:List Value},JJ t cs→rdC w Z t cs t.zero
 | .bool,_,h=>h
 | .int _,_,h=>h
 | .str,_,h=>h
 | .sl _,_,h=>⟨_,h.1,.inl ⟨rfl,rfl⟩⟩
 | .st t,_,h=>kZ t h
 | .unit,_,h=>h
 | .pair a b,_,⟨c1,c2,e,h1,h2⟩=>⟨c1,c2,e,kZ a h1,kZ b h2⟩
 | .ar n t,_,h=>⟨List.length_replicate,repAll_rd (fun _ h=>kZ t h) h⟩
 | .nilv _,_,h=>h
 | .raw,_,h=>⟨h,rfl⟩
 | .node t,_,⟨c1,e,h1⟩=>YV.2 ⟨c1,_,e,kZ t h1,_,rfl,.inl ⟨rfl,rfl⟩⟩
theorem ko {Z:Nat→Prop} {objs:List (Nat×Ob)} {c1 c2:List At} {v1 v2:List Value} (h1:rdAs w Z nm objs c1 v1) (h2:rdAs w Z nm objs c2 v2):rdAs w Z nm objs (c1++c2) (v1++v2):=by
 refine ⟨by rw [List.length_append,List.length_append,h1.1,h2.1],fun i x v q1 q2 => ?_⟩
 by_cases hi:i < c1.length
 ·rw [List.getElem?_append_left hi] at q1
  rw [List.getElem?_append_left (by rw [h1.1];exact hi)] at q2
  exact h1.2 i x v q1 q2
 ·rw [List.getElem?_append_right (by omega)] at q1
  rw [List.getElem?_append_right (by rw [h1.1];omega),h1.1] at q2
  exact h2.2 _ x v q1 q2
theorem Yi {Z:Nat→Prop} {objs:List (Nat×Ob)}:rdAs w Z nm objs [] []:=⟨rfl,fun i x v q1 _=>by simp at q1⟩
theorem JC {Z:Nat→Prop} {objs:List (Nat×Ob)} {x:At} {v:Value} (h:rdA w Z nm objs x v):rdAs w Z nm objs [x] [v]:=by
 refine ⟨rfl,fun i y u q1 q2 => ?_⟩
 cases i with
 | zero=>simp at q1 q2;subst q1;subst q2;exact h
 | succ i=>simp at q1
theorem VD {Z:Nat→Prop} {objs:List (Nat×Ob)} {c:List At} {v:List Value} (h:rdAs w Z nm objs c v) (m:Nat):rdAs w Z nm objs (c.take m) (v.take m):=by
 refine ⟨by rw [List.length_take,List.length_take,h.1],fun i x u q1 q2 => ?_⟩
 rw [List.getElem?_take] at q1 q2
 split at q1
 ·rw [if_pos (by assumption)] at q2;exact h.2 i x u q1 q2
 ·cases q1
theorem Um {Z:Nat→Prop} {objs:List (Nat×Ob)} {c:List At} {v:List Value} (h:rdAs w Z nm objs c v) (m:Nat):rdAs w Z nm objs (c.drop m) (v.drop m):=by
 refine ⟨by rw [List.length_drop,List.length_drop,h.1],fun i x u q1 q2 => ?_⟩
 rw [List.getElem?_drop] at q1 q2
 exact h.2 _ x u q1 q2
theorem Vo {Z:Nat→Prop} {objs:List (Nat×Ob)} {raw:Bool} : ∀ (t:Ty) {cs:List Value},t.flat=true→JJ t cs→rdAs w Z nm objs (VG raw t) cs
 | .bool,_,_,h=>by have h:_=_:=h;subst h;exact JC (x:=.val .bool false) rfl
 | .int j,_,_,h=>by have h:_=_:=h;subst h;exact JC (x:=.val (.int j) (0:Int)) rfl
 | .str,_,_,h=>by have h:_=_:=h;subst h;exact JC (x:=.val .str []) rfl
 | .sl t,_,_,h=>by
   have h:_=_:=h.1
   subst h
   cases raw with
   | true=>exact JC (x:=.nilS) rfl
   | false=>exact JC (x:=.val (.sl t) []) ⟨_,rfl,.inl ⟨rfl,rfl⟩⟩
 | .st t,_,hf,h=>Vo t hf h
 | .unit,_,_,h=>by have h:_=_:=h;subst h;exact Yi
 | .pair a b,_,hf,⟨c1,c2,e,h1,h2⟩=>by
   simp only [Ty.flat,Bool.and_eq_true] at hf
   rw [e];exact ko (Vo a hf.1 h1) (Vo b hf.2 h2)
 | .ar _ _,_,hf,_=>by simp [Ty.flat] at hf
 | .nilv k,_,_,h=>by have h:_=_:=h;subst h;exact JC (x:=.val (.nilv k) ()) rfl
 | .raw,_,_,h=>by have h:_=_:=h;subst h;exact JC (x:=.val .raw (.slice none 0 0)) ⟨rfl,rfl⟩
 | .node t,_,hf,⟨c1,e,h1⟩=>by
   rw [e]
   refine ko (Vo t hf h1) ?_
   cases raw with
   | true=>exact JC (x:=.nilS) rfl
   | false=>exact JC (x:=.val (.sl (.st (.node t))) []) ⟨_,rfl,.inl ⟨rfl,rfl⟩⟩
theorem Ue {Z:Nat→Prop} {objs:List (Nat×Ob)} : ∀ (t:Ty) {d:t.den} {cs:List Value},t.flat=true→rdC w Z t cs d→rdAs w Z nm objs (split t d) cs
 | .bool,_,_,_,h=>by have h:_=_:=h;subst h;exact JC (x:=.val .bool _) rfl
 | .int j,_,_,_,h=>by have h:_=_:=h;subst h;exact JC (x:=.val (.int j) _) rfl
 | .str,_,_,_,h=>by have h:_=_:=h;subst h;exact JC (x:=.val .str _) rfl
 | .sl t,d,_,_,⟨v,e,h⟩=>by subst e;exact JC (x:=.val (.sl t) d) ⟨v,rfl,h⟩
 | .st t,_,_,hf,h=>Ue t hf h
 | .unit,_,_,_,h=>by have h:_=_:=h;subst h;exact Yi
 | .pair a b,_,_,hf,⟨c1,c2,e,h1,h2⟩=>by
   simp only [Ty.flat,Bool.and_eq_true] at hf
   rw [e];exact ko (Ue a hf.1 h1) (Ue b hf.2 h2)
 | .ar _ _,_,_,hf,_=>by simp [Ty.flat] at hf
 | .nilv k,_,_,_,h=>by have h:_=_:=h;subst h;exact JC (x:=.val (.nilv k) ()) rfl
 | .ifc T t,d,_,_,⟨u,us,e,h⟩=>by subst e;exact JC (x:=.val (.ifc T t) d) ⟨u,us,rfl,h⟩
 | .nn,d,_,_,⟨v,e,h⟩=>by subst e;exact JC (x:=.val .nn d) ⟨v,rfl,h⟩
 | .len,d,_,_,⟨ad,c,e,h⟩=>by subst e;exact JC (x:=.val .len d) ⟨ad,c,rfl,h⟩
 | .fl t,d,_,_,⟨h,ad,m,e⟩=>by subst e;exact JC (x:=.val (.fl t) d) ⟨h,ad,m,rfl⟩
 | .raw,d,_,_,⟨e,h⟩=>by subst e;exact JC (x:=.val .raw d) ⟨rfl,h⟩
 | .node t,d,_,hf,h=>by
   obtain ⟨c1,c2,e,h1,v,e2,h2⟩:=YV.1 h
   subst e2
   rw [e]
   exact ko (Ue t hf h1) (JC (x:=.val (.sl (.st (.node t))) (show List (Rose t.den) from Rose.kids d)) ⟨v,rfl,h2⟩)
theorem rdA_one {Z:Nat→Prop} {objs:List (Nat×Ob)} {x:At} {v:Value} (h:rdA w Z nm objs x v) (hn : ∀ t d,x ≠ .val (.st t) d) (hn2 : ∀ m t d,x ≠ .val (.ar m t) d):v.oneCell'=true:=by
 cases x with
 | val t d=>
   cases t <;> first | exact absurd rfl (hn _ _) | exact absurd rfl (hn2 _ _ _) | exact kC _ h v (by simp)
 | nilS=>have h:v=_:=h;subst h;rfl
 | ref=>exact h.1
 | own=>exact h.1
 | elem=>exact h.1
 | win=>exact h.1
 | clo=>exact h.1
 | aptr=>exact h.1
 | selfp=>exact h.1
 | aelem=>exact h.1
 | fptr=>obtain ⟨b,off,cs,e,_⟩:=h;subst e;rfl
 | fn f=>have h:v=_:=h;subst h;rfl
 | junk=>exact h
 | down=>exact h.1
 | delem=>exact h.1
 | din=>exact h.1
 | dinel=>exact h.1
theorem cells_one {v:Value} (h:v.oneCell'=true):v.cells = #[v]:=by cases v <;> first | rfl | simp [Value.oneCell'] at h
theorem dvCells_rd {Z:Nat→Prop} {objs:List (Nat×Ob)} {d:Dv} {v:Value} {cs:List At} (h:rdD w Z nm objs d v) (hc:Yq d=some cs) :
 rdAs w Z nm objs cs v.cells.toList ∧ ∀ u∈v.cells.toList,u.oneCell'=true:=by
 have key : ∀ x:At,(∀ t d,x ≠ .val (.st t) d)→(∀ m t d,x ≠ .val (.ar m t) d)→rdA w Z nm objs x v→cs=[x]→rdAs w Z nm objs cs v.cells.toList ∧ ∀ u∈v.cells.toList,u.oneCell'=true:=by
  intro x hn hn2 hx he
  have h1:=rdA_one hx hn hn2
  rw [he,cells_one h1]
  exact ⟨JC hx,by simpa using h1⟩
 cases d with
 | one x=>
   have h:rdA w Z nm objs x v:=h
   by_cases hx : ∃ t d,x = .val (.st t) d
   ·obtain ⟨t,d,rfl⟩:=hx
    simp only [Yq] at hc
    cases hf:t.flat with
    | false=>rw [hf] at hc;cases hc
    | true=>
      rw [hf] at hc
      simp only [cond_true,Option.some.injEq] at hc
      subst hc
      have h:rdV w Z (.st t) v d:=h
      have:=kA h
      exact ⟨Ue t hf this,kC (.st t) this⟩
   ·have hn : ∀ t d,x ≠ .val (.st t) d:=fun t d e=>hx ⟨t,d,e⟩
    by_cases hx2 : ∃ m t d,x = .val (.ar m t) d
    ·obtain ⟨m,t,d,rfl⟩:=hx2
     simp [Yq] at hc
    have hn2 : ∀ m t d,x ≠ .val (.ar m t) d:=fun m t d e=>hx2 ⟨m,t,d,e⟩
    refine key x hn hn2 h ?_
    unfold Yq at hc
    split at hc
    ·rename_i t d he
     cases he
     exact absurd rfl (hn t d)
    ·cases hc
    ·rename_i a' _ _ he
     cases he
     simp only [Option.some.injEq] at hc
     exact hc.symm
    ·rename_i he;cases he
    ·cases hc
    ·cases hc
 | agg xs=>
   obtain ⟨vs,e,h1,h2⟩:=h
   simp only [Yq,Option.some.injEq] at hc
   subst hc;subst e
   exact ⟨h1,h2⟩
 | tup xs=>simp [Yq] at hc
 | tgg k xs=>simp [Yq] at hc
theorem isDin_no {id:Nat} {x:At} (h:x.mentions id=false):x.isDin id=false:=by
 cases x <;> simp_all [At.mentions,At.isDin]
theorem hasVer_no {id v:Nat} {x:At} (h:x.mentions id=false):x.hasVer id v=false:=by
 cases x <;> simp_all [At.mentions,At.hasVer]
theorem UA (id:Nat) : ∀ (t:Ty) (d:t.den),∀ x∈split t d,x.mentions id=false
 | .bool,_,x,h=>by simp [split] at h;subst h;rfl
 | .int _,_,x,h=>by simp [split] at h;subst h;rfl
 | .str,_,x,h=>by simp [split] at h;subst h;rfl
 | .sl _,_,x,h=>by simp [split] at h;subst h;rfl
 | .st t,d,x,h=>UA id t d x h
 | .unit,_,x,h=>by simp [split] at h
 | .pair a b,d,x,h=>by
   simp only [split,List.mem_append] at h
   exact h.elim (UA id a d.1 x) (UA id b d.2 x)
 | .ar _ _,_,x,h=>by simp [split] at h;subst h;rfl
 | .nilv _,_,x,h=>by simp [split] at h;subst h;rfl
 | .ifc _ _,_,x,h=>by simp [split] at h;subst h;rfl
 | .nn,_,x,h=>by simp [split] at h;subst h;rfl
 | .len,_,x,h=>by simp [split] at h;subst h;rfl
 | .fl _,_,x,h=>by simp [split] at h;subst h;rfl
 | .raw,_,x,h=>by simp [split] at h;subst h;rfl
 | .node t,d,x,h=>by
   simp only [split,List.mem_append,List.mem_singleton] at h
   exact h.elim (UA id t _ x) fun h=>by subst h;rfl
theorem constAts_no {id:Nat} : ∀ {vs:List Value} {cs:List At},VU vs=some cs→cs.any (·.mentions id)=false
 | [],cs,h=>by cases h;rfl
 | v::r,cs,h=>by
   unfold VU at h
   split at h
   ·rename_i a l h1 h2
    cases h
    rw [List.any_cons,constAts_no h2,Bool.or_false]
    unfold constAt at h1
    split at h1 <;> first | (cases h1;rfl) | cases h1
   ·cases h
theorem ev_no {id:Nat} (hf:st.free id=true) {x:Operand} {d:Dv} (hx:evSt st x=some d):d.mentions id=false:=by
 cases x with
 | tmp t=>exact free_slot hf hx
 | const v=>
   cases v with
   | int j m=>simp only [evSt,Option.some.injEq] at hx;subst hx;rfl
   | bool b=>simp only [evSt,Option.some.injEq] at hx;subst hx;rfl
   | string s=>simp only [evSt,Option.some.injEq] at hx;subst hx;rfl
   | slice b l c=>
     cases b with
     | some b=>simp [evSt] at hx
     | none=>
       cases l with
       | succ l=>simp [evSt] at hx
       | zero=>cases c with
         | succ c=>simp [evSt] at hx
         | zero=>simp only [evSt,Option.some.injEq] at hx;subst hx;rfl
   | pointer q=>
     cases q with
     | some q=>simp [evSt] at hx
     | none=>simp only [evSt,Option.some.injEq] at hx;subst hx;rfl
   | map q=>
     cases q with
     | some q=>simp [evSt] at hx
     | none=>simp only [evSt,Option.some.injEq] at hx;subst hx;rfl
   | nilIface=>simp only [evSt,Option.some.injEq] at hx;subst hx;rfl
   | nilFunc=>simp only [evSt,Option.some.injEq] at hx;subst hx;rfl
   | agg vs=>
     simp only [evSt] at hx
     split at hx
     ·rename_i cs hcs
      simp only [Option.some.injEq] at hx
      subst hx
      exact constAts_no hcs
     ·cases hx
   | _=>simp [evSt] at hx
 | global g=>simp [evSt] at hx
 | func f=>simp only [evSt,Option.some.injEq] at hx;subst hx;rfl
theorem cells_no {id:Nat} {d:Dv} {cs:List At} (hc:Yq d=some cs) (hd:d.mentions id=false) : ∀ x∈cs,x.mentions id=false:=by
 intro x hx
 unfold Yq at hc
 split at hc
 ·rename_i t _
  cases hf:t.flat with
  | false=>rw [hf] at hc;cases hc
  | true=>rw [hf] at hc;simp only [cond_true,Option.some.injEq] at hc;subst hc;exact UA _ _ _ x hx
 ·cases hc
 ·simp only [Option.some.injEq] at hc;subst hc;simp at hx;subst hx;exact hd
 ·simp only [Option.some.injEq] at hc;subst hc
  simp only [Dv.mentions,List.any_eq_false] at hd
  simpa using hd x hx
 ·cases hc
 ·cases hc
theorem Good.newBox (h:Rel n w0 Z0 st a w nm) {cs:List At} {cells:Array Value} {T:TypeId} (hno:look st.objs dst=none)
 (hrun:(execOp a.eval o).run P w = .ok (.value (.pointer (some ⟨w.heap.size,0,none⟩))) (w.alloc (.cells cells T)))
 (hrd:rdAs w (Zc w0 Z0 nm st.objs w) nm st.objs cs cells.toList) (hm:st.free dst=true → ∀ x∈cs,x.mentions dst=false) (hone : ∀ u∈cells.toList,u.oneCell'=true):Good P n w0 Z0 st a w o ⟨.one (.ref dst 0),[(dst,.box cs)]⟩:=by
 intro st' hl
 obtain ⟨hmay,rfl⟩:=kF hl
 have hfree:st.free dst=true:=by unfold mayOb at hmay;rw [hno] at hmay;simp only [Bool.and_eq_true] at hmay;exact hmay.2
 have hnv:blk (.pointer (some ⟨w.heap.size,0,none⟩))=some w.heap.size:=rfl
 refine Does.of_run hrun ⟨setN nm dst (.pointer (some ⟨w.heap.size,0,none⟩)),?_,?_⟩
 ·refine h.upd dst _ _ hmay (by rw [hno];trivial) ⟨rfl,rfl,rfl,by simp⟩ (fun b hb => .inr (heap_alloc_old w _ b hb)) (fun b hb => ?_) ?_
  ·have hb:blk _=some _:=hb
   simp only [blk,Option.some.injEq] at hb
   subst hb
   exact .inr ⟨Nat.le_refl _,by simp⟩
  ·refine ⟨w.heap.size,cells,T,jW _ _ _,heap_alloc_new w _,?_,hone,fun T' hT=>by have:=hm hfree _ hT;simp [At.mentions] at this⟩
   have hk:Kept w (w.alloc (.cells cells T)) (Zc w0 Z0 nm st.objs w) (Zc w0 Z0 (setN nm dst (.pointer (some ⟨w.heap.size,0,none⟩))) (ins dst (.box cs) st.objs) (w.alloc (.cells cells T))):=by
    rintro b ⟨z1,z2,z3⟩
    refine ⟨⟨by simp;omega,z2,?_⟩,heap_alloc_old w _ b z1⟩
    rintro ⟨j,ob,y1,y2,y3⟩
    by_cases hj:dst=j
    ·subst hj
     rw [jW] at y3
     have y3:blk _=some _:=y3
     simp only [blk,Option.some.injEq] at y3
     omega
    ·rw [Jl,if_neg hj] at y1
     rw [ka _ _ (Ne.symm hj)] at y3
     exact z3 ⟨j,ob,y1,y2,y3⟩
   exact Yd hk (fun x hx=>atOk_upd hmay (by rw [hno];trivial) (fun hf=>hm hf x hx) (fun v _=>hasVer_no (hm hfree x hx)) (fun _=>isDin_no (hm hfree x hx))) hrd
 ·exact ⟨rfl,fun _ _=>⟨_,jW _ _ _,rfl⟩⟩
end
end Go.Ql
end

section
set_option linter.unusedSectionVars false
namespace Go.Ql
section
variable [GInv] {P:Program} {G:Env} {n:Nat} {w0 w:World} {Z0:Bs} {st st1:St} {a:Act} {nm:Names} {o:Oper} {dst:Nat} {ρ:Type} {k:Eff→Option ρ} {r:ρ}
structure Fz (st st1:St):Prop where
 slots:st1.slots=st.slots
 objs : ∀ id,look st1.objs id=look st.objs id∨(∃ v fz e t xs,look st.objs id=some (.arr v fz e t xs)∧look st1.objs id=some (.arr v true e t xs)) ∨
  ∃ v fz e te t xs,look st.objs id=some (.deep v fz e te t xs none)∧look st1.objs id=some (.deep v true e te t xs none)
theorem Fz.refl (st:St):Fz st st:=⟨rfl,fun _ => .inl rfl⟩
theorem Fz.zc (hf:Fz st st1) {b:Nat} (h:Zc w0 Z0 nm st.objs w b):Zc w0 Z0 nm st1.objs w b:=by
 refine ⟨h.1,h.2.1,?_⟩
 rintro ⟨id,ob,h1,h2,h3⟩
 rcases hf.objs id with e | ⟨v,fz,e,t,xs,e1,e2⟩ | ⟨v,fz,e,te,t,xs,e1,e2⟩
 ·exact h.2.2 ⟨id,ob,by rw [← e];exact h1,h2,h3⟩
 ·rw [e2] at h1;cases h1;cases h2
 ·rw [e2] at h1;cases h1;cases h2
def FzUpd (st:St) (u:Upd):Prop:=∀ p∈u,(∃ v fz e t xs,look st.objs p.1=some (.arr v fz e t xs)∧p.2 = .arr v true e t xs) ∨
 ∃ v fz e te t xs,look st.objs p.1=some (.deep v fz e te t xs none)∧p.2 = .deep v true e te t xs none
theorem kO (nm:Names) (id:Nat):setN nm id (nm id)=nm:=by
 funext j;unfold setN;split
 ·subst_vars;rfl
 ·rfl
theorem Rel.freeze (h:Rel n w0 Z0 st a w nm) {id v:Nat} {fz:Bool} {e:TypeId} {t:Ty} {xs:List t.den} (hl:look st.objs id=some (.arr v fz e t xs)) :
 Rel n w0 Z0 ⟨st.slots,ins id (.arr v true e t xs) st.objs⟩ a w nm∧Fz st ⟨st.slots,ins id (.arr v true e t xs) st.objs⟩:=by
 have hmay:mayOb st id (.arr v true e t xs)=true:=by
  unfold mayOb
  rw [hl]
  simp [beqN.2]
 have hfz:Fz st ⟨st.slots,ins id (.arr v true e t xs) st.objs⟩:=by
  refine ⟨rfl,fun j => ?_⟩
  simp only [Jl]
  by_cases hj:id=j
  ·subst hj;exact .inr (.inl ⟨v,fz,e,t,xs,hl,by simp⟩)
  ·exact .inl (if_neg hj)
 refine ⟨?_,hfz⟩
 have:=h.upd (w':=w) id (.arr v true e t xs) (nm id) hmay (by rw [hl];exact fun _=>⟨rfl,rfl,rfl,rfl⟩) ⟨rfl,rfl,rfl,Nat.le_refl _⟩ (fun _ _ => .inr rfl)
  (fun b hb => .inl ⟨hb,_,hl,.inr rfl⟩) (by
   rw [kO]
   exact VQ (fun b hb=>⟨hfz.zc hb,fun _ _ hu=>hu⟩) (fun _ _=>rfl) (show rdArr w _ (nm id) e t xs from h.objs id _ hl))
 rw [kO] at this
 exact this
theorem Rel.freezeD (h:Rel n w0 Z0 st a w nm) {id v:Nat} {fz:Bool} {e te:TypeId} {t:Ty} {xs:List t.den} (hl:look st.objs id=some (.deep v fz e te t xs none)) :
 Rel n w0 Z0 ⟨st.slots,ins id (.deep v true e te t xs none) st.objs⟩ a w nm∧Fz st ⟨st.slots,ins id (.deep v true e te t xs none) st.objs⟩:=by
 have hmay:mayOb st id (.deep v true e te t xs none)=true:=by
  unfold mayOb
  rw [hl]
  simp [beqN.2]
 have hfz:Fz st ⟨st.slots,ins id (.deep v true e te t xs none) st.objs⟩:=by
  refine ⟨rfl,fun j => ?_⟩
  simp only [Jl]
  by_cases hj:id=j
  ·subst hj;exact .inr (.inr ⟨v,fz,e,te,t,xs,hl,by simp⟩)
  ·exact .inl (if_neg hj)
 refine ⟨?_,hfz⟩
 have:=h.upd (w':=w) id (.deep v true e te t xs none) (nm id) hmay (by rw [hl];exact fun _=>⟨rfl,rfl,rfl,rfl,rfl,fun _ _=>rfl⟩) ⟨rfl,rfl,rfl,Nat.le_refl _⟩ (fun _ _ => .inr rfl)
  (fun b hb => .inl ⟨hb,_,hl,.inr rfl⟩) (by
   rw [kO]
   exact kX (fun b hb=>⟨hfz.zc hb,fun _ _ hu=>hu⟩) (fun _ _=>rfl) (show rdDeep w _ (nm id) e te t xs from h.objs id _ hl))
 rw [kO] at this
 exact this
theorem Fz.trans {st2:St} (h1:Fz st st1) (h2:Fz st1 st2):Fz st st2:=by
 refine ⟨h2.slots.trans h1.slots,fun id => ?_⟩
 rcases h2.objs id with e | ⟨v,fz,e,t,xs,e1,e2⟩ | ⟨v,fz,e,te,t,xs,e1,e2⟩
 ·rw [e];exact h1.objs id
 ·rcases h1.objs id with e' | ⟨v',fz',e',t',xs',e3,e4⟩ | ⟨v',fz',e',te',t',xs',e3,e4⟩
  ·exact .inr (.inl ⟨v,fz,e,t,xs,e' ▸ e1,e2⟩)
  ·rw [e4] at e1;cases e1;exact .inr (.inl ⟨v,fz',e,t,xs,e3,e2⟩)
  ·rw [e4] at e1;cases e1
 ·rcases h1.objs id with e' | ⟨v',fz',e',t',xs',e3,e4⟩ | ⟨v',fz',e',te',t',xs',e3,e4⟩
  ·exact .inr (.inr ⟨v,fz,e,te,t,xs,e' ▸ e1,e2⟩)
  ·rw [e4] at e1;cases e1
  ·rw [e4] at e1;cases e1;exact .inr (.inr ⟨v,fz',e,te,t,xs,e3,e2⟩)
def Cold (st:St) (id:Nat):Prop:=(∃ v e t xs,look st.objs id=some (.arr v true e t xs)) ∨ ∃ v e te t xs,look st.objs id=some (.deep v true e te t xs none)
theorem Cold.mono (hf:Fz st st1) {id:Nat} (h:Cold st id):Cold st1 id:=by
 rcases h with ⟨v,e,t,xs,hl⟩ | ⟨v,e,te,t,xs,hl⟩
 ·rcases hf.objs id with e' | ⟨v',fz',e',t',xs',e3,e4⟩ | ⟨v',fz',e',te',t',xs',e3,e4⟩
  ·exact .inl ⟨v,e,t,xs,e'.trans hl⟩
  ·exact .inl ⟨v',e',t',xs',e4⟩
  ·rw [hl] at e3;cases e3
 ·rcases hf.objs id with e' | ⟨v',fz',e',t',xs',e3,e4⟩ | ⟨v',fz',e',te',t',xs',e3,e4⟩
  ·exact .inr ⟨v,e,te,t,xs,e'.trans hl⟩
  ·rw [hl] at e3;cases e3
  ·exact .inr ⟨v',e',te',t',xs',e4⟩
theorem FzUpd.step {id:Nat} {ob:Ob} {u:Upd} (hu:FzUpd st ((id,ob)::u)) (h:Rel n w0 Z0 st a w nm):Rel n w0 Z0 ⟨st.slots,ins id ob st.objs⟩ a w nm∧Fz st ⟨st.slots,ins id ob st.objs⟩∧mayOb st id ob=true∧Cold ⟨st.slots,ins id ob st.objs⟩ id∧FzUpd ⟨st.slots,ins id ob st.objs⟩ u:=by
 have key:Rel n w0 Z0 ⟨st.slots,ins id ob st.objs⟩ a w nm∧Fz st ⟨st.slots,ins id ob st.objs⟩∧mayOb st id ob=true∧Cold ⟨st.slots,ins id ob st.objs⟩ id:=by
  rcases hu (id,ob) (by simp) with ⟨v,fz,e,t,xs,h1,h2⟩ | ⟨v,fz,e,te,t,xs,h1,h2⟩
  ·simp only at h1 h2
   subst h2
   exact ⟨(h.freeze h1).1,(h.freeze h1).2,by unfold mayOb;rw [h1];simp [beqN.2],.inl ⟨v,e,t,xs,by simp [Jl]⟩⟩
  ·simp only at h1 h2
   subst h2
   exact ⟨(h.freezeD h1).1,(h.freezeD h1).2,by unfold mayOb;rw [h1];simp [beqN.2],.inr ⟨v,e,te,t,xs,by simp [Jl]⟩⟩
 refine ⟨key.1,key.2.1,key.2.2.1,key.2.2.2,fun p hp => ?_⟩
 rcases hu p (by simp [hp]) with ⟨v',fz',e',t',xs',q1,q2⟩ | ⟨v',fz',e',te',t',xs',q1,q2⟩
 ·rcases key.2.1.objs p.1 with q | ⟨v2,fz2,e2,t2,xs2,q3,q4⟩ | ⟨v2,fz2,e2,te2,t2,xs2,q3,q4⟩
  ·exact .inl ⟨v',fz',e',t',xs',q.trans q1,q2⟩
  ·rw [q1] at q3;cases q3;exact .inl ⟨v',true,e',t',xs',q4,q2⟩
  ·rw [q1] at q3;cases q3
 ·rcases key.2.1.objs p.1 with q | ⟨v2,fz2,e2,t2,xs2,q3,q4⟩ | ⟨v2,fz2,e2,te2,t2,xs2,q3,q4⟩
  ·exact .inr ⟨v',fz',e',te',t',xs',q.trans q1,q2⟩
  ·rw [q1] at q3;cases q3
  ·rw [q1] at q3;cases q3;exact .inr ⟨v',true,e',te',t',xs',q4,q2⟩
theorem Rel.freezes : ∀ (u:Upd) {st st1:St},Rel n w0 Z0 st a w nm→FzUpd st u→Jh st u=some st1→Rel n w0 Z0 st1 a w nm∧Fz st st1 ∧ ∀ p∈u,Cold st1 p.1
 | [],st,st1,h,_,hl=>by
   simp only [Jh,Option.some.injEq] at hl
   subst hl
   exact ⟨h,Fz.refl _,fun p hp=>by cases hp⟩
 | (id,ob)::u,st,st1,h,hu,hl=>by
   obtain ⟨r1,r2,hm,r3,hu'⟩:=hu.step h
   simp only [Jh,hm,cond_true] at hl
   obtain ⟨s1,s2,s3⟩:=Rel.freezes u r1 hu' hl
   refine ⟨s1,r2.trans s2,fun p hp => ?_⟩
   rcases List.mem_cons.1 hp with rfl | hp
   ·exact Cold.mono s2 r3
   ·exact s3 p hp
theorem cold_rd (h:Rel n w0 Z0 st a w nm) {id v:Nat} {e:TypeId} {t:Ty} {xs:List t.den} (hmap:t.isMap=false) (hl:look st.objs id=some (.arr v true e t xs)) :
 rdV w (Zc w0 Z0 nm st.objs w) (.sl t) (nm id) xs:=by
 obtain ⟨cells,h1,h2⟩:=(h.objs id _ hl).sl hmap
 refine ⟨_,rfl,?_⟩
 rcases h1.2 with ⟨e1,e2⟩ | ⟨g,cap,cur,e1,e3,e4,e5,e6,e7⟩
 ·exact .inl ⟨e1,List.eq_nil_of_length_eq_zero e2⟩
 ·refine .inr (.inl ⟨g,0,cap,cells,e1,e4,e5,?_,h2,fun j u hj => ?_⟩)
  ·have hb:hasB (nm id) g:=by rw [e1];exact rfl
   have hn:=h.new id _ g hl hb
   refine ⟨hn.2,fun hlt => .inr (hn.1.resolve_left (by omega)),?_⟩
   rintro ⟨id',ob,q1,q2,q3⟩
   have:=h.inj id' id ob _ g q1 hl q3 hb
   subst this
   rw [hl] at q1;cases q1;cases q2
  ·rw [Nat.zero_add,e3.cell]
   rw [← e7,List.getElem?_take] at hj
   split at hj
   ·simpa using hj
   ·cases hj
theorem cold_win (h:Rel n w0 Z0 st a w nm) {id v:Nat} {e:TypeId} {t:Ty} {xs:List t.den} {lo m:Int} {u:Value} (hmap:t.isMap=false) (hl:look st.objs id=some (.arr v true e t xs)) (hw:winOf (nm id) t.cells lo m u) (hi:inWin lo m xs.length=true) :
 rdV w (Zc w0 Z0 nm st.objs w) (.sl t) u (part lo m xs):=by
 obtain ⟨cells,h1,h2⟩:=(h.objs id _ hl).sl hmap
 refine ⟨_,rfl,?_⟩
 rcases win_rd h1 h2 hw hi with hh | ⟨b,g,c,cs,q1,q2,q3,q4,q5,q6⟩
 ·exact .inl hh
 ·refine .inr (.inl ⟨b,g,c,cs,q1,q2,q3,?_,q5,q6⟩)
  have hn:=h.new id _ b hl (Yw q4)
  refine ⟨hn.2,fun hlt => .inr (hn.1.resolve_left (by omega)),?_⟩
  rintro ⟨id',ob,p1,p2,p3⟩
  have:=h.inj id' id ob _ b p1 hl p3 (Yw q4)
  subst this
  rw [hl] at p1;cases p1;cases p2
theorem Fz.cold (hf:Fz st st1) {id v:Nat} {fz:Bool} {e:TypeId} {t:Ty} {xs:List t.den} (hob:look st.objs id=some (.arr v fz e t xs)) (hc:fz=false→Cold st1 id):look st1.objs id=some (.arr v true e t xs):=by
 rcases hf.objs id with q | ⟨v2,fz2,e2,t2,xs2,q3,q4⟩ | ⟨v2,fz2,e2,te2,t2,xs2,q3,q4⟩
 ·cases fz with
  | true=>exact q.trans hob
  | false=>
    rcases hc rfl with ⟨v3,e3,t3,xs3,q5⟩ | ⟨v3,e3,te3,t3,xs3,q5⟩
    ·rw [q,hob] at q5;cases q5
    ·rw [q,hob] at q5;cases q5
 ·rw [hob] at q3;cases q3;exact q4
 ·rw [hob] at q3;cases q3
theorem Fz.coldD (hf:Fz st st1) {id v:Nat} {fz:Bool} {e te:TypeId} {t:Ty} {xs:List t.den} (hob:look st.objs id=some (.deep v fz e te t xs none)) (hc:fz=false→Cold st1 id):look st1.objs id=some (.deep v true e te t xs none):=by
 rcases hf.objs id with q | ⟨v2,fz2,e2,t2,xs2,q3,q4⟩ | ⟨v2,fz2,e2,te2,t2,xs2,q3,q4⟩
 ·cases fz with
  | true=>exact q.trans hob
  | false=>
    rcases hc rfl with ⟨v3,e3,t3,xs3,q5⟩ | ⟨v3,e3,te3,t3,xs3,q5⟩
    ·rw [q,hob] at q5;cases q5
    ·rw [q,hob] at q5;cases q5
 ·rw [hob] at q3;cases q3
 ·rw [hob] at q3;cases q3;exact q4
theorem cold_deep (h:Rel n w0 Z0 st a w nm) {id v:Nat} {e te:TypeId} {t:Ty} {xs:List t.den} (hl:look st.objs id=some (.deep v true e te t xs none)) :
 rdV w (Zc w0 Z0 nm st.objs w) (.sl t) (hdr (nm id)) xs:=by
 refine rdDeep.data (h.objs id _ hl) fun b hb => ?_
 have hn:=h.new id _ b hl hb
 refine ⟨hn.2,fun hlt => .inr (hn.1.resolve_left (by omega)),?_⟩
 rintro ⟨id',ob,p1,p2,p3⟩
 have:=h.inj id' id ob _ b p1 hl p3 hb
 subst this
 rw [hl] at p1;cases p1;cases p2
theorem Us {x:At} {v:Value} {t:Ty} {d:t.den} {u:Upd} (ha:atV (look st.objs) t x=some (d,u)) :
 FzUpd st u ∧ ∀ (st1:St),Fz st st1→Rel n w0 Z0 st1 a w nm→(∀ p∈u,Cold st1 p.1)→rdA w (Zc w0 Z0 nm st1.objs w) nm st.objs x v→rdV w (Zc w0 Z0 nm st1.objs w) t v d:=by
 unfold atV at ha
 split at ha
 ·split at ha
  ·rename_i hs
   subst hs
   cases ha
   exact ⟨fun p hp=>(by cases hp),fun st1 _ _ _ h=>h⟩
  ·cases ha
 ·split at ha
  ·cases ha
   exact ⟨fun p hp=>(by cases hp),fun st1 _ _ _ h=>⟨v,rfl,.inl ⟨h,rfl⟩⟩⟩
  ·cases ha
 ·rename_i id ver
  split at ha
  ·rename_i v' fz e s xs hob
   split at ha
   ·rename_i hs
    subst hs
    cases hv:(Nat.beq v' ver && !s.isMap) with
    | false=>rw [hv] at ha;cases ha
    | true=>
      rw [hv] at ha
      rw [Bool.and_eq_true,Bool.not_eq_true'] at hv
      obtain ⟨hv,hmap⟩:=hv
      have:=beqN.1 hv
      subst this
      cases ha
      refine ⟨?_,fun st1 hf h hc hr => ?_⟩
      ·intro p hp
       cases fz with
       | true=>cases hp
       | false=>simp at hp;subst hp;exact .inl ⟨_,_,_,_,_,hob,rfl⟩
      ·have hcold:=hf.cold hob (fun hh=>hc (id,.arr v' true e s xs) (by simp [hh]))
       have hv:=hr.2 fz e s xs hob
       rw [hv]
       exact cold_rd h hmap hcold
   ·cases ha
  ·cases ha
 ·rename_i id ver lo m
  split at ha
  ·rename_i v' fz e s xs hob
   split at ha
   ·rename_i hs
    subst hs
    cases hv:(Nat.beq v' ver && !s.isMap) with
    | false=>rw [hv] at ha;cases ha
    | true=>
      rw [hv] at ha
      rw [Bool.and_eq_true,Bool.not_eq_true'] at hv
      obtain ⟨hv,hmap⟩:=hv
      have:=beqN.1 hv
      subst this
      cases ha
      refine ⟨?_,fun st1 hf h hc hr => ?_⟩
      ·intro p hp
       cases fz with
       | true=>cases hp
       | false=>simp at hp;subst hp;exact .inl ⟨_,_,_,_,_,hob,rfl⟩
      ·obtain ⟨hw,hi⟩:=hr.2 fz e s xs hob
       have hcold:=hf.cold hob (fun hh=>hc (id,.arr v' true e s xs) (by simp [hh]))
       exact cold_win h hmap hcold hw hi
   ·cases ha
  ·cases ha
 ·rename_i id ver
  split at ha
  ·rename_i v' fz e te s xs hob
   split at ha
   ·rename_i hs
    subst hs
    cases hv:Nat.beq v' ver with
    | false=>rw [hv] at ha;cases ha
    | true=>
      rw [hv] at ha
      have:=beqN.1 hv
      subst this
      cases ha
      refine ⟨?_,fun st1 hf h hc hr => ?_⟩
      ·intro p hp
       cases fz with
       | true=>cases hp
       | false=>simp at hp;subst hp;exact .inr ⟨_,_,_,_,_,_,hob,rfl⟩
      ·have hcold:=hf.coldD hob (fun hh=>hc (id,.deep v' true e te s xs none) (by simp [hh]))
       have hv:=hr.2 _ _ _ _ _ _ hob
       rw [hv]
       exact cold_deep h hcold
   ·cases ha
  ·cases ha
 ·cases ha
end
end Go.Ql
end

section
set_option linter.unusedSectionVars false
namespace Go.Ql
section
variable [GInv] {P:Program} {G:Env} {n:Nat} {w0 w:World} {Z0:Bs} {st st1:St} {a:Act} {nm:Names} {o:Oper} {dst:Nat} {ρ:Type} {k:Eff→Option ρ} {r:ρ}
structure Frozen (n:Nat) (w0:World) (Z0:Bs) (st st1:St) (a:Act) (w:World) (nm:Names) (u:Upd):Prop where
 fz:Fz st st1
 rel:Rel n w0 Z0 st1 a w nm
 cold : ∀ p∈u,Cold st1 p.1
theorem Frozen.left {u v:Upd} (h:Frozen n w0 Z0 st st1 a w nm (u++v)):Frozen n w0 Z0 st st1 a w nm u:=⟨h.fz,h.rel,fun p hp=>h.cold p (List.mem_append_left _ hp)⟩
theorem Frozen.right {u v:Upd} (h:Frozen n w0 Z0 st st1 a w nm (u++v)):Frozen n w0 Z0 st st1 a w nm v:=⟨h.fz,h.rel,fun p hp=>h.cold p (List.mem_append_right _ hp)⟩
theorem FzUpd.append {u v:Upd} (h1:FzUpd st u) (h2:FzUpd st v):FzUpd st (u++v):=fun p hp=>(List.mem_append.1 hp).elim (h1 p) (h2 p)
theorem joinV_rd : ∀ (t:Ty) {cs rest:List At} {x:t.den} {u:Upd},joinV (look st.objs) t cs=some (x,u,rest) →
 FzUpd st u ∧ ∃ used,cs=used++rest ∧ ∀ st1,Frozen n w0 Z0 st st1 a w nm u → ∀ vs,rdAs w (Zc w0 Z0 nm st1.objs w) nm st.objs used vs→rdC w (Zc w0 Z0 nm st1.objs w) t vs x:=by
 intro t
 induction t with
 | st t ih=>intro cs rest x u h;exact ih h
 | unit=>
   intro cs rest x u h
   simp only [joinV,Option.some.injEq,Prod.mk.injEq] at h
   obtain ⟨_,rfl,rfl⟩:=h
   exact ⟨fun p hp=>(by cases hp),[],rfl,fun st1 _ vs hv=>List.eq_nil_of_length_eq_zero hv.1⟩
 | pair p q ihp ihq=>
   intro cs rest x u h
   simp only [joinV] at h
   split at h
   ·rename_i x1 u1 r1 h1
    split at h
    ·rename_i y1 v1 r2 h2
     cases h
     obtain ⟨f1,used1,e1,g1⟩:=ihp h1
     obtain ⟨f2,used2,e2,g2⟩:=ihq h2
     refine ⟨f1.append f2,used1++used2,by rw [e1,e2,List.append_assoc],fun st1 hf vs hv => ?_⟩
     have hl:vs.length=used1.length+used2.length:=by rw [hv.1,List.length_append]
     have t1:=VD hv used1.length
     have t2:=Um hv used1.length
     rw [List.take_left] at t1
     rw [List.drop_left] at t2
     exact ⟨vs.take used1.length,vs.drop used1.length,(List.take_append_drop _ _).symm,g1 st1 hf.left _ t1,g2 st1 hf.right _ t2⟩
    ·cases h
   ·cases h
 | ar m t ih=>intro cs rest x u h;simp [joinV] at h
 | node t ih=>
   intro cs rest x u h
   simp only [joinV] at h
   split at h
   ·rename_i x1 u1 c r1 h1
    split at h
    ·rename_i y1 v1 h2
     cases h
     obtain ⟨f1,used1,e1,g1⟩:=ih h1
     have k:=fun v=>Us (n:=n) (w0:=w0) (w:=w) (Z0:=Z0) (a:=a) (nm:=nm) (v:=v) h2
     refine ⟨f1.append (k undef).1,used1++[c],by rw [e1];simp,fun st1 hf vs hv => ?_⟩
     have hl:vs.length=used1.length+1:=by rw [hv.1,List.length_append];rfl
     have t1:=VD hv used1.length
     have t2:=Um hv used1.length
     rw [List.take_left] at t1
     rw [List.drop_left] at t2
     refine YV.2 ⟨vs.take used1.length,vs.drop used1.length,(List.take_append_drop _ _).symm,g1 st1 hf.left _ t1,?_⟩
     generalize vs.drop used1.length=l at t2
     match l,t2 with
     | [v],t2=>exact (k v).2 st1 hf.right.fz hf.right.rel hf.right.cold (t2.2 0 c v rfl rfl)
     | [],t2=>exact absurd t2.1 (by simp)
     | _::_::_,t2=>exact absurd t2.1 (by simp)
    ·cases h
   ·cases h
 | _=>
   intro cs rest x u h
   cases cs with
   | nil=>simp [joinV] at h
   | cons c cs=>
     simp only [joinV] at h
     split at h
     ·rename_i x1 u1 h1
      cases h
      refine ⟨(Us (n:=n) (w0:=w0) (w:=w) (Z0:=Z0) (a:=a) (nm:=nm) (v:=undef) h1).1,[c],rfl,fun st1 hf vs hv => ?_⟩
      match vs,hv with
      | [v],hv=>exact (Us (n:=n) (w0:=w0) (w:=w) (Z0:=Z0) (a:=a) (nm:=nm) (v:=v) h1).2 st1 hf.fz hf.rel hf.cold (hv.2 0 c v rfl rfl)
      | [],hv=>exact absurd hv.1 (by simp)
      | _::_::_,hv=>exact absurd hv.1 (by simp)
     ·cases h
theorem Yj {d:Dv} {t:Ty} {x:t.den} {u:Upd} (h:dvV (look st.objs) t d=some (x,u)) :
 FzUpd st u ∧ ∀ st1,Frozen n w0 Z0 st st1 a w nm u → ∀ v,rdD w (Zc w0 Z0 nm st1.objs w) nm st.objs d v→rdV w (Zc w0 Z0 nm st1.objs w) t v x:=by
 cases d with
 | one c=>
   obtain ⟨f,g⟩:=Us (n:=n) (w0:=w0) (w:=w) (Z0:=Z0) (a:=a) (nm:=nm) (v:=undef) (show atV (look st.objs) t c=some (x,u) from h)
   refine ⟨f,fun st1 hf v hv => ?_⟩
   exact (Us (n:=n) (w0:=w0) (w:=w) (Z0:=Z0) (a:=a) (nm:=nm) (show atV (look st.objs) t c=some (x,u) from h)).2 st1 hf.fz hf.rel hf.cold hv
 | agg cs=>
   cases t with
   | st s=>
     simp only [dvV] at h
     split at h
     ·rename_i x1 u1 h1
      cases h
      obtain ⟨f,used,e,g⟩:=joinV_rd (n:=n) (w0:=w0) (w:=w) (Z0:=Z0) (a:=a) (nm:=nm) s h1
      rw [List.append_nil] at e
      subst e
      exact ⟨f,fun st1 hf v ⟨vs,e,h1,_⟩=>⟨vs,e,g st1 hf _ h1⟩⟩
     ·cases h
   | _=>simp [dvV] at h
 | tup cs=>simp [dvV] at h
 | tgg k cs=>simp [dvV] at h
def YC (w:World) (Z:Nat→Prop):(ts:List Ty)→dens ts→List Value→Prop
 | [],_,vs=>vs=[]
 | [t],x,vs => ∃ v,vs=[v]∧rdV w Z t v x
 | t::t'::ts,x,vs => ∃ v r,vs=v::r∧rdV w Z t v x.1∧YC w Z (t'::ts) x.2 r
theorem args_rd : ∀ (ts:List Ty) {ds:List Dv} {x:dens ts} {u:Upd},args (look st.objs) ts ds=some (x,u) →
 FzUpd st u ∧ ∀ st1,Frozen n w0 Z0 st st1 a w nm u → ∀ vs:List Value,vs.length=ds.length→(∀ (i:Nat) d v,ds[i]? = some d→vs[i]? = some v→rdD w (Zc w0 Z0 nm st1.objs w) nm st.objs d v)→YC w (Zc w0 Z0 nm st1.objs w) ts x vs
 | [],[],x,u,h=>by
   simp only [args,Option.some.injEq,Prod.mk.injEq] at h
   obtain ⟨_,rfl⟩:=h
   exact ⟨fun p hp=>(by cases hp),fun st1 _ vs hl _=>List.eq_nil_of_length_eq_zero hl⟩
 | [t],[d],x,u,h=>by
   simp only [args] at h
   split at h
   ·rename_i x1 u1 h1
    cases h
    obtain ⟨f,g⟩:=Yj (n:=n) (w0:=w0) (w:=w) (Z0:=Z0) (a:=a) (nm:=nm) h1
    refine ⟨f,fun st1 hf vs hl hr => ?_⟩
    match vs,hl with
    | [v],_=>exact ⟨v,rfl,g st1 hf v (hr 0 d v rfl rfl)⟩
   ·cases h
 | t::t'::ts,d::ds,x,u,h=>by
   simp only [args] at h
   split at h
   ·rename_i x1 u1 h1
    split at h
    ·rename_i y1 v1 h2
     cases h
     obtain ⟨f,g⟩:=Yj (n:=n) (w0:=w0) (w:=w) (Z0:=Z0) (a:=a) (nm:=nm) h1
     obtain ⟨f2,g2⟩:=args_rd (t'::ts) h2
     refine ⟨f.append f2,fun st1 hf vs hl hr => ?_⟩
     match vs,hl with
     | v::vs,hl=>
       exact ⟨v,vs,rfl,g st1 hf.left v (hr 0 d v rfl rfl),g2 st1 hf.right vs (by simpa using hl) (fun i d v q1 q2=>hr (i+1) d v (by simpa using q1) (by simpa using q2))⟩
    ·cases h
   ·cases h
 | [],_::_,_,_,h=>by simp [args] at h
 | [_],[],_,_,h=>by simp [args] at h
 | [_],_::_::_,_,_,h=>by simp [args] at h
 | _::_::_,[],_,_,h=>by simp [args] at h
theorem Rel.newArrG (h:Rel n w0 Z0 st a w nm) {w':World} {ver:Nat} {e:TypeId} {t:Ty} {xs:List t.den} {nv:Value}
 (hver:verOf (look st.objs) dst=some ver) (hmay:mayOb st dst (.arr ver false e t xs)=true) (hs:Same w w')
 (hnv : ∀ b,hasB nv b→w.heap.size≤b∧b < w'.heap.size) (hrd:rdArr w' (Zc w0 Z0 nm st.objs w) nv e t xs) :
 Rel n w0 Z0 ⟨st.slots,ins dst (.arr ver false e t xs) st.objs⟩ a w' (setN nm dst nv) ∧
  rdD w' (Zc w0 Z0 (setN nm dst nv) (ins dst (.arr ver false e t xs) st.objs) w') (setN nm dst nv) (ins dst (.arr ver false e t xs) st.objs) (.one (.own dst ver)) nv:=by
 have hst:Stays nm dst nv (look st.objs dst) (.arr ver false e t xs):=by
  unfold verOf at hver
  split at hver
  ·rename_i h1;rw [h1];trivial
  ·rename_i v fz e' t' xs' h1
   rw [h1]
   cases hver
   exact fun hh=>absurd hh (by omega)
  ·cases hver
 refine ⟨h.upd dst _ nv hmay hst ⟨hs.os,hs.tape,hs.output,hs.size⟩ (fun b hb => .inr (hs.block b hb)) (fun b hb => .inr (hnv b hb)) ?_,?_⟩
 ·show rdArr w' _ (setN nm dst nv dst) e t xs
  rw [jW]
  refine VQ ?_ (fun _ _=>rfl) hrd
  rintro b ⟨z1,z2,z3⟩
  refine ⟨⟨Nat.lt_of_lt_of_le z1 hs.size,z2,?_⟩,fun _ _ hu=>hu⟩
  rintro ⟨j,ob,y1,y2,y3⟩
  by_cases hj:dst=j
  ·subst hj
   rw [jW] at y3
   have:=hnv b y3
   omega
  ·rw [Jl,if_neg hj] at y1
   rw [ka _ _ (Ne.symm hj)] at y3
   exact z3 ⟨j,ob,y1,y2,y3⟩
 ·refine ⟨?_,fun fz e t xs hl=>(jW _ _ _).symm⟩
  rcases hrd with ⟨_,cells,hown,_⟩ | ⟨_,_,_,_,b,_,_,e1,_⟩
  ·rcases hown.2 with ⟨e1,_⟩ | ⟨g,cap,cur,e1,_⟩ <;> rw [e1] <;> rfl
  ·rw [e1];rfl
theorem Good.newArrG (h:Rel n w0 Z0 st a w nm) {w':World} {ver:Nat} {e:TypeId} {t:Ty} {xs:List t.den} {nv:Value}
 (hver:verOf (look st.objs) dst=some ver) (hrun:(execOp a.eval o).run P w = .ok (.value nv) w') (hs:Same w w')
 (hnv : ∀ b,hasB nv b→w.heap.size≤b∧b < w'.heap.size) (hrd:rdArr w' (Zc w0 Z0 nm st.objs w) nv e t xs) :
 Good P n w0 Z0 st a w o ⟨.one (.own dst ver),[(dst,.arr ver false e t xs)]⟩:=by
 intro st' hl
 obtain ⟨hmay,rfl⟩:=kF hl
 obtain ⟨q1,q2⟩:=h.newArrG hver hmay hs hnv hrd
 exact Does.of_run hrun ⟨_,q1,q2⟩
theorem Rel.newArr (h:Rel n w0 Z0 st a w nm) {w':World} {ver:Nat} {e:TypeId} {t:Ty} {xs:List t.den} {nv:Value} (hm:t.isMap=false)
 (hver:verOf (look st.objs) dst=some ver) (hmay:mayOb st dst (.arr ver false e t xs)=true) (hs:Same w w')
 (hnv : ∀ b,hasB nv b→w.heap.size≤b∧b < w'.heap.size) {cells:List Value} (hown:w'.ownsM e t.cells nv xs.length cells) (hrd:rdAll (rdC w' (Zc w0 Z0 nm st.objs w) t) cells xs) :
 Rel n w0 Z0 ⟨st.slots,ins dst (.arr ver false e t xs) st.objs⟩ a w' (setN nm dst nv) ∧
  rdD w' (Zc w0 Z0 (setN nm dst nv) (ins dst (.arr ver false e t xs) st.objs) w') (setN nm dst nv) (ins dst (.arr ver false e t xs) st.objs) (.one (.own dst ver)) nv:=
 h.newArrG hver hmay hs hnv (.inl ⟨hm,cells,hown,hrd⟩)
theorem Good.newArr (h:Rel n w0 Z0 st a w nm) {w':World} {ver:Nat} {e:TypeId} {t:Ty} {xs:List t.den} {nv:Value} (hm:t.isMap=false)
 (hver:verOf (look st.objs) dst=some ver) (hrun:(execOp a.eval o).run P w = .ok (.value nv) w') (hs:Same w w')
 (hnv : ∀ b,hasB nv b→w.heap.size≤b∧b < w'.heap.size) {cells:List Value} (hown:w'.ownsM e t.cells nv xs.length cells) (hrd:rdAll (rdC w' (Zc w0 Z0 nm st.objs w) t) cells xs) :
 Good P n w0 Z0 st a w o ⟨.one (.own dst ver),[(dst,.arr ver false e t xs)]⟩:=
 Good.newArrG h hver hrun hs hnv (.inl ⟨hm,cells,hown,hrd⟩)
theorem Rel.newDeep (h:Rel n w0 Z0 st a w nm) {w':World} {ver:Nat} {e te:TypeId} {t:Ty} {xs:List t.den} {nv:Value}
 (hver:verD (look st.objs) dst=some ver) (hmay:mayOb st dst (.deep ver false e te t xs none)=true) (hs:Same w w')
 (hnv : ∀ b,hasB nv b→w.heap.size≤b∧b < w'.heap.size) (hrd:rdDeep w' (Zc w0 Z0 nm st.objs w) nv e te t xs) :
 Rel n w0 Z0 ⟨st.slots,ins dst (.deep ver false e te t xs none) st.objs⟩ a w' (setN nm dst nv):=by
 have hl:Jh st [(dst,.deep ver false e te t xs none)]=some ⟨st.slots,ins dst (.deep ver false e te t xs none) st.objs⟩:=by simp only [Jh,hmay,cond_true]
 refine h.updM _ hl rfl (fun j hj=>ka _ _ (Ne.symm (hj _ (List.mem_cons_self ..)))) ?_ ⟨hs.os,hs.tape,hs.output,hs.size⟩ (fun b hb => .inr (hs.block b hb)) ?_ ?_ (fun hk => ?_)
 ·simp only [List.forall_mem_cons,List.not_mem_nil,false_imp_iff,implies_true,and_true]
  unfold verD at hver
  split at hver
  ·rename_i h1;rw [h1];trivial
  ·rename_i h1;rw [h1];cases hver;exact fun hh=>absurd hh (by omega)
  ·cases hver
 ·simp only [List.forall_mem_cons,List.not_mem_nil,false_imp_iff,implies_true,and_true,jW]
  exact fun b hb => .inr (hnv b hb)
 ·simp
 ·simp only [List.forall_mem_cons,List.not_mem_nil,false_imp_iff,implies_true,and_true]
  show rdDeep w' _ (setN nm dst nv dst) e te t xs
  rw [jW]
  exact kX (fun b hb=>⟨(hk b hb).1,fun _ _ hu=>hu⟩) (fun _ _=>rfl) hrd
theorem Good.newDeep (h:Rel n w0 Z0 st a w nm) {w':World} {ver:Nat} {e te:TypeId} {t:Ty} {xs:List t.den} {nv:Value}
 (hver:verD (look st.objs) dst=some ver) (hrun:(execOp a.eval o).run P w = .ok (.value (hdr nv)) w') (hs:Same w w') (hone:(hdr nv).oneCell'=true)
 (hnv : ∀ b,hasB nv b→w.heap.size≤b∧b < w'.heap.size) (hrd:rdDeep w' (Zc w0 Z0 nm st.objs w) nv e te t xs) :
 Good P n w0 Z0 st a w o ⟨.one (.down dst ver),[(dst,.deep ver false e te t xs none)]⟩:=by
 intro st' hl
 obtain ⟨hmay,rfl⟩:=kF hl
 exact Does.of_run hrun ⟨setN nm dst nv,h.newDeep hver hmay hs hnv hrd,hone,fun _ _ _ _ _ _ _=>(congrArg hdr (jW nm dst nv)).symm⟩
theorem UH {w:World} {Z:Nat→Prop} {e te:TypeId} {t:Ty}:rdDeep w Z (.tuple #[.slice none 0 0]) e te t [] ∧ ∀ b,¬ hasB (.tuple #[.slice none 0 0]) b:=by
 refine ⟨⟨.slice none 0 0,[],[],rfl,Vj w e t.cells,⟨rfl,rfl⟩,by simp [kD]⟩,fun b hb => ?_⟩
 obtain ⟨u,h1,h2⟩:=hb
 simp at h1
 subst h1
 cases h2
theorem eff_assign {x:Operand} (ho:o.op = .assign x):EffOk P G o:=by
 intro hT n w0 w Z0 st a nm dst ρ k r h he
 unfold effK at he
 rw [ho] at he
 simp only at he
 split at he
 ·rename_i hd
  cases hm:keepNil G x dst with
  | true=>
    rw [hm] at he
    exact ⟨_,he,Good.pure h (v:=a.eval x) (by simp [execOp,ho]) (ev_rd h hd)⟩
  | false=>
  rw [hm] at he
  simp only [cond_false] at he
  split at he
  ·rename_i t e b htab
   split at he
   ·rename_i te hte
    split at he
    ·rename_i ver hver
     have hv:a.eval x = .slice none 0 0:=ev_rd h hd
     exact ⟨_,he,Good.newDeep h hver (nv:=.tuple #[.slice none 0 0]) (w':=w) (by simp [execOp,ho,hv,hdr]) (Same.refl w) rfl (fun b hb=>absurd hb ((UH (w:=w) (Z:=fun _=>True) (e:=e) (te:=te) (t:=t)).2 b)) UH.1⟩
    ·cases he
   split at he
   ·rename_i ver hver
    have hv:=ev_rd h hd
    refine ⟨_,he,Good.newArr h (Vn hT htab) hver (nv:=.slice none 0 0) (w':=w) (cells:=[]) ?_ (Same.refl w) (fun b hb=>by cases hb) ⟨by simp,.inl ⟨rfl,rfl⟩⟩ rfl⟩
    have hv:a.eval x = .slice none 0 0:=hv
    simp [execOp,ho,hv]
   ·cases he
  ·cases he
 ·rename_i d _ hd
  exact ⟨_,he,Good.pure h (v:=a.eval x) (by simp [execOp,ho]) (ev_rd h hd)⟩
 ·cases he
theorem rdAll_replicate {w:World} {Z:Nat→Prop} {t:Ty} {z:List Value} (hz:JJ t z) : ∀ (m:Nat),rdAll (rdC w Z t) (List.replicate m z).flatten (List.replicate m t.zero)
 | 0=>rfl
 | m+1=>⟨z,(List.replicate m z).flatten,by simp [List.replicate_succ],kZ t hz,rdAll_replicate hz m⟩
theorem made_take {z:Array Value} (hz:0 < z.size) (m c:Nat) (hmc:m≤c):((madeCells z (c*z.size)).toList.take (m*z.size))=(List.replicate m z.toList).flatten:=by
 apply List.ext_getElem?
 intro i
 have hlen:((List.replicate m z.toList).flatten).length=m*z.size:=by simp
 rw [List.getElem?_take]
 by_cases hi:i < m*z.size
 ·have hc:i < c*z.size:=Nat.lt_of_lt_of_le hi (Nat.mul_le_mul_right _ hmc)
  have hmod:i % z.size < z.size:=Nat.mod_lt _ hz
  rw [if_pos hi]
  have h1:(madeCells z (c*z.size)).toList[i]? = some z[i % z.size]:=by
   simp [madeCells,hc,hmod]
  rw [h1]
  have : ∀ (m i:Nat),i < m*z.size→((List.replicate m z.toList).flatten)[i]? = some z[i % z.size]!:=by
   intro m
   induction m with
   | zero=>intro i hi;simp at hi
   | succ m ih=>
     intro i hi
     rw [List.replicate_succ,List.flatten_cons]
     by_cases hlt:i < z.size
     ·rw [List.getElem?_append_left (by simpa using hlt)]
      simp [hlt,Nat.mod_eq_of_lt hlt]
     ·rw [List.getElem?_append_right (by simpa using hlt)]
      rw [Array.length_toList,ih (i - z.size) (by rw [Nat.succ_mul] at hi;omega)]
      rw [Nat.mod_eq_sub_mod (by omega:z.size≤i)]
  rw [this m i hi]
  simp [hmod]
 ·rw [if_neg hi,List.getElem?_eq_none (by rw [hlen];omega)]
theorem zero_rdI {w:World} {Z:Nat→Prop} {te:TypeId} : ∀ {t:Ty} {cs:List Value},t.dpo=true→JJ t cs → ∃ us,rdI w Z te t cs t.zero us ∧ ∀ u∈us,blk u=none:=by
 intro t
 induction t with
 | sl s ih=>
   intro cs hd hz
   have hz:=hz.1
   simp only [Ty.dpo,Bool.not_eq_true'] at hd
   exact ⟨[.slice none 0 0],⟨hd,.slice none 0 0,[],hz,rfl,Vj w te s.cells,rfl⟩,fun u hu=>by rw [List.mem_singleton.1 hu];rfl⟩
 | st t ih=>exact fun hd hz=>ih hd hz
 | pair a b iha ihb=>
   rintro cs hd ⟨c1,c2,h1,h2,h3⟩
   simp only [Ty.dpo,Bool.and_eq_true] at hd
   obtain ⟨u1,k1,k2⟩:=iha hd.1 h2
   obtain ⟨u2,k3,k4⟩:=ihb hd.2 h3
   exact ⟨u1++u2,⟨c1,c2,u1,u2,h1,rfl,k1,k3⟩,fun u hu=>(List.mem_append.1 hu).elim (k2 u) (k4 u)⟩
 | _=>exact fun hd hz=>⟨_,⟨hd,kZ _ hz,rfl⟩,fun u hu=>by obtain ⟨_,_,rfl⟩:=List.mem_map.1 hu;rfl⟩
theorem zero_rdIs {w:World} {Z:Nat→Prop} {te:TypeId} {t:Ty} {z:List Value} (hd:t.dpo=true) (hz:JJ t z) : ∀ m:Nat,∃ us,rdIs w Z te t (List.replicate m z).flatten (List.replicate m t.zero) us ∧ ∀ u∈us,blk u=none
 | 0=>⟨[],⟨rfl,rfl⟩,fun u hu=>by cases hu⟩
 | m+1=>by
   obtain ⟨u1,k1,k2⟩:=zero_rdI (w:=w) (Z:=Z) (te:=te) hd hz
   obtain ⟨u2,k3,k4⟩:=zero_rdIs (w:=w) (Z:=Z) (te:=te) hd hz m
   exact ⟨u1++u2,⟨z,_,u1,u2,by simp [List.replicate_succ],rfl,k1,k3⟩,fun u hu=>(List.mem_append.1 hu).elim (k2 u) (k4 u)⟩
theorem apart_none {hd:Value} {us:List Value} (h : ∀ u∈us,blk u=none):kD (hd::us):=by
 unfold kD
 refine List.pairwise_cons.2 ⟨fun u hu b _=>by rw [h u hu];simp,?_⟩
 exact List.Pairwise.imp_of_mem (R:=fun _ _=>True) (fun hu _ _ b hb=>by rw [h _ hu] at hb;cases hb) (List.pairwise_of_forall fun _ _=>trivial)
theorem eff_makeSlice {t:TypeId} {l c:Operand} (ho:o.op = .makeSlice t l c):EffOk P G o:=by
 intro hT n w0 w Z0 st a nm dst ρ k r h he
 unfold effK at he
 rw [ho] at he
 simp only at he
 split at he
 ·rename_i s e by_ htab
  obtain ⟨hu,i,z,g1,g2,g3,g4,g5,g6⟩:=kM hT htab
  obtain ⟨m,he,hm⟩:=JT h he
  obtain ⟨q,he,hq⟩:=JT h he
  obtain ⟨_,hb,he⟩:=ju he
  have hb:=JB hb
  simp only [Bool.and_eq_true,decide_eq_true_eq] at hb
  have hzl:z.cells.size=s.cells:=by have:=kE s g5;simpa using this
  have hown:(w.alloc (.cells (madeCells z.cells (q.toNat*i.size)) e)).ownsM e s.cells (.slice (some ⟨w.heap.size,0,none⟩) m.toNat q.toNat) (List.replicate m.toNat s.zero).length (List.replicate m.toNat z.cells.toList).flatten:=by
   refine ⟨by simp [hzl],.inr ⟨w.heap.size,q.toNat,madeCells z.cells (q.toNat*i.size),by simp,.of (heap_alloc_new w _),?_,?_,?_,?_⟩⟩
   ·simp;omega
   ·simp only [maxLen];omega
   ·rw [size_madeCells,g2]
   ·rw [List.length_replicate,g2,← hzl]
    exact made_take (by omega) _ _ (by omega)
  obtain ⟨j1,e1⟩ : ∃ j,a.eval l = .int j m:=by
   rcases hm with ⟨hn,_⟩ | ⟨y,j,hy,e⟩
   ·cases hn
   ·cases hy;exact ⟨j,e⟩
  obtain ⟨j2,e2⟩ : ∃ j,a.eval c = .int j q:=by
   rcases hq with ⟨hn,_⟩ | ⟨y,j,hy,e⟩
   ·cases hn
   ·cases hy;exact ⟨j,e⟩
  have hrun:=run_make (P:=P) w t e i z hu g1 g4 j1 j2 m q hb.1.1.1 hb.1.1.2 (by rw [g3,Int.mul_comm];omega) (by omega)
  split at he
  ·rename_i te hte
   split at he
   ·rename_i ver hver
    cases hdp:s.dpo with
    | false=>rw [hdp] at he;cases he
    | true=>
      rw [hdp] at he
      obtain ⟨us,k1,k2⟩:=zero_rdIs (w:=w.alloc (.cells (madeCells z.cells (q.toNat*i.size)) e)) (Z:=Zc w0 Z0 nm st.objs w) (te:=te) hdp g5 m.toNat
      refine ⟨_,he,Good.newDeep h hver (nv:=.tuple (.slice (some ⟨w.heap.size,0,none⟩) m.toNat q.toNat::us).toArray) (by rw [JR];simp [execOp,ho,e1,e2,hrun]) (Same.alloc w _) (by rw [JR];rfl) (fun b hb => ?_) ⟨_,us,_,rfl,hown,k1,apart_none k2⟩⟩
      rw [km] at hb
      obtain ⟨u,hu,hb⟩:=hb
      rcases List.mem_cons.1 hu with rfl | hu
      ·simp only [blk,Option.some.injEq] at hb
       subst hb
       exact ⟨Nat.le_refl _,by simp⟩
      ·rw [k2 u hu] at hb;cases hb
   ·cases he
  split at he
  ·rename_i ver hver
   refine ⟨_,he,Good.newArr h (Vn hT htab) hver (nv:=.slice (some ⟨w.heap.size,0,none⟩) m.toNat q.toNat) (w':=w.alloc (.cells (madeCells z.cells (q.toNat*i.size)) e)) (cells:=(List.replicate m.toNat z.cells.toList).flatten) (by simp [execOp,ho,e1,e2,hrun]) (Same.alloc w _) (fun b hb => ?_) hown (rdAll_replicate g5 _)⟩
   have hb:blk _=some _:=hb
   simp only [blk,Option.some.injEq] at hb
   subst hb
   exact ⟨Nat.le_refl _,by simp⟩
  ·cases he
 ·cases he
end
end Go.Ql
end

section
set_option linter.unusedSectionVars false
namespace Go.Ql
open Go.Lib
section
variable [GInv] {P:Program} {G:Env} {n:Nat} {w0 w:World} {Z0:Bs} {st:St} {a:Act} {nm:Names} {o:Oper} {dst:Nat} {ρ:Type} {k:Eff→Option ρ} {r:ρ}
theorem bytes_rd' (Z:Nat→Prop) (bs:List UInt8):rdAll (rdC w Z (.int .u8)) (Lib.strCells ⟨bs.toArray⟩) (bs.map fun b=>(b.toNat:Int)):=by
 have e:Lib.strCells ⟨bs.toArray⟩=(bs.map fun b=>(b.toNat:Int)).map (Value.int .u8):=by
  simp [Lib.strCells,List.map_map,Function.comp_def]
 rw [e]
 exact rdAll_ints w Z .u8 _
theorem eff_move {x:Operand} (ho:o.op = .move x):EffOk P G o:=by
 intro hT n w0 w Z0 st a nm dst ρ k r h he
 unfold effK at he
 rw [ho] at he
 simp only at he
 have hrun:(execOp a.eval o).run P w = .ok (.value (a.eval x)) w:=by simp [execOp,ho]
 split at he
 ·rename_i id ver hd
  cases hm:memN (coldId dst) G.muts with
  | false=>
    rw [hm] at he
    simp only [cond_false] at he
    exact ⟨_,he,Good.pure h hrun (ev_rd h hd)⟩
  | true=>
    rw [hm] at he
    simp only [cond_true] at he
    split at he
    ·rename_i v fz e s xs hob
     cases hv:(Nat.beq v ver && !s.isMap) with
     | false=>rw [hv] at he;cases he
     | true=>
       rw [hv] at he
       rw [Bool.and_eq_true,Bool.not_eq_true'] at hv
       obtain ⟨hv,hmap⟩:=hv
       have:=beqN.1 hv
       subst this
       simp only [cond_true] at he
       refine ⟨_,he,fun st' hl => ?_⟩
       obtain ⟨hmay,rfl⟩:=kF hl
       obtain ⟨hrel,_⟩:=h.freeze hob
       have hv1:a.eval x=nm id:=(ev_rd h hd).2 fz e s xs hob
       refine Does.of_run hrun ⟨nm,hrel,?_⟩
       rw [hv1]
       exact cold_rd hrel hmap (v:=v) (e:=e) (xs:=xs) (by show look (ins id _ st.objs) id=_;rw [Jl,if_pos rfl])
    ·cases he
 ·rename_i d _ hd
  exact ⟨_,he,Good.pure h hrun (ev_rd h hd)⟩
 ·cases he
theorem eff_convert {xt yt:TypeId} {x:Operand} (ho:o.op = .convert xt yt x):EffOk P G o:=by
 intro hT n w0 w Z0 st a nm dst ρ k r h he
 unfold effK at he
 rw [ho] at he
 simp only at he
 have hx : ∀ v v':Value,∀ w':World,a.eval x=v→(convert xt yt v).run P w = .ok v' w'→(execOp a.eval o).run P w = .ok (.value v') w':=by
  intro v v' w' h1 h2
  simp [execOp,ho,h1,h2]
 split at he
 ·
  rename_i j1 k1 j2 k2 j3 m h1 h2 h3
  have u1:=UK hT h1 rfl
  have u2:=UK hT h2 rfl
  exact ⟨_,he,Good.pure h (v:=.int j2 (j2.wrap m)) (hx _ _ w (Yk h h3) (by simp [convert,run_underlying u1,run_underlying u2,Conv.intToInt])) (rd_vI ..)⟩
 ·rename_i k1 k2 s h1 h2 h3
  have u1:=VF hT h1 rfl
  have u2:=VF hT h2 rfl
  exact ⟨_,he,Good.pure h (v:=.string ⟨s.toArray⟩) (hx _ _ w (Uh h h3) (by simp [convert,run_underlying u1,run_underlying u2])) (rd_vS ..)⟩
 ·
  rename_i e b1 k2 d h1 h2 h3
  split at he
  ·rename_i k3 h4
   obtain ⟨u1,_⟩:=kM hT h1
   have u2:=VF hT h2 rfl
   have u3:=UK hT h4 rfl
   have key : ∀ xs:List Int,rdS w (Zc w0 Z0 nm st.objs w) (.int .u8) (a.eval x) xs→(execOp a.eval o).run P w = .ok (.value (.string ⟨(List.map (fun n=>UInt8.ofNat n.toNat) xs).toArray⟩)) w:=by
    intro xs hr
    rcases hr with ⟨e1,rfl⟩ | ⟨b,off,cap,cells,e1,e2,e3,e4,e5⟩ | ⟨ad,cap,e1,rfl,_⟩
    ·refine hx _ _ w e1 ?_
     rw [run_convert_bytes_string w xt yt e none 0 0 u1 u3 u2]
     rfl
    rotate_left
    ·refine hx _ _ w e1 ?_
     rw [run_convert_bytes_string w xt yt e _ _ _ u1 u3 u2]
     rw [run_bytesToString w _ 0 cap []]
     ·rfl
     ·exact run_loadCells_list (P:=P) (w:=w) ad [] (fun j v hj=>by simp at hj)
    ·have hc:=rdAll_int e4
     subst hc
     refine hx _ _ w e1 ?_
     rw [run_convert_bytes_string w xt yt e _ _ _ u1 u3 u2]
     rw [run_bytesToString w _ xs.length cap xs]
     ·rw [foldl_push]
     ·have:=run_loadCells_list (P:=P) (w:=w) ⟨b,off,none⟩ (xs.map (Value.int .u8)) (fun j v hj=>by rw [Addr.add_lit];exact e5 j v hj)
      rw [List.length_map] at this
      exact this
   split at he
   ·exact ⟨_,he,Good.pure h (key [] (.inl ⟨ev_rd h h3,rfl⟩)) (rd_vS ..)⟩
   ·obtain ⟨t,xs,q1,q2⟩:=YE h h3 he
    split at q1
    ·rename_i xs'
     exact ⟨_,q1,Good.pure h (key _ q2) (rd_vS ..)⟩
    ·cases q1
  ·cases he
 ·
  rename_i e b1 k2 id ver h1 h2 h3
  split at he
  ·rename_i k3 v e' s xs h4 hob
   cases hv:(Nat.beq xt yt && Nat.beq v ver && !s.isMap) with
   | false=>rw [hv] at he;cases he
   | true=>
     rw [hv] at he
     rw [Bool.and_eq_true,Bool.and_eq_true,Bool.not_eq_true'] at hv
     obtain ⟨⟨hxy,hv⟩,hmap⟩:=hv
     have:=beqN.1 hxy
     subst this
     have:=beqN.1 hv
     subst this
     simp only [cond_true] at he
     obtain ⟨_,hb,he⟩:=ju he
     have hb:=JB hb
     obtain ⟨u1,_⟩:=kM hT h1
     have u3:=UK hT h4 rfl
     have hv1:a.eval x=nm id:=(ev_rd h h3).2 false e' s xs hob
     refine ⟨_,he,?_⟩
     obtain ⟨cells,p1,p2⟩:=(h.objs id _ hob).sl hmap
     rcases p1.2 with ⟨_,q2⟩ | ⟨g,cap,cur,q1,q2,q3⟩
     ·have:xs=[]:=List.eq_nil_of_length_eq_zero q2
      subst this
      cases hb
     ·intro st' hl
      obtain ⟨hmay,rfl⟩:=kF hl
      have hblk:hasB (nm id) g:=by rw [q1];exact rfl
      have hrun:=run_convert_mark (P:=P) q2 u1 u3 (List.length xs) cap
      have hsz:(w.freeze ⟨g,cur.size,none⟩ 1).heap.size=w.heap.size:=by
       unfold World.freeze
       split
       ·rfl
       ·exact Array.size_modify
      have hos:(w.freeze ⟨g,cur.size,none⟩ 1).os=w.os∧(w.freeze ⟨g,cur.size,none⟩ 1).tape=w.tape∧(w.freeze ⟨g,cur.size,none⟩ 1).output=w.output∧w.drawn≤(w.freeze ⟨g,cur.size,none⟩ 1).drawn:=by
       unfold World.freeze
       split <;> exact ⟨rfl,rfl,rfl,Nat.le_refl _⟩
      have hother : ∀ k,k≠g→(w.freeze ⟨g,cur.size,none⟩ 1).heap[k]? = w.heap[k]?:=fun k hk=>freeze_other _ _ _ hk
      refine Does.of_run (hx _ _ _ (hv1.trans q1) hrun) ⟨setN nm id (nm id),?_,?_⟩
      ·refine h.upd id _ _ hmay (by rw [hob];exact fun _=>⟨rfl,rfl,rfl,rfl⟩) ⟨hos.1,hos.2.1,hos.2.2.1,by rw [hsz];exact Nat.le_refl _⟩ (fun b2 hb2 => ?_) (fun b2 hb2 => .inl ⟨hb2,_,hob,.inl rfl⟩) ?_
       ·by_cases hbb:b2=g
        ·subst hbb;exact .inl ⟨_,hob,rfl,hblk⟩
        ·exact .inr (hother b2 hbb)
       ·rw [kO]
        refine .inl ⟨hmap,cells,⟨p1.1,.inr ⟨g,cap,cur,q1,q2.mark,q3⟩⟩,?_⟩
        refine JK (fun _ _=>JD ?_ s) p2
        rintro b2 ⟨z1,z2,z3⟩
        refine ⟨⟨by rw [hsz];exact z1,z2,?_⟩,UD (hother b2 (fun hh=>z3 ⟨id,_,hob,rfl,hh ▸ hblk⟩))⟩
        rintro ⟨j,ob,y1,y2,y3⟩
        by_cases hj:id=j
        ·subst hj;exact z3 ⟨id,_,hob,rfl,y3⟩
        ·rw [Jl,if_neg hj] at y1
         exact z3 ⟨j,ob,y1,y2,y3⟩
      ·rw [kO,← q1]
       exact ⟨by rw [q1];rfl,fun _ _ _ _ _=>rfl⟩
  ·cases he
 ·
  rename_i k1 e b1 s h1 h2 h3
  split at he
  ·rename_i k3 h4
   obtain ⟨u2,_⟩:=kM hT h2
   have u1:=VF hT h1 rfl
   have u3:=UK hT h4 rfl
   obtain ⟨_,hb,he⟩:=ju he
   have hb:=of_decide_eq_true (JB hb)
   have e1:=Uh h h3
   have hrun:=run_convert_string_bytes w xt yt e ⟨s.toArray⟩ u1 u2 u3
   have hsize:=bytesWorld_size w e ⟨s.toArray⟩
   have hsame:Same w (bytesWorld w e ⟨s.toArray⟩):=⟨rfl,rfl,rfl,by rw [hsize];omega,fun b hb=>bytesWorld_at_old w e _ b hb⟩
   cases hm:memN dst G.muts with
   | true=>
     rw [hm] at he
     simp only [cond_true] at he
     split at he
     ·rename_i ver hver
      have ho:=bytes_own w e ⟨s.toArray⟩ (by rw [VE];simp only [kz,maxLen] at hb ⊢;omega)
      have hlen:(s.map fun b=>(b.toNat:Int)).length=s.length:=List.length_map ..
      have ho:(bytesWorld w e ⟨s.toArray⟩).ownsM e (Ty.int IntKind.u8).cells (.slice (some ⟨w.heap.size,0,none⟩) (⟨s.toArray⟩:ByteArray).size (grownCap w (⟨s.toArray⟩:ByteArray).size 0 e))
       (s.map fun b=>(b.toNat:Int)).length (strCells ⟨s.toArray⟩):=by
       rw [hlen]
       exact ho
      refine ⟨_,he,Good.newArr h rfl hver (hx _ _ _ e1 hrun) hsame (fun b hb => ?_) ho (bytes_rd' _ s)⟩
      have hb:blk _=some _:=hb
      simp only [blk,Option.some.injEq] at hb
      subst hb
      exact ⟨Nat.le_refl _,by rw [hsize];omega⟩
     ·cases he
   | false=>
   rw [hm] at he
   simp only [cond_false] at he
   refine ⟨_,he,Good.grow h (hx _ _ _ e1 hrun) hsame ?_⟩
   refine ⟨_,rfl,.inr (.inl ⟨w.heap.size,0,grownCap w (⟨s.toArray⟩:ByteArray).size 0 e,(s.map fun b=>(b.toNat:Int)).map (Value.int .u8),?_,?_,?_,?_,?_,?_⟩)⟩
   ·simp [VE]
   ·have:=grownCap_ge w (⟨s.toArray⟩:ByteArray).size 0 e
    simpa [VE] using this
   ·refine grownCap_le_maxLen w _ 0 e ?_
    rw [VE]
    simp only [kz,maxLen] at hb ⊢
    omega
   ·refine ⟨by rw [hsize];omega,fun hlt=>absurd hlt (by have:=h.same.size;omega),?_⟩
    rintro ⟨id,ob,q1,q2,q3⟩
    have:=(h.new id ob _ q1 q3).2
    omega
   ·exact rdAll_ints _ _ _ _
   ·intro j u hj
    simp only [List.map_map,List.getElem?_map,Option.map_eq_some_iff,Function.comp_apply] at hj
    obtain ⟨c,hc,rfl⟩:=hj
    have hlt:j < (⟨s.toArray⟩:ByteArray).size:=by rw [VE];exact (List.getElem?_eq_some_iff.1 hc).1
    rw [Nat.zero_add,bytesWorld_cell w e ⟨s.toArray⟩ j hlt]
    simp [List.getD_eq_getElem?_getD,hc]
  ·cases he
 ·cases he
end
end Go.Ql
end

section
set_option linter.unusedSectionVars false
namespace Go.Ql
section
def kvE (x:MapEntry):Value×Value:=(x.key,x.val)
def kvP (j u:IntKind) (p:Int×Int):Value×Value:=(.int j p.1,.int u p.2)
theorem find_ints {j u:IntKind} (n:Int) : ∀ (l:List (Int×Int)) (es:List MapEntry) (i:Nat),es.map kvE=l.map (kvP j u) →
 (mfind l n=none∧Instr.findNow (.int j) (.int j n) es i=some none ∧ ∀ y,mset l n y=l++[(n,y)]) ∨
 ∃ y p e,mfind l n=some y∧Instr.findNow (.int j) (.int j n) es i=some (some (i+p,.int u y))∧es[p]? = some e∧e.key = .int j n ∧
  ∀ y':Int,(es.modify p fun e=>{ e with key:=.int j n,val:=.int u y' }).map kvE=(mset l n y').map (kvP j u)
 | [],es,i,h=>by
   have:es=[]:=by simpa using h
   subst this
   exact .inl ⟨rfl,rfl,fun _=>rfl⟩
 | q::l,[],i,h=>by simp at h
 | q::l,e::es,i,h=>by
   simp only [List.map_cons,List.cons.injEq] at h
   obtain ⟨h1,h2⟩:=h
   have hk:e.key = .int j q.1:=congrArg Prod.fst h1
   have hv:e.val = .int u q.2:=congrArg Prod.snd h1
   by_cases hq:q.1=n
   ·refine .inr ⟨q.2,0,e,?_,?_,rfl,by rw [hk,hq],fun y' => ?_⟩
    ·simp [mfind,hq]
    ·simp [Instr.findNow,Instr.sameNow,hk,hq,hv]
    ·simp only [mset,hq,decide_true,cond_true,List.modify_zero_cons,List.map_cons,h2,kvE,kvP]
   ·have hn : ¬ n=q.1:=fun e=>hq e.symm
    have hs:Instr.sameNow (.int j) (.int j n) e.key=some false:=by rw [hk];simp [Instr.sameNow,hn]
    rcases find_ints n l es (i+1) h2 with ⟨g1,g2,g3⟩ | ⟨y,p,e',g1,g2,g3,g4,g5⟩
    ·refine .inl ⟨?_,?_,fun y => ?_⟩
     ·simp [mfind,hq,g1]
     ·simp only [Instr.findNow,hs,g2]
     ·simp [mset,hq,g3]
    ·refine .inr ⟨y,p+1,e',?_,?_,by simpa using g3,g4,fun y' => ?_⟩
     ·simp [mfind,hq,g1]
     ·simp only [Instr.findNow,hs,g2]
      rw [show i+1+p=i+(p+1) by omega]
     ·simp only [mset,hq,decide_false,cond_false,List.modify_succ_cons,List.map_cons,g5,h1]
variable {P:Program} {w:World} {t k e:TypeId} {j u:IntKind} {b:Nat} {es:Array MapEntry} {clock:Nat} {l:List (Int×Int)}
theorem run_makeMap (t:TypeId):(Instr.makeMap t none).run P w = .ok (.map (some w.heap.size)) (w.alloc (.map #[] 0)):=by
 simp [Instr.makeMap]
theorem run_checkKey (hk:P.underlying k=some (.int j)) (m:Bool) (q:Nat) (n:Int):(Instr.checkKey m (q+1) k (.int j n)).run P w = .ok () w:=by
 simp [Instr.checkKey,run_underlying hk]
theorem run_lookup_int (ht:P.underlying t=some (.map k e)) (hk:P.underlying k=some (.int j)) {i:TypeInfo} (hi:P.info? e=some i) (hz:i.zero=some (.int u 0))
 (hb:w.heap[b]? = some (.map es clock)) (hl:es.toList.map kvE=l.map (kvP j u)) (n:Int) (ok:Bool) :
 (Instr.lookup t (.map (some b)) (.int j n) ok).run P w = .ok (if ok then .tuple #[.int u ((mfind l n).getD 0),.bool (mfind l n).isSome] else .int u ((mfind l n).getD 0)) w:=by
 have hc : ∀ m:Bool,(Instr.checkKey m 10000 k (.int j n)).run P w = .ok () w:=fun m=>run_checkKey hk m 9999 n
 rcases find_ints n l es.toList 0 hl with ⟨g1,g2,_⟩ | ⟨y,p,e',g1,g2,_⟩
 ·have hf:(Instr.findKey k (.int j n) es.toList).run P w = .ok none w:=by simp [Instr.findKey,run_underlying hk,g2]
  cases ok <;> simp [Instr.lookup,run_underlying ht,MapKept.run_getObj_map hb,hc,hf,zeroValue,typeInfo,hi,hz,g1,Result.andThen]
 ·have hf:(Instr.findKey k (.int j n) es.toList).run P w = .ok (some (0+p,.int u y)) w:=by simp [Instr.findKey,run_underlying hk,g2]
  cases ok <;> simp [Instr.lookup,run_underlying ht,MapKept.run_getObj_map hb,hc,hf,g1,Result.andThen]
theorem run_mapUpdate_int (ht:P.underlying t=some (.map k e)) (hk:P.underlying k=some (.int j))
 (hb:w.heap[b]? = some (.map es clock)) (hl:es.toList.map kvE=l.map (kvP j u)) (n y:Int) :
 ∃ es' clock',(Instr.mapUpdate t (.map (some b)) (.int j n) (.int u y)).run P w = .ok () { w with heap:=w.heap.setIfInBounds b (.map es' clock') }∧es'.toList.map kvE=(mset l n y).map (kvP j u):=by
 have hc : ∀ m:Bool,(Instr.checkKey m 10000 k (.int j n)).run P w = .ok () w:=fun m=>run_checkKey hk m 9999 n
 rcases find_ints n l es.toList 0 hl with ⟨g1,g2,g3⟩ | ⟨y0,p,e',g1,g2,g3,g4,g5⟩
 ·have hf:(Instr.findKey k (.int j n) es.toList).run P w = .ok none w:=by simp [Instr.findKey,run_underlying hk,g2]
  refine ⟨es.push { key:=.int j n,val:=.int u y,born:=clock },clock+1,?_,?_⟩
  ·simp [Instr.mapUpdate,run_underlying ht,MapKept.run_getObj_map hb,hc,hf,MapKept.run_setObj_map _ hb,Result.andThen]
  ·rw [g3];simp [hl,kvE,kvP]
 ·have hf:(Instr.findKey k (.int j n) es.toList).run P w = .ok (some (0+p,.int u y0)) w:=by simp [Instr.findKey,run_underlying hk,g2]
  refine ⟨es.modify p fun e=>{ e with key:=.int j n,val:=.int u y },clock,?_,?_⟩
  ·have hke:(es[p]?.map (·.key)).getD (.int j n) = .int j n:=by
    rw [← Array.getElem?_toList,g3]
    exact g4
   have hst:(Instr.keyThatStays (.int j n) (.int j n)).run P w = .ok (.int j n) w:=by simp [Instr.keyThatStays,Instr.sameBits]
   simp [Instr.mapUpdate,run_underlying ht,MapKept.run_getObj_map hb,hc,hf,hke,hst,MapKept.run_setObj_map _ hb,Result.andThen]
  ·rw [Array.toList_modify];exact g5 y
end
section
variable [GInv] {P:Program} {G:Env} {n:Nat} {w0 w:World} {Z0:Bs} {st:St} {a:Act} {nm:Names} {o:Oper} {dst:Nat} {ρ:Type} {k:Eff→Option ρ} {r:ρ}
theorem tab_map {t:TypeId} {kt e:TypeId} {j u:IntKind} (hT:TabOk P G.tab) (hl:look G.tab t=some ⟨.nilv 2,.map kt e j u⟩) :
 P.underlying t=some (.map kt e)∧P.underlying kt=some (.int j) ∧ ∃ i,P.info? e=some i∧i.zero=some (.int u 0):=by
 obtain ⟨_,h1,h2,h3⟩:=(hT _ _ hl).kind
 exact ⟨h1,h2,h3⟩
theorem eff_makeMap {t:TypeId} {c:Option Operand} (ho:o.op = .makeMap t c):EffOk P G o:=by
 intro hT n w0 w Z0 st a nm dst ρ k r h he
 unfold effK at he
 rw [ho] at he
 cases c with
 | some c=>cases he
 | none=>
   simp only at he
   split at he
   ·rename_i kt e j u htab
    split at he
    ·rename_i ver hver
     have hrun:(execOp a.eval o).run P w = .ok (.value (.map (some w.heap.size))) (w.alloc (.map #[] 0)):=by simp [execOp,ho,run_makeMap]
     refine ⟨_,he,Good.newArrG h hver hrun (Same.alloc w _) (fun b hb => ?_) (.inr ⟨j,u,[],rfl,w.heap.size,#[],0,rfl,heap_alloc_new w _,rfl⟩)⟩
     have hb:blk _=some _:=hb
     simp only [blk,Option.some.injEq] at hb
     subst hb
     exact ⟨Nat.le_refl _,by simp⟩
    ·cases he
   ·cases he
theorem eff_lookup {t:TypeId} {x ix:Operand} {ok:Bool} (ho:o.op = .lookup t x ix ok):EffOk P G o:=by
 intro hT n w0 w Z0 st a nm dst ρ k r h he
 unfold effK at he
 rw [ho] at he
 simp only at he
 split at he
 ·rename_i kt e j u id ver j' m h1 h2 h3
  split at he
  ·rename_i v fz e' s xs hob
   split at he
   ·rename_i hs
    subst hs
    cases hv:(Nat.beq v ver && decide (j'=j)) with
    | false=>rw [hv] at he;cases he
    | true=>
      rw [hv] at he
      rw [Bool.and_eq_true] at hv
      have:=beqN.1 hv.1
      subst this
      have:=of_decide_eq_true hv.2
      subst this
      simp only [cond_true] at he
      obtain ⟨g1,g2,i,g3,g4⟩:=tab_map hT h1
      have e1:a.eval x=nm id:=(ev_rd h h2).2 fz e' _ xs hob
      have e2:=Yk h h3
      obtain ⟨l,rfl,b,es,clock,m1,m2,m3⟩:=rdArr.map (h.objs id _ hob)
      have hrun:=run_lookup_int (P:=P) g1 g2 g3 g4 m2 (l:=l) (u:=u) m3 m ok
      have hex:(execOp a.eval o).run P w = .ok (.value (if ok then .tuple #[.int u ((mfind l m).getD 0),.bool (mfind l m).isSome] else .int u ((mfind l m).getD 0))) w:=by
       simp only [execOp,ho,e1,m1,e2,Sem.run_bind,hrun,Result.andThen_ok,Sem.run_pure]
      cases ok with
      | true=>
        refine ⟨_,he,Good.pure h hex ?_⟩
        refine ⟨_,rfl,rfl,fun i' x' v' q1 q2 => ?_⟩
        match i' with
        | 0=>cases q1;cases q2;rfl
        | 1=>cases q1;cases q2;rfl
        | i'+2=>cases q1
      | false=>
        refine ⟨_,he,Good.pure h hex ?_⟩
        exact rd_vI ..
   ·cases he
  ·cases he
 ·cases he
theorem eff_mapUpdate {t:TypeId} {x kx vx:Operand} (ho:o.op = .mapUpdate t x kx vx):EffOk P G o:=by
 intro hT n w0 w Z0 st a nm dst ρ k r h he
 unfold effK at he
 rw [ho] at he
 simp only at he
 split at he
 ·rename_i kt e j u id ver j' m u' y h1 h2 h3 h4
  split at he
  ·rename_i v e' s xs hob
   split at he
   ·rename_i hs
    subst hs
    cases hv:(Nat.beq v ver && decide (j'=j) && decide (u'=u)) with
    | false=>rw [hv] at he;cases he
    | true=>
      rw [hv] at he
      rw [Bool.and_eq_true,Bool.and_eq_true] at hv
      have:=beqN.1 hv.1.1
      subst this
      have:=of_decide_eq_true hv.1.2
      subst this
      have:=of_decide_eq_true hv.2
      subst this
      simp only [cond_true] at he
      obtain ⟨g1,g2,_⟩:=tab_map hT h1
      have e1:a.eval x=nm id:=(ev_rd h h2).2 false e' _ xs hob
      have e2:=Yk h h3
      have e3:=Yk h h4
      obtain ⟨l,rfl,b,es,clock,m1,m2,m3⟩:=rdArr.map (h.objs id _ hob)
      obtain ⟨es',clock',hrun,m4⟩:=run_mapUpdate_int (P:=P) g1 g2 m2 (l:=l) (u:=u') m3 m y
      refine ⟨_,he,?_⟩
      intro st' hl
      obtain ⟨hmay,rfl⟩:=kF hl
      have hblk:hasB (nm id) b:=by rw [m1];exact rfl
      have hlt:b < w.heap.size:=(Array.getElem?_eq_some_iff.1 m2).1
      have hother : ∀ c,c≠b→({ w with heap:=w.heap.setIfInBounds b (.map es' clock') }:World).heap[c]? = w.heap[c]?:=fun c hc=>by
       show (w.heap.setIfInBounds b _)[c]? = _
       rw [Array.getElem?_setIfInBounds,if_neg (Ne.symm hc)]
      have hsame:({ w with heap:=w.heap.setIfInBounds b (.map es' clock') }:World).heap[b]? = some (.map es' clock'):=by
       show (w.heap.setIfInBounds b _)[b]? = _
       rw [Array.getElem?_setIfInBounds,if_pos rfl,if_pos hlt]
      have hundef : ∀ (w:World) (Z:Nat→Prop) (nm:Names) (objs:List (Nat×Ob)),rdD w Z nm objs (.tup []) undef:=fun w Z nm objs=>⟨#[],rfl,Yi⟩
      have hex:(execOp a.eval o).run P w = .ok .skip { w with heap:=w.heap.setIfInBounds b (.map es' clock') }:=by simp [execOp,ho,e1,m1,e2,e3,hrun]
      refine Does.of_skip hex ⟨setN nm id (nm id),?_,hundef _ _ _ _⟩
      refine h.upd id _ _ hmay (by rw [hob];exact fun _=>⟨rfl,rfl,rfl,rfl⟩) ⟨rfl,rfl,rfl,by simp⟩ (fun b2 hb2 => ?_) (fun b2 hb2 => .inl ⟨hb2,_,hob,.inl rfl⟩) ?_
      ·by_cases hbb:b2=b
       ·subst hbb;exact .inl ⟨_,hob,rfl,hblk⟩
       ·exact .inr (hother b2 hbb)
      ·rw [kO]
       exact .inr ⟨j',u',mset l m y,rfl,b,es',clock',m1,hsame,m4⟩
   ·cases he
  ·cases he
 ·cases he
end
end Go.Ql
end
