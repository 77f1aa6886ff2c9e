/- Part of the lifter: values and memory, for any program. -/
import Derived.Test.YtdocfkidnnalnaaGreatDoorLaS
import Derived.Laws.BytesString
import Derived.Lib.ConvBytes
set_option linter.all false
section
namespace Go.Ql
open Go.Lib
section
variable [GInv] {P:Program} {G:Env} {n:Nat} {w0 w:World} {Z0:Bs} {st:St} {a:Act} {nm:JY} {o:Oper} {dst:Nat} {ρ:Type} {k:Eff→Option ρ} {r:ρ}
def eP {t:TypeId} {ti:TI} (hT:Uv P G.tab) (hl:look G.tab t=some ti) (h:ti.ty=.str):P.underlying t=some .string:=by
 obtain ⟨ty,kind⟩:=ti
 simp only at h
 subst h
 have hk:=(hT _ _ hl).kind
 cases kind with
 | scalar=>rcases hk with ⟨h,_⟩ | ⟨_,h,_⟩ | ⟨_,h⟩<;>first | cases h;done | exact h
 | nul=>obtain ⟨_,h,_⟩:=hk;cases h
 | map k e j u=>obtain ⟨h,_⟩:=hk;cases h
 | struct fs=>obtain ⟨s,_,h,_⟩:=hk;cases h
 | slice e b=>obtain ⟨s,_,_,h,_⟩:=hk;cases h
 | arr n e=>obtain ⟨s,_,_,h,_⟩:=hk;cases h
 | other=>exact hk.elim
def uV {t:TypeId} {ti:TI} {j:IntKind} (hT:Uv P G.tab) (hl:look G.tab t=some ti) (h:ti.ty=.int j):P.underlying t=some (.int j):=by
 obtain ⟨ty,kind⟩:=ti
 simp only at h
 subst h
 have hk:=(hT _ _ hl).kind
 cases kind with
 | scalar=>rcases hk with ⟨h,_⟩ | ⟨_,h,h'⟩ | ⟨h,_⟩<;>first | (cases h;done) | (cases h;exact h')
 | nul=>obtain ⟨_,h,_⟩:=hk;cases h
 | map k e j u=>obtain ⟨h,_⟩:=hk;cases h
 | struct fs=>obtain ⟨s,_,h,_⟩:=hk;cases h
 | slice e b=>obtain ⟨s,_,_,h,_⟩:=hk;cases h
 | arr n e=>obtain ⟨s,_,_,h,_⟩:=hk;cases h
 | other=>exact hk.elim
def aM {t:TypeId} {s:Ty} {e:TypeId} {b:Nat} (hT:Uv P G.tab) (hl:look G.tab t=some ⟨.sl s,.slice e b⟩) :
 P.underlying t=some (.slice e) ∧ ∃i z,P.info? e=some i∧i.size=s.cells∧i.bytes=b∧i.zero=some z∧Vc s z.cells.toList∧0<s.cells:=by
 obtain ⟨s',i,z,h1,h2,h3⟩:=(hT _ _ hl).kind
 cases h1
 exact ⟨h2,i,z,h3⟩
def eO {t:TypeId} {s:Ty} {e:TypeId} {b:Nat} (hT:Uv P G.tab) (hl:look G.tab t=some ⟨.sl s,.slice e b⟩):s.wj=false:=by
 obtain ⟨_,i,z,_,_,_,_,h,_⟩:=aM hT hl
 exact gZ h
def xE {t:TypeId} {m:Nat} {s:Ty} {k:TK} (h:TiOk P t ⟨.ar m s,k⟩) (hm:Nat.blt 0 m=true):s.wj=false:=by
 obtain ⟨_,z,_,_,_,h,_⟩:=h.info
 rcases AY h with rfl | ⟨c,hc⟩
 ·cases hm
 ·exact gZ hc
def oX {w:World} {Z:Nat→Prop} {j:IntKind}:∀{xs:List Int} {cells:List Value},YF (kT w Z (.int j)) cells xs→cells=xs.map (Value.int j)
 | [],_,h=>h
 | x::xs,_,⟨c1,c2,e,h1,h2⟩=>by
   have h1:c1=[Value.int j x]:=h1
   rw [e,h1,oX h2];rfl
def tF (w:World) (Z:Nat→Prop) (j:IntKind):∀xs:List Int,YF (kT w Z (.int j)) (xs.map (Value.int j)) xs
 | []=>rfl
 | _::xs=>⟨_,_,rfl,rfl,tF w Z j xs⟩
def CZ (xs:List Int):xs.foldl (fun r n=>r.push (UInt8.ofNat n.toNat)) ByteArray.empty=⟨(xs.map fun n=>UInt8.ofNat n.toNat).toArray⟩:=by
 have:∀(xs:List Int) (s:ByteArray),(xs.foldl (fun r n=>r.push (UInt8.ofNat n.toNat)) s)=⟨(s.data.toList++xs.map fun n=>UInt8.ofNat n.toNat).toArray⟩:=by
  intro xs
  induction xs with
  | nil=>intro s;apply ByteArray.ext;simp
  | cons x xs ih=>intro s;rw [List.foldl_cons,ih];apply ByteArray.ext;simp [ByteArray.push]
 rw [this]
 rfl
def NH {t:TypeId} {ti:TI} (hti:TiOk P t ti) (h:ti.ty.isSt=false):ti.ty.cells=1:=by
 obtain ⟨ty,kind⟩:=ti
 have hk:=hti.kind
 cases kind with
 | scalar=>rcases hk with ⟨rfl,_⟩ | ⟨k,rfl,_⟩ | ⟨rfl,_⟩<;>rfl
 | nul=>obtain ⟨k,rfl,_⟩:=hk;rfl
 | map k e j u=>obtain ⟨rfl,_⟩:=hk;rfl
 | struct fs=>obtain ⟨s,fields,rfl,_⟩:=hk;simp [Ty.isSt] at h
 | slice e b=>obtain ⟨s,i,z,rfl,_⟩:=hk;rfl
 | arr n e=>obtain ⟨s,i,z,rfl,_⟩:=hk;simp [Ty.isSt] at h
 | other=>exact hk.elim
def rC {t:TypeId} {ti:TI} (hti:TiOk P t ti) {Z:Nat→Prop} {q:Nat} {cs:Array Value} {c1 c2 c3:List Value} {d:ti.ty.den} (hr:kT w Z ti.ty c2 d) (hns:ti.ty.isSt=false→ti.ty.cells=1)
 (hc:cs.toList=c1++c2++c3) (hq:c1.length=q) :
 ∃v,(Go.part t cs q).run P w=.ok v w∧Ux w Z ti.ty v d:=by
 have hag:=hti.agg w
 have hsz:=hti.sizeOf w
 have hlen:=Yy _ hr
 have hex:(cs.extract q (q+ti.ty.cells)).toList=c2:=by
  rw [Array.toList_extract,hc,←hq,←hlen]
  simp
 cases hst:ti.ty.isSt with
 | true=>
   rw [hst] at hag
   refine ⟨.agg (cs.extract q (q+ti.ty.cells)),by simp [Go.part,hag,hsz],?_⟩
   obtain ⟨ty,kind⟩:=ti
   cases ty<;>simp only [Ty.isSt,zi] at hst
   ·exact ⟨_,rfl,by rw [hex];exact hr⟩
   ·exact ⟨_,rfl,by rw [hex];exact hr⟩
 | false=>
   rw [hst] at hag
   have h1:=hns hst
   rw [h1] at hlen
   match c2,hlen with
   | [u],_=>
     have hu:cs[q]?=some u:=by
      rw [←Array.getElem?_toList,hc,←hq,zq,zt (by omega)]
      simp
     refine ⟨u,by simp [Go.part,hag,hu],?_⟩
     obtain ⟨ty,kind⟩:=ti
     cases ty<;>first | exact hr | (simp [Ty.isSt] at hst;done)
def FF {xt:TypeId} {x ix:Operand} (ho:o.op=.index xt x ix):Uq P G o:=by
 intro hT n w0 w Z0 st a nm dst ρ k r h he
 unfold Jq at he
 rw [ho] at he
 simp only at he
 split at he
 ·rename_i s j i h1 h2 h3
  have e1:=gY h h2
  have e2:=aJ h h3
  have hu:=eP hT h1 rfl
  obtain ⟨b,hb,he⟩:=ki he
  obtain ⟨q1,q2,q3⟩:=eD hb
  refine ⟨_,he,Good.pure h (v:=.int .u8 b.toNat) ?_ (aX ..)⟩
  have hg:(⟨s.toArray⟩:ByteArray)[i.toNat]?=some b:=by
   have:(⟨s.toArray⟩:ByteArray)[i.toNat]?=s[i.toNat]?:=by
    by_cases hlt:i.toNat<s.length
    ·rw [Z7 hlt]
     have h2:i.toNat<(⟨s.toArray⟩:ByteArray).size:=by simpa [ByteArray.size] using hlt
     rw [getElem?_pos (⟨s.toArray⟩:ByteArray) i.toNat h2]
     rfl
    ·omega
   rw [this,q3]
  simp [execOp,ho,e1,e2,Instr.index,asIntOf,run_underlying hu,q1,hg]
 ·rename_i n1 s m1 e n2 s2 xs j i0 h1 h2 h3
  obtain ⟨i,hi'⟩:∃i:Int,i=i0:=⟨i0,rfl⟩
  subst hi'
  split at he
  ·rename_i ei h4
   cases hb:(decide (s2=s)&&Nat.beq n2 n1&&decide (ei.ty=s)) with
   | false=>rw [hb] at he;cases he
   | true=>
     rw [hb] at he
     simp only [zj] at he
     simp only [ze,zn] at hb
     obtain ⟨⟨rfl,hn⟩,hs⟩:=hb
     have:=Jx.1 hn
     subst this
     obtain ⟨s',ti,z,g1,hu,g2,g3,_⟩:=(hT _ _ h1).kind
     cases g1
     have e2:=aJ h h3
     obtain ⟨y,hy,he⟩:=ki he
     obtain ⟨q1,q2,q3⟩:=eD hy
     obtain ⟨cs,e1,hl,hr⟩:=Yd h h2
     obtain ⟨c1,c2,c3,r1,r2,r3,_⟩:=eJ (fun _ _=>Yy s2) hr q3
     have hei:=hT _ _ h4
     subst hs
     obtain ⟨v,hv1,hv2⟩:=rC (w:=w) hei r3 (NH hei) (q:=i.toNat*ei.ty.cells) (cs:=cs) (c1:=c1) (c3:=c3) r1 r2
     have hsz:(sizeOf e).run P w=.ok ei.ty.cells w:=by simp [sizeOf,typeInfo,g2,g3]
     have hil:i<(m1:Int):=by omega
     refine ⟨_,he,Good.pure h (v:=v) ?_ hv2⟩
     simp [execOp,ho,e1,e2,Instr.index,asIntOf,run_underlying hu,q1,hil,hsz,hv1]
  ·cases he
 ·cases he
def FE {t:TypeId} {x:Operand} {f:Nat} (ho:o.op=.field t x f):Uq P G o:=by
 intro hT n w0 w Z0 st a nm dst ρ k r h he
 unfold Jq at he
 rw [ho] at he
 simp only at he
 split at he
 ·rename_i ty fs s y h1 h2
  split at he
  ·rename_i off ft hf
   split at he
   ·rename_i fi h3
    split at he
    ·rename_i z hz
     obtain ⟨s',fields,_,hu,hm,_⟩:=(hT _ _ h1).kind
     obtain ⟨fld,g1,g2,g3⟩:∃fld:Field,fields[f]?=some fld∧fld.offset=off∧fld.type=ft:=by
      rw [←hm,List.getElem?_map,Z8] at hf
      obtain ⟨fld,g1,g2⟩:=hf
      exact ⟨fld,by rw [←Array.getElem?_toList];exact g1,by cases g2;rfl,by cases g2;rfl⟩
     obtain ⟨cs,e1,hr⟩:=Yd h h2
     obtain ⟨c1,c2,c3,p1,p2,p3⟩:=qC hz hr
     have hfi:=hT _ _ h3
     obtain ⟨v,hv1,hv2⟩:=rC (w:=w) hfi p3 (NH hfi) p1 p2
     rw [←g3] at hv1
     refine ⟨_,he,Good.pure h (v:=v) ?_ hv2⟩
     simp [execOp,ho,e1,Instr.field,asAgg,run_underlying hu,g1,g2,hv1]
    ·cases he
   ·cases he
  ·cases he
 ·cases he
def wO {t:TypeId} {x:Operand} {f:Nat} (ho:o.op=.fieldAddr t x f):Uq P G o:=by
 intro hT n w0 w Z0 st a nm dst ρ k r h he
 unfold Jq at he
 rw [ho] at he
 simp only at he
 split at he
 ·rename_i ty fs p h1 h2
  split at he
  ·rename_i off ft hf
   split at he
   ·rename_i fi h3
    cases hz:Nat.beq fi.ty.cells 0 with
    | true=>rw [hz] at he;cases he
    | false=>
      rw [hz] at he
      simp only [zk] at he
      have hz:=Yi.1 hz
      obtain ⟨s,fields,_,hu,hm,_⟩:=(hT _ _ h1).kind
      obtain ⟨fld,g1,g2,g3⟩:∃fld:Field,fields[f]?=some fld∧fld.offset=off∧fld.type=ft:=by
       rw [←hm,List.getElem?_map,Z8] at hf
       obtain ⟨fld,g1,g2⟩:=hf
       exact ⟨fld,by rw [←Array.getElem?_toList];exact g1,by cases g2;rfl,by cases g2;rfl⟩
      have hrun:∀b q:Nat,a.eval x=.pointer (some ⟨b,q,none⟩)→(execOp a.eval o).run P w=.ok (.value (.pointer (some ⟨b,q+off,none⟩))) w:=by
       intro b q hv
       have hsz:=(hT _ _ h3).sizeOf w
       rw [←g3] at hsz
       simp [execOp,ho,hv,Instr.fieldAt,run_underlying hu,g1,Instr.sureAddr,fieldPlace,hsz,hz,Addr.add_lit,g2]
      have hr:=Yd h h2
      split at he
      ·rename_i id q
       split at he
       ·rename_i cs hob
        obtain ⟨b,e1,e2⟩:=hr.2 cs hob
        exact ⟨_,he,Good.pure h (hrun b q e2) ⟨rfl,fun _ _=>⟨b,e1,rfl⟩⟩⟩
       ·cases he
      ·rename_i id ver i sz q
       split at he
       ·rename_i v fz e t' xs hob
        cases hv:Nat.beq v ver with
        | false=>rw [hv] at he;cases he
        | true=>
          rw [hv] at he
          have:=Jx.1 hv
          subst this
          simp only [zj] at he
          obtain ⟨q1,q2,q3,b,m,c,e1,e2⟩:=hr.2 fz e t' xs hob
          refine ⟨_,he,Good.pure h (hrun b _ e2) ⟨rfl,fun fz1 e1' t1 xs1 hl=>?_⟩⟩
          obtain ⟨p1,p2,p3,b',m',c',p4,p5⟩:=hr.2 fz1 e1' t1 xs1 hl
          rw [e1] at p4
          cases p4
          exact ⟨p1,p2,p3,b,m,c,e1,by rw [Nat.add_assoc]⟩
       ·cases he
      ·rename_i id ver
       split at he
       ·rename_i v fz e t' xs hob
        cases hv:Nat.beq v ver with
        | false=>rw [hv] at he;cases he
        | true=>
          rw [hv] at he
          have:=Jx.1 hv
          subst this
          simp only [zj] at he
          obtain ⟨u,hu2,he⟩:=ki he
          have hin:0<xs.length:=by
           unfold vQ at hu2
           cases hc:(decide ((0:Int)≤0)&&decide ((0:Int)<(xs.length:Int))) with
           | false=>rw [hc] at hu2;cases hu2
           | true=>rw [ze] at hc;have:=zw hc.2;omega
          obtain ⟨b,m,c,e1,e2⟩:=hr.2 fz e t' xs hob
          refine ⟨_,he,Good.pure h (hrun b _ e2) ⟨rfl,fun fz1 e1' t1 xs1 hl=>?_⟩⟩
          rw [hob] at hl
          cases hl
          exact ⟨rfl,Int.le_refl _,hin,b,m,c,e1,by simp⟩
       ·cases he
      ·rename_i id ver i sz q n' e' j o'
       split at he
       ·rename_i v fz e t' xs hob
        cases hv:Nat.beq v ver with
        | false=>rw [hv] at he;cases he
        | true=>
          rw [hv] at he
          have:=Jx.1 hv
          subst this
          simp only [zj] at he
          obtain ⟨q1,q2,q3,q4,q5,b,m,c,e1,e2⟩:=hr.2 fz e t' xs hob
          refine ⟨_,he,Good.pure h (hrun b _ e2) ⟨rfl,fun fz1 e1' t1 xs1 hl=>?_⟩⟩
          obtain ⟨p1,p2,p3,p4,p5,b',m',c',p6,p7⟩:=hr.2 fz1 e1' t1 xs1 hl
          rw [e1] at p6
          cases p6
          exact ⟨p1,p2,p3,p4,p5,b,m,c,e1,by rw [Nat.add_assoc]⟩
       ·cases he
      ·rename_i s' d
       split at he
       ·rename_i y hy
        obtain ⟨b,q,cs,e1,e2,e3,e4⟩:=hr
        obtain ⟨c1,c2,c3,p1,p2,p3⟩:=qC hy e3
        refine ⟨_,he,Good.pure h (hrun b q e1) ⟨b,q+off,c2,rfl,e2,p3,fun j u hj=>?_⟩⟩
        rw [Nat.add_assoc]
        refine e4 (off+j) u ?_
        rw [p1,zq,←p2,zt (by omega)]
        rw [show c1.length+j-c1.length=j by omega]
        rw [List.getElem?_append_left (Z6.1 hj).1]
        exact hj
       ·cases he
      ·cases he
   ·cases he
  ·cases he
 ·cases he
end
end Go.Ql
end

section
namespace Go.Ql
section
variable [GInv] {P:Program} {G:Env} {n:Nat} {w0 w:World} {Z0:Bs} {st:St} {a:Act} {nm:JY} {o:Oper} {dst:Nat} {ρ:Type} {k:Eff→Option ρ} {r:ρ}
def oN {c1 c2 c3:List Value} {j:Nat} {u:Value} (h:c2[j]?=some u):(c1++c2++c3)[c1.length+j]?=some u:=by
 rw [zq,zt (by omega),show c1.length+j-c1.length=j by omega,List.getElem?_append_left (Z6.1 h).1]
 exact h
def wP {t:TypeId} {x ix:Operand} (ho:o.op=.indexAddr t x ix):Uq P G o:=by
 intro hT n w0 w Z0 st a nm dst ρ k r h he
 unfold Jq at he
 rw [ho] at he
 simp only at he
 split at he
 ·rename_i s e b d j i0 h1 h2 h3
  obtain ⟨i,hi'⟩:∃i:Int,i=i0:=⟨i0,rfl⟩
  subst hi'
  obtain ⟨hu,ti,z,g1,g2,_⟩:=aM hT h1
  have e2:=aJ h h3
  have hrun:∀(bb off len cap:Nat),a.eval x=.slice (some ⟨bb,off,none⟩) len cap→0≤i→i.toNat<len →
   (execOp a.eval o).run P w=.ok (.value (.pointer (some ⟨bb,off+i.toNat*s.cells,none⟩))) w:=by
   intro bb off len cap hv hi hl
   have hsz:(sizeOf e).run P w=.ok s.cells w:=by simp [sizeOf,typeInfo,g1,g2]
   have hil:i<(len:Int):=by omega
   simp [execOp,ho,hv,e2,Instr.indexAt,asIntOf,run_underlying hu,hi,hil,hsz,Addr.add_lit]
  have hr:=Yd h h2
  split at he
  ·rename_i s' xs
   by_cases hs:s'=s
   ·subst hs
    simp only [decide_true,zj] at he
    obtain ⟨y,hy,he⟩:=ki he
    obtain ⟨q1,q2,q3⟩:=eD hy
    obtain ⟨v,hv,hr⟩:=hr
    simp only [List.cons.injEq,and_true] at hv
    subst hv
    rcases hr with ⟨_,hn⟩ | ⟨bb,off,cap,cells,p1,p2,p3,p4,p5,p6⟩ | ⟨_,_,_,hn,_⟩
    ·rw [hn] at q2;simp at q2
    rotate_left
    ·rw [hn] at q2;simp at q2
    ·obtain ⟨c1,c2,c3,r1,r2,r3,_⟩:=eJ (fun _ _=>Yy s') p5 q3
     refine ⟨_,he,Good.pure h (hrun bb off _ _ p1 q1 q2) ⟨bb,off+i.toNat*s'.cells,c2,rfl,p4,r3,fun j u hj=>?_⟩⟩
     rw [Nat.add_assoc,←r2]
     refine p6 _ u ?_
     rw [r1]
     exact oN hj
   ·simp [hs] at he
  ·rename_i id ver
   split at he
   ·rename_i v fz e' s' xs hob
    cases hv:(Nat.beq v ver&&decide (s'=s)) with
    | false=>rw [hv] at he;cases he
    | true=>
      rw [hv] at he
      simp only [zj] at he
      rw [ze] at hv
      have:=Jx.1 hv.1
      subst this
      have:=zw hv.2
      subst this
      obtain ⟨u,hu2,he⟩:=ki he
      have hin:0≤i∧i<(xs.length:Int):=by
       unfold vQ at hu2
       cases hc:(decide (0≤i)&&decide (i<(xs.length:Int))) with
       | false=>rw [hc] at hu2;cases hu2
       | true=>rw [ze] at hc;exact ⟨zw hc.1,zw hc.2⟩
      have hv:=hr.2 fz e' s' xs hob
      obtain ⟨cells,p1,p2⟩:=(h.sj id _ hob).sl (eO hT h1)
      rcases p1.2 with ⟨_,hz⟩ | ⟨g,cap,cur,p3,_⟩
      ·omega
      ·refine ⟨_,he,Good.pure h (hrun g 0 _ _ (hv.trans p3) hin.1 (by omega)) ⟨rfl,fun fz1 e1 t1 xs1 hl=>?_⟩⟩
       rw [hob] at hl
       simp only [zd,Ob.arr.injEq,true_and] at hl
       obtain ⟨_,_,rfl,hl⟩:=hl
       have:=eq_of_heq hl
       subst this
       exact ⟨rfl,hin.1,by omega,g,_,cap,p3,by rw [zv,Nat.add_zero]⟩
   ·cases he
  ·cases he
 ·cases he
def cQ {t:TypeId} {ti:TI} (hti:TiOk P t ti) {Z:Nat→Prop} {b q:Nat} {cs:List Value} {d:ti.ty.den} (hr:kT w Z ti.ty cs d) (hns:ti.ty.isSt=false→ti.ty.cells=1)
 (hc:∀j u,cs[j]?=some u→w.cell? ⟨b,q+j,none⟩=some u) :
 ∃v,(Instr.loadAt t (.pointer (some ⟨b,q,none⟩))).run P w=.ok v w∧Ux w Z ti.ty v d:=by
 have hag:=hti.agg w
 have hsz:=hti.sizeOf w
 have hlen:=Yy _ hr
 cases hst:ti.ty.isSt with
 | true=>
   rw [hst] at hag
   have hl:=run_loadCells_list (P:=P) (w:=w) ⟨b,q,none⟩ cs (fun j v hj=>by rw [Addr.add_lit];exact hc j v hj)
   rw [hlen] at hl
   refine ⟨.agg cs.toArray,by simp [Instr.loadAt,Instr.sureAddr,loadVar,hag,hsz,hl],?_⟩
   obtain ⟨ty,kind⟩:=ti
   cases ty<;>simp only [Ty.isSt,zi] at hst
   ·exact ⟨cs.toArray,rfl,hr⟩
   ·exact ⟨cs.toArray,rfl,hr⟩
 | false=>
   rw [hst] at hag
   have h1:=hns hst
   rw [h1] at hlen
   match cs,hlen with
   | [u],_=>
     have:=hc 0 u rfl
     rw [Nat.add_zero] at this
     refine ⟨u,by simp [Instr.loadAt,Instr.sureAddr,loadVar,hag,this],?_⟩
     obtain ⟨ty,kind⟩:=ti
     cases ty<;>first | exact hr | (simp [Ty.isSt] at hst;done)
def I6 {t:TypeId} {x:Operand} (ho:o.op=.load t x):Uq P G o:=by
 intro hT n w0 w Z0 st a nm dst ρ k r h he
 unfold Jq at he
 rw [ho] at he
 simp only at he
 split at he
 ·rename_i ti p h1 h2
  have hti:=hT _ _ h1
  have hr:=Yd h h2
  have hx:∀v v':Value,a.eval x=v→(Instr.loadAt t v).run P w=.ok v' w→(execOp a.eval o).run P w=.ok (.value v') w:=by
   intro v v' q1 q2
   simp [execOp,ho,q1,q2]
  split at he
  ·
   rename_i id off
   split at he
   ·rename_i cs hob
    obtain ⟨b,e1,e2⟩:=hr.2 cs hob
    obtain ⟨b',vs,T,p1,p2,p3,p4⟩:=h.sj id _ hob
    rw [e1] at p1
    cases p1
    have hcell:∀j,w.cell? ⟨b,j,none⟩=vs[j]?:=fun j=>cell_of_row w b j vs T (0,0) p2
    have hag:=hti.agg w
    have hsz:=hti.sizeOf w
    cases hst:ti.ty.isSt with
    | true=>
      rw [hst] at he hag
      simp only [zj] at he
      cases hle:Nat.ble (off+ti.ty.cells) cs.length with
      | false=>rw [hle] at he;cases he
      | true=>
        rw [hle] at he
        have hle:=Nat.le_of_ble_eq_true hle
        simp only [zj] at he
        have hvl:vs.toList.length=cs.length:=p3.1
        have hl:=run_loadCells_list (P:=P) (w:=w) ⟨b,off,none⟩ ((vs.toList.drop off).take ti.ty.cells) (fun j v hj=>by
         rw [Addr.add_lit,hcell,←Array.getElem?_toList]
         rw [List.getElem?_take] at hj
         split at hj
         ·rw [List.getElem?_drop] at hj;exact hj
         ·cases hj)
        have hln:((vs.toList.drop off).take ti.ty.cells).length=ti.ty.cells:=by rw [List.length_take,zu];omega
        rw [hln] at hl
        refine ⟨_,he,Good.pure h (hx _ (.agg ((vs.toList.drop off).take ti.ty.cells).toArray) e2 (by simp [Instr.loadAt,Instr.sureAddr,loadVar,hag,hsz,hl])) ?_⟩
        refine ⟨_,rfl,⟨by simp [hvl],fun i a' v' q1 q2=>?_⟩,fun u hu=>p4.1 u ?_⟩
        ·simp only [List.getElem?_take] at q1 q2
         split at q1
         ·rw [if_pos (by assumption)] at q2
          rw [List.getElem?_drop] at q1 q2
          exact p3.2 _ _ _ q1 q2
         ·cases q1
        ·exact List.mem_of_mem_drop (List.mem_of_mem_take (by simpa using hu))
    | false=>
      rw [hst] at he hag
      simp only [zk] at he
      split at he
      ·rename_i q hq
       have hvl:vs.toList.length=cs.length:=p3.1
       have hlt:off<vs.toList.length:=by rw [hvl];exact (Z6.1 hq).1
       have hv:vs.toList[off]?=some vs.toList[off]:=Z7 hlt
       refine ⟨_,he,Good.pure h (hx _ vs.toList[off] e2 ?_) (p3.2 off q _ hq hv)⟩
       have:=hcell off
       rw [←Array.getElem?_toList,hv] at this
       simp [Instr.loadAt,Instr.sureAddr,loadVar,hag,this]
      ·cases he
   ·cases he
  ·
   rename_i id ver i sz off
   split at he
   ·rename_i v fz e s xs hob
    cases hv:Nat.beq v ver with
    | false=>rw [hv] at he;cases he
    | true=>
      rw [hv] at he
      have:=Jx.1 hv
      subst this
      simp only [zj] at he
      obtain ⟨y,hy,he⟩:=ki he
      obtain ⟨q1,q2,q3⟩:=eD hy
      split at he
      ·rename_i z hz
       obtain ⟨s1,s2,s3,b,m,c,s4,s5⟩:=hr.2 fz e s xs hob
       subst s1
       obtain ⟨_,cells,t1,t2⟩:=(h.sj id _ hob).of s4
       obtain ⟨c1,c2,c3,r1,r2,r3,_⟩:=eJ (fun _ _=>Yy s) t2 q3
       obtain ⟨d1,d2,d3,u1,u2,u3⟩:=qC hz r3
       rcases t1.2 with ⟨t3,_⟩ | ⟨g,cap,cur,t3,t4,t5,t6,t7,t8⟩
       ·rw [s4] at t3;cases t3
       ·rw [s4] at t3
        cases t3
        obtain ⟨v',l1,l2⟩:=cQ (w:=w) hti u3 (NH hti) (b:=b) (q:=i.toNat*s.cells+off) (fun j u hj=>by
         rw [t4.cell,←Array.getElem?_toList]
         have hin:cells[i.toNat*s.cells+off+j]?=some u:=by
          rw [r1,←r2,←u2,Nat.add_assoc]
          refine oN ?_
          rw [u1]
          exact oN hj
         rw [←t8,List.getElem?_take] at hin
         split at hin
         ·exact hin
         ·cases hin)
        exact ⟨_,he,Good.pure h (hx _ v' s5 l1) l2⟩
      ·cases he
   ·cases he
  ·
   rename_i s d
   split at he
   ·rename_i z hz
    obtain ⟨b,q,cs,s1,s2,s3,s4⟩:=hr
    obtain ⟨d1,d2,d3,u1,u2,u3⟩:=qC hz s3
    obtain ⟨v',l1,l2⟩:=cQ (w:=w) hti u3 (NH hti) (b:=b) (q:=q) (fun j u hj=>by
     refine s4 j u ?_
     have:=oN (c1:=d1) (c3:=d3) hj
     rw [←u1,u2,zv] at this
     exact this)
    exact ⟨_,he,Good.pure h (hx _ v' s1 l1) l2⟩
   ·cases he
  ·cases he
 ·cases he
end
end Go.Ql
end

section
namespace Go.Ql
section
variable [GInv] {P:Program} {G:Env} {n:Nat} {w0 w:World} {Z0:Bs} {st:St} {a:Act} {nm:JY} {o:Oper} {dst:Nat} {ρ:Type} {k:Eff→Option ρ} {r:ρ}
def NY {st st':St} {id:Nat} {ob:Ob} (h:kO st [(id,ob)]=some st'):YZ st id ob=true∧st'=⟨st.mj,YE id ob st.sj⟩:=by
 simp only [kO] at h
 cases hm:YZ st id ob with
 | false=>rw [hm] at h;cases h
 | true=>rw [hm] at h;simp only [zj,zd] at h;exact ⟨rfl,h.symm⟩
def HF {k:IntKind} {i:Int} {y:Nat} {code:BoundsCode} (h0:0≤i) (h1:i≤(y:Int)):(Instr.sliceBound (.int k i) y code).run P w=.ok i.toNat w:=by
 simp [Instr.sliceBound,asIntOf,h0,h1]
def Ha (h:Rel n w0 Z0 st a w nm) {x:Option Operand} {d:Int} {kk:Int→Option ρ} (he:Nq (kS st) x d kk=some r) :
 ∃l,kk l=some r∧((x=none∧l=d) ∨ ∃y j,x=some y∧a.eval y=.int j l):=by
 unfold Nq at he
 split at he
 ·exact ⟨d,he,.inl ⟨rfl,rfl⟩⟩
 ·rename_i y
  split at he
  ·rename_i j l hl
   exact ⟨l,he,.inr ⟨y,j,rfl,aJ h hl⟩⟩
  ·cases he
def gK {isSl:Bool} {len cap:Nat} (hlc:len≤cap) {lo hi:Option Operand} {l q:Int}
 (h1:(lo=none∧l=0) ∨ ∃y j,lo=some y∧a.eval y=.int j l) (h2:(hi=none∧q=(len:Int)) ∨ ∃y j,hi=some y∧a.eval y=.int j q)
 (b1:0≤l) (b2:l≤q) (b3:q≤(len:Int)):(Instr.sliceBounds isSl len cap (lo.map a.eval) (hi.map a.eval) none).run P w=.ok (l.toNat,q.toNat,cap) w:=by
 have hq:q≤(cap:Int):=by omega
 have hl:l≤(q.toNat:Int):=by omega
 have g1:∀j code,(Instr.sliceBound (.int j q) cap code).run P w=.ok q.toNat w:=fun j code=>HF (by omega) hq
 have g2:∀j code,(Instr.sliceBound (.int j l) q.toNat code).run P w=.ok l.toNat w:=fun j code=>HF b1 hl
 rcases h1 with ⟨rfl,rfl⟩ | ⟨y,j,rfl,e1⟩<;>rcases h2 with ⟨rfl,rfl⟩ | ⟨y',j',rfl,e2⟩
 ·simp [Instr.sliceBounds]
 ·simp [Instr.sliceBounds,e2,g1]
 ·have g3:∀code,(Instr.sliceBound (.int j l) len code).run P w=.ok l.toNat w:=fun code=>HF b1 (by omega)
  simp [Instr.sliceBounds,e1,g3]
 ·simp [Instr.sliceBounds,e1,e2,g1,g2]
def rB {len cap:Nat} (hlc:len≤cap) {lo:Option Operand} {y1 y2:Operand} {j1 j2:IntKind} {l q m:Int}
 (h1:(lo=none∧l=0) ∨ ∃y j,lo=some y∧a.eval y=.int j l) (h2:a.eval y1=.int j1 q) (h3:a.eval y2=.int j2 m)
 (b1:0≤l) (b2:l≤q) (b3:q≤m) (b4:m≤(len:Int)):(Instr.sliceBounds true len cap (lo.map a.eval) (some (a.eval y1)) (some (a.eval y2))).run P w=.ok (l.toNat,q.toNat,m.toNat) w:=by
 have g1:∀code,(Instr.sliceBound (.int j2 m) cap code).run P w=.ok m.toNat w:=fun code=>HF (by omega) (by omega)
 have g2:∀code,(Instr.sliceBound (.int j1 q) m.toNat code).run P w=.ok q.toNat w:=fun code=>HF (by omega) (by omega)
 have g3:∀j code,(Instr.sliceBound (.int j l) q.toNat code).run P w=.ok l.toNat w:=fun j code=>HF b1 (by omega)
 rcases h1 with ⟨rfl,rfl⟩ | ⟨y,j,rfl,e1⟩
 ·simp [Instr.sliceBounds,h2,h3,g1,g2]
 ·simp [Instr.sliceBounds,e1,h2,h3,g1,g2,g3]
def zP {Z:Nat→Prop} {s:Ty} {v:Value} {xs:List s.den} (hv:Ux w Z (.sl s) v xs) {l q m:Nat} (h1:l≤q) (h2:q≤xs.length) (h3:q≤m) :
 ∀b off cap,v=.slice (some ⟨b,off,none⟩) xs.length cap→m≤cap →
  Ux w Z (.sl s) (.slice (if m=l then some ⟨b,off,none⟩ else some ⟨b,off+l*s.cells,none⟩) (q-l) (m-l)) ((xs.take q).drop l):=by
 intro b off cap e hm
 obtain ⟨u,hu,hr⟩:=hv
 simp only [List.cons.injEq,and_true] at hu
 subst hu
 have hlen:((xs.take q).drop l).length=q-l:=by rw [zu,List.length_take];omega
 rcases hr with ⟨p1,p2⟩ | ⟨b',off',cap',cells,p1,p2,p3,p4,p5,p6⟩ | ⟨ad,cap',p1,p2,p3⟩
 ·rw [p1] at e;cases e
 rotate_left
 ·rw [p1] at e
  have hm0:q=0:=by rw [p2] at h2;simpa using h2
  have hl0:l=0:=by omega
  have hc:cap=cap':=by injection e with _ _ e;exact e.symm
  subst p2
  refine ⟨_,rfl,.inr (.inr ⟨if m=l then ⟨b,off,none⟩ else ⟨b,off+l*s.cells,none⟩,m-l,?_,by simp,by omega⟩)⟩
  rw [hm0,hl0]
  split<;>rfl
 ·rw [p1] at e
  cases e
  have hsplit:xs=(xs.take q).take l++((xs.take q).drop l++xs.drop q):=by rw [←zq,List.take_append_drop,List.take_append_drop]
  rw [hsplit] at p5
  obtain ⟨c1,c2,e1,r1,r2⟩:=VE.1 p5
  obtain ⟨c3,c4,e2,r3,r4⟩:=VE.1 r2
  have l1:c1.length=l*s.cells:=by
   rw [Hy (fun _ _=>Yy s) r1,List.length_take,List.length_take]
   congr 1;omega
  by_cases hml:m=l
  ·
   refine ⟨_,rfl,.inr (.inl ⟨b,off,m-l,[],by rw [if_pos hml,hlen],by rw [hlen];omega,by omega,p4,?_,by simp⟩)⟩
   have:(xs.take q).drop l=[]:=zl (by rw [hlen];omega)
   rw [this];rfl
  ·refine ⟨_,rfl,.inr (.inl ⟨b,off+l*s.cells,m-l,c3,by rw [if_neg hml,hlen],by rw [hlen];omega,by omega,p4,r3,fun j u hj=>?_⟩)⟩
   rw [Nat.add_assoc,←l1]
   refine p6 _ u ?_
   rw [e1,e2,←zq]
   exact oN hj
def CX (s:Za) (l h:Nat):(⟨s.toArray⟩:ByteArray).extract l h=⟨((s.take h).drop l).toArray⟩:=by
 apply ByteArray.ext
 rw [ByteArray.data_extract]
 apply Array.ext'
 simp [List.drop_take]
def FG {t:TypeId} {x:Operand} {lo hi mx:Option Operand} (ho:o.op=.slice t x lo hi mx):Uq P G o:=by
 intro hT n w0 w Z0 st a nm dst ρ k r h he
 unfold Jq at he
 rw [ho] at he
 simp only at he
 have hx:∀v v':Value,∀w',a.eval x=v→(Instr.sliceAt t v (lo.map a.eval) (hi.map a.eval) (mx.map a.eval)).run P w=.ok v' w'→(execOp a.eval o).run P w=.ok (.value v') w':=by
  intro v v' w' q1 q2
  simp [execOp,ho,q1,q2]
 split at he
 ·
  rename_i k1 s h1 h2
  have hu:=eP hT h1 rfl
  split at he
  ·obtain ⟨l,he,hlo⟩:=Ha h he
   obtain ⟨q,he,hhi⟩:=Ha h he
   obtain ⟨_,hb,he⟩:=ki he
   have hb:=Ua hb
   simp only [ze,zn] at hb
   refine ⟨_,he,Good.pure h (hx _ (.string ⟨((s.take q.toNat).drop l.toNat).toArray⟩) w (gY h h2) ?_) (tG ..)⟩
   have hsz:(⟨s.toArray⟩:ByteArray).size=s.length:=uT s
   have hb2:=gK (P:=P) (w:=w) (isSl:=false) (zx s.length) hlo hhi hb.1.1 hb.1.2 hb.2
   simp [Instr.sliceAt,Instr.slice,run_underlying hu,hsz,hb2,CX]
  ·cases he
 ·
  rename_i s' e b s xs h1 h2
  obtain ⟨hu,ti,z,g1,g2,_⟩:=aM hT h1
  by_cases hs:s=s'
  ·subst hs
   simp only [decide_true,zj] at he
   have hsz:(sizeOf e).run P w=.ok s.cells w:=by simp [sizeOf,typeInfo,g1,g2]
   have hr:=Yd h h2
   have fin:∀(l q:Nat) (m:Option Nat),l≤q→q≤xs.length→(∀m',m=some m'→q≤m'∧m'≤xs.length) →
    (∀base len cap,a.eval x=.slice base len cap→len≤cap→len=xs.length→(Instr.sliceBounds true len cap (lo.map a.eval) (hi.map a.eval) (mx.map a.eval)).run P w=.ok (l,q,m.getD cap) w) →
    Good P n w0 Z0 st a w o ⟨.one (.val (.sl s) ((xs.take q).drop l)),[]⟩:=by
    intro l q m b1 b2 b3 hbd
    rcases qD hr with ⟨e1,rfl⟩ | ⟨bb,off,cap,cells,e1,e2,e3,_⟩ | ⟨ad,cap,e1,rfl,e3⟩
    ·have hq:q=0:=by simpa using b2
     subst hq
     have hl:l=0:=by omega
     subst hl
     have hm:m.getD 0=0:=by
      cases m with
      | none=>rfl
      | some m'=>have:=b3 m' rfl;simp at this;simp [this]
     have hb:=hbd none 0 0 e1 (zx _) rfl
     rw [hm] at hb
     exact Good.pure h (hx _ (.slice none 0 0) w e1 (by simp [Instr.sliceAt,Instr.slice,run_underlying hu,hb,hsz])) ⟨_,rfl,.inl ⟨rfl,by simp⟩⟩
    ·have hb:=hbd _ _ _ e1 e2 rfl
     have hmc:q≤m.getD cap∧m.getD cap≤cap:=by
      cases m with
      | none=>exact ⟨by simp;omega,by simp⟩
      | some m'=>have:=b3 m' rfl;exact ⟨this.1,by simp;omega⟩
     refine Good.pure h (hx _ (.slice (if m.getD cap=l then some ⟨bb,off,none⟩ else some ⟨bb,off+l*s.cells,none⟩) (q-l) (m.getD cap-l)) w e1 ?_) (zP hr b1 b2 hmc.1 bb off cap e1 hmc.2)
     simp only [Instr.sliceAt,Instr.slice,Sem.run_bind,run_underlying hu,Result.andThen_ok,hb,hsz,Sem.run_pure,Option.map_some,Addr.add_lit]
    ·have hq:q=0:=by simpa using b2
     subst hq
     have hl:l=0:=by omega
     subst hl
     have hb:=hbd (some ad) 0 cap e1 (Nat.zero_le _) rfl
     have hmc:m.getD cap≤cap:=by
      cases m with
      | none=>simp
      | some m'=>have:=b3 m' rfl;simp at this;simp [this]
     refine Good.pure h (hx _ (.slice (if m.getD cap=0 then some ad else some (ad.add (0*s.cells))) (0-0) (m.getD cap-0)) w e1 ?_) ?_
     ·simp only [Instr.sliceAt,Instr.slice,Sem.run_bind,run_underlying hu,Result.andThen_ok,hb,hsz,Sem.run_pure,Option.map_some]
     ·refine ⟨_,rfl,.inr (.inr ⟨if m.getD cap=0 then ad else ad.add (0*s.cells),m.getD cap-0,?_,by simp,by omega⟩)⟩
      split<;>rfl
   split at he
   ·obtain ⟨l,he,hlo⟩:=Ha h he
    obtain ⟨q,he,hhi⟩:=Ha h he
    obtain ⟨_,hb,he⟩:=ki he
    have hb:=Ua hb
    simp only [ze,zn] at hb
    refine ⟨_,he,fin l.toNat q.toNat none (by omega) (by omega) (by simp) (fun base len cap _ hlc hl=>?_)⟩
    subst hl
    exact gK hlc hlo hhi hb.1.1 hb.1.2 hb.2
   ·rename_i y
    split at he
    ·rename_i y1
     cases hfl:JK (8700000+dst) G.muts with
     | true=>
       rw [hfl] at he
       simp only [zj] at he
       obtain ⟨m,he,hmm⟩:=Ha h he
       obtain ⟨l,he,hlo⟩:=Ha h he
       obtain ⟨q,he,hhi⟩:=Ha h he
       obtain ⟨_,hb,he5⟩:=ki he
       have hb:=Ua hb
       simp only [ze,zn] at hb
       obtain ⟨⟨⟨b1,b2⟩,b3⟩,b4⟩:=hb
       subst b3
       rcases hhi with ⟨hn,_⟩ | ⟨y2,j2,hy,e2⟩
       ·cases hn
       ·cases hy
        rcases hmm with ⟨hn,_⟩ | ⟨y3,j3,hy,e3⟩
        ·cases hn
        ·cases hy
         have hbd:∀base len cap,a.eval x=.slice base len cap→len≤cap→len=xs.length→(Instr.sliceBounds true len cap (lo.map a.eval) (some (a.eval y1)) (some (a.eval y))).run P w=.ok (l.toNat,q.toNat,q.toNat) w:=fun base len cap _ hlc hl=>by
          subst hl
          exact rB hlc hlo e2 e3 b1 b2 (Int.le_refl _) b4
         refine ⟨_,he5,?_⟩
         rcases qD hr with ⟨e1,rfl⟩ | ⟨bb,off,cap,cells,e1,f2,f3,_⟩ | ⟨ad,cap,e1,rfl,f3⟩
         ·have hq:q.toNat=0:=by simp at b4;omega
          have hl:l.toNat=0:=by omega
          have hb:=hbd none 0 0 e1 (zx _) rfl
          rw [hq,hl] at hb
          refine Good.pure h (hx _ (.slice none 0 0) w e1 (by simp [Instr.sliceAt,Instr.slice,run_underlying hu,hb,hsz])) ⟨⟨_,rfl,.inl ⟨rfl,?_⟩⟩,none,0,rfl⟩
          simp
         ·have hb:=hbd _ _ _ e1 f2 rfl
          have hpart:=zP hr (show l.toNat≤q.toNat by omega) (show q.toNat≤xs.length by omega) (zx _) bb off cap e1 (show q.toNat≤cap by omega)
          refine Good.pure h (hx _ (.slice (if q.toNat=l.toNat then some ⟨bb,off,none⟩ else some ⟨bb,off+l.toNat*s.cells,none⟩) (q.toNat-l.toNat) (q.toNat-l.toNat)) w e1 ?_) ⟨hpart,_,_,rfl⟩
          simp only [Instr.sliceAt,Instr.slice,Sem.run_bind,run_underlying hu,Result.andThen_ok,hb,hsz,Sem.run_pure,Option.map_some,Addr.add_lit]
         ·have hq:q.toNat=0:=by simp at b4;omega
          have hl:l.toNat=0:=by omega
          have hb:=hbd (some ad) 0 cap e1 (Nat.zero_le _) rfl
          rw [hq,hl] at hb
          refine Good.pure h (hx _ (.slice (some ad) 0 0) w e1 ?_) ⟨⟨_,rfl,.inr (.inr ⟨ad,0,rfl,?_,Nat.zero_le _⟩)⟩,some ad,0,rfl⟩
          ·simp [Instr.sliceAt,Instr.slice,run_underlying hu,hb,hsz]
          ·simp
     | false=>
     rw [hfl] at he
     simp only [zk] at he
     obtain ⟨m,he,hmm⟩:=Ha h he
     obtain ⟨l,he,hlo⟩:=Ha h he
     obtain ⟨q,he,hhi⟩:=Ha h he
     obtain ⟨_,hb,he⟩:=ki he
     have hb:=Ua hb
     simp only [ze,zn] at hb
     rcases hhi with ⟨hn,_⟩ | ⟨y2,j2,hy,e2⟩
     ·cases hn
     ·cases hy
      rcases hmm with ⟨hn,_⟩ | ⟨y3,j3,hy,e3⟩
      ·cases hn
      ·cases hy
       refine ⟨_,he,fin l.toNat q.toNat (some m.toNat) (by omega) (by omega) (by intro m' hm';cases hm';omega) (fun base len cap _ hlc hl=>?_)⟩
       subst hl
       exact rB hlc hlo e2 e3 hb.1.1.1 hb.1.1.2 hb.1.2 hb.2
    ·cases he
  ·simp [hs] at he
 ·
  rename_i s' e b id ver h1 h2
  obtain ⟨hu,ti,z,g1,g2,_⟩:=aM hT h1
  split at he
  ·rename_i v e' s xs hob
   cases hv:(Nat.beq v ver&&decide (s=s')) with
   | false=>rw [hv] at he;cases he
   | true=>
     rw [hv] at he
     simp only [zj] at he
     rw [ze] at hv
     have:=Jx.1 hv.1
     subst this
     have:=zw hv.2
     subst this
     obtain ⟨q,he,hhi⟩:=Ha h he
     obtain ⟨_,hb,he⟩:=ki he
     have hb:=Ua hb
     simp only [ze,zn] at hb
     refine ⟨_,he,?_⟩
     have hsz:(sizeOf e).run P w=.ok s.cells w:=by simp [sizeOf,typeInfo,g1,g2]
     have hv1:=(Yd h h2).2 false e' s xs hob
     have hnm:=eO hT h1
     obtain ⟨cells,p1,p2⟩:=(h.sj id _ hob).sl hnm
     have hq:q.toNat≤xs.length:=by omega
     have htl:(xs.take q.toNat).length=q.toNat:=by rw [List.length_take];omega
     intro st' hl
     obtain ⟨hmay,rfl⟩:=NY hl
     ·rcases p1.2 with ⟨e1,e2⟩ | ⟨g,cap,cur,e1,e3,e4,e5,e6,e7⟩
      ·have hx0:xs=[]:=zl e2
       subst hx0
       have hq0:q.toNat=0:=by simpa using hq
       have hb2:=gK (P:=P) (w:=w) (isSl:=true) (a:=a) (lo:=none) (l:=0) (zx 0) (.inl ⟨rfl,rfl⟩) hhi (by omega) (by omega) hb.2
       rw [hq0] at hb2
       refine Does.of_run (hx _ (.slice none 0 0) w (hv1.trans e1) (by simp at hb2;simp [Instr.sliceAt,Instr.slice,run_underlying hu,hb2,hsz])) ⟨VG nm id (.slice none 0 0),?_,?_⟩
       ·refine h.upd id _ _ hmay (by rw [hob];simp only [eS];omega) ⟨rfl,rfl,rfl,zx _⟩ (fun _ _=>.inr rfl) (fun b hb=>by cases hb) ?_
        exact .inl ⟨hnm,[],by rw [kW];exact ⟨by simp,.inl ⟨rfl,by simp⟩⟩,by simp;rfl⟩
       ·exact ⟨rfl,fun fz e t xs hl=>by rw [kW]⟩
      ·have hb2:=gK (P:=P) (w:=w) (isSl:=true) (a:=a) (lo:=none) (l:=0) e4 (.inl ⟨rfl,rfl⟩) hhi (by omega) (by omega) hb.2
       have hnew:(Instr.sliceAt t (.slice (some ⟨g,0,none⟩) xs.length cap) (Option.map a.eval none) (hi.map a.eval) (Option.map a.eval none)).run P w=.ok (.slice (some ⟨g,0,none⟩) q.toNat cap) w:=by
        simp only [Option.map_none] at hb2
        simp only [Instr.sliceAt,Instr.slice,Sem.run_bind,run_underlying hu,Result.andThen_ok,Option.map_none,hb2,hsz,Sem.run_pure,Option.map_some,Addr.add_lit]
        simp
       refine Does.of_run (hx _ _ w (hv1.trans e1) hnew) ⟨VG nm id (.slice (some ⟨g,0,none⟩) q.toNat cap),?_,?_⟩
       ·have hblk:kV (nm id)=some g:=by rw [e1];rfl
        refine h.upd id _ _ hmay (by rw [hob];simp only [eS];omega) ⟨rfl,rfl,rfl,zx _⟩ (fun _ _=>.inr rfl) (fun b hb=>?_) ?_
        ·simp only [kV,zd] at hb
         subst hb
         exact .inl ⟨hblk,_,hob,.inl rfl⟩
        ·have hsplit:xs=xs.take q.toNat++xs.drop q.toNat:=(List.take_append_drop _ _).symm
         have p2':=p2
         rw [hsplit] at p2'
         obtain ⟨c1,c2,r1,r2,r3⟩:=VE.1 p2'
         have l1:c1.length=q.toNat*s.cells:=by rw [Hy (fun _ _=>Yy s) r2,htl]
         have hk:Kept w w (Zc w0 Z0 nm st.sj w) (Zc w0 Z0 (VG nm id (.slice (some ⟨g,0,none⟩) q.toNat cap)) (YE id (.arr (v+1) false e' s (xs.take q.toNat)) st.sj) w):=by
          rintro b ⟨z1,z2,z3⟩
          refine ⟨⟨z1,z2,?_⟩,rfl⟩
          rintro ⟨j,ob,y1,y2,y3⟩
          by_cases hj:id=j
          ·subst hj
           rw [kW] at y3
           exact z3 ⟨id,_,hob,rfl,by rw [hblk];exact y3⟩
          ·rw [ke,if_neg hj] at y1
           rw [VU _ _ (Ne.symm hj)] at y3
           exact z3 ⟨j,ob,y1,y2,y3⟩
         refine .inl ⟨hnm,c1,?_,VF (fun _ _=>YJ hk s) r2⟩
         rw [kW,htl]
         refine ⟨l1,.inr ⟨g,cap,cur,rfl,e3,by omega,e5,e6,?_⟩⟩
         have:cur.toList.take (q.toNat*s.cells)=(cur.toList.take (xs.length*s.cells)).take (q.toNat*s.cells):=by
          rw [List.take_take]
          congr 1
          exact (Nat.min_eq_left (Nat.mul_le_mul_right _ hq)).symm
         rw [this,e7,r1,←l1,List.take_left]
       ·exact ⟨rfl,fun fz e t xs hl=>by rw [kW]⟩
  ·cases he
 ·cases he
end
end Go.Ql
end

section
namespace Go.Ql
section
variable [GInv] {P:Program} {G:Env} {n:Nat} {w0 w:World} {Z0:Bs} {st:St} {a:Act} {nm:JY} {o:Oper} {dst:Nat} {ρ:Type} {k:Eff→Option ρ} {r:ρ}
def tI {p:List Value→Prop} {m:Nat} (h:∀cs,p cs→cs.length=m):∀{n:Nat} {cs:List Value},dT p n cs→cs.length=n*m
 | 0,_,hr=>by simp only [dT] at hr;simp [hr]
 | _+1,_,⟨c1,c2,e,h1,h2⟩=>by rw [e,zf,h _ h1,tI h h2,Nat.succ_mul,Nat.add_comm]
def tJ {p:List Value→Prop} (h:∀cs,p cs → ∀u∈cs,u.oneCell'=true):∀{n:Nat} {cs:List Value},dT p n cs → ∀u∈cs,u.oneCell'=true
 | 0,_,hr,u,hu=>by simp only [dT] at hr;subst hr;cases hu
 | _+1,_,⟨c1,c2,e,h1,h2⟩,u,hu=>by
   rw [e,List.mem_append] at hu
   exact hu.elim (h _ h1 u) (tJ h h2 u)
def o6 {α:Type} {p:List Value→Prop} {q:List Value→α→Prop} {z:α} (h:∀cs,p cs→q cs z):∀{n:Nat} {cs:List Value},dT p n cs→YF q cs (List.replicate n z)
 | 0,_,hr=>hr
 | _+1,_,⟨c1,c2,e,h1,h2⟩=>⟨c1,c2,e,h _ h1,o6 h h2⟩
def Hp:∀(t:Ty) {cs:List Value},Vc t cs→cs.length=t.cells
 | .bool,_,h=>by simp [Vc] at h;simp [h,Ty.cells]
 | .int _,_,h=>by simp [Vc] at h;simp [h,Ty.cells]
 | .str,_,h=>by simp [Vc] at h;simp [h,Ty.cells]
 | .sl _,_,h=>by simp [Vc] at h;simp [h.1,Ty.cells]
 | .st t,_,h=>Hp t h
 | .unit,_,h=>by simp [Vc] at h;simp [h,Ty.cells]
 | .pair a b,_,⟨c1,c2,e,h1,h2⟩=>by rw [e,zf,Hp a h1,Hp b h2];rfl
 | .ar n t,_,h=>tI (fun _ h=>Hp t h) h
 | .nilv _,_,h=>by simp [Vc] at h;simp [h,Ty.cells]
 | .node t,_,⟨c1,e,h1⟩=>by rw [e,zf,Hp t h1];rfl
def NX:∀(t:Ty) {cs:List Value},Vc t cs → ∀u∈cs,u.oneCell'=true
 | .bool,_,h=>by simp [Vc] at h;simp [h,Value.oneCell']
 | .int _,_,h=>by simp [Vc] at h;simp [h,Value.oneCell']
 | .str,_,h=>by simp [Vc] at h;simp [h,Value.oneCell']
 | .sl _,_,h=>by simp [Vc] at h;simp [h.1,Value.oneCell']
 | .st t,_,h=>NX t h
 | .unit,_,h=>by simp [Vc] at h;simp [h]
 | .pair a b,_,⟨c1,c2,e,h1,h2⟩=>by
   intro u hu
   rw [e,List.mem_append] at hu
   exact hu.elim (NX a h1 u) (NX b h2 u)
 | .ar n t,_,h=>tJ (fun _ h=>NX t h) h
 | .nilv k,_,h=>by simp [Vc] at h;simp [h,tA]
 | .node t,_,⟨c1,e,h1⟩=>by
   intro u hu
   rw [e,List.mem_append] at hu
   exact hu.elim (NX t h1 u) fun hu=>by rw [List.mem_singleton.1 hu];rfl
def Nb {Z:Nat→Prop}:∀(t:Ty) {cs:List Value},Vc t cs→kT w Z t cs t.zero
 | .bool,_,h=>h
 | .int _,_,h=>h
 | .str,_,h=>h
 | .sl _,_,h=>⟨_,h.1,.inl ⟨rfl,rfl⟩⟩
 | .st t,_,h=>Nb t h
 | .unit,_,h=>h
 | .pair a b,_,⟨c1,c2,e,h1,h2⟩=>⟨c1,c2,e,Nb a h1,Nb b h2⟩
 | .ar n t,_,h=>⟨List.length_replicate,o6 (fun _ h=>Nb t h) h⟩
 | .nilv _,_,h=>h
 | .node t,_,⟨c1,e,h1⟩=>aE.2 ⟨c1,_,e,Nb t h1,_,rfl,.inl ⟨rfl,rfl⟩⟩
def Uo {Z:Nat→Prop} {sj:List (Nat×Ob)} {c1 c2:List At} {v1 v2:List Value} (h1:Vx w Z nm sj c1 v1) (h2:Vx w Z nm sj c2 v2):Vx w Z nm sj (c1++c2) (v1++v2):=by
 refine ⟨by rw [zf,zf,h1.1,h2.1],fun i x v q1 q2=>?_⟩
 by_cases hi:i<c1.length
 ·rw [List.getElem?_append_left hi] at q1
  rw [List.getElem?_append_left (by rw [h1.1];exact hi)] at q2
  exact h1.2 i x v q1 q2
 ·rw [zt (by omega)] at q1
  rw [zt (by rw [h1.1];omega),h1.1] at q2
  exact h2.2 _ x v q1 q2
def aD {Z:Nat→Prop} {sj:List (Nat×Ob)}:Vx w Z nm sj [] []:=⟨rfl,fun i x v q1 _=>by simp at q1⟩
def Yu {Z:Nat→Prop} {sj:List (Nat×Ob)} {x:At} {v:Value} (h:UE w Z nm sj x v):Vx w Z nm sj [x] [v]:=by
 refine ⟨rfl,fun i y u q1 q2=>?_⟩
 cases i with
 | zero=>simp at q1 q2;subst q1;subst q2;exact h
 | succ i=>simp at q1
def fL {Z:Nat→Prop} {sj:List (Nat×Ob)} {c:List At} {v:List Value} (h:Vx w Z nm sj c v) (m:Nat):Vx w Z nm sj (c.take m) (v.take m):=by
 refine ⟨by rw [List.length_take,List.length_take,h.1],fun i x u q1 q2=>?_⟩
 rw [List.getElem?_take] at q1 q2
 split at q1
 ·rw [if_pos (by assumption)] at q2;exact h.2 i x u q1 q2
 ·cases q1
def i8 {Z:Nat→Prop} {sj:List (Nat×Ob)} {c:List At} {v:List Value} (h:Vx w Z nm sj c v) (m:Nat):Vx w Z nm sj (c.drop m) (v.drop m):=by
 refine ⟨by rw [zu,zu,h.1],fun i x u q1 q2=>?_⟩
 rw [List.getElem?_drop] at q1 q2
 exact h.2 _ x u q1 q2
def bZ {Z:Nat→Prop} {sj:List (Nat×Ob)} {raw:Bool}:∀(t:Ty) {cs:List Value},t.flat=true→Vc t cs→Vx w Z nm sj (dE raw t) cs
 | .bool,_,_,h=>by have h:_=_:=h;subst h;exact Yu (x:=.val .bool false) rfl
 | .int j,_,_,h=>by have h:_=_:=h;subst h;exact Yu (x:=.val (.int j) (0:Int)) rfl
 | .str,_,_,h=>by have h:_=_:=h;subst h;exact Yu (x:=.val .str []) rfl
 | .sl t,_,_,h=>by
   have h:_=_:=h.1
   subst h
   cases raw with
   | true=>exact Yu (x:=.nilS) rfl
   | false=>exact Yu (x:=.val (.sl t) []) ⟨_,rfl,.inl ⟨rfl,rfl⟩⟩
 | .st t,_,hf,h=>bZ t hf h
 | .unit,_,_,h=>by have h:_=_:=h;subst h;exact aD
 | .pair a b,_,hf,⟨c1,c2,e,h1,h2⟩=>by
   simp only [Ty.flat,ze] at hf
   rw [e];exact Uo (bZ a hf.1 h1) (bZ b hf.2 h2)
 | .ar _ _,_,hf,_=>by simp [Ty.flat] at hf
 | .nilv k,_,_,h=>by have h:_=_:=h;subst h;exact Yu (x:=.val (.nilv k) ()) rfl
 | .node t,_,hf,⟨c1,e,h1⟩=>by
   rw [e]
   refine Uo (bZ t hf h1) ?_
   cases raw with
   | true=>exact Yu (x:=.nilS) rfl
   | false=>exact Yu (x:=.val (.sl (.st (.node t))) []) ⟨_,rfl,.inl ⟨rfl,rfl⟩⟩
def eN {Z:Nat→Prop} {sj:List (Nat×Ob)}:∀(t:Ty) {d:t.den} {cs:List Value},t.flat=true→kT w Z t cs d→Vx w Z nm sj (split t d) cs
 | .bool,_,_,_,h=>by have h:_=_:=h;subst h;exact Yu (x:=.val .bool _) rfl
 | .int j,_,_,_,h=>by have h:_=_:=h;subst h;exact Yu (x:=.val (.int j) _) rfl
 | .str,_,_,_,h=>by have h:_=_:=h;subst h;exact Yu (x:=.val .str _) rfl
 | .sl t,d,_,_,⟨v,e,h⟩=>by subst e;exact Yu (x:=.val (.sl t) d) ⟨v,rfl,h⟩
 | .st t,_,_,hf,h=>eN t hf h
 | .unit,_,_,_,h=>by have h:_=_:=h;subst h;exact aD
 | .pair a b,_,_,hf,⟨c1,c2,e,h1,h2⟩=>by
   simp only [Ty.flat,ze] at hf
   rw [e];exact Uo (eN a hf.1 h1) (eN b hf.2 h2)
 | .ar _ _,_,_,hf,_=>by simp [Ty.flat] at hf
 | .nilv k,_,_,_,h=>by have h:_=_:=h;subst h;exact Yu (x:=.val (.nilv k) ()) rfl
 | .ifc T t,d,_,_,⟨u,us,e,h⟩=>by subst e;exact Yu (x:=.val (.ifc T t) d) ⟨u,us,rfl,h⟩
 | .nn,d,_,_,⟨v,e,h⟩=>by subst e;exact Yu (x:=.val .nn d) ⟨v,rfl,h⟩
 | .len,d,_,_,⟨ad,c,e,h⟩=>by subst e;exact Yu (x:=.val .len d) ⟨ad,c,rfl,h⟩
 | .fl t,d,_,_,⟨h,ad,m,e⟩=>by subst e;exact Yu (x:=.val (.fl t) d) ⟨h,ad,m,rfl⟩
 | .node t,d,_,hf,h=>by
   obtain ⟨c1,c2,e,h1,v,e2,h2⟩:=aE.1 h
   subst e2
   rw [e]
   exact Uo (eN t hf h1) (Yu (x:=.val (.sl (.st (.node t))) (show List (Rose t.den) from Rose.kQ d)) ⟨v,rfl,h2⟩)
def BR {Z:Nat→Prop} {sj:List (Nat×Ob)} {x:At} {v:Value} (h:UE w Z nm sj x v) (hn:∀t d,x ≠ .val (.st t) d) (hn2:∀m t d,x ≠ .val (.ar m t) d):v.oneCell'=true:=by
 cases x with
 | val t d=>
   cases t<;>first | exact absurd rfl (hn _ _) | exact absurd rfl (hn2 _ _ _) | exact HS _ h v (by simp)
 | nilS=>have h:v=_:=h;subst h;rfl
 | ref=>exact h.1
 | own=>exact h.1
 | elem=>exact h.1
 | win=>exact h.1
 | clo=>exact h.1
 | aptr=>exact h.1
 | selfp=>exact h.1
 | aelem=>exact h.1
 | fptr=>obtain ⟨b,off,cs,e,_⟩:=h;subst e;rfl
 | fn f=>have h:v=_:=h;subst h;rfl
 | junk=>exact h
def E0 {v:Value} (h:v.oneCell'=true):v.cells=#[v]:=by cases v<;>first | rfl | simp [Value.oneCell'] at h
def mI {Z:Nat→Prop} {sj:List (Nat×Ob)} {d:Dv} {v:Value} {cs:List At} (h:Vf w Z nm sj d v) (hc:NB d=some cs) :
 Vx w Z nm sj cs v.cells.toList ∧ ∀u∈v.cells.toList,u.oneCell'=true:=by
 have key:∀x:At,(∀t d,x ≠ .val (.st t) d)→(∀m t d,x ≠ .val (.ar m t) d)→UE w Z nm sj x v→cs=[x]→Vx w Z nm sj cs v.cells.toList ∧ ∀u∈v.cells.toList,u.oneCell'=true:=by
  intro x hn hn2 hx he
  have h1:=BR hx hn hn2
  rw [he,E0 h1]
  exact ⟨Yu hx,by simpa using h1⟩
 cases d with
 | one x=>
   have h:UE w Z nm sj x v:=h
   by_cases hx:∃t d,x=.val (.st t) d
   ·obtain ⟨t,d,rfl⟩:=hx
    simp only [NB] at hc
    cases hf:t.flat with
    | false=>rw [hf] at hc;cases hc
    | true=>
      rw [hf] at hc
      simp only [zj,zd] at hc
      subst hc
      have h:Ux w Z (.st t) v d:=h
      have:=HA h
      exact ⟨eN t hf this,HS (.st t) this⟩
   ·have hn:∀t d,x ≠ .val (.st t) d:=fun t d e=>hx ⟨t,d,e⟩
    by_cases hx2:∃m t d,x=.val (.ar m t) d
    ·obtain ⟨m,t,d,rfl⟩:=hx2
     simp [NB] at hc
    have hn2:∀m t d,x ≠ .val (.ar m t) d:=fun m t d e=>hx2 ⟨m,t,d,e⟩
    refine key x hn hn2 h ?_
    unfold NB at hc
    split at hc
    ·rename_i t d he
     cases he
     exact absurd rfl (hn t d)
    ·cases hc
    ·rename_i a' _ _ he
     cases he
     simp only [zd] at hc
     exact hc.symm
    ·rename_i he;cases he
    ·cases hc
 | agg xs=>
   obtain ⟨vs,e,h1,h2⟩:=h
   simp only [NB,zd] at hc
   subst hc;subst e
   exact ⟨h1,h2⟩
 | tup xs=>simp [NB] at hc
def oF {id v:Nat} {x:At} (h:x.fj id=false):x.ij id v=false:=by
 cases x<;>simp_all [At.fj,At.ij]
def iF (id:Nat):∀(t:Ty) (d:t.den),∀x∈split t d,x.fj id=false
 | .bool,_,x,h=>by simp [split] at h;subst h;rfl
 | .int _,_,x,h=>by simp [split] at h;subst h;rfl
 | .str,_,x,h=>by simp [split] at h;subst h;rfl
 | .sl _,_,x,h=>by simp [split] at h;subst h;rfl
 | .st t,d,x,h=>iF id t d x h
 | .unit,_,x,h=>by simp [split] at h
 | .pair a b,d,x,h=>by
   simp only [split,List.mem_append] at h
   exact h.elim (iF id a d.1 x) (iF id b d.2 x)
 | .ar _ _,_,x,h=>by simp [split] at h;subst h;rfl
 | .nilv _,_,x,h=>by simp [split] at h;subst h;rfl
 | .ifc _ _,_,x,h=>by simp [split] at h;subst h;rfl
 | .nn,_,x,h=>by simp [split] at h;subst h;rfl
 | .len,_,x,h=>by simp [split] at h;subst h;rfl
 | .fl _,_,x,h=>by simp [split] at h;subst h;rfl
 | .node t,d,x,h=>by
   simp only [split,List.mem_append,List.mem_singleton] at h
   exact h.elim (iF id t _ x) fun h=>by subst h;rfl
def qQ {id:Nat}:∀{vs:List Value} {cs:List At},d9 vs=some cs→cs.any (·.fj id)=false
 | [],cs,h=>by cases h;rfl
 | v::r,cs,h=>by
   unfold d9 at h
   split at h
   ·rename_i a l h1 h2
    cases h
    rw [List.any_cons,qQ h2,Bool.or_false]
    unfold pL at h1
    split at h1<;>first | (cases h1;rfl) | cases h1
   ·cases h
def MT {id:Nat} (hf:st.free id=true) {x:Operand} {d:Dv} (hx:kS st x=some d):d.fj id=false:=by
 cases x with
 | tmp t=>exact oD hf hx
 | const v=>
   cases v with
   | int j m=>simp only [kS,zd] at hx;subst hx;rfl
   | bool b=>simp only [kS,zd] at hx;subst hx;rfl
   | string s=>simp only [kS,zd] at hx;subst hx;rfl
   | slice b l c=>
     cases b with
     | some b=>simp [kS] at hx
     | none=>
       cases l with
       | succ l=>simp [kS] at hx
       | zero=>cases c with
         | succ c=>simp [kS] at hx
         | zero=>simp only [kS,zd] at hx;subst hx;rfl
   | pointer q=>
     cases q with
     | some q=>simp [kS] at hx
     | none=>simp only [kS,zd] at hx;subst hx;rfl
   | map q=>
     cases q with
     | some q=>simp [kS] at hx
     | none=>simp only [kS,zd] at hx;subst hx;rfl
   | nilIface=>simp only [kS,zd] at hx;subst hx;rfl
   | nilFunc=>simp only [kS,zd] at hx;subst hx;rfl
   | agg vs=>
     simp only [kS] at hx
     split at hx
     ·rename_i cs hcs
      simp only [zd] at hx
      subst hx
      exact qQ hcs
     ·cases hx
   | _=>simp [kS] at hx
 | global g=>simp [kS] at hx
 | func f=>simp only [kS,zd] at hx;subst hx;rfl
def IY {id:Nat} {d:Dv} {cs:List At} (hc:NB d=some cs) (hd:d.fj id=false):∀x∈cs,x.fj id=false:=by
 intro x hx
 unfold NB at hc
 split at hc
 ·rename_i t _
  cases hf:t.flat with
  | false=>rw [hf] at hc;cases hc
  | true=>rw [hf] at hc;simp only [zj,zd] at hc;subst hc;exact iF _ _ _ x hx
 ·cases hc
 ·simp only [zd] at hc;subst hc;simp at hx;subst hx;exact hd
 ·simp only [zd] at hc;subst hc
  simp only [Dv.fj,List.any_eq_false] at hd
  simpa using hd x hx
 ·cases hc
def Good.newBox (h:Rel n w0 Z0 st a w nm) {cs:List At} {cells:Array Value} {T:TypeId} (hno:look st.sj dst=none)
 (hrun:(execOp a.eval o).run P w=.ok (.value (.pointer (some ⟨w.heap.size,0,none⟩))) (w.alloc (.cells cells T)))
 (hrd:Vx w (Zc w0 Z0 nm st.sj w) nm st.sj cs cells.toList) (hm:st.free dst=true → ∀x∈cs,x.fj dst=false) (hone:∀u∈cells.toList,u.oneCell'=true):Good P n w0 Z0 st a w o ⟨.one (.ref dst 0),[(dst,.box cs)]⟩:=by
 intro st' hl
 obtain ⟨hmay,rfl⟩:=NY hl
 have hfree:st.free dst=true:=by unfold YZ at hmay;rw [hno] at hmay;simp only [ze] at hmay;exact hmay.2
 have hnv:kV (.pointer (some ⟨w.heap.size,0,none⟩))=some w.heap.size:=rfl
 refine Does.of_run hrun ⟨VG nm dst (.pointer (some ⟨w.heap.size,0,none⟩)),?_,?_⟩
 ·refine h.upd dst _ _ hmay (by rw [hno];trivial) ⟨rfl,rfl,rfl,by simp⟩ (fun b hb=>.inr (heap_alloc_old w _ b hb)) (fun b hb=>?_) ?_
  ·simp only [kV,zd] at hb
   subst hb
   exact .inr ⟨zx _,by simp⟩
  ·refine ⟨w.heap.size,cells,T,kW _ _ _,heap_alloc_new w _,?_,hone,fun T' hT=>by have:=hm hfree _ hT;simp [At.fj] at this⟩
   have hk:Kept w (w.alloc (.cells cells T)) (Zc w0 Z0 nm st.sj w) (Zc w0 Z0 (VG nm dst (.pointer (some ⟨w.heap.size,0,none⟩))) (YE dst (.box cs) st.sj) (w.alloc (.cells cells T))):=by
    rintro b ⟨z1,z2,z3⟩
    refine ⟨⟨by simp;omega,z2,?_⟩,heap_alloc_old w _ b z1⟩
    rintro ⟨j,ob,y1,y2,y3⟩
    by_cases hj:dst=j
    ·subst hj
     rw [kW] at y3
     simp only [kV,zd] at y3
     omega
    ·rw [ke,if_neg hj] at y1
     rw [VU _ _ (Ne.symm hj)] at y3
     exact z3 ⟨j,ob,y1,y2,y3⟩
   exact Hz hk (fun x hx=>NU hmay (by rw [hno];trivial) (fun hf=>hm hf x hx) (fun v _=>oF (hm hfree x hx))) hrd
 ·exact ⟨rfl,fun _ _=>⟨_,kW _ _ _,rfl⟩⟩
end
end Go.Ql
end

section
namespace Go.Ql
section
variable [GInv] {P:Program} {G:Env} {n:Nat} {w0 w:World} {Z0:Bs} {st st1:St} {a:Act} {nm:JY} {o:Oper} {dst:Nat} {ρ:Type} {k:Eff→Option ρ} {r:ρ}
structure Fz (st st1:St):Prop where
 mj:st1.mj=st.mj
 sj:∀id,look st1.sj id=look st.sj id ∨ ∃v fz e t xs,look st.sj id=some (.arr v fz e t xs)∧look st1.sj id=some (.arr v true e t xs)
def Fz.refl (st:St):Fz st st:=⟨rfl,fun _=>.inl rfl⟩
def Fz.zc (hf:Fz st st1) {b:Nat} (h:Zc w0 Z0 nm st.sj w b):Zc w0 Z0 nm st1.sj w b:=by
 refine ⟨h.1,h.2.1,?_⟩
 rintro ⟨id,ob,h1,h2,h3⟩
 rcases hf.sj id with e | ⟨v,fz,e,t,xs,e1,e2⟩
 ·exact h.2.2 ⟨id,ob,by rw [←e];exact h1,h2,h3⟩
 ·rw [e2] at h1;cases h1;cases h2
def FzUpd (st:St) (u:kY):Prop:=∀p∈u,∃v fz e t xs,look st.sj p.1=some (.arr v fz e t xs)∧p.2=.arr v true e t xs
def fO (nm:JY) (id:Nat):VG nm id (nm id)=nm:=by
 funext j;unfold VG;split
 ·subst_vars;rfl
 ·rfl
def Rel.freeze (h:Rel n w0 Z0 st a w nm) {id v:Nat} {fz:Bool} {e:TypeId} {t:Ty} {xs:List t.den} (hl:look st.sj id=some (.arr v fz e t xs)) :
 Rel n w0 Z0 ⟨st.mj,YE id (.arr v true e t xs) st.sj⟩ a w nm∧Fz st ⟨st.mj,YE id (.arr v true e t xs) st.sj⟩:=by
 have hmay:YZ st id (.arr v true e t xs)=true:=by
  unfold YZ
  rw [hl]
  simp [Jx.2]
 have hfz:Fz st ⟨st.mj,YE id (.arr v true e t xs) st.sj⟩:=by
  refine ⟨rfl,fun j=>?_⟩
  simp only [ke]
  by_cases hj:id=j
  ·subst hj;exact .inr ⟨v,fz,e,t,xs,hl,by simp⟩
  ·exact .inl (if_neg hj)
 refine ⟨?_,hfz⟩
 have:=h.upd (w':=w) id (.arr v true e t xs) (nm id) hmay (by rw [hl];exact fun _=>⟨rfl,rfl,rfl,rfl⟩) ⟨rfl,rfl,rfl,zx _⟩ (fun _ _=>.inr rfl)
  (fun b hb=>.inl ⟨hb,_,hl,.inr rfl⟩) (by
   rw [fO]
   exact bU (fun b hb=>⟨hfz.zc hb,fun _ _ hu=>hu⟩) (fun _ _=>rfl) (show rdArr w _ (nm id) e t xs from h.sj id _ hl))
 rw [fO] at this
 exact this
def Fz.trans {st2:St} (h1:Fz st st1) (h2:Fz st1 st2):Fz st st2:=by
 refine ⟨h2.mj.trans h1.mj,fun id=>?_⟩
 rcases h2.sj id with e | ⟨v,fz,e,t,xs,e1,e2⟩
 ·rw [e];exact h1.sj id
 ·rcases h1.sj id with e' | ⟨v',fz',e',t',xs',e3,e4⟩
  ·exact .inr ⟨v,fz,e,t,xs,e'▸e1,e2⟩
  ·rw [e4] at e1;cases e1;exact .inr ⟨v,fz',e,t,xs,e3,e2⟩
def Cold (st:St) (id:Nat):Prop:=∃v e t xs,look st.sj id=some (.arr v true e t xs)
def Cold.mono (hf:Fz st st1) {id:Nat} (h:Cold st id):Cold st1 id:=by
 obtain ⟨v,e,t,xs,hl⟩:=h
 rcases hf.sj id with e' | ⟨v',fz',e',t',xs',e3,e4⟩
 ·exact ⟨v,e,t,xs,e'.trans hl⟩
 ·exact ⟨v',e',t',xs',e4⟩
def cO:∀(u1:kY) {u2:kY} {st st':St},kO st (u1++u2)=some st' → ∃s,kO st u1=some s∧kO s u2=some st'
 | [],u2,st,st',h=>⟨st,rfl,h⟩
 | (id,ob)::u1,u2,st,st',h=>by
   simp only [List.cons_append,kO] at h ⊢
   cases hm:YZ st id ob with
   | false=>rw [hm] at h;cases h
   | true=>rw [hm] at h;exact cO u1 h
def Rel.freezes:∀(u:kY) {st st1:St},Rel n w0 Z0 st a w nm→FzUpd st u→kO st u=some st1→Rel n w0 Z0 st1 a w nm∧Fz st st1 ∧ ∀p∈u,Cold st1 p.1
 | [],st,st1,h,_,hl=>by
   simp only [kO,zd] at hl
   subst hl
   exact ⟨h,Fz.refl _,fun p hp=>by cases hp⟩
 | (id,ob)::u,st,st1,h,hu,hl=>by
   obtain ⟨v,fz,e,t,xs,h1,h2⟩:=hu (id,ob) (by simp)
   simp only at h1 h2
   subst h2
   obtain ⟨r1,r2⟩:=h.freeze h1
   simp only [kO] at hl
   cases hm:YZ st id (.arr v true e t xs) with
   | false=>rw [hm] at hl;cases hl
   | true=>
     rw [hm] at hl
     simp only [zj] at hl
     have hu':FzUpd ⟨st.mj,YE id (.arr v true e t xs) st.sj⟩ u:=by
      intro p hp
      obtain ⟨v',fz',e',t',xs',q1,q2⟩:=hu p (by simp [hp])
      rcases r2.sj p.1 with q | ⟨v2,fz2,e2,t2,xs2,q3,q4⟩
      ·exact ⟨v',fz',e',t',xs',q.trans q1,q2⟩
      ·rw [q1] at q3;cases q3;exact ⟨v',true,e',t',xs',q4,q2⟩
     obtain ⟨s1,s2,s3⟩:=Rel.freezes u r1 hu' hl
     refine ⟨s1,r2.trans s2,fun p hp=>?_⟩
     rcases Z5.1 hp with rfl | hp
     ·exact Cold.mono s2 ⟨v,e,t,xs,by simp [ke]⟩
     ·exact s3 p hp
def A8 (h:Rel n w0 Z0 st a w nm) {id v:Nat} {e:TypeId} {t:Ty} {xs:List t.den} (hmap:t.wj=false) (hl:look st.sj id=some (.arr v true e t xs)) :
 Ux w (Zc w0 Z0 nm st.sj w) (.sl t) (nm id) xs:=by
 obtain ⟨cells,h1,h2⟩:=(h.sj id _ hl).sl hmap
 refine ⟨_,rfl,?_⟩
 rcases h1.2 with ⟨e1,e2⟩ | ⟨g,cap,cur,e1,e3,e4,e5,e6,e7⟩
 ·exact .inl ⟨e1,zl e2⟩
 ·refine .inr (.inl ⟨g,0,cap,cells,e1,e4,e5,?_,h2,fun j u hj=>?_⟩)
  ·have hb:kV (nm id)=some g:=by rw [e1];rfl
   have hn:=h.new id _ g hl hb
   refine ⟨hn.2,fun hlt=>.inr (hn.1.resolve_left (by omega)),?_⟩
   rintro ⟨id',ob,q1,q2,q3⟩
   have:=h.inj id' id ob _ g q1 hl q3 hb
   subst this
   rw [hl] at q1;cases q1;cases q2
  ·rw [zv,e3.cell]
   rw [←e7,List.getElem?_take] at hj
   split at hj
   ·simpa using hj
   ·cases hj
def IZ (h:Rel n w0 Z0 st a w nm) {id v:Nat} {e:TypeId} {t:Ty} {xs:List t.den} {lo m:Int} {u:Value} (hmap:t.wj=false) (hl:look st.sj id=some (.arr v true e t xs)) (hw:EH (nm id) t.cells lo m u) (hi:mP lo m xs.length=true) :
 Ux w (Zc w0 Z0 nm st.sj w) (.sl t) u (part lo m xs):=by
 obtain ⟨cells,h1,h2⟩:=(h.sj id _ hl).sl hmap
 refine ⟨_,rfl,?_⟩
 rcases AI h1 h2 hw hi with hh | ⟨b,g,c,cs,q1,q2,q3,q4,q5,q6⟩
 ·exact .inl hh
 ·refine .inr (.inl ⟨b,g,c,cs,q1,q2,q3,?_,q5,q6⟩)
  have hn:=h.new id _ b hl q4
  refine ⟨hn.2,fun hlt=>.inr (hn.1.resolve_left (by omega)),?_⟩
  rintro ⟨id',ob,p1,p2,p3⟩
  have:=h.inj id' id ob _ b p1 hl p3 q4
  subst this
  rw [hl] at p1;cases p1;cases p2
def gU {x:At} {v:Value} {t:Ty} {d:t.den} {u:kY} (ha:nQ (look st.sj) t x=some (d,u)) :
 FzUpd st u ∧ ∀(st1:St),Fz st st1→Rel n w0 Z0 st1 a w nm→(∀p∈u,Cold st1 p.1)→UE w (Zc w0 Z0 nm st1.sj w) nm st.sj x v→Ux w (Zc w0 Z0 nm st1.sj w) t v d:=by
 unfold nQ at ha
 split at ha
 ·split at ha
  ·rename_i hs
   subst hs
   cases ha
   exact ⟨fun p hp=>(by cases hp),fun st1 _ _ _ h=>h⟩
  ·cases ha
 ·split at ha
  ·cases ha
   exact ⟨fun p hp=>(by cases hp),fun st1 _ _ _ h=>⟨v,rfl,.inl ⟨h,rfl⟩⟩⟩
  ·cases ha
 ·rename_i id ver
  split at ha
  ·rename_i v' fz e s xs hob
   split at ha
   ·rename_i hs
    subst hs
    cases hv:(Nat.beq v' ver && !s.wj) with
    | false=>rw [hv] at ha;cases ha
    | true=>
      rw [hv] at ha
      rw [ze,Z3] at hv
      obtain ⟨hv,hmap⟩:=hv
      have:=Jx.1 hv
      subst this
      cases ha
      refine ⟨?_,fun st1 hf h hc hr=>?_⟩
      ·intro p hp
       cases fz with
       | true=>cases hp
       | false=>simp at hp;subst hp;exact ⟨_,_,_,_,_,hob,rfl⟩
      ·have hv:=hr.2 fz e s xs hob
       rw [hv]
       have hcold:look st1.sj id=some (.arr v' true e s xs):=by
        rcases hf.sj id with q | ⟨v2,fz2,e2,t2,xs2,q3,q4⟩
        ·cases fz with
         | true=>exact q.trans hob
         | false=>
           obtain ⟨v3,e3,t3,xs3,q5⟩:=hc (id,.arr v' true e s xs) (by simp)
           rw [q,hob] at q5;cases q5
        ·rw [hob] at q3;cases q3;exact q4
       exact A8 h hmap hcold
   ·cases ha
  ·cases ha
 ·rename_i id ver lo m
  split at ha
  ·rename_i v' fz e s xs hob
   split at ha
   ·rename_i hs
    subst hs
    cases hv:(Nat.beq v' ver && !s.wj) with
    | false=>rw [hv] at ha;cases ha
    | true=>
      rw [hv] at ha
      rw [ze,Z3] at hv
      obtain ⟨hv,hmap⟩:=hv
      have:=Jx.1 hv
      subst this
      cases ha
      refine ⟨?_,fun st1 hf h hc hr=>?_⟩
      ·intro p hp
       cases fz with
       | true=>cases hp
       | false=>simp at hp;subst hp;exact ⟨_,_,_,_,_,hob,rfl⟩
      ·obtain ⟨hw,hi⟩:=hr.2 fz e s xs hob
       have hcold:look st1.sj id=some (.arr v' true e s xs):=by
        rcases hf.sj id with q | ⟨v2,fz2,e2,t2,xs2,q3,q4⟩
        ·cases fz with
         | true=>exact q.trans hob
         | false=>
           obtain ⟨v3,e3,t3,xs3,q5⟩:=hc (id,.arr v' true e s xs) (by simp)
           rw [q,hob] at q5;cases q5
        ·rw [hob] at q3;cases q3;exact q4
       exact IZ h hmap hcold hw hi
   ·cases ha
  ·cases ha
 ·cases ha
end
end Go.Ql
end
