/- Plain law of codes' encoders, of all arguments. -/
import Derived.Test.YtjlbeiadpdgchaaPc
import Derived.Test.YtjlbeiadpdgchaaGa
set_option linter.all false
section
set_option maxHeartbeats 1000000
namespace Go.Ql
def pg (g:Tx):Pau:=pu (wd g) (sgn g)
def fG (gs:List Tx) (j:Nat):Pau:=(gs.map pg).getD j p00
theorem fG_at {gs:List Tx} {j:Nat} (h:j<gs.length):fG gs j=pg gs[j]:=by
 unfold fG
 simp [List.getD,List.getElem?_map,List.getElem?_eq_getElem h]
def YH (m:Nat) (gs:List Tx):List GOp:=Yj m 0 gs.length (fG gs)
theorem encOps_own {m:Nat} {gs:List Tx} (hl:gs.length≤m):∀o∈YH m gs,Own m o:=standing_own _ _ _ (by omega)
theorem encOps_len {m:Nat} {gs:List Tx} (hl:gs.length≤m):(YH m gs).length≤gs.length*(3*m+2):=standing_len _ _ _ (by omega)
theorem mul_b {a m:Nat} (h:a≤m) (hm:m≤12):a*(3*m+2)≤8*m*(m+1)∧a*(3*m+2)≤456:=by
 have h1:a*(3*m+2)≤m*(3*m+2):=Nat.mul_le_mul_right _ h
 have h2:m=0∨m=1∨m=2∨m=3∨m=4∨m=5∨m=6∨m=7∨m=8∨m=9∨m=10∨m=11∨m=12:=by omega
 rcases h2 with rfl | rfl | rfl | rfl | rfl | rfl | rfl | rfl | rfl | rfl | rfl | rfl | rfl<;>exact ⟨by omega,by omega⟩
theorem encoder_ok (n:Int) (gs:List Tx):∃e,W.jO (n,gs)=some (e,chkC n gs)∧((chkC n gs).1≠0→e=nix) ∧
 ((chkC n gs).1=0 → ∀m:Nat,n=m→1≤m→m≤12→gs.length≤m→(∀g∈gs,isP g m=true)→e=((m:Int),0,invL (YH m gs))):=by
 obtain ⟨L,h1,h2⟩:=pread_ok n gs
 by_cases h:(chkC n gs).1=0
 ·obtain ⟨hc,m,rfl,m1,m2,hl,hall,_,_⟩:=HB h
  refine ⟨((m:Int),0,invL (YH m gs)),?_,fun h'=>absurd h h',fun _ m' hm _ _ _ _=>by
   have:m=m':=by omega
   rw [this]⟩
  unfold W.jO
  refine jr h1 ?_
  rw [jF (by show ((chkC (m:Int) gs).1 !=0)=false;rw [h];rfl)]
  have hL:=h2 h
  have hL':L=(gs.map pg).map pe:=by rw [hL,List.map_map];rfl
  have hS:W.js L (m:Int)=some (YH m gs):=by
   rw [hL',standing_prog m2 (gs.map pg) (by simpa using hl) (fun p hp=>by
    obtain ⟨g,hg,rfl⟩:=List.mem_map.1 hp
    exact (HU (Yq (hall g hg)).2.2.1 _).sm m2),List.length_map]
   rfl
  have hI:=inverse_own ⟨m1,m2⟩ (b:=0) ⟨by decide,by decide⟩ (encOps_own hl) (by have:=encOps_len hl;have:=(mul_b hl m2).2;omega)
  have hc4:W.jO.c4 L (m:Int) some=some ((m:Int),(0:Int),invL (YH m gs),(0:Int),(0:Int)):=jr hS (jr hI rfl)
  exact jr hc4 rfl
 ·refine ⟨nix,?_,fun _=>rfl,fun h'=>absurd h' h⟩
  unfold W.jO
  refine jr h1 ?_
  rw [Jy (by show ((chkC n gs).1 !=0)=true;simp [h])]
  rfl
theorem enc_gens {m:Nat} {gs:List Tx} (m2:m≤12) (hl:gs.length≤m) (hall:∀g∈gs,isP g m=true)
 (hmeet:fstF (nmeet (wds gs)) 0 gs.length=none) (hdep:fstF (ndep (wds gs)) 0 gs.length=none):∀j,j<gs.length→gPs (YH m gs) (fG gs j)=pZ j:=by
 have hw:=Hx hall
 have hlen:(wds gs).length=gs.length:=by simp [wds]
 have get:∀j,j<gs.length→fG gs j=pu ((wds gs).getD j []) (sgn (gs.getD j []))∧((wds gs).getD j []).length=m∧(wds gs).getD j []∈wds gs:=by
  intro j hj
  rw [fG_at hj,Ha hj,show gs.getD j []=gs[j] by simp [List.getD,List.getElem?_eq_getElem hj]]
  exact ⟨rfl,(Yq (hall _ (List.getElem_mem hj))).2.2.1,List.mem_map.2 ⟨_,List.getElem_mem hj,rfl⟩⟩
 have apself:∀w:Wd,ap w w=false:=by
  intro w
  have h:=HN w w false false rfl
  rw [←h]
  exact YE fun j _=>by cases (pu w false).x.testBit j<;>cases (pu w false).z.testBit j<;>rfl
 have apcomm:∀a b,a<b→b<gs.length→ap ((wds gs).getD b []) ((wds gs).getD a [])=false:=by
  intro a b h1 h2
  have:=Vd.1 hmeet b (by omega) (by omega)
  unfold nmeet at this
  rw [List.any_eq_false] at this
  refine Bool.eq_false_iff.2 (this _ ?_)
  rw [List.getD,List.getElem?_eq_getElem (by omega:a<(wds gs).length),Option.getD_some]
  exact List.mem_take_iff_getElem.2 ⟨a,by omega,rfl⟩
 have key:=standing_ok (n:=m) gs.length 0 (fG gs) (by omega) (fun j hj=>absurd hj (Nat.not_lt_zero _))
  (fun j hj t ht=>by
   obtain ⟨e,e2,_⟩:=get j (by omega)
   rw [e];exact (HU e2 _).bare t ht)
  (fun a b ha hb=>by
   obtain ⟨e,e2,_⟩:=get a (by omega)
   obtain ⟨f,f2,_⟩:=get b (by omega)
   rw [e,f]
   have hs:=HN ((wds gs).getD a []) ((wds gs).getD b []) (sgn (gs.getD a [])) (sgn (gs.getD b [])) (e2.trans f2.symm)
   have hs':=HN ((wds gs).getD b []) ((wds gs).getD a []) (sgn (gs.getD b [])) (sgn (gs.getD a [])) (f2.trans e2.symm)
   rw [e2] at hs
   rw [f2] at hs'
   rcases Nat.lt_trichotomy a b with h | h | h
   ·rw [JK,hs'];exact apcomm a b h (by omega)
   ·subst h;rw [hs];exact apself _
   ·rw [hs];exact apcomm b a h (by omega))
  (fun a ha=>by
   obtain ⟨e,e2,_⟩:=get a (by omega)
   have hd:=Vd.1 hdep a (by omega) (by omega)
   unfold ndep at hd
   obtain ⟨u,u1,u2,u3⟩:=separate (by omega:m≤16) ((wds gs).take a) ((wds gs).getD a []) (fun w hw'=>hw w (List.mem_of_mem_take hw')) e2 hd
   refine ⟨pu u false,fun b hb=>?_,?_⟩
   ·obtain ⟨f,f2,_⟩:=get b (by omega)
    rw [f]
    have hs:=HN ((wds gs).getD b []) u (sgn (gs.getD b [])) false (f2.trans u1.symm)
    rw [f2] at hs
    rw [hs]
    apply u2
    rw [List.getD,List.getElem?_eq_getElem (by omega:b<(wds gs).length),Option.getD_some]
    exact List.mem_take_iff_getElem.2 ⟨b,by omega,rfl⟩
   ·rw [e]
    have hs:=HN ((wds gs).getD a []) u (sgn (gs.getD a [])) false (e2.trans u1.symm)
    rw [e2] at hs
    rw [hs];exact u3)
 intro j hj
 exact key j (by omega)
end Go.Ql
end

section
namespace Go.Ql
abbrev codeTy:Ty:=.st (.pair (.int .i64) (.sl .str))
theorem str_bytes:Ty.str.bytes=16:=by decide
theorem wint {n:Int} (h:Wf (.int .i64) n):n<9223372036854775808:=by
 have h:(Lit.int .i64 n).wf=true:=h
 simp only [Lit.wf,Bool.and_eq_true,decide_eq_true_eq] at h
 have h2:n≤9223372036854775807:=h.2
 omega
theorem wtxs {c:Int×List Tx} (h:Wf codeTy c):WTxs c.2∧c.1<9223372036854775808:=by
 obtain ⟨h0,h1,_,h2⟩:=h
 rw [str_bytes] at h1
 have h1:c.2.length*16≤140737488351232:=h1
 refine ⟨⟨by omega,fun g hg=>?_⟩,wint h0⟩
 have:g.length≤140737488351232:=h2 g hg
 omega
end Go.Ql
end
