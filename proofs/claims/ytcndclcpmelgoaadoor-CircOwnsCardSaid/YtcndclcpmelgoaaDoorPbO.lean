/- Plain laws: the same where the answers hold slices of their own; marks. -/
import Derived.Test.YtcndclcpmelgoaaDoorPaO
set_option linter.all false
section
namespace Go.Ql
abbrev outD (r:Cir×Int×Int):Int×Int×(Int×Int)×List Op×Unit:=(r.1.1,r.1.2.1,r.2,r.1.2.2,())
theorem VJ (o:Op) (ho:WOp o):W.jA o=some (o.1,o.2.1,o.2.2.2.1,o.2.2.2.2.1,o.2.2.1,o.2.2.2.2.2,()):=by
 simp only [W.jA,W.jA.c1,clone_ok _ ho.1,clone_ok _ ho.2,jk]
theorem inv1D_ok (o:Op) (h:0≤o.2.1∧o.2.1≤15):W.jV o.1 o.2.1 o.2.2.2.1 o.2.2.2.2.1 o.2.2.1 o.2.2.2.2.2=some (o.1,(16 - o.2.1) % 16,o.2.2.2.1,o.2.2.2.2.1,o.2.2.1,o.2.2.2.2.2,()):=by
 simp only [W.jV]
 rw [jS (by omega),Int.tmod_eq_emod_of_nonneg (by omega)]
theorem revD_ok (l:List Op) (h:l.length≤1759218604390):W.Jw l=some (l.reverse,()):=by
 unfold W.Jw
 rw [show decide (List.length l≤1759218604390)=true from decide_eq_true h]
 rfl
theorem eachInvD_ok (c:Cir) (hc:WCir c) (hk : ∀ o∈c.2.2,0≤o.2.1∧o.2.1≤15):W.jB c=some (c.1,c.2.1,c.2.2.map invOp,()):=by
 obtain ⟨qn,bn,ops⟩:=c
 obtain ⟨hl,hw⟩:=hc
 simp only at hl hw hk
 have h : ∃ r,iter (fun s:Int×List Op↦W.jB.c100003 ops (ops.length:Int) s.1 s.2 some) ((0:Int),[])=some r∧r.2=ops.map invOp:=by
  refine Jy (l:=ops) (fun pre r s=>s=((pre.length:Int),pre.map invOp)) _ ?_ ?_ rfl
  ·rintro pre a r s rfl rfl
   simp only [List.length_append,List.length_cons] at hl
   simp only [W.jB.c100003,W.jB.c5,br_if,JO,jk,WOp.eta,VJ a (hw a (by simp)),inv1D_ok a (hk a (by simp))]
   rw [if_pos kf,JG (by simp;omega),jS (by omega)]
   exact .inl ⟨_,rfl,by simp [invOp]⟩
  ·rintro s rfl
   simp only [W.jB.c100003,br_if]
   rw [if_neg (by simp)]
   exact ⟨_,rfl,rfl⟩
 obtain ⟨r,hr,h⟩:=h
 simp only [W.jB,hr,jk,h]
theorem inverseD_ok (c:Cir) (hc:WCir c):W.jI c=some (outD (JZ c)):=by
 simp only [W.jI,W.jI.c3,WCir.eta,pure_ok c hc,jk,br_if,JZ]
 by_cases h:(pur c).1=0
 ·obtain ⟨hg,hp,_⟩:=VZ h
  rw [if_neg (by simp [h]),if_neg (by simp [h]),eachInvD_ok c hc (fun o ho=>(YJ (hg.ops o ho)).k)]
  simp only [jk]
  rw [revD_ok _ (by simpa using hc.1)]
  rfl
 ·rw [if_pos (by simp [h]),if_pos h]
theorem rinverseD_ok (c:Cir) (hc:WCir c):W.jo c=some (outD (JZ c)):=by
 simp only [W.jo,W.jo.c3,W.jo.c12,WCir.eta,rpure_ok c hc,jk,br_if,JZ]
 by_cases h:(pur c).1=0
 ·obtain ⟨hg,hp,_⟩:=VZ h
  obtain ⟨qn,bn,ops⟩:=c
  obtain ⟨hl,hw⟩:=hc
  simp only at hl hw
  rw [if_neg (by simp [h]),if_neg (by simp [h])]
  have hk : ∀ o∈ops,0≤o.2.1∧o.2.1≤15:=fun o ho=>(YJ (hg.ops o ho)).k
  have key : ∃ r,iter (fun s:Int×List Op↦W.jo.c100006 s.1 ops s.2 some) (IntKind.i64.wrap ((ops.length:Int) - 1),[])=some r∧r.2=(ops.map invOp).reverse:=by
   refine Jy (l:=ops.reverse) (fun pre r s=>s=((r.length:Int) - 1,pre.map invOp)) _ ?_ ?_ (by rw [jS (by omega)];simp)
   ·rintro pre o r s he rfl
    have he':ops=r.reverse++o::pre.reverse:=by
     have:=congrArg List.reverse he
     simpa using this
    have ho:o∈ops:=by rw [he'];simp
    have hidx:idx ops ((o::r).length - 1:Int)=some o:=by
     have:=JO (pre:=r.reverse) (a:=o) (r:=pre.reverse)
     rw [he']
     simpa using this
    have hlen:=congrArg List.length he'
    simp only [List.length_append,List.length_reverse,List.length_cons] at hlen
    have h2:W.jo.c236869 o.2.1 some=some ((16 - o.2.1) % 16):=by
     have:=hk o ho
     simp only [W.jo.c236869,br_if]
     rw [jS (by omega)]
     split
     ·rename_i h;simp at h;congr 1;omega
     ·rename_i h;simp at h;congr 1;omega
    simp only [W.jo.c100006,br_if,hidx,jk,rcopyOpOwn_ok o (hw o ho),h2]
    rw [if_pos (by simp),JG (by simp;omega),jS (by simp;omega)]
    exact .inl ⟨_,rfl,by simp [invOp]⟩
   ·rintro s rfl
    simp only [W.jo.c100006,br_if]
    rw [if_neg (by simp)]
    exact ⟨_,rfl,by simp⟩
  obtain ⟨r,hr,h'⟩:=key
  rw [hr]
  simp only [jk,h',hp,inv]
 ·rw [if_pos (by simp [h]),if_pos h]
theorem powAppD_ok (b t:List Op) (hw : ∀ o∈b,WOp o) (hl:t.length+b.length≤100000000000) :
 ∃ r,iter (fun s:Int×List Op↦W.jb.c100014 b (b.length:Int) s.1 s.2 some) ((0:Int),t)=some r∧r.2=t++b:=by
 refine Jy (l:=b) (fun pre r s=>s=((pre.length:Int),t++pre)) _ ?_ ?_ (by simp)
 ·rintro pre a r s rfl rfl
  simp only [List.length_append,List.length_cons] at hl
  simp only [W.jb.c100014,W.jb.c16,br_if,JO,jk,WOp.eta,VJ a (hw a (by simp))]
  rw [if_pos kf,JG (by simp;omega),jS (by omega)]
  exact .inl ⟨_,rfl,by simp⟩
 ·rintro s rfl
  simp only [W.jb.c100014,br_if]
  rw [if_neg (by simp)]
  exact ⟨_,rfl,rfl⟩
theorem rpowAppD_ok (b t:List Op) (hw : ∀ o∈b,WOp o) (hl:t.length+b.length≤100000000000) :
 ∃ r,iter (fun s:Int×List Op↦W.jf.c100014 s.1 b s.2 some) ((0:Int),t)=some r∧r.2=t++b:=by
 refine Jy (l:=b) (fun pre r s=>s=((pre.length:Int),t++pre)) _ ?_ ?_ (by simp)
 ·rintro pre a r s rfl rfl
  simp only [List.length_append,List.length_cons] at hl
  simp only [W.jf.c100014,W.jf.c16,br_if,JO,jk,rcopyOpOwn_ok a (hw a (by simp))]
  rw [if_pos kf,JG (by simp;omega),jS (by omega)]
  exact .inl ⟨_,rfl,by simp⟩
 ·rintro s rfl
  simp only [W.jf.c100014,br_if]
  rw [if_neg (by simp)]
  exact ⟨_,rfl,rfl⟩
theorem powerD_ok (c:Cir) (n:Int) (hc:WCir c) (hn : -9223372036854775808≤n∧n≤9223372036854775807):W.jb c n=some (outD (power c n)):=by
 obtain ⟨qn,bn,ops⟩:=c
 have hl:=hc.1
 simp only at hl
 simp only [W.jb,W.jb.c1,W.jb.c5,W.jb.c208197,pure_ok _ hc,inverse_ok _ hc,jk,br_if,power]
 by_cases h:(pur (qn,bn,ops)).1=0
 ·obtain ⟨hg,hp,_⟩:=VZ h
  have hinv:JZ (qn,bn,ops)=(inv (qn,bn,ops),(0,0)):=by unfold JZ;rw [if_neg (by simp [h])]
  have hb:(if decide (n < 0)=true then some ((JZ (qn,bn,ops)).1.1,(JZ (qn,bn,ops)).1.2.1,(JZ (qn,bn,ops)).1.2.2,(JZ (qn,bn,ops)).2.1,(JZ (qn,bn,ops)).2.2) else some (qn,bn,ops,(pur (qn,bn,ops)).1,(pur (qn,bn,ops)).2))=some (qn,bn,base (qn,bn,ops) n,(0:Int),(0:Int)):=by
   rw [hinv,hp]
   unfold base
   by_cases h0:n < 0 <;> simp [h0,inv]
  rw [hb]
  have hsz:W.jb.c228677 n n some=some (if n = -9223372036854775808 then n else (n.natAbs:Int)):=by
   simp only [W.jb.c228677,br_if]
   by_cases h0:n < 0
   ·rw [if_pos (by simpa using h0)]
    by_cases h1:n = -9223372036854775808
    ·rw [if_pos h1,h1];rfl
    ·rw [if_neg h1,jS (by omega)];congr 1;omega
   ·rw [if_neg (by simpa using h0),if_neg (by omega)];congr 1;omega
  have hR : ¬ ((pur (qn,bn,ops)).1≠0):=by simp [h]
  rw [if_neg hR]
  simp only [jk,hsz]
  rw [if_neg (by simp)]
  by_cases hmin:n = -9223372036854775808
  ·rw [if_pos hmin]
   by_cases h0:ops.length=0
   ·have:ops=[]:=List.eq_nil_of_length_eq_zero h0
    subst this
    have hbase:base (qn,bn,[]) n=[]:=by unfold base;split <;> rfl
    have hflat : ∀ k:Nat,(List.replicate k ([]:List Op)).flatten=[]:=fun k=>by simp
    rw [hbase,hflat]
    have hit:iter (fun s:List Op↦W.jb.c100012 n [] s some) []=some []:=by
     apply YT
     simp only [W.jb.c100012,br_if]
     rw [show n*((List.length ([]:List Op):Nat):Int)=0 by simp,jS (by omega)]
     rfl
    have h9:W.jb.c9 n ([]:List Op) some=some false:=rfl
    rw [h9,hit,List.length_nil,Nat.mul_zero]
    rfl
   ·simp only [W.jb.c9,br_if]
    rw [if_pos (by simp;omega),if_pos (by simp only [decide_eq_true_eq];omega),if_pos (by
     have:1≤ops.length:=by omega
     have h9:9223372036854775808≤n.natAbs:=by omega
     have:=Nat.mul_le_mul h9 this
     omega)]
    simp [jk,Vg]
  ·rw [if_neg hmin]
   have hc9:W.jb.c9 (n.natAbs:Int) ops some=some (decide (4096 < n.natAbs*ops.length)):=by
    simp only [W.jb.c9,br_if]
    by_cases h0:ops.length=0
    ·rw [if_neg (by simp [h0])];simp [h0]
    ·have hne:ops≠[]:=fun e=>h0 (by rw [e];rfl)
     rw [if_pos (by simp;omega),if_neg (by simp),JG (by simp [hne]),jk]
     rw [Int.tdiv_eq_ediv_of_nonneg (by omega)]
     have h1:(4096:Int) / (ops.length:Int)=((4096 / ops.length:Nat):Int):=by simp
     have h2:4096 / ops.length≤4096:=Nat.div_le_self _ _
     have:=mul_gt (s:=n.natAbs) (l:=ops.length) (by omega)
     rw [h1]
     generalize 4096 / ops.length=d at *
     rw [jS (by omega)]
     congr 1
     simp only [gt_iff_lt,decide_eq_decide]
     omega
   rw [hc9]
   simp only [jk,decide_eq_true_eq]
   by_cases hbig:4096 < n.natAbs*ops.length
   ·rw [if_pos hbig,if_pos hbig]
    simp [jk,Vg]
   ·rw [if_neg hbig,if_neg hbig]
    have hbl:=base_len (qn,bn,ops) n
    simp only at hbl
    have key : ∃ r,iter (fun s:List Op↦W.jb.c100012 (n.natAbs:Int) (base (qn,bn,ops) n) s some) []=some r∧r=(List.replicate n.natAbs (base (qn,bn,ops) n)).flatten:=by
     by_cases h0:ops.length=0
     ·have:base (qn,bn,ops) n=[]:=List.eq_nil_of_length_eq_zero (by omega)
      rw [this]
      refine ⟨[],?_,by simp⟩
      apply YT
      simp only [W.jb.c100012,br_if]
      rw [jS (by simp)]
      simp
     ·refine YK n.natAbs (fun i s=>s=(List.replicate i (base (qn,bn,ops) n)).flatten) _ ?_ ?_ (by simp)
      ·rintro i s hi rfl
       have hi1:(i+1)*ops.length≤n.natAbs*ops.length:=Nat.mul_le_mul_right _ (by omega)
       have hi2:i*ops.length < n.natAbs*ops.length:=Nat.mul_lt_mul_of_pos_right hi (by omega)
       have hm:(n.natAbs:Int)*((base (qn,bn,ops) n).length:Int)=((n.natAbs*ops.length:Nat):Int):=by rw [hbl];simp
       simp only [W.jb.c100012,br_if]
       rw [hm,jS (by omega),if_pos (by rw [Uv,hbl];simp only [decide_eq_true_eq];exact Int.ofNat_lt.2 hi2)]
       obtain ⟨r,hr,h'⟩:=powAppD_ok (base (qn,bn,ops) n) (List.replicate i (base (qn,bn,ops) n)).flatten (base_w hc n) (by rw [Uv,hbl];rw [Nat.succ_mul] at hi1;omega)
       rw [hr,jk,h',flat_snoc]
       exact .inl ⟨_,rfl,rfl⟩
      ·rintro s rfl
       have hm:(n.natAbs:Int)*((base (qn,bn,ops) n).length:Int)=((n.natAbs*ops.length:Nat):Int):=by rw [hbl];simp
       simp only [W.jb.c100012,br_if]
       rw [hm,jS (by omega),if_neg (by rw [Uv,hbl];simp)]
       exact ⟨_,rfl,rfl⟩
    obtain ⟨r,hr,h'⟩:=key
    rw [hr,jk,h']
 ·have hinv:JZ (qn,bn,ops)=(nix,pur (qn,bn,ops)):=by unfold JZ;rw [if_pos h]
  rw [hinv,if_pos h]
  by_cases h0:n < 0
  ·rw [if_pos (by simpa using h0)]
   simp only [jk]
   rw [if_pos (by simpa using h)]
  ·rw [if_neg (by simpa using h0)]
   simp only [jk]
   rw [if_pos (by simpa using h)]
theorem rpowerD_ok (c:Cir) (n:Int) (hc:WCir c) (hn : -9223372036854775808≤n∧n≤9223372036854775807):W.jf c n=some (outD (power c n)):=by
 obtain ⟨qn,bn,ops⟩:=c
 have hl:=hc.1
 simp only at hl
 simp only [W.jf,W.jf.c3,W.jf.c9,W.jf.c20,W.jf.c224581,rpure_ok _ hc,rinverse_ok _ hc,jk,br_if,power]
 by_cases h:(pur (qn,bn,ops)).1=0
 ·obtain ⟨hg,hp,_⟩:=VZ h
  have hinv:JZ (qn,bn,ops)=(inv (qn,bn,ops),(0,0)):=by unfold JZ;rw [if_neg (by simp [h])]
  have hb:(if decide (n < 0)=true then some ((JZ (qn,bn,ops)).1.1,(JZ (qn,bn,ops)).1.2.1,(JZ (qn,bn,ops)).1.2.2) else some (qn,bn,ops))=some (qn,bn,base (qn,bn,ops) n):=by
   rw [hinv]
   unfold base
   by_cases h0:n < 0 <;> simp [h0,inv]
  rw [hb]
  have hR : ¬ ((pur (qn,bn,ops)).1≠0):=by simp [h]
  rw [if_neg hR]
  simp only [jk]
  rw [if_neg (by simp [h])]
  have hbl:=base_len (qn,bn,ops) n
  simp only at hbl
  by_cases h0:ops.length=0
  ·have:ops=[]:=List.eq_nil_of_length_eq_zero h0
   subst this
   have hbase:base (qn,bn,[]) n=[]:=List.eq_nil_of_length_eq_zero (by rw [hbl];rfl)
   rw [if_pos (by simp),if_neg (by simp),hbase,hp]
   simp
  ·have hne:ops≠[]:=fun e=>h0 (by rw [e];rfl)
   rw [if_neg (by simp [hne])]
   generalize hB:base (qn,bn,ops) n=B at *
   have hBw : ∀ o∈B,WOp o:=by rw [← hB];exact base_w hc n
   have key : ∃ r,iter (fun s:Int×List Op↦W.jf.c100010 s.1 B s.2 some) (n,[])=some r ∧
    ((∃ u,r = .inl u∧u.2.1=2∧u.2.2.1=0∧4096 < n.natAbs*ops.length) ∨ ∃ u,r = .inr u∧u.2=(List.replicate n.natAbs B).flatten ∧ ¬ 4096 < n.natAbs*ops.length):=by
    refine YK n.natAbs (fun i s=>s=(if 0 < n then n - i else n+i,(List.replicate i B).flatten)∧i*ops.length≤4096) _ ?_ ?_ ⟨by simp,by simp⟩
    ·rintro i s hi ⟨rfl,h4⟩
     have hfl:(List.replicate i B).flatten.length=i*ops.length:=by rw [Uv,hbl]
     simp only [W.jf.c100010,br_if,Yp,jk]
     rw [if_pos (by simp;split <;> omega),hfl,hbl]
     have hc1:((i*ops.length:Nat):Int)+(ops.length:Int)=(((i+1)*ops.length:Nat):Int):=by rw [Nat.succ_mul];simp
     have hg4:=hg.n
     simp only at hg4
     have hi1:(i+1)*ops.length≤n.natAbs*ops.length:=Nat.mul_le_mul_right _ (by omega)
     have hi3:(i+1)*ops.length=i*ops.length+ops.length:=Nat.succ_mul _ _
     rw [hc1,jS (by omega)]
     by_cases hbig:4096 < (i+1)*ops.length
     ·rw [if_pos (by simp only [gt_iff_lt,decide_eq_true_eq];omega)]
      exact .inr ⟨_,rfl,.inl ⟨_,rfl,rfl,rfl,by omega⟩⟩
     ·rw [if_neg (by simp only [gt_iff_lt,decide_eq_true_eq];omega)]
      obtain ⟨r,hr,h'⟩:=rpowAppD_ok B (List.replicate i B).flatten hBw (by omega)
      rw [hr,jk,h',flat_snoc]
      by_cases hpos:0 < n
      ·simp only [if_pos hpos]
       rw [if_pos (by simp;omega),jS (by omega)]
       exact .inl ⟨_,rfl,by simp;omega,by omega⟩
      ·simp only [if_neg hpos]
       rw [if_neg (by simp;omega),jS (by omega)]
       exact .inl ⟨_,rfl,by simp;omega,by omega⟩
    ·rintro s ⟨rfl,h4⟩
     simp only [W.jf.c100010,br_if]
     rw [if_neg (by simp;split <;> omega)]
     exact ⟨_,rfl,.inr ⟨_,rfl,rfl,by omega⟩⟩
   obtain ⟨r,hr,h'⟩:=key
   rw [hr,jk]
   rcases h' with ⟨u,rfl,h1,h2,h3⟩ | ⟨u,rfl,h1,h2⟩
   ·rw [kU,if_pos h3,h1,h2]
   ·rw [kJ,if_neg h2,h1,hp]
 ·rw [if_pos (by simpa using h),if_pos h]
theorem eachThenD_ok (c:Cir) (hc:WCir c):W.jy c=some (c.1,c.2.1,c.2.2,()):=by
 obtain ⟨qn,bn,ops⟩:=c
 obtain ⟨hl,hw⟩:=hc
 simp only at hl hw
 have h : ∃ r,iter (fun s:Int×List Op↦W.jy.c100003 ops (ops.length:Int) s.1 s.2 some) ((0:Int),[])=some r∧r.2=ops:=by
  refine Jy (l:=ops) (fun pre r s=>s=((pre.length:Int),pre)) _ ?_ ?_ rfl
  ·rintro pre a r s rfl rfl
   simp only [List.length_append,List.length_cons] at hl
   have h1:W.Jp a.1 a.2.1 a.2.2.2.1 a.2.2.2.2.1 a.2.2.1 a.2.2.2.2.2=some (a.1,a.2.1,a.2.2.2.1,a.2.2.2.2.1,a.2.2.1,a.2.2.2.2.2,()):=rfl
   simp only [W.jy.c100003,W.jy.c5,br_if,JO,jk,WOp.eta,VJ a (hw a (by simp)),h1]
   rw [if_pos kf,JG (by simp;omega),jS (by omega)]
   exact .inl ⟨_,rfl,by simp⟩
  ·rintro s rfl
   simp only [W.jy.c100003,br_if]
   rw [if_neg (by simp)]
   exact ⟨_,rfl,rfl⟩
 obtain ⟨r,hr,h⟩:=h
 simp only [W.jy,hr,jk,h]
theorem thenD_ok (a b:Cir) (ha:WCir a) (hb:WCir b):W.ji a b=some (outD (thenC a b)):=by
 simp only [W.ji,W.ji.c3,W.ji.c6,WCir.eta,Uu _ ha,Uu _ hb,jk,Vg,thenC]
 by_cases h1:(chk a).1=0
 ·rw [Ys (by simp [h1])]
  obtain ⟨ga,ea⟩:=kQ h1
  by_cases h2:(chk b).1=0
  ·rw [Ys (by simp [h2])]
   obtain ⟨gb,eb⟩:=kQ h2
   have h7:W.ji.c7 a.1 a.2.1 b.1 b.2.1 some=some (decide (a.1≠b.1∨a.2.1≠b.2.1)):=by
    simp only [W.ji.c7,br_or];exact JF (by simp)
   rw [h7]
   simp only [jk]
   by_cases h3:a.1≠b.1∨a.2.1≠b.2.1
   ·have e:thenF a b=(16,0):=by unfold thenF;rw [if_neg (by simp [h1]),if_neg (by simp [h2]),if_pos h3]
    rw [UO h3,e]
    rfl
   ·rw [UN h3]
    have hn1:=ga.n
    have hn2:=gb.n
    rw [jS (by omega)]
    by_cases h4:4096 < a.2.2.length+b.2.2.length
    ·have e:thenF a b=(2,0):=by unfold thenF;rw [if_neg (by simp [h1]),if_neg (by simp [h2]),if_neg h3,if_pos h4]
     rw [UO (by omega),e]
     rfl
    ·have e:thenF a b=(0,0):=by unfold thenF;rw [if_neg (by simp [h1]),if_neg (by simp [h2]),if_neg h3,if_neg h4]
     rw [UN (by omega),e,if_neg (by simp)]
     simp only [eachThenD_ok a ha,jk]
     obtain ⟨q1,b1,l1⟩:=a
     obtain ⟨q2,b2,l2⟩:=b
     simp only at h4 hn1 hn2 ⊢
     have hw2:=hb.2
     simp only at hw2
     have h : ∃ r,iter (fun s:Int×List Op↦W.ji.c100013 l2 (l2.length:Int) s.1 s.2 some) ((0:Int),l1)=some r∧r.2=l1++l2:=by
      refine Jy (l:=l2) (fun pre r s=>s=((pre.length:Int),l1++pre)) _ ?_ ?_ (by simp)
      ·rintro pre o r s rfl rfl
       simp only [List.length_append,List.length_cons] at hn2
       simp only [W.ji.c100013,W.ji.c15,br_if,JO,jk,WOp.eta,VJ o (hw2 o (by simp))]
       rw [if_pos kf,JG (by simp;omega),jS (by omega)]
       exact .inl ⟨_,rfl,by simp⟩
      ·rintro s rfl
       simp only [W.ji.c100013,br_if]
       rw [if_neg (by simp)]
       exact ⟨_,rfl,rfl⟩
     obtain ⟨r,hr,h⟩:=h
     simp only [hr,jk,h]
  ·have e:thenF a b=chk b:=by unfold thenF;rw [if_neg (by simp [h1]),if_pos h2]
   rw [YG (by simp [h2]),e,if_pos h2]
 ·have e:thenF a b=chk a:=by unfold thenF;rw [if_pos h1]
  rw [YG (by simp [h1]),e,if_pos h1]
theorem rthenD_ok (a b:Cir) (ha:WCir a) (hb:WCir b):W.jd a b=some (outD (thenC a b)):=by
 have la:=ha.1
 have lb:=hb.1
 have s1:W.jd.c208197 b.1 b.2.1 b.2.2 (chk a).1 (chk a).2 some=some (if (chk a).1≠0 then chk a else chk b):=by
  simp only [W.jd.c208197,WCir.eta,rcheck_ok b hb,jk]
  by_cases h:(chk a).1=0
  ·rw [YG (by simp [h]),if_neg (by simp [h])]
  ·rw [Ys (by simp [h]),if_pos h]
 have s2 : ∀ f:Int×Int,W.jd.c216389 a.1 a.2.1 b.1 b.2.1 f.1 f.2 some=some (if f.1=0∧(a.1≠b.1∨a.2.1≠b.2.1) then (16,0) else f):=by
  intro f
  have h4:W.jd.c4 a.1 a.2.1 b.1 b.2.1 f.1 some=some (decide (f.1=0∧(a.1≠b.1∨a.2.1≠b.2.1))):=by
   simp only [W.jd.c4,br_or,YF];exact JF (by simp)
  simp only [W.jd.c216389,h4,jk,Yp,br_if,decide_eq_true_eq]
  split <;> rfl
 have s3 : ∀ f:Int×Int,W.jd.c224581 a.2.2 b.2.2 f.1 f.2 some=some (if f.1=0∧4096 < a.2.2.length+b.2.2.length then (2,0) else f):=by
  intro f
  have h4:W.jd.c6 a.2.2 b.2.2 f.1 some=some (decide (f.1=0∧4096 < a.2.2.length+b.2.2.length)):=by
   simp only [W.jd.c6]
   rw [jS (by omega)]
   simp only [YF];exact JF (by simp;omega)
  simp only [W.jd.c224581,h4,jk,Yp,br_if,decide_eq_true_eq]
  split <;> rfl
 simp only [W.jd,W.jd.c9,W.jd.c15,WCir.eta,rcheck_ok _ ha,jk,s1,s2,s3]
 have e:(if (if (if (chk a).1≠0 then chk a else chk b).1=0∧(a.1≠b.1∨a.2.1≠b.2.1) then ((16:Int),(0:Int)) else if (chk a).1≠0 then chk a else chk b).1=0∧4096 < a.2.2.length+b.2.2.length then ((2:Int),(0:Int)) else if (if (chk a).1≠0 then chk a else chk b).1=0∧(a.1≠b.1∨a.2.1≠b.2.1) then (16,0) else if (chk a).1≠0 then chk a else chk b)=thenF a b:=by
  unfold thenF
  by_cases h1:(chk a).1=0
  ·obtain ⟨_,ea⟩:=kQ h1
   by_cases h2:(chk b).1=0
   ·obtain ⟨_,eb⟩:=kQ h2
    by_cases h3:a.1≠b.1∨a.2.1≠b.2.1
    ·simp [ea,eb,h3]
    ·by_cases h4:4096 < a.2.2.length+b.2.2.length <;> simp [ea,eb,h3,h4]
   ·simp [ea,h2]
  ·simp [h1]
 rw [e]
 unfold thenC
 by_cases h0:(thenF a b).1=0
 ·have hfz:thenF a b=(0,0)∧b.2.2.length≤4096∧a.2.2.length≤4096:=by
   unfold thenF at h0 ⊢
   by_cases h1:(chk a).1=0
   ·obtain ⟨ga,ea⟩:=kQ h1
    by_cases h2:(chk b).1=0
    ·obtain ⟨gb,eb⟩:=kQ h2
     refine ⟨?_,gb.n,ga.n⟩
     rw [if_neg (by simp [h1]),if_neg (by simp [h2])] at h0 ⊢
     split at h0
     ·cases h0
     ·rename_i h3
      rw [if_neg h3]
      split at h0
      ·cases h0
      ·rename_i h4
       rw [if_neg h4]
    ·rw [if_neg (by simp [h1]),if_pos h2] at h0
     exact absurd h0 h2
   ·rw [if_pos h1] at h0
    exact absurd h0 h1
  obtain ⟨ef,hn2,hn1⟩:=hfz
  rw [Ys (by simp [h0]),if_neg (by simp [h0]),ef]
  simp only [copyDeep_ok a ha,jk]
  obtain ⟨q1,b1,l1⟩:=a
  obtain ⟨q2,b2,l2⟩:=b
  simp only at hn1 hn2 ⊢
  have hw2:=hb.2
  simp only at hw2
  have h : ∃ r,iter (fun s:Int×List Op↦W.jd.c100012 s.1 l2 s.2 some) ((0:Int),l1)=some r∧r.2=l1++l2:=by
   refine Jy (l:=l2) (fun pre r s=>s=((pre.length:Int),l1++pre)) _ ?_ ?_ (by simp)
   ·rintro pre o r s rfl rfl
    simp only [List.length_append,List.length_cons] at hn2
    simp only [W.jd.c100012,W.jd.c14,br_if,JO,jk,rcopyOpOwn_ok o (hw2 o (by simp))]
    rw [if_pos kf,JG (by simp;omega),jS (by omega)]
    exact .inl ⟨_,rfl,by simp⟩
   ·rintro s rfl
    simp only [W.jd.c100012,br_if]
    rw [if_neg (by simp)]
    exact ⟨_,rfl,rfl⟩
  obtain ⟨r,hr,h⟩:=h
  simp only [hr,jk,h]
 ·rw [YG (by simp [h0]),if_pos h0]
theorem move1D_ok (o:Op) (to:List Int) (ho:WOp o) (hq:QOp o to.length) :
 W.jr o.1 o.2.1 o.2.2.2.1 o.2.2.2.2.1 o.2.2.1 o.2.2.2.2.2 to=some (o.1,o.2.1,(mvO to o).2.2.2.1,o.2.2.2.2.1,(mvO to o).2.2.1,o.2.2.2.2.2,to,()):=by
 have hl:=ho.1
 have h1:W.jr.c204101 o.1 o.2.2.2.1 to some=some (mvO to o).2.2.2.1:=by
  simp only [W.jr.c204101,br_if,idx_go hq.q,jk,mvO]
  by_cases h:o.1=1
  ·rw [if_neg (by simp [h]),if_neg (by simp [h])]
  ·rw [if_pos (by simp [h]),if_pos h]
 have key : ∃ r,iter (fun s:Int×List Int↦W.jr.c100004 (o.2.2.1.length:Int) s.1 s.2 to some) ((0:Int),o.2.2.1)=some r∧r.2=o.2.2.1.map (goQ to):=by
  refine Jy (l:=o.2.2.1) (fun pre r s=>s=((pre.length:Int),pre.map (goQ to)++r)) _ ?_ ?_ rfl
  ·rintro pre a r s he rfl
   have ha:=hq.c a (by rw [he];simp)
   rw [he] at hl ⊢
   simp only [List.length_append,List.length_cons] at hl
   have hn:(pre.map (goQ to)).length=pre.length:=List.length_map _
   simp only [W.jr.c100004,W.jr.c6,br_if,Yt hn,Yu hn,YW hn,idx_go ha,jk]
   rw [if_pos kf,jS (by omega)]
   exact .inl ⟨_,rfl,by simp⟩
  ·rintro s rfl
   simp only [W.jr.c100004,br_if]
   rw [if_neg (by simp)]
   exact ⟨_,rfl,by simp⟩
 obtain ⟨r,hr,h⟩:=key
 simp only [W.jr,h1,hr,h,jk]
 rfl
theorem eachMoveD_ok (c:Cir) (to:List Int) (hc:WCir c) (hq : ∀ o∈c.2.2,QOp o to.length):W.jx c to=some (c.1,c.2.1,c.2.2.map (mvO to),to,()):=by
 obtain ⟨qn,bn,ops⟩:=c
 obtain ⟨hl,hw⟩:=hc
 simp only at hl hw hq
 have h : ∃ r,iter (fun s:Int×List Op×List Int↦W.jx.c100003 ops (ops.length:Int) s.1 s.2.1 s.2.2 some) ((0:Int),[],to)=some r∧r.2.1=ops.map (mvO to)∧r.2.2=to:=by
  refine Jy (l:=ops) (fun pre r s=>s=((pre.length:Int),pre.map (mvO to),to)) _ ?_ ?_ rfl
  ·rintro pre a r s rfl rfl
   simp only [List.length_append,List.length_cons] at hl
   simp only [W.jx.c100003,W.jx.c5,br_if,JO,jk,WOp.eta,VJ a (hw a (by simp)),move1D_ok a to (hw a (by simp)) (hq a (by simp))]
   rw [if_pos kf,JG (by simp;omega),jS (by omega)]
   exact .inl ⟨_,rfl,by simp [mvO]⟩
  ·rintro s rfl
   simp only [W.jx.c100003,br_if]
   rw [if_neg (by simp)]
   exact ⟨_,rfl,rfl,rfl⟩
 obtain ⟨r,hr,h1,h2⟩:=h
 simp only [W.jx,hr,jk,h1,h2]
theorem mvD_c4 (n:Int):W.jn.c4 n some=some (decide (n < 1∨12 < n)):=by
 simp only [W.jn.c4];rw [br_or];exact JF (by simp)
theorem mvD_c11 (n x:Int) (pre r:List Int) (hl:(pre++x::r).length≤17592186043904):W.jn.c11 n (pre.length:Int) x (pre++x::r) some=some (decide (x < 0∨n≤x∨x∈pre)):=by
 simp only [List.length_append,List.length_cons] at hl
 simp only [W.jn.c11,Int.toNat_natCast,List.take_left,contains_ok pre x (by omega),jk]
 rw [JG (by simp;omega)]
 simp only [jk]
 rw [br_or,br_or]
 exact JF (by simp)
theorem moveD_ok (c:Cir) (to:List Int) (n:Int) (hc:WCir c) (ht:to.length≤17592186043904):W.jn c to n=some (outD (moved c to n)):=by
 simp only [W.jn,W.jn.c3,WCir.eta,Uu c hc,mvD_c4,Vg,jk,br_if,moved]
 have hF:moveF c to n=if (chk c).1≠0 then chk c else if n < 1∨12 < n then (6,0) else if (to.length:Int)≠c.1 then (17,0) else ku n [] to:=rfl
 by_cases h1:(chk c).1=0
 ·rw [if_neg (show ¬ ((chk c).1 != 0)=true by simp [h1])]
  rw [if_neg (show ¬ (chk c).1≠0 by simp [h1])] at hF
  by_cases h2:n < 1∨12 < n
  ·rw [if_pos (show decide (n < 1∨12 < n)=true by simpa using h2)]
   rw [if_pos h2] at hF
   rw [hF];rfl
  ·rw [if_neg (show ¬ decide (n < 1∨12 < n)=true by simpa using h2)]
   rw [if_neg h2] at hF
   by_cases h3:(to.length:Int)=c.1
   ·rw [if_neg (show ¬ (((to.length:Int)) != c.1)=true by simp [h3])]
    rw [if_neg (show ¬ (to.length:Int)≠c.1 by simp [h3])] at hF
    have hg:=(kQ h1).1
    have key : ∃ r,iter (fun s:Int↦W.jn.c100009 n to (to.length:Int) s to some) (0:Int)=some r ∧
     ((∃ u,r = .inl u∧(u.2.1,u.2.2)=ku n [] to∧(ku n [] to).1≠0) ∨ ∃ u,r = .inr u∧(0,0)=ku n [] to):=by
     refine Jy (l:=to) (fun pre r s=>s=(pre.length:Int)∧ku n pre r=ku n [] to) _ ?_ ?_ ⟨rfl,rfl⟩
     ·rintro pre x r s he ⟨rfl,h4⟩
      rw [he] at ht ⊢
      simp only [W.jn.c100009,br_if,JO,jk,mvD_c11 n x pre r ht,Vg]
      simp only [List.length_append,List.length_cons] at ht
      rw [if_pos kf]
      rw [he,ku] at h4
      by_cases ho:x < 0∨n≤x∨x∈pre
      ·rw [if_pos ho] at h4
       rw [if_pos (by simpa using ho)]
       exact .inr ⟨_,rfl,.inl ⟨_,rfl,h4,by rw [← h4];simp⟩⟩
      ·rw [if_neg ho] at h4
       rw [if_neg (by simpa using ho),jS (by omega)]
       exact .inl ⟨_,rfl,by simp,by simpa using h4⟩
     ·rintro s ⟨rfl,h4⟩
      simp only [W.jn.c100009,br_if]
      rw [if_neg (by simp)]
      exact ⟨_,rfl,.inr ⟨_,rfl,h4⟩⟩
    obtain ⟨r,hr,h⟩:=key
    rw [hr,jk,hF]
    rcases h with ⟨u,rfl,h,h5⟩ | ⟨u,rfl,h⟩
    ·rw [kU,if_pos h5,← h]
    ·rw [kJ,if_neg (by rw [← h];simp),eachMoveD_ok c to hc (fun o ho=>qop_of (YJ (hg.ops o ho)) h3)]
     rfl
   ·rw [if_pos (show (((to.length:Int)) != c.1)=true by simp [h3])]
    rw [if_pos h3] at hF
    rw [hF];rfl
 ·rw [if_pos (show ((chk c).1 != 0)=true by simp [h1])]
  rw [if_pos h1] at hF
  rw [hF,if_pos h1]
theorem rmDove_ctl (to:List Int) (A B:List Op) (i:Nat) (hi:A.length=i) (o:Op) (ho:WOp o) (hq : ∀ x∈o.2.2.1,0≤x∧x < (to.length:Int)) :
 ∃ r,iter (fun s:Int×List Op↦W.ja.c100021 to (i:Int) s.1 s.2 some) ((0:Int),A++o::B)=some r∧r.2=A++(o.1,o.2.1,o.2.2.1.map (goQ to),o.2.2.2)::B:=by
 have hl:=ho.1
 refine Jy (l:=o.2.2.1) (fun pre r s=>s=((pre.length:Int),A++(o.1,o.2.1,pre.map (goQ to)++r,o.2.2.2)::B)) _ ?_ ?_ rfl
 ·rintro pre a r s he rfl
  have ha:=hq a (by rw [he];simp)
  rw [he] at hl
  simp only [List.length_append,List.length_cons] at hl
  have hn:(pre.map (goQ to)).length=pre.length:=List.length_map _
  simp only [W.ja.c100021,W.ja.c23,br_if,Yt hi,Yu hi,YW hi,Yt hn,Yu hn,YW hn,idx_go ha,jk]
  rw [if_pos (by simp;omega),jS (by omega)]
  exact .inl ⟨_,rfl,by simp⟩
 ·rintro s rfl
  simp only [W.ja.c100021,br_if,Yt hi,Yu hi,jk]
  rw [if_neg (by simp)]
  exact ⟨_,rfl,by simp⟩
theorem rmDove_ops (to:List Int) (ops:List Op) (hl:ops.length≤1759218604390) (hw : ∀ o∈ops,WOp o) (hq : ∀ o∈ops,QOp o to.length) :
 ∃ r,iter (fun s:Int×List Op↦W.ja.c100016 to s.1 s.2 some) ((0:Int),ops)=some r∧r.2=ops.map (mvO to):=by
 refine Jy (l:=ops) (fun pre r s=>s=((pre.length:Int),pre.map (mvO to)++r)) _ ?_ ?_ rfl
 ·rintro pre o r s rfl rfl
  simp only [List.length_append,List.length_cons] at hl
  have hn:(pre.map (mvO to)).length=pre.length:=List.length_map _
  have ho:=hq o (by simp)
  have h1:W.ja.c273733 to (pre.length:Int) (pre.map (mvO to)++o::r) some=some (pre.map (mvO to)++(o.1,o.2.1,o.2.2.1,(mvO to o).2.2.2)::r):=by
   simp only [W.ja.c273733,W.ja.c19,br_if,Yt hn,Yu hn,YW hn,idx_go ho.q,jk,mvO]
   by_cases h:o.1=1
   ·rw [if_neg (by simp [h]),if_neg (by simp [h])]
   ·rw [if_pos (by simp [h]),if_pos h]
    simp
  obtain ⟨x,h2,h3⟩:=rmDove_ctl to (pre.map (mvO to)) r pre.length hn (o.1,o.2.1,o.2.2.1,(mvO to o).2.2.2) (hw o (by simp)) ho.c
  simp only [W.ja.c100016,br_if,h1,jk]
  rw [if_pos (by simp;omega),h2]
  simp only [jk]
  rw [jS (by omega),h3]
  exact .inl ⟨_,rfl,by simp [mvO]⟩
 ·rintro s rfl
  simp only [W.ja.c100016,br_if]
  rw [if_neg (by simp)]
  exact ⟨_,rfl,by simp⟩
theorem rmDv_c2 (n f:Int):W.ja.c2 n f some=some (decide (f=0∧(n < 1∨12 < n))):=by
 simp only [W.ja.c2];rw [br_or,YF];exact JF (by simp)
theorem rmDv_c4 (t:List Int) (a f:Int):W.ja.c4 t a f some=some (decide (f=0∧(t.length:Int)≠a)):=by
 simp only [W.ja.c4];rw [YF];exact JF (by simp)
theorem UI (t:List Int) (i f:Int):W.ja.c7 t i f some=some (decide (i < (t.length:Int)∧f=0)):=by
 simp only [W.ja.c7];rw [YF];exact JF (by simp)
theorem rmDv_c9 (n x:Int) (pre r:List Int) (hl:(pre++x::r).length≤17592186043904):W.ja.c9 (pre++x::r) n (pre.length:Int) some=some (decide (x < 0∨n≤x∨x∈pre)):=by
 simp only [List.length_append,List.length_cons] at hl
 simp only [W.ja.c9,JO,Int.toNat_natCast,List.take_left,member_ok pre x (by omega),jk]
 rw [JG (by simp;omega)]
 simp only [jk]
 rw [br_or,br_or]
 exact JF (by simp)
theorem rmoveD_ok (c:Cir) (to:List Int) (n:Int) (hc:WCir c) (ht:to.length≤17592186043904):W.ja c to n=some (outD (moved c to n)):=by
 have e1:W.ja.c208197 n (chk c).1 (chk c).2 some=some (if (chk c).1≠0 then chk c else if n < 1∨12 < n then (6,0) else (0,0)):=by
  simp only [W.ja.c208197,rmDv_c2,Yp,jk,br_if]
  by_cases h1:(chk c).1=0
  ·rw [(kQ h1).2]
   by_cases h2:n < 1∨12 < n
   ·simp [h2]
   ·simp [h2]
  ·simp [h1]
 have e2 : ∀ f:Int×Int,W.ja.c216389 to c.1 f.1 f.2 some=some (if f.1=0∧(to.length:Int)≠c.1 then (17,0) else f):=by
  intro f
  simp only [W.ja.c216389,rmDv_c4,Yp,jk,br_if,decide_eq_true_eq]
  split <;> rfl
 have e3 : ∀ f:Int×Int,∃ r,iter (fun s:Int×Int×Int↦W.ja.c100007 to n s.1 s.2.1 s.2.2 some) ((0:Int),f.1,f.2)=some r∧r.2=(if f.1=0 then (if (ku n [] to).1=0 then f else ku n [] to) else f):=by
  intro f
  by_cases hf:f.1=0
  ·rw [if_pos hf]
   have key : ∃ r,iter (fun s:Int×Int×Int↦W.ja.c100007 to n s.1 s.2.1 s.2.2 some) ((0:Int),f.1,f.2)=some r∧r.2=(if (ku n [] to).1=0 then f else ku n [] to):=by
    have stop : ∀ (i a b:Int),a≠0→W.ja.c100007 to n i a b some=some (.inr (i,a,b)):=by
     intro i a b h
     simp only [W.ja.c100007,UI,jk,br_if]
     rw [if_neg (by simp [h])]
    have gen : ∀ (r pre:List Int) (s:Int×Int×Int),to=pre++r→s=((pre.length:Int),f.1,f.2)→ku n pre r=ku n [] to →
     ∃ x,iter (fun s:Int×Int×Int↦W.ja.c100007 to n s.1 s.2.1 s.2.2 some) s=some x∧x.2=(if (ku n [] to).1=0 then f else ku n [] to):=by
     intro r
     induction r with
     | nil=>
       rintro pre s he rfl h4
       rw [List.append_nil] at he
       refine ⟨((pre.length:Int),f.1,f.2),YT ?_,?_⟩
       ·simp only [W.ja.c100007,UI,jk,br_if]
        rw [if_neg (by simp [he])]
       ·rw [← h4]
        simp [ku]
     | cons x r ih=>
       rintro pre s he rfl h4
       have ht':=ht
       rw [he] at ht'
       simp only [List.length_append,List.length_cons] at ht'
       have h9:W.ja.c9 to n (pre.length:Int) some=some (decide (x < 0∨n≤x∨x∈pre)):=by rw [he];exact rmDv_c9 n x pre r (by rw [← he];exact ht)
       have hlt:(decide ((pre.length:Int) < (to.length:Int)∧f.1=0))=true:=by simp [hf,he];omega
       rw [ku] at h4
       by_cases ho:x < 0∨n≤x∨x∈pre
       ·rw [if_pos ho] at h4
        refine ⟨((pre.length:Int)+1,17,(pre.length:Int)),iter_inl (s':=((pre.length:Int)+1,17,(pre.length:Int))) ?_ (YT (stop _ _ _ (by simp))),?_⟩
        ·simp only [W.ja.c100007,W.ja.c236870,UI,h9,Yp,jk,br_if]
         rw [if_pos hlt,if_pos (by simpa using ho)]
         simp only [jk]
         rw [jS (by omega)]
        ·rw [← h4];simp
       ·rw [if_neg ho] at h4
        obtain ⟨y,h5,h6⟩:=ih (pre++[x]) (((pre++[x]).length:Int),f.1,f.2) (by simp [he]) rfl h4
        refine ⟨y,iter_inl (s':=(((pre++[x]).length:Int),f.1,f.2)) ?_ h5,h6⟩
        simp only [W.ja.c100007,W.ja.c236870,UI,h9,Yp,jk,br_if]
        rw [if_pos hlt,if_neg (by simpa using ho)]
        simp only [jk]
        rw [jS (by omega)]
        simp
    exact gen to [] _ rfl rfl rfl
   exact key
  ·rw [if_neg hf]
   refine ⟨((0:Int),f.1,f.2),YT ?_,rfl⟩
   simp only [W.ja.c100007,UI,jk,br_if]
   rw [if_neg (by simp [hf])]
 simp only [W.ja,W.ja.c12,W.ja.c24,WCir.eta,rcheck_ok c hc,e1,e2,jk,br_if]
 obtain ⟨F,hF⟩ : ∃ F:Int×Int,F=(if (if (chk c).1≠0 then chk c else if n < 1∨12 < n then (6,0) else (0,0):Int×Int).1=0∧(to.length:Int)≠c.1 then (17,0) else if (chk c).1≠0 then chk c else if n < 1∨12 < n then (6,0) else (0,0)):=⟨_,rfl⟩
 rw [← hF]
 obtain ⟨r,h1,h2⟩:=e3 F
 rw [h1]
 simp only [jk]
 have hr:r.2=moveF c to n:=by
  rw [h2,hF]
  unfold moveF
  by_cases g1:(chk c).1=0
  ·have g0:=(kQ g1).2
   by_cases g2:n < 1∨12 < n
   ·simp [g0,g2]
   ·by_cases g3:(to.length:Int)=c.1
    ·simp [g0,g2,g3]
     intro g4
     rw [mapBad_zero g4]
    ·simp [g0,g2,g3]
  ·simp [g1]
 rw [hr]
 unfold moved
 by_cases hz:(moveF c to n).1=0
 ·obtain ⟨g1,_,_,g4,g5⟩:=moveF_zero hz
  rw [if_neg (by simp [hz]),if_neg (by simp [hz]),copyDeep_ok c hc]
  simp only [jk]
  obtain ⟨x,h3,h4⟩:=rmDove_ops to c.2.2 hc.1 hc.2 (fun o ho=>qop_of (YJ ((kQ g1).1.ops o ho)) g4)
  rw [h3]
  simp only [jk,h4,g5]
 ·rw [if_pos (by simp [hz]),if_pos hz]
end Go.Ql
end

section
namespace Go.Ql
def plus (x:Int):Int:=IntKind.i64.wrap (x+100)
def markO (o:Op):Op:=(o.1,plus o.2.1,o.2.2.1.map plus,o.2.2.2.1,o.2.2.2.2.1,o.2.2.2.2.2.map plus)
theorem mark_ctl (A B:List Op) (i:Nat) (hi:A.length=i) (o:Op) (ho:WOp o) :
 ∃ r,iter (fun s:Int×List Op↦W.jq.c100005 (i:Int) (o.2.2.1.length:Int) s.1 s.2 some) ((0:Int),A++o::B)=some r∧r.2=A++(o.1,o.2.1,o.2.2.1.map plus,o.2.2.2)::B:=by
 have hl:=ho.1
 refine Jy (l:=o.2.2.1) (fun pre r s=>s=((pre.length:Int),A++(o.1,o.2.1,pre.map plus++r,o.2.2.2)::B)) _ ?_ ?_ rfl
 ·rintro pre a r s he rfl
  have hln:=congrArg List.length he
  simp only [List.length_append,List.length_cons] at hln
  have hn:(pre.map plus).length=pre.length:=List.length_map _
  simp only [W.jq.c100005,br_if,Yt hi,Yu hi,YW hi,Yt hn,Yu hn,YW hn,jk]
  rw [if_pos (by simp;omega),jS (x:=(pre.length:Int)+1) (by omega)]
  exact .inl ⟨_,rfl,by simp [plus]⟩
 ·rintro s rfl
  simp only [W.jq.c100005,br_if]
  rw [if_neg (by simp)]
  exact ⟨_,rfl,by simp⟩
theorem mark_if (A B:List Op) (i:Nat) (hi:A.length=i) (o:Op) (ho:WOp o) :
 ∃ r,iter (fun s:Int×List Op↦W.jq.c100010 (i:Int) (o.2.2.2.2.2.length:Int) s.1 s.2 some) ((0:Int),A++o::B)=some r∧r.2=A++(o.1,o.2.1,o.2.2.1,o.2.2.2.1,o.2.2.2.2.1,o.2.2.2.2.2.map plus)::B:=by
 have hl:=ho.2
 refine Jy (l:=o.2.2.2.2.2) (fun pre r s=>s=((pre.length:Int),A++(o.1,o.2.1,o.2.2.1,o.2.2.2.1,o.2.2.2.2.1,pre.map plus++r)::B)) _ ?_ ?_ rfl
 ·rintro pre a r s he rfl
  have hln:=congrArg List.length he
  simp only [List.length_append,List.length_cons] at hln
  have hn:(pre.map plus).length=pre.length:=List.length_map _
  simp only [W.jq.c100010,br_if,Yt hi,Yu hi,YW hi,Yt hn,Yu hn,YW hn,jk]
  rw [if_pos (by simp;omega),jS (x:=(pre.length:Int)+1) (by omega)]
  exact .inl ⟨_,rfl,by simp [plus]⟩
 ·rintro s rfl
  simp only [W.jq.c100010,br_if]
  rw [if_neg (by simp)]
  exact ⟨_,rfl,by simp⟩
theorem mark_ok (a b:Int) (ops:List Op) (hl:ops.length≤1759218604390) (hw : ∀ o∈ops,WOp o):W.jq a b ops=some (ops.map markO,()):=by
 have key : ∃ r,iter (fun s:Int×List Op↦W.jq.c100002 (ops.length:Int) s.1 s.2 some) ((0:Int),ops)=some r∧r.2=ops.map markO:=by
  refine Jy (l:=ops) (fun pre r s=>s=((pre.length:Int),pre.map markO++r)) _ ?_ ?_ rfl
  ·rintro pre o r s rfl rfl
   simp only [List.length_append,List.length_cons] at hl
   have hn:(pre.map markO).length=pre.length:=List.length_map _
   have ho:=hw o (by simp)
   obtain ⟨x,h1,h2⟩:=mark_ctl (pre.map markO) r pre.length hn o ho
   obtain ⟨y,h3,h4⟩:=mark_if (pre.map markO) r pre.length hn (o.1,o.2.1,o.2.2.1.map plus,o.2.2.2) ⟨by simpa using ho.1,ho.2⟩
   simp only [W.jq.c100002,br_if,Yt hn,Yu hn,h1,h2,jk]
   simp only at h3 h4
   rw [h3]
   simp only [jk,h4,Yt hn,Yu hn,YW hn]
   rw [if_pos (by simp;omega),jS (x:=(pre.length:Int)+1) (by omega)]
   exact .inl ⟨_,rfl,by simp [markO,plus]⟩
  ·rintro s rfl
   simp only [W.jq.c100002,br_if]
   rw [if_neg (by simp)]
   exact ⟨_,rfl,by simp⟩
 obtain ⟨r,hr,h⟩:=key
 simp only [W.jq,hr,jk,h]
theorem markO_w {o:Op} (h:WOp o):WOp (markO o):=⟨by simpa [markO] using h.1,by simpa [markO] using h.2⟩
theorem owns_law (c:Cir) (to:List Int) (n:Int) (hc:WCir c) (ht:to.length≤17592186043904):W.jm c to n=some true:=by
 have fin : ∀ R:Cir×Int×Int,WCir R.1→W.jZ (R.1.1,R.1.2.1,R.1.2.2) (R.2.1,R.2.2) (R.1.1,R.1.2.1,R.1.2.2) (R.2.1,R.2.2)=some true:=fun R h=>by
  have:=answers_ok R.1 R.1 R.2 R.2 h
  simpa using this
 have mk : ∀ R:Cir×Int×Int,WCir R.1→W.jq R.1.1 R.1.2.1 R.1.2.2=some (R.1.2.2.map markO,()):=fun R h=>mark_ok _ _ _ h.1 h.2
 have sm : ∀ R:Cir×Int×Int,WCir R.1→W.jt (R.1.1,R.1.2.1,R.1.2.2.map markO) (R.1.1,R.1.2.1,R.1.2.2.map markO)=some true:=fun R h=>by
  rw [sameCircuit_ok _ _ ⟨by simpa using h.1,fun o ho=>by obtain ⟨o',h1,rfl⟩:=List.mem_map.1 ho;exact markO_w (h.2 o' h1)⟩];simp
 have sc:W.jt (c.1,c.2.1,c.2.2) (c.1,c.2.1,c.2.2)=some true:=by
  have:=sameCircuit_ok c c hc
  simpa using this
 have n2:(-9223372036854775808:Int)≤2∧(2:Int)≤9223372036854775807:=by omega
 have inner : ∀ k:Int,∃ r,iter (fun s:Int↦W.jm.c100006 to n k s c.1 c.2.1 c.2.2 c.1 c.2.1 c.2.2 some) (0:Int)=some r ∧ ∃ v,r = .inr v:=by
  intro k
  refine YK 2 (fun i s=>s=(i:Int)) _ ?_ ?_ rfl
  ·rintro i s hi rfl
   have go:W.jm.c100006 to n k (i:Int) c.1 c.2.1 c.2.2 c.1 c.2.1 c.2.2 some=some (.inl (((i+1:Nat):Int))):=by
    have hw:IntKind.i64.wrap ((i:Int)+1)=((i+1:Nat):Int):=by rw [jS (by omega)];simp
    simp only [W.jm.c100006,br_if,WCir.eta]
    rw [if_pos (by simp;omega)]
    simp only [inverseD_ok c hc,rinverseD_ok c hc,powerD_ok c 2 hc n2,rpowerD_ok c 2 hc n2,thenD_ok c c hc hc,rthenD_ok c c hc hc,moveD_ok c to n hc ht,rmoveD_ok c to n hc ht,jk,outD]
    simp only [fin _ (inverse_w c hc),fin _ (power_w hc 2),fin _ (then_w hc hc),fin _ (moved_w c to n hc),mk _ (inverse_w c hc),mk _ (power_w hc 2),mk _ (then_w hc hc),mk _ (moved_w c to n hc),W.jm.c25,W.jm.c25v1,W.jm.c25v2,W.jm.c25v3,sm _ (inverse_w c hc),sm _ (power_w hc 2),sm _ (then_w hc hc),sm _ (moved_w c to n hc),sc,jk,br_if,hw]
    simp [jk]
   exact .inl ⟨_,go,rfl⟩
  ·rintro s rfl
   simp only [W.jm.c100006,br_if]
   rw [if_neg (by simp)]
   exact ⟨_,rfl,_,rfl⟩
 have outer : ∃ r,iter (fun s:Int↦W.jm.c100003 to n s c.1 c.2.1 c.2.2 c.1 c.2.1 c.2.2 some) (0:Int)=some r ∧ ∃ v,r = .inr v:=by
  refine YK 4 (fun i s=>s=(i:Int)) _ ?_ ?_ rfl
  ·rintro i s hi rfl
   obtain ⟨r,h1,v,rfl⟩:=inner (i:Int)
   simp only [W.jm.c100003,br_if,h1,jk,kJ]
   rw [if_pos (by simp;omega),jS (by omega)]
   exact .inl ⟨_,rfl,by simp⟩
  ·rintro s rfl
   simp only [W.jm.c100003,br_if]
   rw [if_neg (by simp)]
   exact ⟨_,rfl,_,rfl⟩
 obtain ⟨r,h1,v,rfl⟩:=outer
 simp only [W.jm,WCir.eta,copyCircuit_ok c hc,jk,h1,kJ,begun_ok]
theorem owns_all : ∀ x:dens [cirTy,.sl (.int .i64),.int .i64],WfL [cirTy,.sl (.int .i64),.int .i64] x→W.jm.ce.F x=some true:=by
 intro x h
 have h1:Wf (.sl (.int .i64)) x.2.1:=h.2.1
 obtain ⟨h2,_⟩:=h1
 rw [int_bytes] at h2
 have h2:List.length x.2.1*8≤140737488351232:=h2
 exact owns_law x.1 x.2.1 x.2.2 (wcir_of h.1) (by omega)
end Go.Ql
end
