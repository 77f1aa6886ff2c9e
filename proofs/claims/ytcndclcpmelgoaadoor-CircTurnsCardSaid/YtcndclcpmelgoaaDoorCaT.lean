/- A builder of the library; the seat's types: contracts. -/
import Derived.Test.YtcndclcpmelgoaaDoorProg
import Derived.WalkKit
import Derived.Lib.Strings
import Derived.Lib.Slices
import Derived.Lib.Walk
import Derived.Lib.Builder
import Derived.Lib.AppendStr
import Derived.Lib.UnsafeStr
import Derived.Laws.Externs
import Derived.Shelf.RegionOpenPlain
import Derived.Test.YtcndclcpmelgoaaDoorLgT
set_option linter.all false
section
namespace Go.Proofs.YtcndclcpmelgoaaDoor
open Go.RowKit Go.Proofs Go.Shelf
set_option maxHeartbeats 1000000 in
set_option maxRecDepth 100000 in
theorem copyCheck_used (b:Nat) (w:World) (h0:w.cell? ⟨b,0,none⟩=some (.pointer (some ⟨b,0,none⟩))) :
 Calls Tryd.prog 72 #[.pointer (some ⟨b,0,none⟩)] w fun e w'=>e = .returned (.tuple #[])∧w'=w:=by
 obtain ⟨j,hj,_⟩:=Option.map_eq_some_iff.1 (show (Tryd.prog.info? 72).map (·.size)=some 2 by kernel_rfl)
 go_enter Tryd.func72,Tryd.ntmps72
 go_wp2
 rw [Lib.run_neq_ptr_same w _ Tryd.underlying69 hj]
 go_wp2
 go_end0
 exact ⟨rfl,rfl⟩
set_option maxHeartbeats 1000000 in
set_option maxRecDepth 100000 in
theorem copyCheck_fresh (b:Nat) (w:World) (h0:w.cell? ⟨b,0,none⟩=some (.pointer none)) (hsh:w.shape? b=some (72,2)) (hfz:w.frozen? ⟨b,0,none⟩=false) :
 Calls Tryd.prog 72 #[.pointer (some ⟨b,0,none⟩)] w fun e w'=>e = .returned (.tuple #[])∧w'=w.setCell ⟨b,0,none⟩ (.pointer (some ⟨b,0,none⟩)):=by
 obtain ⟨j,hj,hjs⟩:=Option.map_eq_some_iff.1 (show (Tryd.prog.info? 72).map (·.size)=some 2 by kernel_rfl)
 go_enter Tryd.func72,Tryd.ntmps72
 go_wp2
 rw [Lib.run_to_unsafe w ⟨b,0,none⟩ Tryd.underlying69 Tryd.underlying110 hj (by rw [hjs];decide) hsh (Nat.zero_lt_succ 1)]
 simp only [Result.andThen]
 rw [Oper.upon_value]
 go_wp2
 rw [run_callFunc_extern Tryd.func84 (by kernel_rfl) (by kernel_rfl) (by kernel_rfl) (e:=Extern.AbiNoEscape.same) (by kernel_rfl)]
 rw [Lib.run_noEscape]
 simp only [Result.andThen]
 rw [Oper.upon_value]
 go_wp2
 rw [Lib.run_from_unsafe w ⟨b,0,none⟩ Tryd.underlying110 Tryd.underlying69 hj hsh (by kernel_rfl)]
 simp only [Result.andThen]
 rw [Oper.upon_value]
 go_wp2
 go_end0
 exact ⟨rfl,rfl⟩
set_option maxHeartbeats 1000000 in
set_option maxRecDepth 100000 in
theorem builder_String (b g cap:Nat) (p:Value) (cur:Array Value) (l:List UInt8) (w:World) (hbk:w.heap[b]? = some (.cells #[p,.slice (some ⟨g,0,none⟩) l.length cap] 72 (0,0))) (fz:Nat×Nat) (hg:w.heap[g]? = some (.cells cur 5 fz))
 (hnc:l.length≤cap) (hcm:cap≤maxLen) (hcs:cur.size=cap) (htake:cur.toList.take l.length=Lib.byteCells l) (h0:l≠[]) :
 Calls Tryd.prog 57 #[.pointer (some ⟨b,0,none⟩)] w fun e w'=>e = .returned (.string ⟨l.toArray⟩)∧w'=w.drew.freeze ⟨g,0,none⟩ l.length:=by
 have hl0:l.length≠0:=by simpa using h0
 have c1:w.drew.cell? ⟨b,1,none⟩=some (.slice (some ⟨g,0,none⟩) l.length cap):=by
  have:w.drew.heap[b]? = some (.cells #[p,.slice (some ⟨g,0,none⟩) l.length cap] 72 (0,0)):=hbk
  rw [Lib.cell_of_heap this];rfl
 have hSD:(Builtin.unsafeSliceData_ #[70] 100 #[.slice (some ⟨g,0,none⟩) l.length cap]).run Tryd.prog w.drew = .ok (.pointer (some ⟨g,0,none⟩)) w.drew:=
  Lib.run_unsafeSliceData_row _ _ _ _ _ _ (by omega)
 have hUS:(Builtin.unsafeString_ #[100,3] 9 #[.pointer (some ⟨g,0,none⟩),.int .i64 l.length]).run Tryd.prog w.drew = .ok (.string ⟨l.toArray⟩) (w.drew.freeze ⟨g,0,none⟩ l.length):=by
  refine Lib.run_unsafeString_row w.drew 100 3 9 5 Tryd.underlying100 (by kernel_rfl) g cur.size (by have hg':w.drew.heap[g]? = some (.cells cur 5 fz):=hg;simp [World.shape?,hg']) l h0 (by omega) (by unfold maxLen at hcm;omega) ?_
  intro j x hx
  have hj:j < l.length:=(List.getElem?_eq_some_iff.1 hx).1
  have h1:(cur.toList.take l.length)[j]? = some (.int .u8 x.toNat):=by rw [htake];simp [Lib.byteCells,hx]
  rw [List.getElem?_take_of_lt hj] at h1
  have hg':w.drew.heap[g]? = some (.cells cur 5 fz):=hg
  rw [Addr.add_lit,Nat.zero_add,Lib.cell_of_heap hg']
  simpa using h1
 have mixed:Tryd.prog.follows .mixedOrders=true:=by kernel_rfl
 go_enter Tryd.func57,Tryd.ntmps57
 go_wp2
 go_region_o
 all_goals (go_wp2;go_ret;exact ⟨rfl,rfl⟩)
end Go.Proofs.YtcndclcpmelgoaaDoor
end

section
set_option maxHeartbeats 4000000
set_option maxRecDepth 100000
set_option linter.unusedVariables false
namespace W
open Go Go.Ql
noncomputable section
instance gInv:GInv:=⟨fun _=>True,0,fun _ _=>trivial,fun _=>Nat.zero_le _⟩
def tab:List (Nat×TI):=[(2,⟨.int .i64,.scalar⟩),
 (3,⟨.int .i64,.scalar⟩),
 (4,⟨.bool,.scalar⟩),
 (5,⟨.int .u8,.scalar⟩),
 (6,⟨.int .u8,.scalar⟩),
 (7,⟨.st (.pair (.int .i64) (.pair (.int .i64) (.pair .bool (.int .u8)))),.struct [(0,2),(1,3),(2,4),(3,6)]⟩),
 (8,⟨.st (.pair (.int .i64) (.pair (.int .i64) (.pair .bool (.int .u8)))),.struct [(0,2),(1,3),(2,4),(3,6)]⟩),
 (9,⟨.str,.scalar⟩),
 (10,⟨.str,.scalar⟩),
 (11,⟨.str,.scalar⟩),
 (12,⟨.int .u64,.scalar⟩),
 (13,⟨.st (.pair .str (.int .u64)),.struct [(0,9),(1,12)]⟩),
 (14,⟨.st (.pair .str (.int .u64)),.struct [(0,9),(1,12)]⟩),
 (15,⟨.nilv 0,.nul⟩),
 (16,⟨.nilv 0,.nul⟩),
 (17,⟨.nilv 0,.nul⟩),
 (18,⟨.st (.nilv 0),.struct [(0,17)]⟩),
 (19,⟨.st (.nilv 0),.struct [(0,17)]⟩),
 (20,⟨.nilv 1,.nul⟩),
 (21,⟨.int .i32,.scalar⟩),
 (22,⟨.sl (.st (.pair (.int .i64) (.pair (.int .i64) (.pair (.sl (.int .i64)) (.pair (.int .i64) (.pair (.int .i64) (.sl (.int .i64)))))))),.slice 57 80⟩),
 (23,⟨.st (.pair (.int .i64) (.pair (.int .i64) (.sl (.st (.pair (.int .i64) (.pair (.int .i64) (.pair (.sl (.int .i64)) (.pair (.int .i64) (.pair (.int .i64) (.sl (.int .i64))))))))))),.struct [(0,3),(1,3),(2,22)]⟩),
 (24,⟨.st (.pair (.int .i64) (.pair (.int .i64) (.sl (.st (.pair (.int .i64) (.pair (.int .i64) (.pair (.sl (.int .i64)) (.pair (.int .i64) (.pair (.int .i64) (.sl (.int .i64))))))))))),.struct [(0,3),(1,3),(2,22)]⟩),
 (25,⟨.st (.pair (.int .i64) (.pair (.int .i64) (.pair (.int .i64) (.pair (.int .i64) (.pair (.int .i64) (.int .i64)))))),.struct [(0,3),(1,3),(2,3),(3,3),(4,3),(5,3)]⟩),
 (26,⟨.st (.pair (.int .i64) (.pair (.int .i64) (.pair (.int .i64) (.pair (.int .i64) (.pair (.int .i64) (.int .i64)))))),.struct [(0,3),(1,3),(2,3),(3,3),(4,3),(5,3)]⟩),
 (27,⟨.st (.pair (.int .i64) (.int .i64)),.struct [(0,3),(1,3)]⟩),
 (28,⟨.st (.pair (.int .i64) (.int .i64)),.struct [(0,3),(1,3)]⟩),
 (40,⟨.sl (.int .i64),.slice 3 8⟩),
 (53,⟨.ar 12 (.int .i64),.arr 12 3⟩),
 (54,⟨.st (.pair (.ar 12 (.int .i64)) (.ar 12 (.int .i64))),.struct [(0,53),(12,53)]⟩),
 (55,⟨.st (.pair (.ar 12 (.int .i64)) (.ar 12 (.int .i64))),.struct [(0,53),(12,53)]⟩),
 (56,⟨.st (.pair (.int .i64) (.pair (.int .i64) (.pair (.sl (.int .i64)) (.pair (.int .i64) (.pair (.int .i64) (.sl (.int .i64))))))),.struct [(0,3),(1,3),(2,40),(3,3),(4,3),(5,40)]⟩),
 (57,⟨.st (.pair (.int .i64) (.pair (.int .i64) (.pair (.sl (.int .i64)) (.pair (.int .i64) (.pair (.int .i64) (.sl (.int .i64))))))),.struct [(0,3),(1,3),(2,40),(3,3),(4,3),(5,40)]⟩),
 (64,⟨.nilv 0,.nul⟩),
 (69,⟨.nilv 0,.nul⟩),
 (70,⟨.sl (.int .u8),.slice 5 1⟩),
 (71,⟨.st (.pair (.nilv 0) (.sl (.int .u8))),.struct [(0,69),(1,70)]⟩),
 (72,⟨.st (.pair (.nilv 0) (.sl (.int .u8))),.struct [(0,69),(1,70)]⟩),
 (73,⟨.nilv 1,.nul⟩),
 (74,⟨.nilv 1,.nul⟩),
 (81,⟨.sl .str,.slice 9 16⟩),
 (83,⟨.st (.pair (.sl .str) .bool),.struct [(0,81),(1,4)]⟩),
 (84,⟨.st (.pair (.sl .str) .bool),.struct [(0,81),(1,4)]⟩),
 (91,⟨.nilv 0,.nul⟩),
 (92,⟨.sl (.nilv 0),.slice 93 8⟩),
 (93,⟨.nilv 0,.nul⟩),
 (96,⟨.ar 12 .bool,.arr 12 4⟩),
 (100,⟨.nilv 0,.nul⟩),
 (102,⟨.st (.pair .bool (.sl (.int .i64))),.struct [(0,4),(1,40)]⟩),
 (103,⟨.st (.pair .bool (.sl (.int .i64))),.struct [(0,4),(1,40)]⟩),
 (106,⟨.nilv 0,.nul⟩),
 (113,⟨.int .u64,.scalar⟩),
 (118,⟨.ar 24 (.int .u8),.arr 24 5⟩),
 (128,⟨.ar 20 (.int .u64),.arr 20 113⟩),
 (129,⟨.int .u32,.scalar⟩),
 (130,⟨.ar 65 (.int .u8),.arr 65 5⟩),
 (131,⟨.int .u64,.scalar⟩),
 (134,⟨.ar 256 (.int .u8),.arr 256 5⟩),
 (135,⟨.st (.pair (.int .u8) (.int .u8)),.struct [(0,5),(1,5)]⟩),
 (136,⟨.st (.pair (.int .u8) (.int .u8)),.struct [(0,5),(1,5)]⟩),
 (137,⟨.ar 16 (.st (.pair (.int .u8) (.int .u8))),.arr 16 136⟩),
 (140,⟨.ar 32 (.int .u8),.arr 32 5⟩),
 (141,⟨.ar 64 (.int .u8),.arr 64 5⟩),
 (142,⟨.st (.pair (.nilv 0) (.pair (.nilv 0) (.pair (.nilv 0) .str))),.struct [(0,17),(1,17),(2,17),(3,9)]⟩),
 (143,⟨.st (.pair (.nilv 0) (.pair (.nilv 0) (.pair (.nilv 0) .str))),.struct [(0,17),(1,17),(2,17),(3,9)]⟩),
 (144,⟨.ar 0 (.nilv 0),.arr 0 16⟩),
 (145,⟨.st (.ar 0 (.nilv 0)),.struct [(0,144)]⟩),
 (146,⟨.st (.ar 0 (.nilv 0)),.struct [(0,144)]⟩),
 (147,⟨.int .u8,.scalar⟩),
 (148,⟨.int .u8,.scalar⟩),
 (150,⟨.int .i32,.scalar⟩),
 (151,⟨.int .i32,.scalar⟩)]
theorem mixed:Go.Proofs.Tryd.prog.follows .mixedOrders=true:=by kernel_rfl
theorem Jm:TabOk Go.Proofs.Tryd.prog tab:=tabB_ok (by kernel_rfl)
def Jc:Eqs:=⟨[26,28],[]⟩
theorem jK:EqsOk Go.Proofs.Tryd.prog tab Jc:=eqsB_ok (by kernel_rfl)
def jR.pre:Shape:=⟨[(0,.one (.ref 1000000 0))],[(1000000,.box [.selfp 1000000 72,.own 1000001 0]),(1000001,.arr 0 false 5 (.int .u8))]⟩
def jR.post:Shape:=⟨[],[(1000001,.arr 0 false 5 (.int .u8)),(1000000,.box [.selfp 1000000 72,.own 1000001 0])]⟩
def jR (l:List Int):Option (List Int×Unit):=some (l,())
def jR.mc:MCallee:=⟨72,jR.pre,jR.post,fun x_=>jR x_.1⟩
abbrev bObjs (l:List Int):List (Nat×Ob):=[(1000000,.box [.selfp 1000000 72,.own 1000001 0]),(1000001,.arr 0 false 5 (.int .u8) l)]
theorem bObjs_at {w:World} {Z:Nat→Prop} {nm:Names} {l:List Int} {v:Value}
 (hv:rdD w Z nm (bObjs l) (.one (.ref 1000000 0)) v) (hb:rdO w Z nm (bObjs l) 1000000 (.box [.selfp 1000000 72,.own 1000001 0])) :
 ∃ b u,nm 1000000 = .pointer (some ⟨b,0,none⟩)∧v = .pointer (some ⟨b,0,none⟩)∧w.heap[b]? = some (.cells #[u,nm 1000001] 72 (0,0))∧(u = .pointer none∨u = .pointer (some ⟨b,0,none⟩))∧(nm 1000001).oneCell'=true:=by
 obtain ⟨b,vs,T,h1,h2,⟨h3,h4⟩,h5,h6⟩:=hb
 obtain ⟨b',h7,h8⟩:=hv.2 _ rfl
 have hT:72=T:=h6 72 (by simp)
 subst hT
 rw [h1] at h7
 injection h7 with h7
 injection h7 with h7
 injection h7 with h7
 subst h7
 obtain ⟨l'⟩:=vs
 match l',h3 with
 | [u,v'],_=>
   have q0:=h4 0 _ u rfl rfl
   have q1:=h4 1 _ v' rfl rfl
   have e1:v'=nm 1000001:=q1.2 _ _ _ _ rfl
   have e0:=q0.2 _ rfl
   rw [h1] at e0
   exact ⟨b,u,h1,h8,by rw [h2,e1],e0,by rw [← e1];exact q1.1⟩
theorem bObjs_set {w w':World} {Z Z':Nat→Prop} {nm:Names} {l:List Int} {b:Nat} {u:Value} (hk:Kept w w' Z Z') (hn:nm 1000000 = .pointer (some ⟨b,0,none⟩))
 (hh:w'.heap[b]? = some (.cells #[.pointer (some ⟨b,0,none⟩),nm 1000001] 72 (0,0))) (ho:(nm 1000001).oneCell'=true)
 (hx : ∀ k,k≠b→w'.heap[k]? = w.heap[k]?) (hne : ∀ k,hasB (nm 1000001) k→k≠b)
 (ha:rdO w Z nm (bObjs l) 1000001 (.arr 0 false 5 (.int .u8) l)) :
 ∀ id ob,look (bObjs l) id=some ob→rdO w' Z' nm (bObjs l) id ob:=by
 intro id ob hl
 by_cases h0:id=1000000
 ·subst h0
  have hl:some (Ob.box [.selfp 1000000 72,.own 1000001 0])=some ob:=hl
  injection hl with hl
  subst hl
  refine ⟨b,_,72,hn,hh,⟨rfl,fun i a v h1 h2 => ?_⟩,?_,?_⟩
  ·match i with
   | 0=>
     have h1:some (At.selfp 1000000 72)=some a:=h1
     have h2:some (Value.pointer (some ⟨b,0,none⟩))=some v:=h2
     injection h1 with h1;injection h2 with h2
     subst h1;subst h2
     exact ⟨rfl,fun _ _ => .inr hn.symm⟩
   | 1=>
     have h1:some (At.own 1000001 0)=some a:=h1
     have h2:some (nm 1000001)=some v:=h2
     injection h1 with h1;injection h2 with h2
     subst h1;subst h2
     exact ⟨ho,fun _ _ _ _ _=>rfl⟩
   | i+2=>cases h1
  ·intro u hu
   rcases List.mem_cons.1 hu with rfl | hu
   ·rfl
   ·rcases List.mem_cons.1 hu with rfl | hu
    ·exact ho
    ·cases hu
  ·intro T' hT
   rcases List.mem_cons.1 hT with hT | hT
   ·injection hT with _ hT
   ·rcases List.mem_cons.1 hT with hT | hT
    ·cases hT
    ·cases hT
 ·by_cases h1:id=1000001
  ·subst h1
   have hl:some (Ob.arr 0 false 5 (.int .u8) l)=some ob:=hl
   injection hl with hl
   subst hl
   exact kz hk.weak rfl (fun k hk=>hx k (hne k hk)) trivial ha
  ·have n1:Nat.beq 1000000 id=false:=Bool.eq_false_iff.2 fun e=>h0 (Nat.eq_of_beq_eq_true e).symm
   have n2:Nat.beq 1000001 id=false:=Bool.eq_false_iff.2 fun e=>h1 (Nat.eq_of_beq_eq_true e).symm
   simp [Go.Ql.look,n1,n2,bObjs] at hl
abbrev Uv (l:List Int):List (Nat×Ob):=[(1000001,.arr 0 false 5 (.int .u8) l),(1000000,.box [.selfp 1000000 72,.own 1000001 0])]
theorem bObjs_swap (l:List Int):Go.Ql.look (Uv l)=Go.Ql.look (bObjs l):=by
 funext id
 by_cases h0:id=1000000
 ·subst h0;rfl
 ·have n1:Nat.beq 1000000 id=false:=Bool.eq_false_iff.2 fun e=>h0 (Nat.eq_of_beq_eq_true e).symm
  simp only [Go.Ql.look,n1,cond_false]
theorem post_swap {w w':World} {B:Bs} {nm':Names} {l:List Int} {v:Value} (h:Post w w' B nm' ⟨[],bObjs l⟩ v):Post w w' B nm' ⟨[],Uv l⟩ v:=by
 have e:=bObjs_swap l
 have ez:Zc w B nm' (Uv l) w'=Zc w B nm' (bObjs l) w':=by funext k;simp only [Zc,owned,e]
 obtain ⟨a1,⟨vs,a2,a3,_⟩,a4,a5,a6,a7,a8⟩:=h
 refine ⟨a1,⟨vs,a2,a3,fun i p u h=>by cases h⟩,fun id ob hl => ?_,?_,?_,?_,?_⟩
 ·have hl:Go.Ql.look (bObjs l) id=some ob:=by rw [← e];exact hl
  show rdO w' (Zc w B nm' (Uv l) w') nm' (Uv l) id ob
  rw [ez]
  refine kz (Kept.weak fun b hb=>⟨hb,rfl⟩) rfl (fun _ _=>rfl) ?_ (a4 id ob hl)
  have hr:=ObOk.refl nm' (bObjs l) ob
  cases ob with
  | box cs=>intro a ha i hi;rw [e];exact hr a ha i hi
  | arr=>trivial
  | gone=>trivial
  | deep v fz e1 te t xs hole=>
    cases hole with
    | none=>trivial
    | some q=>
      cases q with
      | none=>trivial
      | some q=>intro i hi;rw [e];exact hr i hi
  | clo f x y=>exact ⟨fun a ha i hi=>by rw [e];exact hr.1 a ha i hi,fun a ha i hi=>by rw [e];exact hr.2 a ha i hi⟩
 ·intro id ob b hl;exact a5 id ob b (by rw [← e];exact hl)
 ·intro id id' ob ob' b hl hl';exact a6 id id' ob ob' b (by rw [← e];exact hl) (by rw [← e];exact hl')
 ·intro id ob hg hl;exact a7 id ob hg (by rw [← e];exact hl)
 ·intro id ob hl hn;exact a8 id ob (by rw [← e];exact hl) hn
theorem jR.ok:MOk Go.Proofs.Tryd.prog 72 jR.mc:=by
 refine ⟨⟨Go.Proofs.Tryd.f72,Go.Proofs.Tryd.func72,by kernel_rfl,by kernel_rfl⟩,fun w Z nm vs x y hp hy => ?_⟩
 obtain ⟨l,⟨⟩⟩:=x
 have hy:some (l,())=some y:=hy
 injection hy with hy
 subst hy
 change Pre w Z nm ⟨[(0,.one (.ref 1000000 0))],bObjs l⟩ vs at hp
 obtain ⟨len,slots,objs,lt,inj,zlt,mine,glob⟩:=hp
 match vs,len with
 | [v],_=>
   obtain ⟨b,u,h1,h2,h3,h4,h5⟩:=bObjs_at (slots 0 _ v rfl rfl) (objs 1000000 _ rfl)
   have hne : ∀ k,hasB (nm 1000001) k→k≠b:=fun k hk he=>by
    have:=inj 1000000 1000001 _ _ b rfl rfl (by rw [h1];rfl) (by rw [← he];exact hk)
    cases this
   subst h2
   have c0:w.cell? ⟨b,0,none⟩=some u:=by rw [Lib.cell_of_heap h3];rfl
   have hbl:b < w.heap.size:=lt 1000000 _ b rfl (by rw [h1];rfl)
   have hold:owned nm (bObjs l) b:=⟨1000000,_,rfl,rfl,by rw [h1];rfl⟩
   rcases h4 with rfl | rfl
   ·refine (Go.Proofs.YtcndclcpmelgoaaDoor.copyCheck_fresh b w c0 (by simp [World.shape?,h3]) (by simp [World.frozen?,h3])).mono fun e w' ⟨he,hw⟩ => ?_
    subst hw
    have hx : ∀ k,k≠b→(w.setCell ⟨b,0,none⟩ (.pointer (some ⟨b,0,none⟩))).heap[k]? = w.heap[k]?:=fun k hk=>heap_setCell_other w ⟨b,0,none⟩ k _ hk
    have hsz:(w.setCell ⟨b,0,none⟩ (.pointer (some ⟨b,0,none⟩))).heap.size=w.heap.size:=by simp [World.setCell]
    refine ⟨.tuple #[],nm,he,post_swap ⟨⟨rfl,rfl,rfl,by rw [hsz];exact Nat.le_refl _,fun k _ hm=>hx k fun e=>hm (e ▸ hold)⟩,⟨#[],rfl,rfl,fun i p u h=>by cases h⟩,?_,?_,inj,fun _ _ _ _=>⟨fun _=>rfl,fun _=>rfl⟩,fun id ob hl _=>mine id ob hl⟩⟩
    ·refine bObjs_set (w:=w) (Z:=Zc w (Bs.of Z nm (bObjs l)) nm (bObjs l) w) (u:=.pointer none) (fun k hk=>⟨⟨by rw [hsz];exact hk.1,hk.2⟩,hx k fun e=>hk.2.2 (e ▸ hold)⟩) h1 ?_ h5 hx hne (objs 1000001 _ rfl)
     exact Go.heap_setCell_same w b 0 _ 72 _ h3
    ·intro id ob k hl hk
     exact ⟨.inr ⟨id,ob,hl,mine id ob hl,hk⟩,by rw [hsz];exact lt id ob k hl hk⟩
   ·refine (Go.Proofs.YtcndclcpmelgoaaDoor.copyCheck_used b w c0).mono fun e w' ⟨he,hw⟩ => ?_
    subst hw
    exact ⟨.tuple #[],nm,he,post_swap ⟨SameBut.refl _ _,⟨#[],rfl,rfl,fun i p u h=>by cases h⟩,objs,fun id ob k hl hk=>⟨.inr ⟨id,ob,hl,mine id ob hl,hk⟩,lt id ob k hl hk⟩,inj,fun _ _ _ _=>⟨fun _=>rfl,fun _=>rfl⟩,fun id ob hl _=>mine id ob hl⟩⟩
def Jg.pre:Shape:=⟨[(0,.one (.ref 1000000 0))],[(1000000,.box [.selfp 1000000 72,.own 1000001 0]),(1000001,.arr 0 false 5 (.int .u8))]⟩
def Jg.post:Shape:=⟨[(0,.one (.val .str))],[(1000000,.box [.selfp 1000000 72,.own 1000001 0]),(1000001,.gone)]⟩
def Jg (l:List Int):Option (List UInt8×Unit):=
 bif !List.isEmpty l && List.all l (fun n=>decide (0≤n) && decide (n < 256)) then some (List.map (fun n=>UInt8.ofNat n.toNat) l,()) else none
def Jg.mc:MCallee:=⟨57,Jg.pre,Jg.post,fun x_=>Jg x_.1⟩
abbrev bGone:List (Nat×Ob):=[(1000000,.box [.selfp 1000000 72,.own 1000001 0]),(1000001,.gone)]
theorem byteCells_ofNat : ∀ {l:List Int},(∀ n∈l,0≤n∧n < 256)→Lib.byteCells (l.map fun n=>UInt8.ofNat n.toNat)=l.map (Value.int .u8)
 | [],_=>rfl
 | x::l,h=>by
   have hx:=h x (by simp)
   obtain ⟨k,rfl⟩:=Int.eq_ofNat_of_zero_le hx.1
   have hk:k < 256:=by omega
   have ih:=byteCells_ofNat (l:=l) fun n hn=>h n (List.mem_cons_of_mem _ hn)
   simp only [Lib.byteCells,List.map_cons,List.map_map] at ih ⊢
   rw [ih]
   congr 2
   simp only [Int.toNat_natCast,UInt8.toNat_ofNat']
   have:k % 2 ^ 8=k:=Nat.mod_eq_of_lt hk
   omega
theorem heap_freeze_other (w:World) (a:Addr) (n k:Nat) (h:k≠a.block):(w.freeze a n).heap[k]? = w.heap[k]?:=by
 unfold World.freeze
 split
 ·rfl
 ·simp [Array.getElem?_modify,Ne.symm h]
theorem bGone_look {id:Nat} {ob:Ob} (l:List Int) (h:Go.Ql.look bGone id=some ob) : ∃ ob',Go.Ql.look (bObjs l) id=some ob'∧ob'.mine=true:=by
 by_cases h0:id=1000000
 ·subst h0;exact ⟨_,rfl,rfl⟩
 ·by_cases h1:id=1000001
  ·subst h1;exact ⟨_,rfl,rfl⟩
  ·have n1:Nat.beq 1000000 id=false:=Bool.eq_false_iff.2 fun e=>h0 (Nat.eq_of_beq_eq_true e).symm
   have n2:Nat.beq 1000001 id=false:=Bool.eq_false_iff.2 fun e=>h1 (Nat.eq_of_beq_eq_true e).symm
   simp [Go.Ql.look,n1,n2,bGone] at h
theorem bGone_cases {id:Nat} {ob:Ob} (h:Go.Ql.look bGone id=some ob):(id=1000000∧ob = .box [.selfp 1000000 72,.own 1000001 0])∨ob = .gone:=by
 by_cases h0:id=1000000
 ·subst h0;exact .inl ⟨rfl,(Option.some.inj h).symm⟩
 ·by_cases h1:id=1000001
  ·subst h1;exact .inr (Option.some.inj h).symm
  ·have n1:Nat.beq 1000000 id=false:=Bool.eq_false_iff.2 fun e=>h0 (Nat.eq_of_beq_eq_true e).symm
   have n2:Nat.beq 1000001 id=false:=Bool.eq_false_iff.2 fun e=>h1 (Nat.eq_of_beq_eq_true e).symm
   simp [Go.Ql.look,n1,n2,bGone] at h
theorem Jg.ok:MOk Go.Proofs.Tryd.prog 57 Jg.mc:=by
 refine ⟨⟨Go.Proofs.Tryd.f57,Go.Proofs.Tryd.func57,by kernel_rfl,by kernel_rfl⟩,fun w Z nm vs x y hp hy => ?_⟩
 obtain ⟨l,⟨⟩⟩:=x
 have hy:Jg l=some y:=hy
 unfold Jg at hy
 cases hc : !List.isEmpty l && List.all l (fun n=>decide (0≤n) && decide (n < 256)) with
 | false=>rw [hc] at hy;cases hy
 | true=>
 rw [hc] at hy
 have hy:=Option.some.inj hy
 subst hy
 simp only [Bool.and_eq_true,Bool.not_eq_true',List.all_eq_true,decide_eq_true_eq] at hc
 obtain ⟨hc0,hc1⟩:=hc
 have hl0:l≠[]:=by rintro rfl;cases hc0
 change Pre w Z nm ⟨[(0,.one (.ref 1000000 0))],bObjs l⟩ vs at hp
 obtain ⟨len,slots,objs,lt,inj,zlt,mine,glob⟩:=hp
 match vs,len with
 | [v],_=>
   obtain ⟨b,u,h1,h2,h3,h4,h5⟩:=bObjs_at (slots 0 _ v rfl rfl) (objs 1000000 _ rfl)
   have hne : ∀ k,hasB (nm 1000001) k→k≠b:=fun k hk he=>by
    have:=inj 1000000 1000001 _ _ b rfl rfl (by rw [h1];rfl) (by rw [← he];exact hk)
    cases this
   subst h2
   obtain ⟨_,cells,⟨q1,q2⟩,q3⟩:=(objs 1000001 (.arr 0 false 5 (.int .u8) l) rfl).resolve_right fun h=>by obtain ⟨j,u,l1,e,_⟩:=h;injection e with e1;exact absurd e1 (by simp [mapTy])
   have q3:cells=l.map (Value.int .u8):=rdAll_int q3
   subst q3
   have hlen:0 < List.length l:=List.length_pos_iff.2 hl0
   rcases q2 with ⟨_,q2⟩ | ⟨g,cap,cur,hv,⟨fz,hg,_⟩,hnc,hcm,hcs,htk⟩
   ·have q2:List.length l=0:=q2
    omega
   ·have hgb:g≠b:=hne g (by rw [hv];rfl)
    have hgo:owned nm (bObjs l) g:=⟨1000001,_,rfl,rfl,by rw [hv];rfl⟩
    have hll:(l.map fun n=>UInt8.ofNat n.toNat).length=List.length l:=List.length_map ..
    have hcell:(Ty.int IntKind.u8).cells=1:=rfl
    rw [hcell,Nat.mul_one] at hcs htk
    refine (Go.Proofs.YtcndclcpmelgoaaDoor.builder_String b g cap u cur (l.map fun n=>UInt8.ofNat n.toNat) w (by rw [h3,hv,hll]) fz hg (by rw [hll];exact hnc) hcm hcs (by rw [hll,byteCells_ofNat hc1];exact htk) (by intro e;exact hl0 (List.map_eq_nil_iff.1 e))).mono fun e w' ⟨he,hw⟩ => ?_
    subst hw
    have hx : ∀ k,k≠g→(w.drew.freeze ⟨g,0,none⟩ (l.map fun n=>UInt8.ofNat n.toNat).length).heap[k]? = w.heap[k]?:=fun k hk=>heap_freeze_other w.drew ⟨g,0,none⟩ _ k hk
    have hsz:(w.drew.freeze ⟨g,0,none⟩ (l.map fun n=>UInt8.ofNat n.toNat).length).heap.size=w.heap.size:=by
     unfold World.freeze
     split
     ·rfl
     ·exact Array.size_modify
    have hos:(w.drew.freeze ⟨g,0,none⟩ (l.map fun n=>UInt8.ofNat n.toNat).length).os=w.os∧(w.drew.freeze ⟨g,0,none⟩ (l.map fun n=>UInt8.ofNat n.toNat).length).tape=w.tape∧(w.drew.freeze ⟨g,0,none⟩ (l.map fun n=>UInt8.ofNat n.toNat).length).output=w.output:=by
     unfold World.freeze
     split <;> exact ⟨rfl,rfl,rfl⟩
    refine ⟨.string ⟨(l.map fun n=>UInt8.ofNat n.toNat).toArray⟩,nm,he,⟨⟨hos.1,hos.2.1,hos.2.2,by rw [hsz];exact Nat.le_refl _,fun k _ hm=>hx k fun e=>hm (e ▸ hgo)⟩,rfl,?_,?_,?_,fun _ _ _ _=>⟨fun _=>rfl,fun _=>rfl⟩,?_⟩⟩
    ·intro id ob hl
     rcases bGone_cases hl with ⟨rfl,rfl⟩ | rfl
     ·refine ⟨b,_,72,h1,(hx b (Ne.symm hgb)).trans h3,⟨rfl,fun i a v e1 e2 => ?_⟩,?_,?_⟩
      ·match i with
       | 0=>
         have e1:some (At.selfp 1000000 72)=some a:=e1
         have e2:some u=some v:=e2
         injection e1 with e1;injection e2 with e2
         subst e1;subst e2
         refine ⟨?_,fun _ _ => ?_⟩
         ·rcases h4 with rfl | rfl <;> rfl
         ·rw [h1];exact h4
       | 1=>
         have e1:some (At.own 1000001 0)=some a:=e1
         have e2:some (nm 1000001)=some v:=e2
         injection e1 with e1;injection e2 with e2
         subst e1;subst e2
         exact ⟨h5,fun _ _ _ _ e=>by cases e⟩
       | i+2=>cases e1
      ·intro u' hu
       rcases List.mem_cons.1 hu with rfl | hu
       ·rcases h4 with rfl | rfl <;> rfl
       ·rcases List.mem_cons.1 hu with rfl | hu
        ·exact h5
        ·cases hu
      ·intro T' hT
       rcases List.mem_cons.1 hT with hT | hT
       ·injection hT with _ hT
       ·rcases List.mem_cons.1 hT with hT | hT
        ·cases hT
        ·cases hT
     ·trivial
    ·intro id ob k hl hk
     obtain ⟨ob',hl',hm'⟩:=bGone_look l hl
     exact ⟨.inr ⟨id,ob',hl',hm',hk⟩,by rw [hsz];exact lt id ob' k hl' hk⟩
    ·intro id id' ob ob' k hl hl' hk hk'
     obtain ⟨o1,r1,_⟩:=bGone_look l hl
     obtain ⟨o2,r2,_⟩:=bGone_look l hl'
     exact inj id id' o1 o2 k r1 r2 hk hk'
    ·intro id ob hl hn
     rcases bGone_cases hl with ⟨_,rfl⟩ | rfl
     ·rfl
     ·exact absurd rfl hn
end
end W
end
