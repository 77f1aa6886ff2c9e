/- A builder of the library; the seat's types: contracts; loops over lists. -/
import Derived.Test.YtcndclcpmelgoaaDoorProg
import Derived.WalkKit
import Derived.Lib.Strings
import Derived.Lib.Slices
import Derived.Lib.Walk
import Derived.Lib.Builder
import Derived.Lib.AppendStr
import Derived.Lib.UnsafeStr
import Derived.Laws.Externs
import Derived.Shelf.RegionOpenPlain
import Derived.Test.YtcndclcpmelgoaaDoorLgO
import Derived.IntWalk
set_option linter.all false
section
namespace Go.Proofs.YtcndclcpmelgoaaDoor
open Go.RowKit Go.Proofs Go.Shelf
set_option maxHeartbeats 1000000 in
set_option maxRecDepth 100000 in
theorem copyCheck_used (b:Nat) (w:World) (h0:w.cell? ⟨b,0,none⟩=some (.pointer (some ⟨b,0,none⟩))) :
 Calls Tryd.prog 72 #[.pointer (some ⟨b,0,none⟩)] w fun e w'=>e = .returned (.tuple #[])∧w'=w:=by
 obtain ⟨j,hj,_⟩:=Option.map_eq_some_iff.1 (show (Tryd.prog.info? 72).map (·.size)=some 2 by kernel_rfl)
 go_enter Tryd.func72,Tryd.ntmps72
 go_wp2
 rw [Lib.run_neq_ptr_same w _ Tryd.underlying69 hj]
 go_wp2
 go_end0
 exact ⟨rfl,rfl⟩
set_option maxHeartbeats 1000000 in
set_option maxRecDepth 100000 in
theorem copyCheck_fresh (b:Nat) (w:World) (h0:w.cell? ⟨b,0,none⟩=some (.pointer none)) (hsh:w.shape? b=some (72,2)) (hfz:w.frozen? ⟨b,0,none⟩=false) :
 Calls Tryd.prog 72 #[.pointer (some ⟨b,0,none⟩)] w fun e w'=>e = .returned (.tuple #[])∧w'=w.setCell ⟨b,0,none⟩ (.pointer (some ⟨b,0,none⟩)):=by
 obtain ⟨j,hj,hjs⟩:=Option.map_eq_some_iff.1 (show (Tryd.prog.info? 72).map (·.size)=some 2 by kernel_rfl)
 go_enter Tryd.func72,Tryd.ntmps72
 go_wp2
 rw [Lib.run_to_unsafe w ⟨b,0,none⟩ Tryd.underlying69 Tryd.underlying110 hj (by rw [hjs];decide) hsh (Nat.zero_lt_succ 1)]
 simp only [Result.andThen]
 rw [Oper.upon_value]
 go_wp2
 rw [run_callFunc_extern Tryd.func84 (by kernel_rfl) (by kernel_rfl) (by kernel_rfl) (e:=Extern.AbiNoEscape.same) (by kernel_rfl)]
 rw [Lib.run_noEscape]
 simp only [Result.andThen]
 rw [Oper.upon_value]
 go_wp2
 rw [Lib.run_from_unsafe w ⟨b,0,none⟩ Tryd.underlying110 Tryd.underlying69 hj hsh (by kernel_rfl)]
 simp only [Result.andThen]
 rw [Oper.upon_value]
 go_wp2
 go_end0
 exact ⟨rfl,rfl⟩
set_option maxHeartbeats 1000000 in
set_option maxRecDepth 100000 in
theorem builder_String (b g cap:Nat) (p:Value) (cur:Array Value) (l:List UInt8) (w:World) (hbk:w.heap[b]? = some (.cells #[p,.slice (some ⟨g,0,none⟩) l.length cap] 72 (0,0))) (fz:Nat×Nat) (hg:w.heap[g]? = some (.cells cur 5 fz))
 (hnc:l.length≤cap) (hcm:cap≤maxLen) (hcs:cur.size=cap) (htake:cur.toList.take l.length=Lib.byteCells l) (h0:l≠[]) :
 Calls Tryd.prog 57 #[.pointer (some ⟨b,0,none⟩)] w fun e w'=>e = .returned (.string ⟨l.toArray⟩)∧w'=w.drew.freeze ⟨g,0,none⟩ l.length:=by
 have hl0:l.length≠0:=by simpa using h0
 have c1:w.drew.cell? ⟨b,1,none⟩=some (.slice (some ⟨g,0,none⟩) l.length cap):=by
  have:w.drew.heap[b]? = some (.cells #[p,.slice (some ⟨g,0,none⟩) l.length cap] 72 (0,0)):=hbk
  rw [Lib.cell_of_heap this];rfl
 have hSD:(Builtin.unsafeSliceData_ #[70] 100 #[.slice (some ⟨g,0,none⟩) l.length cap]).run Tryd.prog w.drew = .ok (.pointer (some ⟨g,0,none⟩)) w.drew:=
  Lib.run_unsafeSliceData_row _ _ _ _ _ _ (by omega)
 have hUS:(Builtin.unsafeString_ #[100,3] 9 #[.pointer (some ⟨g,0,none⟩),.int .i64 l.length]).run Tryd.prog w.drew = .ok (.string ⟨l.toArray⟩) (w.drew.freeze ⟨g,0,none⟩ l.length):=by
  refine Lib.run_unsafeString_row w.drew 100 3 9 5 Tryd.underlying100 (by kernel_rfl) g cur.size (by have hg':w.drew.heap[g]? = some (.cells cur 5 fz):=hg;simp [World.shape?,hg']) l h0 (by omega) (by unfold maxLen at hcm;omega) ?_
  intro j x hx
  have hj:j < l.length:=(List.getElem?_eq_some_iff.1 hx).1
  have h1:(cur.toList.take l.length)[j]? = some (.int .u8 x.toNat):=by rw [htake];simp [Lib.byteCells,hx]
  rw [List.getElem?_take_of_lt hj] at h1
  have hg':w.drew.heap[g]? = some (.cells cur 5 fz):=hg
  rw [Addr.add_lit,Nat.zero_add,Lib.cell_of_heap hg']
  simpa using h1
 have mixed:Tryd.prog.follows .mixedOrders=true:=by kernel_rfl
 go_enter Tryd.func57,Tryd.ntmps57
 go_wp2
 go_region_o
 all_goals (go_wp2;go_ret;exact ⟨rfl,rfl⟩)
end Go.Proofs.YtcndclcpmelgoaaDoor
end

section
set_option maxHeartbeats 4000000
set_option maxRecDepth 100000
set_option linter.unusedVariables false
namespace W
open Go Go.Ql
noncomputable section
instance gInv:GInv:=⟨fun _=>True,0,fun _ _=>trivial,fun _=>Nat.zero_le _⟩
def tab:List (Nat×TI):=[(2,⟨.int .i64,.scalar⟩),
 (3,⟨.int .i64,.scalar⟩),
 (4,⟨.bool,.scalar⟩),
 (5,⟨.int .u8,.scalar⟩),
 (6,⟨.int .u8,.scalar⟩),
 (7,⟨.st (.pair (.int .i64) (.pair (.int .i64) (.pair .bool (.int .u8)))),.struct [(0,2),(1,3),(2,4),(3,6)]⟩),
 (8,⟨.st (.pair (.int .i64) (.pair (.int .i64) (.pair .bool (.int .u8)))),.struct [(0,2),(1,3),(2,4),(3,6)]⟩),
 (9,⟨.str,.scalar⟩),
 (10,⟨.str,.scalar⟩),
 (11,⟨.str,.scalar⟩),
 (12,⟨.int .u64,.scalar⟩),
 (13,⟨.st (.pair .str (.int .u64)),.struct [(0,9),(1,12)]⟩),
 (14,⟨.st (.pair .str (.int .u64)),.struct [(0,9),(1,12)]⟩),
 (15,⟨.nilv 0,.nul⟩),
 (16,⟨.nilv 0,.nul⟩),
 (17,⟨.nilv 0,.nul⟩),
 (18,⟨.st (.nilv 0),.struct [(0,17)]⟩),
 (19,⟨.st (.nilv 0),.struct [(0,17)]⟩),
 (20,⟨.nilv 1,.nul⟩),
 (21,⟨.int .i32,.scalar⟩),
 (22,⟨.sl (.st (.pair (.int .i64) (.pair (.int .i64) (.pair (.sl (.int .i64)) (.pair (.int .i64) (.pair (.int .i64) (.sl (.int .i64)))))))),.slice 57 80⟩),
 (23,⟨.st (.pair (.int .i64) (.pair (.int .i64) (.sl (.st (.pair (.int .i64) (.pair (.int .i64) (.pair (.sl (.int .i64)) (.pair (.int .i64) (.pair (.int .i64) (.sl (.int .i64))))))))))),.struct [(0,3),(1,3),(2,22)]⟩),
 (24,⟨.st (.pair (.int .i64) (.pair (.int .i64) (.sl (.st (.pair (.int .i64) (.pair (.int .i64) (.pair (.sl (.int .i64)) (.pair (.int .i64) (.pair (.int .i64) (.sl (.int .i64))))))))))),.struct [(0,3),(1,3),(2,22)]⟩),
 (25,⟨.st (.pair (.int .i64) (.pair (.int .i64) (.pair (.int .i64) (.pair (.int .i64) (.pair (.int .i64) (.int .i64)))))),.struct [(0,3),(1,3),(2,3),(3,3),(4,3),(5,3)]⟩),
 (26,⟨.st (.pair (.int .i64) (.pair (.int .i64) (.pair (.int .i64) (.pair (.int .i64) (.pair (.int .i64) (.int .i64)))))),.struct [(0,3),(1,3),(2,3),(3,3),(4,3),(5,3)]⟩),
 (27,⟨.st (.pair (.int .i64) (.int .i64)),.struct [(0,3),(1,3)]⟩),
 (28,⟨.st (.pair (.int .i64) (.int .i64)),.struct [(0,3),(1,3)]⟩),
 (40,⟨.sl (.int .i64),.slice 3 8⟩),
 (53,⟨.ar 12 (.int .i64),.arr 12 3⟩),
 (54,⟨.st (.pair (.ar 12 (.int .i64)) (.ar 12 (.int .i64))),.struct [(0,53),(12,53)]⟩),
 (55,⟨.st (.pair (.ar 12 (.int .i64)) (.ar 12 (.int .i64))),.struct [(0,53),(12,53)]⟩),
 (56,⟨.st (.pair (.int .i64) (.pair (.int .i64) (.pair (.sl (.int .i64)) (.pair (.int .i64) (.pair (.int .i64) (.sl (.int .i64))))))),.struct [(0,3),(1,3),(2,40),(3,3),(4,3),(5,40)]⟩),
 (57,⟨.st (.pair (.int .i64) (.pair (.int .i64) (.pair (.sl (.int .i64)) (.pair (.int .i64) (.pair (.int .i64) (.sl (.int .i64))))))),.struct [(0,3),(1,3),(2,40),(3,3),(4,3),(5,40)]⟩),
 (64,⟨.nilv 0,.nul⟩),
 (69,⟨.nilv 0,.nul⟩),
 (70,⟨.sl (.int .u8),.slice 5 1⟩),
 (71,⟨.st (.pair (.nilv 0) (.sl (.int .u8))),.struct [(0,69),(1,70)]⟩),
 (72,⟨.st (.pair (.nilv 0) (.sl (.int .u8))),.struct [(0,69),(1,70)]⟩),
 (73,⟨.nilv 1,.nul⟩),
 (74,⟨.nilv 1,.nul⟩),
 (81,⟨.sl .str,.slice 9 16⟩),
 (83,⟨.st (.pair (.sl .str) .bool),.struct [(0,81),(1,4)]⟩),
 (84,⟨.st (.pair (.sl .str) .bool),.struct [(0,81),(1,4)]⟩),
 (91,⟨.nilv 0,.nul⟩),
 (92,⟨.sl (.nilv 0),.slice 93 8⟩),
 (93,⟨.nilv 0,.nul⟩),
 (96,⟨.ar 12 .bool,.arr 12 4⟩),
 (100,⟨.nilv 0,.nul⟩),
 (102,⟨.st (.pair .bool (.sl (.int .i64))),.struct [(0,4),(1,40)]⟩),
 (103,⟨.st (.pair .bool (.sl (.int .i64))),.struct [(0,4),(1,40)]⟩),
 (106,⟨.nilv 0,.nul⟩),
 (113,⟨.int .u64,.scalar⟩),
 (118,⟨.ar 24 (.int .u8),.arr 24 5⟩),
 (128,⟨.ar 20 (.int .u64),.arr 20 113⟩),
 (129,⟨.int .u32,.scalar⟩),
 (130,⟨.ar 65 (.int .u8),.arr 65 5⟩),
 (131,⟨.int .u64,.scalar⟩),
 (134,⟨.ar 256 (.int .u8),.arr 256 5⟩),
 (135,⟨.st (.pair (.int .u8) (.int .u8)),.struct [(0,5),(1,5)]⟩),
 (136,⟨.st (.pair (.int .u8) (.int .u8)),.struct [(0,5),(1,5)]⟩),
 (137,⟨.ar 16 (.st (.pair (.int .u8) (.int .u8))),.arr 16 136⟩),
 (140,⟨.ar 32 (.int .u8),.arr 32 5⟩),
 (141,⟨.ar 64 (.int .u8),.arr 64 5⟩),
 (142,⟨.st (.pair (.nilv 0) (.pair (.nilv 0) (.pair (.nilv 0) .str))),.struct [(0,17),(1,17),(2,17),(3,9)]⟩),
 (143,⟨.st (.pair (.nilv 0) (.pair (.nilv 0) (.pair (.nilv 0) .str))),.struct [(0,17),(1,17),(2,17),(3,9)]⟩),
 (144,⟨.ar 0 (.nilv 0),.arr 0 16⟩),
 (145,⟨.st (.ar 0 (.nilv 0)),.struct [(0,144)]⟩),
 (146,⟨.st (.ar 0 (.nilv 0)),.struct [(0,144)]⟩),
 (147,⟨.int .u8,.scalar⟩),
 (148,⟨.int .u8,.scalar⟩),
 (150,⟨.int .i32,.scalar⟩),
 (151,⟨.int .i32,.scalar⟩)]
theorem mixed:Go.Proofs.Tryd.prog.follows .mixedOrders=true:=by kernel_rfl
theorem Js:TabOk Go.Proofs.Tryd.prog tab:=tabB_ok (by kernel_rfl)
def Jf:Eqs:=⟨[26,28],[]⟩
theorem jO:EqsOk Go.Proofs.Tryd.prog tab Jf:=eqsB_ok (by kernel_rfl)
def Jc.pre:Shape:=⟨[(0,.one (.ref 1000000 0))],[(1000000,.box [.selfp 1000000 72,.own 1000001 0]),(1000001,.arr 0 false 5 (.int .u8))]⟩
def Jc.post:Shape:=⟨[],[(1000001,.arr 0 false 5 (.int .u8)),(1000000,.box [.selfp 1000000 72,.own 1000001 0])]⟩
def Jc (l:List Int):Option (List Int×Unit):=some (l,())
def Jc.mc:MCallee:=⟨72,Jc.pre,Jc.post,fun x_=>Jc x_.1⟩
abbrev bObjs (l:List Int):List (Nat×Ob):=[(1000000,.box [.selfp 1000000 72,.own 1000001 0]),(1000001,.arr 0 false 5 (.int .u8) l)]
theorem bObjs_at {w:World} {Z:Nat→Prop} {nm:Names} {l:List Int} {v:Value}
 (hv:rdD w Z nm (bObjs l) (.one (.ref 1000000 0)) v) (hb:rdO w Z nm (bObjs l) 1000000 (.box [.selfp 1000000 72,.own 1000001 0])) :
 ∃ b u,nm 1000000 = .pointer (some ⟨b,0,none⟩)∧v = .pointer (some ⟨b,0,none⟩)∧w.heap[b]? = some (.cells #[u,nm 1000001] 72 (0,0))∧(u = .pointer none∨u = .pointer (some ⟨b,0,none⟩))∧(nm 1000001).oneCell'=true:=by
 obtain ⟨b,vs,T,h1,h2,⟨h3,h4⟩,h5,h6⟩:=hb
 obtain ⟨b',h7,h8⟩:=hv.2 _ rfl
 have hT:72=T:=h6 72 (by simp)
 subst hT
 rw [h1] at h7
 injection h7 with h7
 injection h7 with h7
 injection h7 with h7
 subst h7
 obtain ⟨l'⟩:=vs
 match l',h3 with
 | [u,v'],_=>
   have q0:=h4 0 _ u rfl rfl
   have q1:=h4 1 _ v' rfl rfl
   have e1:v'=nm 1000001:=q1.2 _ _ _ _ rfl
   have e0:=q0.2 _ rfl
   rw [h1] at e0
   exact ⟨b,u,h1,h8,by rw [h2,e1],e0,by rw [← e1];exact q1.1⟩
theorem bObjs_set {w w':World} {Z Z':Nat→Prop} {nm:Names} {l:List Int} {b:Nat} {u:Value} (hk:Kept w w' Z Z') (hn:nm 1000000 = .pointer (some ⟨b,0,none⟩))
 (hh:w'.heap[b]? = some (.cells #[.pointer (some ⟨b,0,none⟩),nm 1000001] 72 (0,0))) (ho:(nm 1000001).oneCell'=true)
 (hx : ∀ k,k≠b→w'.heap[k]? = w.heap[k]?) (hne : ∀ k,hasB (nm 1000001) k→k≠b)
 (ha:rdO w Z nm (bObjs l) 1000001 (.arr 0 false 5 (.int .u8) l)) :
 ∀ id ob,look (bObjs l) id=some ob→rdO w' Z' nm (bObjs l) id ob:=by
 intro id ob hl
 by_cases h0:id=1000000
 ·subst h0
  have hl:some (Ob.box [.selfp 1000000 72,.own 1000001 0])=some ob:=hl
  injection hl with hl
  subst hl
  refine ⟨b,_,72,hn,hh,⟨rfl,fun i a v h1 h2 => ?_⟩,?_,?_⟩
  ·match i with
   | 0=>
     have h1:some (At.selfp 1000000 72)=some a:=h1
     have h2:some (Value.pointer (some ⟨b,0,none⟩))=some v:=h2
     injection h1 with h1;injection h2 with h2
     subst h1;subst h2
     exact ⟨rfl,fun _ _ => .inr hn.symm⟩
   | 1=>
     have h1:some (At.own 1000001 0)=some a:=h1
     have h2:some (nm 1000001)=some v:=h2
     injection h1 with h1;injection h2 with h2
     subst h1;subst h2
     exact ⟨ho,fun _ _ _ _ _=>rfl⟩
   | i+2=>cases h1
  ·intro u hu
   rcases List.mem_cons.1 hu with rfl | hu
   ·rfl
   ·rcases List.mem_cons.1 hu with rfl | hu
    ·exact ho
    ·cases hu
  ·intro T' hT
   rcases List.mem_cons.1 hT with hT | hT
   ·injection hT with _ hT
   ·rcases List.mem_cons.1 hT with hT | hT
    ·cases hT
    ·cases hT
 ·by_cases h1:id=1000001
  ·subst h1
   have hl:some (Ob.arr 0 false 5 (.int .u8) l)=some ob:=hl
   injection hl with hl
   subst hl
   exact kL hk.weak rfl (fun k hk=>hx k (hne k hk)) trivial ha
  ·have n1:Nat.beq 1000000 id=false:=Bool.eq_false_iff.2 fun e=>h0 (Nat.eq_of_beq_eq_true e).symm
   have n2:Nat.beq 1000001 id=false:=Bool.eq_false_iff.2 fun e=>h1 (Nat.eq_of_beq_eq_true e).symm
   simp [Go.Ql.look,n1,n2,bObjs] at hl
abbrev UM (l:List Int):List (Nat×Ob):=[(1000001,.arr 0 false 5 (.int .u8) l),(1000000,.box [.selfp 1000000 72,.own 1000001 0])]
theorem bObjs_swap (l:List Int):Go.Ql.look (UM l)=Go.Ql.look (bObjs l):=by
 funext id
 by_cases h0:id=1000000
 ·subst h0;rfl
 ·have n1:Nat.beq 1000000 id=false:=Bool.eq_false_iff.2 fun e=>h0 (Nat.eq_of_beq_eq_true e).symm
  simp only [Go.Ql.look,n1,cond_false]
theorem post_swap {w w':World} {B:Bs} {nm':Names} {l:List Int} {v:Value} (h:Post w w' B nm' ⟨[],bObjs l⟩ v):Post w w' B nm' ⟨[],UM l⟩ v:=by
 have e:=bObjs_swap l
 have ez:Zc w B nm' (UM l) w'=Zc w B nm' (bObjs l) w':=by funext k;simp only [Zc,owned,e]
 obtain ⟨a1,⟨vs,a2,a3,_⟩,a4,a5,a6,a7,a8⟩:=h
 refine ⟨a1,⟨vs,a2,a3,fun i p u h=>by cases h⟩,fun id ob hl => ?_,?_,?_,?_,?_⟩
 ·have hl:Go.Ql.look (bObjs l) id=some ob:=by rw [← e];exact hl
  show rdO w' (Zc w B nm' (UM l) w') nm' (UM l) id ob
  rw [ez]
  refine kL (Kept.weak fun b hb=>⟨hb,rfl⟩) rfl (fun _ _=>rfl) ?_ (a4 id ob hl)
  have hr:=ObOk.refl nm' (bObjs l) ob
  cases ob with
  | box cs=>intro a ha i hi;rw [e];exact hr a ha i hi
  | arr=>trivial
  | gone=>trivial
  | deep v fz e1 te t xs hole=>
    cases hole with
    | none=>trivial
    | some q=>
      cases q with
      | none=>trivial
      | some q=>intro i hi;rw [e];exact hr i hi
  | clo f x y=>exact ⟨fun a ha i hi=>by rw [e];exact hr.1 a ha i hi,fun a ha i hi=>by rw [e];exact hr.2 a ha i hi⟩
 ·intro id ob b hl;exact a5 id ob b (by rw [← e];exact hl)
 ·intro id id' ob ob' b hl hl';exact a6 id id' ob ob' b (by rw [← e];exact hl) (by rw [← e];exact hl')
 ·intro id ob hg hl;exact a7 id ob hg (by rw [← e];exact hl)
 ·intro id ob hl hn;exact a8 id ob (by rw [← e];exact hl) hn
theorem Jc.ok:MOk Go.Proofs.Tryd.prog 72 Jc.mc:=by
 refine ⟨⟨Go.Proofs.Tryd.f72,Go.Proofs.Tryd.func72,by kernel_rfl,by kernel_rfl⟩,fun w Z nm vs x y hp hy => ?_⟩
 obtain ⟨l,⟨⟩⟩:=x
 have hy:some (l,())=some y:=hy
 injection hy with hy
 subst hy
 change Pre w Z nm ⟨[(0,.one (.ref 1000000 0))],bObjs l⟩ vs at hp
 obtain ⟨len,slots,objs,lt,inj,zlt,mine,glob⟩:=hp
 match vs,len with
 | [v],_=>
   obtain ⟨b,u,h1,h2,h3,h4,h5⟩:=bObjs_at (slots 0 _ v rfl rfl) (objs 1000000 _ rfl)
   have hne : ∀ k,hasB (nm 1000001) k→k≠b:=fun k hk he=>by
    have:=inj 1000000 1000001 _ _ b rfl rfl (by rw [h1];rfl) (by rw [← he];exact hk)
    cases this
   subst h2
   have c0:w.cell? ⟨b,0,none⟩=some u:=by rw [Lib.cell_of_heap h3];rfl
   have hbl:b < w.heap.size:=lt 1000000 _ b rfl (by rw [h1];rfl)
   have hold:owned nm (bObjs l) b:=⟨1000000,_,rfl,rfl,by rw [h1];rfl⟩
   rcases h4 with rfl | rfl
   ·refine (Go.Proofs.YtcndclcpmelgoaaDoor.copyCheck_fresh b w c0 (by simp [World.shape?,h3]) (by simp [World.frozen?,h3])).mono fun e w' ⟨he,hw⟩ => ?_
    subst hw
    have hx : ∀ k,k≠b→(w.setCell ⟨b,0,none⟩ (.pointer (some ⟨b,0,none⟩))).heap[k]? = w.heap[k]?:=fun k hk=>heap_setCell_other w ⟨b,0,none⟩ k _ hk
    have hsz:(w.setCell ⟨b,0,none⟩ (.pointer (some ⟨b,0,none⟩))).heap.size=w.heap.size:=by simp [World.setCell]
    refine ⟨.tuple #[],nm,he,post_swap ⟨⟨rfl,rfl,rfl,by rw [hsz];exact Nat.le_refl _,fun k _ hm=>hx k fun e=>hm (e ▸ hold)⟩,⟨#[],rfl,rfl,fun i p u h=>by cases h⟩,?_,?_,inj,fun _ _ _ _=>⟨fun _=>rfl,fun _=>rfl⟩,fun id ob hl _=>mine id ob hl⟩⟩
    ·refine bObjs_set (w:=w) (Z:=Zc w (Bs.of Z nm (bObjs l)) nm (bObjs l) w) (u:=.pointer none) (fun k hk=>⟨⟨by rw [hsz];exact hk.1,hk.2⟩,hx k fun e=>hk.2.2 (e ▸ hold)⟩) h1 ?_ h5 hx hne (objs 1000001 _ rfl)
     exact Go.heap_setCell_same w b 0 _ 72 _ h3
    ·intro id ob k hl hk
     exact ⟨.inr ⟨id,ob,hl,mine id ob hl,hk⟩,by rw [hsz];exact lt id ob k hl hk⟩
   ·refine (Go.Proofs.YtcndclcpmelgoaaDoor.copyCheck_used b w c0).mono fun e w' ⟨he,hw⟩ => ?_
    subst hw
    exact ⟨.tuple #[],nm,he,post_swap ⟨SameBut.refl _ _,⟨#[],rfl,rfl,fun i p u h=>by cases h⟩,objs,fun id ob k hl hk=>⟨.inr ⟨id,ob,hl,mine id ob hl,hk⟩,lt id ob k hl hk⟩,inj,fun _ _ _ _=>⟨fun _=>rfl,fun _=>rfl⟩,fun id ob hl _=>mine id ob hl⟩⟩
def Ju.pre:Shape:=⟨[(0,.one (.ref 1000000 0))],[(1000000,.box [.selfp 1000000 72,.own 1000001 0]),(1000001,.arr 0 false 5 (.int .u8))]⟩
def Ju.post:Shape:=⟨[(0,.one (.val .str))],[(1000000,.box [.selfp 1000000 72,.own 1000001 0]),(1000001,.gone)]⟩
def Ju (l:List Int):Option (List UInt8×Unit):=
 bif !List.isEmpty l && List.all l (fun n=>decide (0≤n) && decide (n < 256)) then some (List.map (fun n=>UInt8.ofNat n.toNat) l,()) else none
def Ju.mc:MCallee:=⟨57,Ju.pre,Ju.post,fun x_=>Ju x_.1⟩
abbrev bGone:List (Nat×Ob):=[(1000000,.box [.selfp 1000000 72,.own 1000001 0]),(1000001,.gone)]
theorem byteCells_ofNat : ∀ {l:List Int},(∀ n∈l,0≤n∧n < 256)→Lib.byteCells (l.map fun n=>UInt8.ofNat n.toNat)=l.map (Value.int .u8)
 | [],_=>rfl
 | x::l,h=>by
   have hx:=h x (by simp)
   obtain ⟨k,rfl⟩:=Int.eq_ofNat_of_zero_le hx.1
   have hk:k < 256:=by omega
   have ih:=byteCells_ofNat (l:=l) fun n hn=>h n (List.mem_cons_of_mem _ hn)
   simp only [Lib.byteCells,List.map_cons,List.map_map] at ih ⊢
   rw [ih]
   congr 2
   simp only [Int.toNat_natCast,UInt8.toNat_ofNat']
   have:k % 2 ^ 8=k:=Nat.mod_eq_of_lt hk
   omega
theorem heap_freeze_other (w:World) (a:Addr) (n k:Nat) (h:k≠a.block):(w.freeze a n).heap[k]? = w.heap[k]?:=by
 unfold World.freeze
 split
 ·rfl
 ·simp [Array.getElem?_modify,Ne.symm h]
theorem bGone_look {id:Nat} {ob:Ob} (l:List Int) (h:Go.Ql.look bGone id=some ob) : ∃ ob',Go.Ql.look (bObjs l) id=some ob'∧ob'.mine=true:=by
 by_cases h0:id=1000000
 ·subst h0;exact ⟨_,rfl,rfl⟩
 ·by_cases h1:id=1000001
  ·subst h1;exact ⟨_,rfl,rfl⟩
  ·have n1:Nat.beq 1000000 id=false:=Bool.eq_false_iff.2 fun e=>h0 (Nat.eq_of_beq_eq_true e).symm
   have n2:Nat.beq 1000001 id=false:=Bool.eq_false_iff.2 fun e=>h1 (Nat.eq_of_beq_eq_true e).symm
   simp [Go.Ql.look,n1,n2,bGone] at h
theorem bGone_cases {id:Nat} {ob:Ob} (h:Go.Ql.look bGone id=some ob):(id=1000000∧ob = .box [.selfp 1000000 72,.own 1000001 0])∨ob = .gone:=by
 by_cases h0:id=1000000
 ·subst h0;exact .inl ⟨rfl,(Option.some.inj h).symm⟩
 ·by_cases h1:id=1000001
  ·subst h1;exact .inr (Option.some.inj h).symm
  ·have n1:Nat.beq 1000000 id=false:=Bool.eq_false_iff.2 fun e=>h0 (Nat.eq_of_beq_eq_true e).symm
   have n2:Nat.beq 1000001 id=false:=Bool.eq_false_iff.2 fun e=>h1 (Nat.eq_of_beq_eq_true e).symm
   simp [Go.Ql.look,n1,n2,bGone] at h
theorem Ju.ok:MOk Go.Proofs.Tryd.prog 57 Ju.mc:=by
 refine ⟨⟨Go.Proofs.Tryd.f57,Go.Proofs.Tryd.func57,by kernel_rfl,by kernel_rfl⟩,fun w Z nm vs x y hp hy => ?_⟩
 obtain ⟨l,⟨⟩⟩:=x
 have hy:Ju l=some y:=hy
 unfold Ju at hy
 cases hc : !List.isEmpty l && List.all l (fun n=>decide (0≤n) && decide (n < 256)) with
 | false=>rw [hc] at hy;cases hy
 | true=>
 rw [hc] at hy
 have hy:=Option.some.inj hy
 subst hy
 simp only [Bool.and_eq_true,Bool.not_eq_true',List.all_eq_true,decide_eq_true_eq] at hc
 obtain ⟨hc0,hc1⟩:=hc
 have hl0:l≠[]:=by rintro rfl;cases hc0
 change Pre w Z nm ⟨[(0,.one (.ref 1000000 0))],bObjs l⟩ vs at hp
 obtain ⟨len,slots,objs,lt,inj,zlt,mine,glob⟩:=hp
 match vs,len with
 | [v],_=>
   obtain ⟨b,u,h1,h2,h3,h4,h5⟩:=bObjs_at (slots 0 _ v rfl rfl) (objs 1000000 _ rfl)
   have hne : ∀ k,hasB (nm 1000001) k→k≠b:=fun k hk he=>by
    have:=inj 1000000 1000001 _ _ b rfl rfl (by rw [h1];rfl) (by rw [← he];exact hk)
    cases this
   subst h2
   obtain ⟨_,cells,⟨q1,q2⟩,q3⟩:=(objs 1000001 (.arr 0 false 5 (.int .u8) l) rfl).resolve_right fun h=>by obtain ⟨j,u,l1,e,_⟩:=h;injection e with e1;exact absurd e1 (by simp [mapTy])
   have q3:cells=l.map (Value.int .u8):=rdAll_int q3
   subst q3
   have hlen:0 < List.length l:=List.length_pos_iff.2 hl0
   rcases q2 with ⟨_,q2⟩ | ⟨g,cap,cur,hv,⟨fz,hg,_⟩,hnc,hcm,hcs,htk⟩
   ·have q2:List.length l=0:=q2
    omega
   ·have hgb:g≠b:=hne g (by rw [hv];rfl)
    have hgo:owned nm (bObjs l) g:=⟨1000001,_,rfl,rfl,by rw [hv];rfl⟩
    have hll:(l.map fun n=>UInt8.ofNat n.toNat).length=List.length l:=List.length_map ..
    have hcell:(Ty.int IntKind.u8).cells=1:=rfl
    rw [hcell,Nat.mul_one] at hcs htk
    refine (Go.Proofs.YtcndclcpmelgoaaDoor.builder_String b g cap u cur (l.map fun n=>UInt8.ofNat n.toNat) w (by rw [h3,hv,hll]) fz hg (by rw [hll];exact hnc) hcm hcs (by rw [hll,byteCells_ofNat hc1];exact htk) (by intro e;exact hl0 (List.map_eq_nil_iff.1 e))).mono fun e w' ⟨he,hw⟩ => ?_
    subst hw
    have hx : ∀ k,k≠g→(w.drew.freeze ⟨g,0,none⟩ (l.map fun n=>UInt8.ofNat n.toNat).length).heap[k]? = w.heap[k]?:=fun k hk=>heap_freeze_other w.drew ⟨g,0,none⟩ _ k hk
    have hsz:(w.drew.freeze ⟨g,0,none⟩ (l.map fun n=>UInt8.ofNat n.toNat).length).heap.size=w.heap.size:=by
     unfold World.freeze
     split
     ·rfl
     ·exact Array.size_modify
    have hos:(w.drew.freeze ⟨g,0,none⟩ (l.map fun n=>UInt8.ofNat n.toNat).length).os=w.os∧(w.drew.freeze ⟨g,0,none⟩ (l.map fun n=>UInt8.ofNat n.toNat).length).tape=w.tape∧(w.drew.freeze ⟨g,0,none⟩ (l.map fun n=>UInt8.ofNat n.toNat).length).output=w.output:=by
     unfold World.freeze
     split <;> exact ⟨rfl,rfl,rfl⟩
    refine ⟨.string ⟨(l.map fun n=>UInt8.ofNat n.toNat).toArray⟩,nm,he,⟨⟨hos.1,hos.2.1,hos.2.2,by rw [hsz];exact Nat.le_refl _,fun k _ hm=>hx k fun e=>hm (e ▸ hgo)⟩,rfl,?_,?_,?_,fun _ _ _ _=>⟨fun _=>rfl,fun _=>rfl⟩,?_⟩⟩
    ·intro id ob hl
     rcases bGone_cases hl with ⟨rfl,rfl⟩ | rfl
     ·refine ⟨b,_,72,h1,(hx b (Ne.symm hgb)).trans h3,⟨rfl,fun i a v e1 e2 => ?_⟩,?_,?_⟩
      ·match i with
       | 0=>
         have e1:some (At.selfp 1000000 72)=some a:=e1
         have e2:some u=some v:=e2
         injection e1 with e1;injection e2 with e2
         subst e1;subst e2
         refine ⟨?_,fun _ _ => ?_⟩
         ·rcases h4 with rfl | rfl <;> rfl
         ·rw [h1];exact h4
       | 1=>
         have e1:some (At.own 1000001 0)=some a:=e1
         have e2:some (nm 1000001)=some v:=e2
         injection e1 with e1;injection e2 with e2
         subst e1;subst e2
         exact ⟨h5,fun _ _ _ _ e=>by cases e⟩
       | i+2=>cases e1
      ·intro u' hu
       rcases List.mem_cons.1 hu with rfl | hu
       ·rcases h4 with rfl | rfl <;> rfl
       ·rcases List.mem_cons.1 hu with rfl | hu
        ·exact h5
        ·cases hu
      ·intro T' hT
       rcases List.mem_cons.1 hT with hT | hT
       ·injection hT with _ hT
       ·rcases List.mem_cons.1 hT with hT | hT
        ·cases hT
        ·cases hT
     ·trivial
    ·intro id ob k hl hk
     obtain ⟨ob',hl',hm'⟩:=bGone_look l hl
     exact ⟨.inr ⟨id,ob',hl',hm',hk⟩,by rw [hsz];exact lt id ob' k hl' hk⟩
    ·intro id id' ob ob' k hl hl' hk hk'
     obtain ⟨o1,r1,_⟩:=bGone_look l hl
     obtain ⟨o2,r2,_⟩:=bGone_look l hl'
     exact inj id id' o1 o2 k r1 r2 hk hk'
    ·intro id ob hl hn
     rcases bGone_cases hl with ⟨_,rfl⟩ | rfl
     ·rfl
     ·exact absurd rfl hn
end
end W
end

section
set_option maxHeartbeats 4000000
set_option maxRecDepth 100000
namespace W
open Go Go.Ql
noncomputable section
def tabR:List (Nat×TI):=[(3,⟨.int .i64,.scalar⟩),(4,⟨.bool,.scalar⟩),
 (22,⟨.sl (.st (.pair (.int .i64) (.pair (.int .i64) (.pair .raw (.pair (.int .i64) (.pair (.int .i64) .raw)))))),.slice 57 80⟩),
 (57,⟨.st (.pair (.int .i64) (.pair (.int .i64) (.pair .raw (.pair (.int .i64) (.pair (.int .i64) .raw))))),.struct [(0,3),(1,3),(2,40),(3,3),(4,3),(5,40)]⟩)]
theorem tabR_ok:TabOk Go.Proofs.Tryd.prog tabR:=tabB_ok (by kernel_rfl)
def tabR_eqs:Eqs:=⟨[],[]⟩
theorem tabR_eqs_ok:EqsOk Go.Proofs.Tryd.prog tabR tabR_eqs:=eqsB_ok (by kernel_rfl)
end
end W
end

section
set_option maxHeartbeats 4000000
set_option maxRecDepth 100000
set_option linter.unusedVariables false
namespace W
open Go Go.Ql Go.Proofs
noncomputable section
abbrev cu0:SD:=.one (.own 2000000 0)
abbrev cu1:SO:=.arr 0 false 57 (.st (.pair (.int .i64) (.pair (.int .i64) (.pair .raw (.pair (.int .i64) (.pair (.int .i64) .raw))))))
abbrev cu2:SD:=.one (.val (.int .i64))
def jv.pre:Shape:=⟨[(0,cu0)],[(2000000,cu1)]⟩
def jv.post:Shape:=⟨[],[(2000000,cu1)]⟩
def jv.c3 {ρ:Type} (i:Int) (j:Int) (t2000000:List ((Int)×((Int)×((Go.Value)×((Int)×((Int)×(Go.Value))))))) (k_:List ((Int)×((Int)×((Go.Value)×((Int)×((Int)×(Go.Value))))))→Option ρ):Option ρ:=
 bnd (inR (List.length t2000000) j) fun y=>
 bnd (idx t2000000 j) fun y_1=>
 bnd (inR (List.length t2000000) i) fun y_2=>
 bnd (idx t2000000 i) fun y_3=>
 bnd (inR (List.length t2000000) i) fun y_4=>
 bnd (idx t2000000 i) fun y_5=>
 bnd (inR (List.length (List.set t2000000 (Int.toNat i) y_1)) j) fun y_6=>
 bnd (idx (List.set t2000000 (Int.toNat i) y_1) j) fun y_7=>
 k_ (List.set (List.set t2000000 (Int.toNat i) y_1) (Int.toNat j) y_3)
def jv.c3s:Shape:=⟨[(0,cu0),(2,cu2),(3,cu2)],[(2000000,cu1)]⟩
def jv.c3x0:Shape:=jv.c3s
def jv.c3r:Ck:=Ck.of (T:=List ((Int)×((Int)×((Go.Value)×((Int)×((Int)×(Go.Value))))))) jv.c3s (fun ρ x_ k_=>jv.c3 x_.1 x_.2.1 x_.2.2.1 k_) (fun ρ x_ r_ k_=>k_ 0 (Shape.inj jv.c3x0 (x_.1,x_.2.1,r_,())))
def jv.c100001 {ρ:Type} (i:Int) (j:Int) (t2000000:List ((Int)×((Int)×((Go.Value)×((Int)×((Int)×(Go.Value))))))) (k_:((Int)×(Int)×(List ((Int)×((Int)×((Go.Value)×((Int)×((Int)×(Go.Value))))))))⊕((Int)×(Int)×(List ((Int)×((Int)×((Go.Value)×((Int)×((Int)×(Go.Value))))))))→Option ρ):Option ρ:=
 br (decide (i < j))
  (bnd (W.jv.c3 i j t2000000 some) fun y=>
   k_ (.inl ((IntKind.i64.wrap (i+(1:Int))),(IntKind.i64.wrap (j - (1:Int))),y)))
  (k_ (.inr (i,j,t2000000)))
def jv.c100001s:Shape:=jv.c3s
def jv.c100001x0:Shape:=jv.c3s
def jv.c100001r:Ck:=Ck.ofLoop (S:=(Int)×(Int)×(List ((Int)×((Int)×((Go.Value)×((Int)×((Int)×(Go.Value)))))))) (T:=(Int)×(Int)×(List ((Int)×((Int)×((Go.Value)×((Int)×((Int)×(Go.Value)))))))) jv.c100001s (fun x_=>(x_.1,x_.2.1,x_.2.2.1)) (fun ρ x_ s_ k_=>jv.c100001 s_.1 s_.2.1 s_.2.2 k_) (fun ρ x_ r_ k_=>k_ 2 (Shape.inj jv.c100001x0 (r_.1,r_.2.1,r_.2.2,())))
def jv (t2000000:List ((Int)×((Int)×((Go.Value)×((Int)×((Int)×(Go.Value))))))):Option ((List ((Int)×((Int)×((Go.Value)×((Int)×((Int)×(Go.Value)))))))×Unit):=
 bnd (iter (fun s↦W.jv.c100001 (Prod.fst s) (Prod.fst (Prod.snd s)) (Prod.snd (Prod.snd s)) some) ((0:Int),IntKind.i64.wrap ((↑(List.length t2000000):Int) - (1:Int)),t2000000)) fun y=>
 some (Prod.snd (Prod.snd y),())
def jv.mc:MCallee:=⟨49,jv.pre,jv.post,fun x_=>jv x_.1⟩
def jv.G:Env:=⟨28,tabR,[],[0,2,3,9],[2000000],[(3,[⟨[],[],[15,16,17,18,19,20,21,22,23,24,25],[]⟩,⟨[],[],[14,16,17,18,19,20,21,22,23,24,25],[]⟩,⟨[],[],[14,15,17,18,19,20,21,22,23,24,25,26],[2000000]⟩,⟨[],[],[14,15,16,18,19,20,21,22,23,24,25,26],[2000000]⟩,⟨[],[],[14,15,16,17,19,22,23,24,25],[]⟩,⟨[],[],[14,15,16,17,18,22,23,24,25],[]⟩,⟨[4,5],[],[14,15,16,17,22,23,24,25],[]⟩,⟨[6,4,5],[],[14,15,16,17,22,23,24,25],[]⟩,⟨[],[],[14,15,16,17,18,19,20,21,23],[]⟩,⟨[],[],[14,15,16,17,18,19,20,21,22],[]⟩,⟨[8,9],[],[14,15,16,17,18,19,20,21],[]⟩,⟨[10,8,9],[],[14,15,16,17,18,19,20,21],[]⟩,⟨[0,1,4,5,6,7,11,10,8,9],[],[16,17],[]⟩,⟨[12,0,1,4,5,6,7,11,10,8,9],[2000000],[16,17],[]⟩,⟨[2,3,0,1,4,5,6,7,8,9,10,11,12,13],[],[],[]⟩,⟨[14,2,3,0,1,4,5,6,7,8,9,10,11,12,13],[2000000],[],[]⟩])],[(100001,jv.c100001r),(3,jv.c3r)],[],tabR_eqs,[]⟩
theorem jv.eq (x_:densU jv.mc.pre.tys):denM jv.G Tryd.f49 jv.mc.pre jv.mc.post x_=jv.mc.F x_:=by kernel_rfl
theorem jv.p0:PcA jv.G Tryd.f49 0:=
 JA (s:=jv.c100001r) (by kernel_rfl) (by kernel_rfl) (Jt (sh:=jv.c100001s) (I:=fun x_ s_=>(s_.1,s_.2.1,s_.2.2,())) (fun x_=>rfl) (fun ρ x_ s_ k_=>(jw (je fun _=>jc) jc)) (fun ρ x_ t k=>(by kernel_rfl)) (fun x_ s=>by kernel_rfl))
theorem jv.p1:PcA jv.G Tryd.f49 1:=
 jG (s:=jv.c3r) (by kernel_rfl) (by kernel_rfl) (jF (sh:=jv.c3s) (fun ρ x_ k_=>(je fun _=>(je fun _=>(je fun _=>(je fun _=>(je fun _=>(je fun _=>(je fun _=>(je fun _=>jc))))))))) (fun ρ x_ t k=>(by kernel_rfl)) (fun x_=>by kernel_rfl))
theorem jv.ok:MOk Tryd.prog 49 jv.mc:=kb (G:=jv.G) tabR_ok mixed Tryd.func49 ⟨Je,jU,tabR_eqs_ok,jT⟩ (m:=2) (by kernel_rfl) ⟨⟨trivial,jv.p0⟩,jv.p1⟩ (by kernel_rfl) jv.eq
end
end W
end

section
namespace Go.Ql
section
variable {S R:Type} {f:S→Option (S⊕R)}
theorem YT {s:S} {r:R} (h:f s=some (.inr r)):iter f s=some r:=iter_of (n:=1) (by simp [iterN,h])
theorem iter_inl {s s':S} {r:R} (h:f s=some (.inl s')) (h':iter f s'=some r):iter f s=some r:=by
 obtain ⟨n,hn⟩:=VB h'
 exact iter_of (n:=n+1) (by simp [iterN,h,hn])
end
theorem jk {α β:Type} {x:α} {k:α→Option β}:bnd (some x) k=k x:=rfl
theorem YG {α:Type} {x y:α} {b:Bool} (h:b=true):br b x y=x:=by rw [h];rfl
theorem Ys {α:Type} {x y:α} {b:Bool} (h:b=false):br b x y=y:=by rw [h];rfl
theorem UO {α:Type} {x y:α} {p:Prop} [Decidable p] (h:p):br (decide p) x y=x:=YG (decide_eq_true h)
theorem UN {α:Type} {x y:α} {p:Prop} [Decidable p] (h : ¬ p):br (decide p) x y=y:=Ys (decide_eq_false h)
theorem JG {b:Bool} (h:b=true):okIf b=some ():=by rw [h];rfl
theorem inR_of {n:Nat} {i:Int} (h0:0≤i) (h:i < (n:Int)):inR n i=some ():=by
 unfold inR
 simp [h0,h]
theorem jS {x:Int} (h : -9223372036854775808≤x∧x≤9223372036854775807):IntKind.i64.wrap x=x:=IntWalk.i64_in _ (by omega)
def val (B:Int):List Int→Int
 | []=>0
 | d::l=>d+B*val B l
def Dig (B:Int) (l:List Int):Prop:=∀ d∈l,0≤d∧d < B
theorem Dig.nil {B:Int}:Dig B []:=fun _ h=>by cases h
theorem Dig.cons {B d:Int} {l:List Int} (h:0≤d∧d < B) (hl:Dig B l):Dig B (d::l):=fun x hx=>by
 rcases List.mem_cons.1 hx with rfl | hx
 ·exact h
 ·exact hl x hx
theorem Dig.append {B:Int} {l m:List Int} (hl:Dig B l) (hm:Dig B m):Dig B (l++m):=fun x hx=>by
 rcases List.mem_append.1 hx with hx | hx
 ·exact hl x hx
 ·exact hm x hx
theorem Dig.head {B d:Int} {l:List Int} (h:Dig B (d::l)):0≤d∧d < B:=h d (List.mem_cons_self ..)
theorem Dig.tail {B d:Int} {l:List Int} (h:Dig B (d::l)):Dig B l:=fun x hx=>h x (List.mem_cons_of_mem _ hx)
theorem Dig.take {B:Int} {l:List Int} (h:Dig B l) (n:Nat):Dig B (l.take n):=fun x hx=>h x (List.mem_of_mem_take hx)
theorem Dig.drop {B:Int} {l:List Int} (h:Dig B l) (n:Nat):Dig B (l.drop n):=fun x hx=>h x (List.mem_of_mem_drop hx)
theorem Dig.getD {B:Int} {l:List Int} (hB:0 < B) (h:Dig B l) (i:Nat):0≤l.getD i 0∧l.getD i 0 < B:=by
 by_cases hi:i < l.length
 ·simp only [List.getD,List.getElem?_eq_getElem hi,Option.getD_some]
  exact h _ (List.getElem_mem hi)
 ·rw [List.getD,List.getElem?_eq_none (by omega:l.length≤i),Option.getD_none]
  omega
theorem Dig.set {B x:Int} {l:List Int} (h:Dig B l) (hx:0≤x∧x < B) (i:Nat):Dig B (l.set i x):=fun y hy=>by
 rcases List.mem_or_eq_of_mem_set hy with hy | rfl
 ·exact h y hy
 ·exact hx
theorem Dig.replicate {B:Int} (hB:0 < B) (n:Nat):Dig B (List.replicate n 0):=fun x hx=>by
 rw [(List.mem_replicate.1 hx).2];omega
end Go.Ql
end

section
namespace Go.Ql
section
variable {A S R:Type} {f:S→Option (S⊕R)}
theorem Jy {l:List A} (P:List A→List A→S→Prop) (Q:R→Prop)
 (step : ∀ pre a r s,l=pre++a::r→P pre (a::r) s→(∃ s',f s=some (.inl s')∧P (pre++[a]) r s')∨(∃ x,f s=some (.inr x)∧Q x))
 (done : ∀ s,P l [] s → ∃ x,f s=some (.inr x)∧Q x) {s:S} (h:P [] l s) : ∃ x,iter f s=some x∧Q x:=by
 have key : ∀ (r pre:List A) (s:S),l=pre++r→P pre r s → ∃ x,iter f s=some x∧Q x:=by
  intro r
  induction r with
  | nil=>
    intro pre s hl hp
    rw [List.append_nil] at hl
    subst hl
    obtain ⟨x,h1,h2⟩:=done s hp
    exact ⟨x,YT h1,h2⟩
  | cons a r ih=>
    intro pre s hl hp
    rcases step pre a r s hl hp with ⟨s',h1,h2⟩ | ⟨x,h1,h2⟩
    ·obtain ⟨x,h3,h4⟩:=ih (pre++[a]) s' (by simp [hl]) h2
     exact ⟨x,iter_inl h1 h3,h4⟩
    ·exact ⟨x,YT h1,h2⟩
 exact key l [] s rfl h
theorem YK (n:Nat) (P:Nat→S→Prop) (Q:R→Prop)
 (step : ∀ i s,i < n→P i s→(∃ s',f s=some (.inl s')∧P (i+1) s')∨(∃ x,f s=some (.inr x)∧Q x))
 (done : ∀ s,P n s → ∃ x,f s=some (.inr x)∧Q x) {s:S} (h:P 0 s) : ∃ x,iter f s=some x∧Q x:=by
 have key : ∀ (k i:Nat) (s:S),i+k=n→P i s → ∃ x,iter f s=some x∧Q x:=by
  intro k
  induction k with
  | zero=>
    intro i s hi hp
    have:i=n:=by omega
    subst this
    obtain ⟨x,h1,h2⟩:=done s hp
    exact ⟨x,YT h1,h2⟩
  | succ k ih=>
    intro i s hi hp
    rcases step i s (by omega) hp with ⟨s',h1,h2⟩ | ⟨x,h1,h2⟩
    ·obtain ⟨x,h3,h4⟩:=ih (i+1) s' (by omega) h2
     exact ⟨x,iter_inl h1 h3,h4⟩
    ·exact ⟨x,YT h1,h2⟩
 exact key n 0 s (by omega) h
end
theorem br_if {α:Type} {x y:α} {b:Bool}:br b x y=if b=true then x else y:=by cases b <;> rfl
theorem kU {α β γ:Type} {x:α} {f:α→γ} {g:β→γ}:sel (.inl x) f g=f x:=rfl
theorem kJ {α β γ:Type} {x:β} {f:α→γ} {g:β→γ}:sel (.inr x) f g=g x:=rfl
theorem JO {α:Type} {pre:List α} {a:α} {r:List α}:idx (pre++a::r) (pre.length:Int)=some a:=by
 unfold idx
 simp
theorem VK {α:Type} {l:List α} {i:Nat}:idx l (i:Int)=l[i]?:=by
 unfold idx
 simp
theorem UG {α:Type} {l:List α} {i:Nat} (h:i < l.length):idx l (i:Int)=some l[i]:=by
 rw [VK,List.getElem?_eq_getElem h]
theorem idx_int {α:Type} {l:List α} {i:Int} (h0:0≤i) (h:i < (l.length:Int)):idx l i=some (l[i.toNat]'(by omega)):=by
 obtain ⟨n,rfl⟩:=Int.eq_ofNat_of_zero_le h0
 rw [UG (by omega)]
 simp
theorem VL {n:Nat} {i:Nat} (h:i < n):inR n (i:Int)=some ():=inR_of (by omega) (by omega)
theorem br_or {b c:Bool}:br b (some true) (some c)=some (b || c):=by cases b <;> rfl
theorem YF {b c:Bool}:br b (some c) (some false)=some (b && c):=by cases b <;> rfl
theorem JF {b:Bool} {P:Prop} [Decidable P] (h:b=true↔P):some b=some (decide P):=by
 congr 1
 rw [Bool.eq_iff_iff,h]
 simp
theorem br_tt {α:Type} {x y:α}:br true x y=x:=rfl
theorem br_ff {α:Type} {x y:α}:br false x y=y:=rfl
theorem kf {α:Type} {pre:List α} {a:α} {r:List α}:decide ((pre.length:Int) < ((pre++a::r).length:Int))=true:=by
 simp only [List.length_append,List.length_cons,decide_eq_true_eq];omega
theorem both_self {α:Type} {x:Option α}:both x x=x:=by simp [both]
end Go.Ql
end

section
namespace Go.Ql
theorem rraw_ok (l:List (Int×Int×Value×Int×Int×Value)) (hl:l.length≤1759218604390):W.jv l=some (l.reverse,()):=by
 have h : ∃ r,iter (fun s:Int×Int×List (Int×Int×Value×Int×Int×Value)↦W.jv.c100001 s.1 s.2.1 s.2.2 some) ((0:Int),IntKind.i64.wrap ((l.length:Int) - 1),l)=some r∧r.2.2=l.reverse:=by
  refine YK (l.length / 2) (fun i s=>s.1=(i:Int)∧s.2.1=(l.length:Int) - 1 - i∧s.2.2.length=l.length ∧ ∀ k:Nat,k < l.length→s.2.2[k]? = if k < i∨l.length≤k+i then l[l.length - 1 - k]? else l[k]?) _ ?_ ?_ ⟨rfl,by rw [jS (by omega)];simp,rfl,fun k hk=>by rw [if_neg (by omega)]⟩
  ·rintro i ⟨a,b,t⟩ hi ⟨h1,h2,h3,h4⟩
   simp only at h1 h2 h3 h4
   subst h1
   obtain ⟨j,rfl,hj⟩ : ∃ j:Nat,b=j∧j=l.length - 1 - i:=⟨l.length - 1 - i,by omega,rfl⟩
   have hj2:j < l.length:=by omega
   simp only [W.jv.c100001,W.jv.c3,br_if]
   rw [if_pos (by simp;omega)]
   have ej:t[j]? = l[j]?:=by rw [h4 j hj2,if_neg (by omega)]
   have ei:t[i]? = l[i]?:=by rw [h4 i (by omega),if_neg (by omega)]
   rw [VL (by omega),jk,VK,ej,List.getElem?_eq_getElem hj2,jk,VL (by omega),jk,VK,ei,List.getElem?_eq_getElem (show i < l.length by omega)]
   simp only [jk,Int.toNat_natCast,List.length_set]
   rw [VL (by omega),jk,VK,List.getElem?_set_ne (by omega),ej,List.getElem?_eq_getElem hj2]
   simp only [jk]
   rw [jS (by omega),jS (by omega)]
   refine .inl ⟨_,rfl,by simp,by simp;omega,by simp [h3],fun k hk => ?_⟩
   simp only [List.getElem?_set,List.length_set,h3]
   by_cases e1:j=k
   ·subst e1
    rw [if_pos rfl,if_pos hj2,if_pos (by omega),show l.length - 1 - j=i by omega,List.getElem?_eq_getElem (show i < l.length by omega)]
   ·rw [if_neg e1]
    by_cases e2:i=k
    ·subst e2
     rw [if_pos rfl,if_pos (by omega),if_pos (by omega),show l.length - 1 - i=j by omega,List.getElem?_eq_getElem hj2]
    ·rw [if_neg e2,h4 k hk]
     by_cases e3:k < i∨l.length≤k+i
     ·rw [if_pos e3,if_pos (by omega)]
     ·rw [if_neg e3,if_neg (by omega)]
  ·rintro ⟨a,b,t⟩ ⟨h1,h2,h3,h4⟩
   simp only at h1 h2 h3 h4
   subst h1;subst h2
   simp only [W.jv.c100001,br_if]
   rw [if_neg (by simp;omega)]
   refine ⟨_,rfl,?_⟩
   apply List.ext_getElem?
   intro k
   by_cases hk:k < l.length
   ·show t[k]? = _
    rw [h4 k hk,List.getElem?_reverse hk]
    by_cases e:k < l.length / 2∨l.length≤k+l.length / 2
    ·rw [if_pos e]
    ·rw [if_neg e,show l.length - 1 - k=k by omega]
   ·show t[k]? = _
    rw [List.getElem?_eq_none (by omega),List.getElem?_eq_none (by simp;omega)]
 obtain ⟨r,hr,h⟩:=h
 simp only [W.jv,hr,jk,h]
end Go.Ql
end

section
set_option linter.unusedSectionVars false
namespace Go.Ql
theorem rdIs_rows {w:World} {Z:Nat→Prop} {te:TypeId} {t:Ty} : ∀ {xs:List t.den} {cs us:List Value},rdIs w Z te t cs xs us ↔
 ∃ rows:List (List Value×t.den×List Value),(∀ q∈rows,rdI w Z te t q.1 q.2.1 q.2.2)∧cs=rows.flatMap (·.1)∧xs=rows.map (·.2.1)∧us=rows.flatMap (·.2.2)
 | [],cs,us=>by
   constructor
   ·rintro ⟨rfl,rfl⟩;exact ⟨[],by simp,rfl,rfl,rfl⟩
   ·rintro ⟨rows,_,rfl,h2,rfl⟩
    have:rows=[]:=List.map_eq_nil_iff.1 h2.symm
    subst this;exact ⟨rfl,rfl⟩
 | x::r,cs,us=>by
   constructor
   ·rintro ⟨c1,c2,u1,u2,rfl,rfl,h1,h2⟩
    obtain ⟨rows,g1,rfl,rfl,rfl⟩:=rdIs_rows.1 h2
    exact ⟨(c1,x,u1)::rows,by simp only [List.forall_mem_cons];exact ⟨h1,g1⟩,rfl,rfl,rfl⟩
   ·rintro ⟨rows,g1,rfl,g2,rfl⟩
    cases rows with
    | nil=>cases g2
    | cons q rows=>
      simp only [List.map_cons,List.cons.injEq] at g2
      obtain ⟨rfl,rfl⟩:=g2
      simp only [List.forall_mem_cons] at g1
      exact ⟨q.1,_,q.2.2,_,rfl,rfl,g1.1,rdIs_rows.2 ⟨rows,g1.2,rfl,rfl,rfl⟩⟩
end Go.Ql
namespace W
open Go Go.Ql
abbrev rawT:Ty:=.st (.pair (.int .i64) (.pair (.int .i64) (.pair .raw (.pair (.int .i64) (.pair (.int .i64) .raw)))))
abbrev opT:Ty:=.st (.pair (.int .i64) (.pair (.int .i64) (.pair (.sl (.int .i64)) (.pair (.int .i64) (.pair (.int .i64) (.sl (.int .i64)))))))
abbrev RawOp:=Int×Int×Value×Int×Int×Value
def Vw (r:RawOp):List Value:=[.int .i64 r.1,.int .i64 r.2.1,r.2.2.1,.int .i64 r.2.2.2.1,.int .i64 r.2.2.2.2.1,r.2.2.2.2.2]
theorem rdC_raw {w:World} {Z:Nat→Prop} {cs:List Value} {r:RawOp}:rdC w Z rawT cs r↔cs=Vw r∧r.2.2.1.oneCell'=true∧r.2.2.2.2.2.oneCell'=true:=by
 constructor
 ·rintro ⟨_,_,rfl,h1,_,_,rfl,h2,_,_,rfl,⟨h3,h3'⟩,_,_,rfl,h4,_,_,rfl,h5,h6,h6'⟩
  have h1:_=[Value.int .i64 r.1]:=h1
  have h2:_=[Value.int .i64 r.2.1]:=h2
  have h4:_=[Value.int .i64 r.2.2.2.1]:=h4
  have h5:_=[Value.int .i64 r.2.2.2.2.1]:=h5
  subst h1;subst h2;subst h3;subst h4;subst h5;subst h6
  exact ⟨rfl,h3',h6'⟩
 ·rintro ⟨rfl,h1,h2⟩
  exact ⟨[_],_,rfl,rfl,[_],_,rfl,rfl,[_],_,rfl,⟨rfl,h1⟩,[_],_,rfl,rfl,[_],_,rfl,rfl,rfl,h2⟩
theorem rdI_raw {w:World} {Z:Nat→Prop} {te:TypeId} {cs us:List Value} {x:opT.den} (h:rdI w Z te opT cs x us) : ∃ r:RawOp,cs=Vw r∧r.2.2.1.oneCell'=true∧r.2.2.2.2.2.oneCell'=true:=by
 obtain ⟨_,_,_,_,rfl,_,⟨_,h1,_⟩,_,_,_,_,rfl,_,⟨_,h2,_⟩,_,_,_,_,rfl,_,⟨_,v,es,h3,_,h3',_⟩,_,_,_,_,rfl,_,⟨_,h4,_⟩,_,_,_,_,rfl,_,⟨_,h5,_⟩,_,u,fs,h6,_,h6',_⟩:=h
 have h1:_=[Value.int .i64 x.1]:=h1
 have h2:_=[Value.int .i64 x.2.1]:=h2
 have h4:_=[Value.int .i64 x.2.2.2.1]:=h4
 have h5:_=[Value.int .i64 x.2.2.2.2.1]:=h5
 subst h1;subst h2;subst h3;subst h4;subst h5;subst h6
 exact ⟨(x.1,x.2.1,v,x.2.2.2.1,x.2.2.2.2.1,u),rfl,Va h3',Va h6'⟩
theorem raw_rows {w:World} {Z:Nat→Prop} : ∀ {l:List RawOp} {cs:List Value},rdAll (rdC w Z rawT) cs l→cs=l.flatMap Vw
 | [],_,h=>h
 | r::l,_,⟨c1,c2,rfl,h1,h2⟩=>by rw [(rdC_raw.1 h1).1,raw_rows h2];rfl
theorem rows_raw {w:World} {Z:Nat→Prop} : ∀ {l:List RawOp},(∀ r∈l,r.2.2.1.oneCell'=true∧r.2.2.2.2.2.oneCell'=true)→rdAll (rdC w Z rawT) (l.flatMap Vw) l
 | [],_=>rfl
 | r::l,h=>by
   simp only [List.forall_mem_cons] at h
   exact ⟨_,_,rfl,rdC_raw.2 ⟨rfl,h.1⟩,rows_raw h.2⟩
theorem exists_raws : ∀ {rows:List (List Value×opT.den×List Value)},(∀ q∈rows,∃ r:RawOp,q.1=Vw r∧r.2.2.1.oneCell'=true∧r.2.2.2.2.2.oneCell'=true) →
 ∃ l:List RawOp,(∀ r∈l,r.2.2.1.oneCell'=true∧r.2.2.2.2.2.oneCell'=true)∧l.map Vw=rows.map (·.1)
 | [],_=>⟨[],by simp,rfl⟩
 | q::rows,h=>by
   simp only [List.forall_mem_cons] at h
   obtain ⟨r,h1,h2⟩:=h.1
   obtain ⟨l,h3,h4⟩:=exists_raws h.2
   exact ⟨r::l,by simp only [List.forall_mem_cons];exact ⟨h2,h3⟩,by simp [h1,h4]⟩
noncomputable section
def Jw.pre:Shape:=⟨[(0,.one (.down 2000000 0))],[(2000000,.deep 0 57 3 opT)]⟩
def Jw.post:Shape:=⟨[],[(2000000,.deep 0 57 3 opT)]⟩
def Jw (l:List opT.den):Option (List opT.den×Unit):=bif decide (l.length≤1759218604390) then some (l.reverse,()) else none
def Jw.mc:MCallee:=⟨49,Jw.pre,Jw.post,fun x_=>Jw x_.1⟩
abbrev dObjs (l:List opT.den):List (Nat×Ob):=[(2000000,.deep 0 false 57 3 opT l none)]
abbrev rObjs (l:List rawT.den):List (Nat×Ob):=[(2000000,.arr 0 false 57 rawT l)]
theorem kT {id:Nat} {o ob:Ob} (h:Go.Ql.look [(2000000,o)] id=some ob):id=2000000∧ob=o:=by
 by_cases h0:id=2000000
 ·subst h0;exact ⟨rfl,(Option.some.inj h).symm⟩
 ·have n1:Nat.beq 2000000 id=false:=Bool.eq_false_iff.2 fun e=>h0 (Nat.eq_of_beq_eq_true e).symm
  simp [Go.Ql.look,n1] at h
theorem Jw.ok:MOk Go.Proofs.Tryd.prog 49 Jw.mc:=by
 refine ⟨jv.ok.fn,fun w Z nm vs x y hp hy => ?_⟩
 obtain ⟨xs,⟨⟩⟩:=x
 have hy:Jw xs=some y:=hy
 unfold Jw at hy
 cases hc:decide (List.length xs≤1759218604390) with
 | false=>rw [hc] at hy;cases hy
 | true=>
 rw [hc] at hy
 have hy:=Option.some.inj hy
 subst hy
 have hlen:=of_decide_eq_true hc
 change Pre w Z nm ⟨[(0,.one (.down 2000000 0))],dObjs xs⟩ vs at hp
 obtain ⟨len,slots,objs,lt,inj,zlt,mine,glob⟩:=hp
 match vs,len with
 | [v],_=>
   obtain ⟨hv1,hv2⟩:=slots 0 _ v rfl rfl
   have hv2:v=hdr (nm 2000000):=hv2 _ _ _ _ _ _ rfl
   have hdp:rdDeep w _ (nm 2000000) 57 3 opT xs:=objs 2000000 _ rfl
   obtain ⟨hd,us,cells,hn,hown,hrows,hap⟩:=hdp
   have hh:hdr (nm 2000000)=hd:=by rw [hn,JR]
   obtain ⟨rows,g1,g2,g3,g4⟩:=rdIs_rows.1 hrows
   obtain ⟨l,l1,l2⟩:=exists_raws (fun q hq=>rdI_raw (g1 q hq))
   have hll:l.length=xs.length:=by have:=congrArg List.length l2;simpa [g3] using this
   have hcells:cells=l.flatMap Vw:=by rw [g2,List.flatMap_def,List.flatMap_def,l2]
   have hfl : ∀ b,hasB hd b→hasB (nm 2000000) b:=fun b hb=>by rw [hn];exact km.2 ⟨hd,List.mem_cons_self ..,(Yh hown).1 hb⟩
   have hraw:W.jv l=some (l.reverse,()):=rraw_ok l (by rw [hll];exact hlen)
   let nm0:Names:=fun _=>hd
   have hpre:Pre w Z nm0 ⟨[(0,.one (.own 2000000 0))],rObjs l⟩ [v]:=by
    refine ⟨rfl,fun i p u h1 h2 => ?_,fun id ob hl => ?_,fun id ob b hl hb => ?_,fun id id' ob ob' b hl hl' _ _ => ?_,zlt,fun id ob hl => ?_,glob.1,fun b hb => ?_⟩
    ·match i with
     | 0=>
       cases h1;cases h2
       exact ⟨hv1,fun _ _ _ _ _=>hv2.trans hh⟩
     | i+1=>cases h1
    ·obtain ⟨rfl,rfl⟩:=kT hl
     refine .inl ⟨rfl,cells,?_,?_⟩
     ·show w.ownsM 57 6 hd (List.length l) cells
      rw [hll];exact hown
     ·rw [hcells];exact rows_raw l1
    ·obtain ⟨rfl,rfl⟩:=kT hl
     exact lt 2000000 _ b rfl (hfl b hb)
    ·rw [(kT hl).1,(kT hl').1]
    ·obtain ⟨rfl,rfl⟩:=kT hl;rfl
    ·obtain ⟨id,ob,hl,_,hb⟩:=hb
     exact glob.2 b ⟨2000000,_,rfl,rfl,hfl b hb⟩
   refine (jv.ok.calls w Z nm0 [v] (l,()) (l.reverse,()) hpre hraw).mono fun e w' ⟨r,nm',he,hpost⟩ => ?_
   have hpost:Post w w' (Bs.of Z nm0 (rObjs l)) nm' ⟨[],rObjs l.reverse⟩ r:=hpost
   have hdn:nm' 2000000=hd:=(hpost.given 2000000 _ (by decide) rfl).1 ⟨by decide,rfl⟩
   obtain ⟨rcells,⟨rown,rrd⟩⟩:=rdArr.sl (show rdArr w' _ (nm' 2000000) 57 rawT l.reverse from hpost.objs 2000000 _ rfl) rfl
   rw [hdn] at rown
   have hrc:=raw_rows rrd
   have hkeep : ∀ b,b < w.heap.size → ¬ hasB hd b→w'.heap[b]? = w.heap[b]?:=fun b hb hnb=>hpost.same.block b hb fun ⟨id,ob,hl,_,hb2⟩=>hnb (by obtain ⟨rfl,rfl⟩:=kT hl;exact hb2)
   let us':=rows.reverse.flatMap (·.2.2)
   have hperm:List.Perm us' us:=by rw [g4];exact List.Perm.flatMap_right _ (List.reverse_perm rows)
   let nmD:Names:=fun _ => .tuple (hd::us').toArray
   have hB : ∀ b,hasB (.tuple (hd::us').toArray) b↔hasB (nm 2000000) b:=fun b=>by
    rw [hn,km,km]
    constructor
    ·rintro ⟨u,hu,hb⟩
     rcases List.mem_cons.1 hu with rfl | hu
     ·exact ⟨_,List.mem_cons_self ..,hb⟩
     ·exact ⟨u,List.mem_cons_of_mem _ (hperm.mem_iff.1 hu),hb⟩
    ·rintro ⟨u,hu,hb⟩
     rcases List.mem_cons.1 hu with rfl | hu
     ·exact ⟨_,List.mem_cons_self ..,hb⟩
     ·exact ⟨u,List.mem_cons_of_mem _ (hperm.mem_iff.2 hu),hb⟩
   have hus : ∀ u∈us,∀ b,blk u=some b→w'.heap[b]? = w.heap[b]?:=fun u hu b hb=>by
    refine hkeep b (lt 2000000 _ b rfl (by rw [hn];exact km.2 ⟨u,List.mem_cons_of_mem _ hu,hb⟩)) fun hh => ?_
    exact (List.pairwise_cons.1 hap).1 u hu b ((Yh hown).1 hh) hb
   refine ⟨r,nmD,he,⟨⟨hpost.same.os,hpost.same.tape,hpost.same.output,hpost.same.size,fun b hb hm => ?_⟩,?_,fun id ob hl => ?_,fun id ob b hl hb => ?_,fun id id' ob ob' b hl hl' _ _ => ?_,fun id ob hg hl => ?_,fun id ob hl _ => ?_⟩⟩
   ·exact hkeep b hb fun hh=>hm ⟨2000000,_,rfl,rfl,hfl b hh⟩
   ·obtain ⟨vs2,e1,e2,_⟩:=hpost.res
    exact ⟨vs2,e1,e2,fun i p u h=>by cases h⟩
   ·obtain ⟨rfl,rfl⟩:=kT hl
    show rdDeep w' _ (.tuple (hd::us').toArray) 57 3 opT xs.reverse
    refine ⟨hd,us',rcells,rfl,?_,?_,?_⟩
    ·have:(List.length xs.reverse)=List.length l.reverse:=by simp [hll]
     rw [this];exact rown
    ·have hkw:KeptW w w' (Zc w (Bs.of Z nm (dObjs xs)) nm (dObjs xs) w) (Zc w (Bs.of Z nm (dObjs xs)) nmD (dObjs xs.reverse) w'):=by
      intro b hb
      refine ⟨⟨Nat.lt_of_lt_of_le hb.1 hpost.same.size,fun h=>hb.2.1 h,?_⟩,fun o u hu => ?_⟩
      ·rintro ⟨id,ob,hl,hm,hb2⟩
       obtain ⟨rfl,rfl⟩:=kT hl
       exact hb.2.2 ⟨2000000,_,rfl,rfl,(hB b).1 hb2⟩
      ·have:w'.heap[b]? = w.heap[b]?:=hkeep b hb.1 fun hh=>hb.2.2 ⟨2000000,_,rfl,rfl,hfl b hh⟩
       unfold World.cell? at hu ⊢
       simp only [this]
       exact hu
     have hrev:rdIs w (Zc w (Bs.of Z nm (dObjs xs)) nm (dObjs xs) w) 3 opT rcells xs.reverse us':=by
      refine rdIs_rows.2 ⟨rows.reverse,fun q hq=>g1 q (List.mem_reverse.1 hq),?_,?_,rfl⟩
      ·rw [hrc,List.flatMap_def,List.flatMap_def,List.map_reverse,List.map_reverse,l2]
      ·rw [List.map_reverse,← g3]
     exact YM hkw (fun u hu b hb=>hus u (hperm.mem_iff.1 hu) b hb) hrev
    ·exact (List.Perm.pairwise_iff (fun h b h1 h2=>h b h2 h1) (hperm.cons hd)).2 hap
   ·obtain ⟨rfl,rfl⟩:=kT hl
    exact ⟨.inr ⟨2000000,_,rfl,rfl,(hB b).1 hb⟩,Nat.lt_of_lt_of_le (lt 2000000 _ b rfl ((hB b).1 hb)) hpost.same.size⟩
   ·rw [(kT hl).1,(kT hl').1]
   ·obtain ⟨rfl,rfl⟩:=kT hl
    exact ⟨fun h=>h.elim,fun _=>by show hdr (.tuple (hd::us').toArray)=hdr (nm 2000000);rw [JR,hh]⟩
   ·obtain ⟨rfl,rfl⟩:=kT hl;rfl
end
end W
end
