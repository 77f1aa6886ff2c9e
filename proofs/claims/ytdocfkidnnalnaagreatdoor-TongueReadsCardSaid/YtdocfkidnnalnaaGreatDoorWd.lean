/- Lifted functions, part 4: each with its contract; a function that recovers; the laws. -/
import Derived.Test.YtdocfkidnnalnaaGreatDoorWc
import Derived.Test.YtdocfkidnnalnaaGreatDoorLf
import Derived.Test.YtdocfkidnnalnaaGreatDoorProg
import Derived.Test.YtdocfkidnnalnaaGreatDoorCa
import Derived.Test.YtdocfkidnnalnaaGreatDoorWb
import Derived.WalkKit
import Derived.Recover
set_option linter.all false
section
set_option maxHeartbeats 4000000
set_option maxRecDepth 100000
namespace W
open Go Go.Ql Go.Proofs Go.IntKind
noncomputable section
variable {ρ:Type}
abbrev ti1:SD:=.one (.ref 1 0)
abbrev ti2:SD:=.one (.val .str)
abbrev ti4:SD:=.one (.val (.int .i64))
abbrev ti7:SD:=.one (.val (.st (.node (.pair (.int .i64) (.pair (.int .i64) (.pair .str (.int .i64)))))))
abbrev ti8:SO:=.box [.val (.int .i64),.val (.int .i64),.val .str,.val (.int .i64),.val (.sl (.st (.node (.pair (.int .i64) (.pair (.int .i64) (.pair .str (.int .i64)))))))]
abbrev ti16:SD:=.one (.ref 2 0)
def Jz (n:Z9) (i:Int):Option Z9:= br (decide (i<(↑(List.length n.kids):Int))) (bnd (idx n.kids i) fun y=>some (Rose.mk (y.head.1,y.head.2.1,y.head.2.2.1,y.head.2.2.2) y.kids)) (some (Rose.mk ((0:Int),(0:Int),[],(0:Int)) []))
def Jz.ce:=ceOf tab Tryz.f89 Jz
def Jz.G:EB Za:=⟨tb,Tryz.f89,[],[0,1,2,4,9],[],[],[],[],[]⟩
theorem Jz.ok:CalleeOk Za 89 Jz.ce:=fnB Jz.G Tryz.func89 (m:=0) trivial
def Yv (text:Z7) (has:Int) (must:Int):Option Z7:= br (decide (has<must)) (bnd (okIf (decide (List.length (Z6 [40])+text.length≤9223372036854775807))) fun y=>bnd (okIf (decide (List.length (Z6 [40]++text)+List.length (Z6 [41])≤9223372036854775807))) fun y1=>some (Z6 [40]++text++Z6 [41])) (some text)
def Yv.ce:=ceOf tab Tryz.f114 Yv
def Yv.G:EB Za:=⟨tb,Tryz.f114,[],[0,1,2,6,9],[],[],[],[],[]⟩
theorem Yv.ok:CalleeOk Za 114 Yv.ce:=fnB Yv.G Tryz.func114 (m:=0) trivial
def jJ.self.pre:Shape:=⟨[(0,ti7),(1,ti4)],[]⟩
def jJ.self.post:Shape:=⟨[(0,ti2)],[]⟩
class jJ.Self where
  F:densU jJ.self.pre.tys→Option (densU jJ.self.post.tys)
  ok:MOk Za 90 ⟨90,jJ.self.pre,jJ.self.post,F⟩
section
variable [jJ.Self]
def jJ.self (X:densU jJ.self.pre.tys):Option (densU jJ.self.post.tys):=jJ.Self.F X
def jJ.self.mc:MCallee:=⟨90,jJ.self.pre,jJ.self.post,fun X=>jJ.self X⟩
theorem jJ.self.ok:MOk Za 90 jJ.self.mc:=jJ.Self.ok
def jJ.pre:Shape:=⟨[(0,ti7),(1,ti4)],[]⟩
def jJ.post:Shape:=⟨[(0,ti2)],[]⟩
def jJ.cK_ {ρ:Type} (r:Int)(left:Int)(right:Int)(Z:Int×Int→Option ρ):Option ρ:= br (r==1) (Z ((2:Int),right)) (br (r==5) (Z ((6:Int),(4:Int))) (Z (left,right)))
def jJ.cK_s:Shape:=(((((((jJ.pre.s 2 ti16).s 4 ti2).s 5 ti4).s 6 ti4).s 7 ti4).s 9 ti4).o 2 ti8)
def jJ.cK_r:RC:=⟨jJ.cK_s,[(jJ.cK_s,0,[4,202])],no,[3,4,5],fun _=>jJ.cK_,fun _ _ _ _ _=>jr ja (jr ja ja)⟩
def jJ.c18 {ρ:Type} (must:Int)(r:Int)(left:Int)(right:Int)(n0:Int)(n1:Int)(n2:Z7)(n3:Int)(n4:List Z9)(Z:Z7→Option ρ):Option ρ:= bnd (Jz (Rose.mk (n0,n1,n2,n3) n4) (0:Int)) fun y=>bnd (jJ.self (y,left,())) fun y1=>bnd (okIf (decide (List.length y1.1+List.length (Z6 [32])≤9223372036854775807))) fun y2=>bnd (okIf (decide (List.length (y1.1++Z6 [32])+n2.length≤9223372036854775807))) fun y3=>bnd (okIf (decide (List.length (y1.1++Z6 [32]++n2)+List.length (Z6 [32])≤9223372036854775807))) fun y4=>bnd (Jz (Rose.mk (n0,n1,n2,n3) n4) (1:Int)) fun y5=>bnd (jJ.self (y5,right,())) fun y6=>bnd (okIf (decide (List.length (y1.1++Z6 [32]++n2++Z6 [32])+List.length y6.1≤9223372036854775807))) fun y7=>bnd (Yv (y1.1++Z6 [32]++n2++Z6 [32]++y6.1) r must) fun y8=>Z y8
def jJ.c18r:RC:=⟨jJ.cK_s,[(jJ.cK_s,0,[2,201])],no,[1,3,4,5,7,8,9,10,11],fun _=>jJ.c18,fun _ _ _ _ _ _ _ _ _ _ _=>jb fun _=>(jb fun _=>(jb fun _=>(jb fun _=>(jb fun _=>(jb fun _=>(jb fun _=>(jb fun _=>(jb fun _=>ja))))))))⟩
def jJ (n:Z9) (must:Int):Option (Z7×Unit):= br (n.head.1==20) (bnd (strconv_Itoa n.head.2.2.2) fun y=>some (y,())) (br (n.head.1==21) (some (n.head.2.2.1,())) (br (n.head.1==22) (bnd (okIf (decide (List.length (Z6 [115,105,122,101,40])+List.length n.head.2.2.1≤9223372036854775807))) fun y1=>bnd (okIf (decide (List.length (Z6 [115,105,122,101,40]++n.head.2.2.1)+List.length (Z6 [41])≤9223372036854775807))) fun y2=>some (Z6 [115,105,122,101,40]++n.head.2.2.1++Z6 [41],())) (br (n.head.1==23) (bnd (Jz (Rose.mk (n.head.1,n.head.2.1,n.head.2.2.1,n.head.2.2.2) n.kids) (0:Int)) fun y3=>bnd (jJ.self (y3,(4:Int),())) fun y4=>bnd (okIf (decide (List.length (Z6 [45])+List.length y4.1≤9223372036854775807))) fun y5=>bnd (Yv (Z6 [45]++y4.1) (4:Int) must) fun y6=>some (y6,())) (br (n.head.1==24) (bnd (Ji n.head.2.2.1) fun y7=>bnd (jJ.cK_ y7 y7 (i64.wrap (y7+1)) some) fun y8=>bnd (jJ.c18 must y7 y8.1 y8.2 n.head.1 n.head.2.1 n.head.2.2.1 n.head.2.2.2 n.kids some) fun y9=>some (y9,())) (some (Z6 [],()))))))
def jJ.mc:MCallee:=⟨90,jJ.pre,jJ.post,fun X=>jJ X.1 X.2.1⟩
def jJ.G:EB Za:=⟨tb,Tryz.f90,[⟨113,strconv_Itoa.ce,strconv_Itoa.ok⟩,⟨89,Jz.ce,Jz.ok⟩,⟨114,Yv.ce,Yv.ok⟩,⟨61,Ji.ce,Ji.ok⟩],[0,1,2,4,5,6,7,9,10,15,19,25,33,41,42,44],[],[(18,[])],[(18,jJ.c18r.ck),(253260,jJ.cK_r.ck)],[⟨90,jJ.self.mc,jJ.self.ok⟩],[]⟩
theorem jJ.ok:MOk Za 90 jJ.mc:=fnM jJ.G (mc:=jJ.mc) Tryz.func90 (m:=2) ⟨⟨trivial,kJ jJ.cK_r⟩,kR jJ.c18r⟩
end
@[reducible] def jJ.fuel:Nat→jJ.Self
  | 0=>⟨fun _=>none,⟨⟨Tryz.f90,Tryz.func90,by kernel_rfl,by kernel_rfl⟩,fun _ _ _ _ _ _ _ hy=>by cases hy⟩⟩
  | n+1=>⟨fun X=>(@jJ.mc (jJ.fuel n)).F X,@jJ.ok (jJ.fuel n)⟩
def kc (X:densU jJ.self.pre.tys):Option (densU jJ.self.post.tys):=(jJ.fuel (1000000)).F X
def kc.mc:MCallee:=⟨90,jJ.self.pre,jJ.self.post,fun X=>kc X⟩
theorem kc.ok:MOk Za 90 kc.mc:=mok_diag (F:=fun n=>(jJ.fuel n).F) (fun n=>(jJ.fuel n).ok) (fun X=>1000000)
def JG.c3 (n0:Int)(n1:Int)(n2:Z7)(n3:Int)(n4:List Z9)(Z:Z7→Option ρ):Option ρ:= bnd (okIf (decide (n2.length+List.length (Z6 [91])≤9223372036854775807))) fun y=>bnd (Jz (Rose.mk (n0,n1,n2,n3) n4) (0:Int)) fun y1=>bnd (kc (y1,(1:Int),())) fun y2=>bnd (okIf (decide (List.length (n2++Z6 [91])+List.length y2.1≤9223372036854775807))) fun y3=>bnd (okIf (decide (List.length (n2++Z6 [91]++y2.1)+List.length (Z6 [93])≤9223372036854775807))) fun y4=>Z (n2++Z6 [91]++y2.1++Z6 [93])
def JG.c3s:Shape:=⟨[(0,ti7),(1,ti1),(2,ti2),(4,ti4)],[(1,ti8)]⟩
def JG.c3r:RC:=⟨JG.c3s,[(JG.c3s,0,[1,201])],no,[3,4,5,6,7],@JG.c3,fun _ _ _ _ _ _ _=>jb fun _=>(jb fun _=>(jb fun _=>(jb fun _=>(jb fun _=>ja))))⟩
def JG.c5 (n0:Int)(n1:Int)(n2:Z7)(n3:Int)(n4:List Z9)(Z:Z7→Option ρ):Option ρ:= bnd (okIf (decide (n2.length+List.length (Z6 [91])≤9223372036854775807))) fun y=>bnd (Jz (Rose.mk (n0,n1,n2,n3) n4) (0:Int)) fun y1=>bnd (kc (y1,(1:Int),())) fun y2=>bnd (okIf (decide (List.length (n2++Z6 [91])+List.length y2.1≤9223372036854775807))) fun y3=>bnd (okIf (decide (List.length (n2++Z6 [91]++y2.1)+List.length (Z6 [32,46,46,32])≤9223372036854775807))) fun y4=>bnd (Jz (Rose.mk (n0,n1,n2,n3) n4) (1:Int)) fun y5=>bnd (kc (y5,(1:Int),())) fun y6=>bnd (okIf (decide (List.length (n2++Z6 [91]++y2.1++Z6 [32,46,46,32])+List.length y6.1≤9223372036854775807))) fun y7=>bnd (okIf (decide (List.length (n2++Z6 [91]++y2.1++Z6 [32,46,46,32]++y6.1)+List.length (Z6 [93])≤9223372036854775807))) fun y8=>Z (n2++Z6 [91]++y2.1++Z6 [32,46,46,32]++y6.1++Z6 [93])
def JG.c5r:RC:=⟨JG.c3s,[(JG.c3s,0,[1,201])],no,[3,4,5,6,7],@JG.c5,fun _ _ _ _ _ _ _=>jb fun _=>(jb fun _=>(jb fun _=>(jb fun _=>(jb fun _=>(jb fun _=>(jb fun _=>(jb fun _=>(jb fun _=>ja))))))))⟩
def JG (n:Z9):Option Z7:= br (n.head.2.2.2==1) (bnd (JG.c3 n.head.1 n.head.2.1 n.head.2.2.1 n.head.2.2.2 n.kids some) fun y=>some y) (br (n.head.2.2.2==2) (bnd (JG.c5 n.head.1 n.head.2.1 n.head.2.2.1 n.head.2.2.2 n.kids some) fun y1=>some y1) (some n.head.2.2.1))
def JG.ce:=ceOf tab Tryz.f95 JG
def JG.G:EB Za:=⟨tb,Tryz.f95,[⟨89,Jz.ce,Jz.ok⟩],[0,1,2,4,5,15],[],[(5,[]),(3,[])],[(5,JG.c5r.ck),(3,JG.c3r.ck)],[⟨90,kc.mc,kc.ok⟩],[]⟩
theorem JG.ok:CalleeOk Za 95 JG.ce:=fnB JG.G Tryz.func95 (m:=2) ⟨⟨trivial,kR JG.c3r⟩,kR JG.c5r⟩
abbrev ti17:SD:=.one (.ref 1000110 0)
abbrev ti18:SD:=.one (.ref 1000120 0)
abbrev ti19:SO:=.box [.val (.int .i64)]
def Jp.self.pre:Shape:=⟨[(0,ti7),(1,ti4)],[]⟩
def Jp.self.post:Shape:=⟨[(0,ti2)],[]⟩
def Jf.self.pre:Shape:=⟨[(0,ti2),(1,ti4),(2,ti17),(3,ti18)],[(1000110,ti8),(1000120,ti19)]⟩
def Jf.self.post:Shape:=⟨[(0,ti2)],[(1000110,ti8),(1000120,ti19)]⟩
class YU.Self where
  F_tongue_truth_b:densU Jp.self.pre.tys→Option (densU Jp.self.post.tys)
  ok_tongue_truth_b:MOk Za 96 ⟨96,Jp.self.pre,Jp.self.post,F_tongue_truth_b⟩
  F_tongue_truth_1_b:densU Jf.self.pre.tys→Option (densU Jf.self.post.tys)
  ok_tongue_truth_1_b:MOk Za 119 ⟨119,Jf.self.pre,Jf.self.post,F_tongue_truth_1_b⟩
section
variable [YU.Self]
def Jp.self (X:densU Jp.self.pre.tys):Option (densU Jp.self.post.tys):=YU.Self.F_tongue_truth_b X
def Jp.self.mc:MCallee:=⟨96,Jp.self.pre,Jp.self.post,fun X=>Jp.self X⟩
theorem Jp.self.ok:MOk Za 96 Jp.self.mc:=YU.Self.ok_tongue_truth_b
def Jf.self (X:densU Jf.self.pre.tys):Option (densU Jf.self.post.tys):=YU.Self.F_tongue_truth_1_b X
def Jf.self.mc:MCallee:=⟨119,Jf.self.pre,Jf.self.post,fun X=>Jf.self X⟩
theorem Jf.self.ok:MOk Za 119 Jf.self.mc:=YU.Self.ok_tongue_truth_1_b
def Jp.pre:Shape:=⟨[(0,ti7),(1,ti4)],[]⟩
def Jp.post:Shape:=⟨[(0,ti2)],[]⟩
def Jp (n:Z9) (must:Int):Option (Z7×Unit):= br (n.head.1==29) (bnd (Jf.self (Z6 [124],(1:Int),n.head.1,n.head.2.1,n.head.2.2.1,n.head.2.2.2,Rose.kids n,must,())) fun y=>some (y.1,())) (br (n.head.1==30) (bnd (Jf.self (Z6 [94],(2:Int),n.head.1,n.head.2.1,n.head.2.2.1,n.head.2.2.2,Rose.kids n,must,())) fun y1=>some (y1.1,())) (br (n.head.1==28) (bnd (Jf.self (Z6 [38],(3:Int),n.head.1,n.head.2.1,n.head.2.2.1,n.head.2.2.2,Rose.kids n,must,())) fun y2=>some (y2.1,())) (br (n.head.1==27) (bnd (Jz (Rose.mk (n.head.1,n.head.2.1,n.head.2.2.1,n.head.2.2.2) n.kids) (0:Int)) fun y3=>bnd (Jp.self (y3,(4:Int),())) fun y4=>bnd (okIf (decide (List.length (Z6 [33])+List.length y4.1≤9223372036854775807))) fun y5=>some (Z6 [33]++y4.1,())) (br (n.head.1==26) (bnd (strconv_Itoa n.head.2.2.2) fun y6=>some (y6,())) (bnd (JG (Rose.mk (n.head.1,n.head.2.1,n.head.2.2.1,n.head.2.2.2) n.kids)) fun y7=>some (y7,()))))))
def Jp.mc:MCallee:=⟨96,Jp.pre,Jp.post,fun X=>Jp X.1 X.2.1⟩
def Jp.G:EB Za:=⟨tb,Tryz.f96,[⟨89,Jz.ce,Jz.ok⟩,⟨113,strconv_Itoa.ce,strconv_Itoa.ok⟩,⟨95,JG.ce,JG.ok⟩],[0,1,2,3,4,5,8,9,13,17,21,27],[],[],[],[⟨96,Jp.self.mc,Jp.self.ok⟩,⟨119,Jf.self.mc,Jf.self.ok⟩],[]⟩
theorem Jp.ok:MOk Za 96 Jp.mc:=fnM Jp.G (mc:=Jp.mc) Tryz.func96 (m:=0) trivial
def Jf.pre:Shape:=⟨[(0,ti2),(1,ti4),(2,ti17),(3,ti18)],[(1000110,ti8),(1000120,ti19)]⟩
def Jf.post:Shape:=⟨[(0,ti2)],[(1000110,ti8),(1000120,ti19)]⟩
def Jf.c1 {ρ:Type} (word:Z7)(r:Int)(ua:Int)(ub:Int)(uc:Z7)(ud:Int)(ue:List Z9)(uf:Int)(Z:Z7→Option ρ):Option ρ:= bnd (Jz (Rose.mk (ua,ub,uc,ud) ue) (0:Int)) fun y=>bnd (Jp.self (y,r,())) fun y1=>bnd (okIf (decide (List.length y1.1+List.length (Z6 [32])≤9223372036854775807))) fun y2=>bnd (okIf (decide (List.length (y1.1++Z6 [32])+word.length≤9223372036854775807))) fun y3=>bnd (okIf (decide (List.length (y1.1++Z6 [32]++word)+List.length (Z6 [32])≤9223372036854775807))) fun y4=>bnd (Jz (Rose.mk (ua,ub,uc,ud) ue) (1:Int)) fun y5=>bnd (Jp.self (y5,i64.wrap (r+1),())) fun y6=>bnd (okIf (decide (List.length (y1.1++Z6 [32]++word++Z6 [32])+List.length y6.1≤9223372036854775807))) fun y7=>bnd (Yv (y1.1++Z6 [32]++word++Z6 [32]++y6.1) r uf) fun y8=>Z y8
def Jf.c1s:Shape:=(Jf.pre.s 6 ti2)
def Jf.c1r:RC:=⟨Jf.c1s,[(Jf.c1s,0,[2,201])],no,[0,1,3,4,5,6,7,8],fun _=>Jf.c1,fun _ _ _ _ _ _ _ _ _ _=>jb fun _=>(jb fun _=>(jb fun _=>(jb fun _=>(jb fun _=>(jb fun _=>(jb fun _=>(jb fun _=>(jb fun _=>ja))))))))⟩
def Jf (word:Z7) (r:Int) (ua:Int) (ub:Int) (uc:Z7) (ud:Int) (ue:List Z9) (uf:Int):Option (Z7×Int×Int×Z7×Int×(List Z9)×Int×Unit):= bnd (Jf.c1 word r ua ub uc ud ue uf some) fun y=>some (y,ua,ub,uc,ud,ue,uf,())
def Jf.mc:MCallee:=⟨119,Jf.pre,Jf.post,fun X=>Jf X.1 X.2.1 X.2.2.1 X.2.2.2.1 (q4 X).1 (q4 X).2.1 (q4 X).2.2.1 (q4 X).2.2.2.1⟩
def Jf.G:EB Za:=⟨tb,Tryz.f119,[⟨89,Jz.ce,Jz.ok⟩,⟨114,Yv.ce,Yv.ok⟩],[0,1,2,3,6],[],[(1,[])],[(1,Jf.c1r.ck)],[⟨96,Jp.self.mc,Jp.self.ok⟩],[]⟩
theorem Jf.ok:MOk Za 119 Jf.mc:=fnM Jf.G (mc:=Jf.mc) Tryz.func119 (m:=1) ⟨trivial,kR Jf.c1r⟩
end
@[reducible] def YU.fuel:Nat→YU.Self
  | 0=>{ F_tongue_truth_b:=fun _=>none,ok_tongue_truth_b:=⟨⟨Tryz.f96,Tryz.func96,by kernel_rfl,by kernel_rfl⟩,fun _ _ _ _ _ _ _ hy=>by cases hy⟩,F_tongue_truth_1_b:=fun _=>none,ok_tongue_truth_1_b:=⟨⟨Tryz.f119,Tryz.func119,by kernel_rfl,by kernel_rfl⟩,fun _ _ _ _ _ _ _ hy=>by cases hy⟩ }
  | n+1=>{ F_tongue_truth_b:=fun X=>(@Jp.mc (YU.fuel n)).F X,ok_tongue_truth_b:=@Jp.ok (YU.fuel n),F_tongue_truth_1_b:=fun X=>(@Jf.mc (YU.fuel n)).F X,ok_tongue_truth_1_b:=@Jf.ok (YU.fuel n) }
def VN (X:densU Jp.self.pre.tys):Option (densU Jp.self.post.tys):=(YU.fuel (1000000)).F_tongue_truth_b X
def VN.mc:MCallee:=⟨96,Jp.self.pre,Jp.self.post,fun X=>VN X⟩
theorem VN.ok:MOk Za 96 VN.mc:=(YU.fuel (1000000)).ok_tongue_truth_b
end
end W
end

section
set_option maxHeartbeats 4000000
set_option maxRecDepth 100000
namespace W
open Go Go.Ql Go.Proofs Go.IntKind
noncomputable section
variable {ρ:Type}
abbrev tj0:SD:=.one (.ref 1000100 0)
abbrev tj1:SD:=.one (.val .str)
abbrev tj2:SO:=.box [.selfp 1000100 61,.own 1000101 0,.val (.int .i64)]
abbrev tj3:SO:=.arr 0 false 5 (.int .u8)
abbrev tj4:SD:=.one (.val (.int .i64))
abbrev tj5:SD:=.one (.val (.nilv 1))
def Jx.pre:Shape:=⟨[(0,tj0),(1,tj1)],[(1000100,tj2),(1000101,tj3)]⟩
def Jx.post:Shape:=⟨[(0,tj4),(1,tj5)],[(1000101,tj3),(1000100,tj2)]⟩
def Jx (s:Z7) (ua:Int) (ub:List Int):Option (Int×Unit×(List Int)×Int×Unit):= bnd (JY ua ub) fun y=>bnd (okIf (decide (List.length y.1+s.length≤140737488355328))) fun y1=>some ((s.length:Int),(),y.1++List.map (fun b↦(↑(UInt8.toNat b):Int)) s,y.2.1,())
def Jx.mc:MCallee:=⟨84,Jx.pre,Jx.post,fun X=>Jx X.1 X.2.1 X.2.2.1⟩
def Jx.G:EB Za:=⟨tb,Tryz.f84,[],[0,1,4,5],[1000100,1000101],[],[],[⟨108,JY.mc,JY.ok⟩],[]⟩
theorem Jx.ok:MOk Za 84 Jx.mc:=fnM Jx.G (mc:=Jx.mc) Tryz.func84 (m:=0) trivial
abbrev tj6:SD:=.one (.val (.sl .str))
def jD.pre:Shape:=⟨[(0,tj0),(1,tj6)],[(1000100,tj2),(1000101,tj3)]⟩
def jD.post:Shape:=⟨[],[(1000101,tj3),(1000100,tj2)]⟩
def jD.cG_ (t6:List Z7)(t7:Int)(t8:Int)(ua:Int)(ub:List Int)(Z:(Int×Int×(List Int))⊕(Int×Int×(List Int))→Option ρ):Option ρ:= br (decide (t8<t7)) (bnd (idx t6 t8) fun y=>bnd (Jx y ua ub) fun y1=>Z (.inl ((i64.wrap (t8+1)),y1.2.2.2.1,y1.2.2.1))) (Z (.inr (t8,ua,ub)))
def jD.cG_s:Shape:=(((jD.pre.s 6 tj6).s 7 tj4).s 8 tj4)
def jD.cG_r:LC:=⟨jD.cG_s,[(jD.cG_s,2,[3,203])],no,[3,4,5],[1,2,3,4,5],@jD.cG_,fun _ _ _ _ _ _ _=>jr (jb fun _=>(jb fun _=>ja)) ja⟩
def jD (ws:List Z7) (ua:Int) (ub:List Int):Option ((List Int)×Int×Unit):= bnd (iter (fun s↦jD.cG_ ws (ws.length:Int) s.1 s.2.1 s.2.2 some) ((0:Int),ua,ub)) fun y=>some (y.2.2,y.2.1,())
def jD.mc:MCallee:=⟨42,jD.pre,jD.post,fun X=>jD X.1 X.2.1 X.2.2.1⟩
def jD.G:EB Za:=⟨tb,Tryz.f42,[],[0,1,5,6,7,8,9],[1000100,1000101],[],[(100001,jD.cG_r.ck)],[⟨84,Jx.mc,Jx.ok⟩],[]⟩
theorem jD.ok:MOk Za 42 jD.mc:=fnM jD.G (mc:=jD.mc) Tryz.func42 (m:=1) ⟨trivial,kL jD.cG_r⟩
def YT (n:Z9):Option Z7:= bnd (kc (Rose.mk (n.head.1,n.head.2.1,n.head.2.2.1,n.head.2.2.2) n.kids,(1:Int),())) fun y=>some y.1
def YT.ce:=ceOf tab Tryz.f118 YT
def YT.G:EB Za:=⟨tb,Tryz.f118,[],[0,1,2],[],[],[],[⟨90,kc.mc,kc.ok⟩],[]⟩
theorem YT.ok:CalleeOk Za 118 YT.ce:=fnB YT.G Tryz.func118 (m:=0) trivial
abbrev tj7:SD:=.one (.val (.st (.node (.pair (.int .i64) (.pair (.int .i64) (.pair .str (.int .i64)))))))
abbrev tj8:SD:=.one (.fn 118)
abbrev tj9:SD:=.one (.ref 2 0)
abbrev tj10:SD:=.one (.own 5 0)
abbrev tj11:SD:=.one (.val (.sl (.st (.node (.pair (.int .i64) (.pair (.int .i64) (.pair .str (.int .i64))))))))
abbrev tj12:SO:=.box [.val (.int .i64),.val (.int .i64),.val .str,.val (.int .i64),.val (.sl (.st (.node (.pair (.int .i64) (.pair (.int .i64) (.pair .str (.int .i64)))))))]
abbrev tj13:SO:=.arr 0 false 9 .str
def JB.pre:Shape:=⟨[(0,tj7),(1,tj8)],[]⟩
def JB.post:Shape:=⟨[(0,tj1)],[]⟩
def JB.cd_ (t9:List Z9)(t10:Int)(t11:Int)(l:List Z7)(Z:(Int×(List Z7))⊕(Int×(List Z7))→Option ρ):Option ρ:= br (decide (t11<t10)) (bnd (idx t9 t11) fun y=>bnd (YT (Rose.mk (y.head.1,y.head.2.1,y.head.2.2.1,y.head.2.2.2) y.kids)) fun y1=>bnd (okIf (decide ((l.length+1)*16≤140737488355328)&&decide (l.length+1≤140737488355328))) fun y2=>Z (.inl ((i64.wrap (t11+1)),(l++[y1])))) (Z (.inr (t11,l)))
def JB.cd_s:Shape:=((((((((JB.pre.s 2 tj9).s 4 tj1).s 5 tj10).s 9 tj11).s 10 tj4).s 11 tj4).o 2 tj12).o 5 tj13)
def JB.cd_r:LC:=⟨JB.cd_s,[(JB.cd_s,2,[4,201,5,201])],no,[4,10],[2,3,4,10],@JB.cd_,fun _ _ _ _ _ _=>jr (jb fun _=>(jb fun _=>(jb fun _=>ja))) ja⟩
def JB (n:Z9):Option (Z7×Unit):= bnd (iter (fun s↦JB.cd_ n.kids (↑(List.length n.kids):Int) s.1 s.2 some) ((0:Int),[])) fun y=>bnd (strings_Join y.2 (Z6 [44,32])) fun y1=>some (y1,())
def JB.mc:MCallee:=⟨115,JB.pre,JB.post,fun X=>JB X.1⟩
def JB.G:EB Za:=⟨tb,Tryz.f115,[⟨130,strings_Join.ce,strings_Join.ok⟩,⟨118,YT.ce,YT.ok⟩],[0,1,2,4,5,7,9,10,11,12],[5],[],[(100003,JB.cd_r.ck)],[],[]⟩
theorem JB.ok:MOk Za 115 JB.mc:=fnM JB.G (mc:=JB.mc) Tryz.func115 (m:=1) ⟨trivial,kL JB.cd_r⟩
abbrev tj14:SD:=.one (.fn 95)
def Jy.pre:Shape:=⟨[(0,tj7),(1,tj14)],[]⟩
def Jy.post:Shape:=⟨[(0,tj1)],[]⟩
def Jy.cd_ (t9:List Z9)(t10:Int)(t11:Int)(l:List Z7)(Z:(Int×(List Z7))⊕(Int×(List Z7))→Option ρ):Option ρ:= br (decide (t11<t10)) (bnd (idx t9 t11) fun y=>bnd (JG (Rose.mk (y.head.1,y.head.2.1,y.head.2.2.1,y.head.2.2.2) y.kids)) fun y1=>bnd (okIf (decide ((l.length+1)*16≤140737488355328)&&decide (l.length+1≤140737488355328))) fun y2=>Z (.inl ((i64.wrap (t11+1)),(l++[y1])))) (Z (.inr (t11,l)))
def Jy.cd_s:Shape:=((((((((Jy.pre.s 2 tj9).s 4 tj1).s 5 tj10).s 9 tj11).s 10 tj4).s 11 tj4).o 2 tj12).o 5 tj13)
def Jy.cd_r:LC:=⟨Jy.cd_s,[(Jy.cd_s,2,[4,201,5,201])],no,[4,10],[2,3,4,10],@Jy.cd_,fun _ _ _ _ _ _=>jr (jb fun _=>(jb fun _=>(jb fun _=>ja))) ja⟩
def Jy (n:Z9):Option (Z7×Unit):= bnd (iter (fun s↦Jy.cd_ n.kids (↑(List.length n.kids):Int) s.1 s.2 some) ((0:Int),[])) fun y=>bnd (strings_Join y.2 (Z6 [44,32])) fun y1=>some (y1,())
def Jy.mc:MCallee:=⟨115,Jy.pre,Jy.post,fun X=>Jy X.1⟩
def Jy.G:EB Za:=⟨tb,Tryz.f115,[⟨130,strings_Join.ce,strings_Join.ok⟩,⟨95,JG.ce,JG.ok⟩],[0,1,2,4,5,7,9,10,11,12],[5],[],[(100003,Jy.cd_r.ck)],[],[]⟩
theorem Jy.ok:MOk Za 115 Jy.mc:=fnM Jy.G (mc:=Jy.mc) Tryz.func115 (m:=1) ⟨trivial,kL Jy.cd_r⟩
abbrev tj15:SD:=.one (.ref 3 0)
abbrev tj16:SD:=.one (.ref 5 0)
abbrev tj17:SD:=.one (.val .bool)
def jI.pre:Shape:=⟨[(0,tj0),(1,tj7)],[(1000100,tj2),(1000101,tj3)]⟩
def jI.post:Shape:=⟨[],[(1000101,tj3),(1000100,tj2)]⟩
def jI.cs_ (t8:List Z9)(t10:Int)(ua:Int)(ub:List Int)(Z:Int×Bool×Int×(List Int)→Option ρ):Option ρ:= bnd (idx t8 t10) fun y=>br (y.head.1==9) (bnd (jD [Z6 [105,110,118,32,64,32]] ua ub) fun y1=>Z (y.head.1,(y.head.1==9),y1.2.1,y1.1)) (br (y.head.1==10) (bnd (jD [Z6 [99,116,114,108,32,64,32]] ua ub) fun y2=>Z (y.head.1,(y.head.1==9),y2.2.1,y2.1)) (bnd (Jz (Rose.mk (y.head.1,y.head.2.1,y.head.2.2.1,y.head.2.2.2) y.kids) (0:Int)) fun y3=>bnd (kc (y3,(1:Int),())) fun y4=>bnd (jD [Z6 [112,111,119,40],y4.1,Z6 [41,32,64,32]] ua ub) fun y5=>Z (y.head.1,(y.head.1==9),y5.2.1,y5.1)))
def jI.cs_s:Shape:=(((((jI.pre.s 3 tj15).s 8 tj11).s 9 tj4).s 10 tj4).o 3 tj12)
def jI.cs_x0:Shape:=(((jI.cs_s.s 5 tj16).s 15 tj4).s 22 tj17)
def jI.cs_r:RC:=⟨jI.cs_s,[(jI.cs_x0,0,[4,102,5,202])],no,[1,3,9,10],@jI.cs_,fun _ _ _ _ _ _=>jb fun _=>(jr (jb fun _=>ja) (jr (jb fun _=>ja) (jb fun _=>(jb fun _=>(jb fun _=>ja)))))⟩
def jI.ca_ (t8:List Z9)(t9:Int)(t10:Int)(ua:Int)(ub:List Int)(Z:(Int×Int×(List Int))⊕(Int×Int×(List Int))→Option ρ):Option ρ:= br (decide (t10<t9)) (bnd (jI.cs_ t8 t10 ua ub some) fun y=>Z (.inl ((i64.wrap (t10+1)),y.2.2.1,y.2.2.2))) (Z (.inr (t10,ua,ub)))
def jI.ca_r:LC:=⟨jI.cs_s,[(jI.cs_s,2,[3,201,5,202])],no,[3,9,10],[1,2,3,9,10],@jI.ca_,fun _ _ _ _ _ _ _=>jr (jb fun _=>ja) ja⟩
def jI.cV_ (n0:Int)(n1:Int)(n2:Z7)(n3:Int)(n4:List Z9)(ua:Int)(ub:List Int)(Z:Int×(List Int)→Option ρ):Option ρ:= bnd (Jz (Rose.mk (n0,n1,n2,n3) n4) (1:Int)) fun y=>br (decide ((↑(List.length y.kids):Int)>0)) (bnd (Jz (Rose.mk (n0,n1,n2,n3) n4) (1:Int)) fun y1=>bnd (JB y1) fun y2=>bnd (jD [Z6 [40],y2.1,Z6 [41]] ua ub) fun y3=>Z (y3.2.1,y3.1)) (Z (ua,ub))
def jI.cV_r:RC:=⟨jI.cs_s,[(jI.cs_s,0,[9,202])],no,[4,5,6,7,8,9,10],@jI.cV_,fun _ _ _ _ _ _ _ _ _=>jb fun _=>(jr (jb fun _=>(jb fun _=>(jb fun _=>ja))) ja)⟩
def jI.cW_ (n0:Int)(n1:Int)(n2:Z7)(n3:Int)(n4:List Z9)(ua:Int)(ub:List Int)(Z:Int×(List Int)→Option ρ):Option ρ:= bnd (Jz (Rose.mk (n0,n1,n2,n3) n4) (2:Int)) fun y=>br (decide ((↑(List.length y.kids):Int)>0)) (bnd (Jz (Rose.mk (n0,n1,n2,n3) n4) (2:Int)) fun y1=>bnd (Jy y1) fun y2=>bnd (jD [Z6 [32],y2.1] ua ub) fun y3=>Z (y3.2.1,y3.1)) (Z (ua,ub))
def jI.cW_r:RC:=⟨jI.cs_s,[(jI.cs_s,0,[9,202])],no,[4,5,6,7,8,9,10],@jI.cW_,fun _ _ _ _ _ _ _ _ _=>jb fun _=>(jr (jb fun _=>(jb fun _=>(jb fun _=>ja))) ja)⟩
def jI (n:Z9) (ua:Int) (ub:List Int):Option ((List Int)×Int×Unit):= bnd (Jz (Rose.mk (n.head.1,n.head.2.1,n.head.2.2.1,n.head.2.2.2) n.kids) (0:Int)) fun y=>bnd (iter (fun s↦jI.ca_ y.kids (↑(List.length y.kids):Int) s.1 s.2.1 s.2.2 some) ((0:Int),ua,ub)) fun y1=>bnd (jD [n.head.2.2.1] y1.2.1 y1.2.2) fun y2=>bnd (jI.cV_ n.head.1 n.head.2.1 n.head.2.2.1 n.head.2.2.2 n.kids y2.2.1 y2.1 some) fun y3=>bnd (jI.cW_ n.head.1 n.head.2.1 n.head.2.2.1 n.head.2.2.2 n.kids y3.1 y3.2 some) fun y4=>bnd (jD [Z6 [59]] y4.1 y4.2) fun y5=>some (y5.1,y5.2.1,())
def jI.mc:MCallee:=⟨92,jI.pre,jI.post,fun X=>jI X.1 X.2.1 X.2.2.1⟩
def jI.G:EB Za:=⟨tb,Tryz.f92,[⟨89,Jz.ce,Jz.ok⟩],[0,1,3,5,8,9,10,11,15,22,27,42,53],[1000100,1000101,1002123030005,1002123030015,1002123030022,2000000000005,2000000000015,2000000000022],[],[(257349,jI.cW_r.ck),(249157,jI.cV_r.ck),(100002,jI.ca_r.ck),(212303,jI.cs_r.ck)],[⟨42,jD.mc,jD.ok⟩,⟨90,kc.mc,kc.ok⟩,⟨115,JB.mc,JB.ok⟩,⟨1000057,Jy.mc,Jy.ok⟩],[]⟩
theorem jI.ok:MOk Za 92 jI.mc:=fnM jI.G (mc:=jI.mc) Tryz.func92 (m:=4) ⟨⟨⟨⟨trivial,kL jI.ca_r⟩,kJ jI.cs_r⟩,kJ jI.cV_r⟩,kJ jI.cW_r⟩
def Yi (t0:Z9):Option Z7:= some t0.head.2.2.1
def Yi.ce:=ceOf tab Tryz.f116 Yi
def Yi.G:EB Za:=⟨tb,Tryz.f116,[],[0,1,2],[],[],[],[],[]⟩
theorem Yi.ok:CalleeOk Za 116 Yi.ce:=fnB Yi.G Tryz.func116 (m:=0) trivial
abbrev tj18:SD:=.one (.fn 116)
def JJ.pre:Shape:=⟨[(0,tj7),(1,tj18)],[]⟩
def JJ.post:Shape:=⟨[(0,tj1)],[]⟩
def JJ.cd_ (t9:List Z9)(t10:Int)(t11:Int)(l:List Z7)(Z:(Int×(List Z7))⊕(Int×(List Z7))→Option ρ):Option ρ:= br (decide (t11<t10)) (bnd (idx t9 t11) fun y=>bnd (Yi (Rose.mk (y.head.1,y.head.2.1,y.head.2.2.1,y.head.2.2.2) y.kids)) fun y1=>bnd (okIf (decide ((l.length+1)*16≤140737488355328)&&decide (l.length+1≤140737488355328))) fun y2=>Z (.inl ((i64.wrap (t11+1)),(l++[y1])))) (Z (.inr (t11,l)))
def JJ.cd_s:Shape:=((((((((JJ.pre.s 2 tj9).s 4 tj1).s 5 tj10).s 9 tj11).s 10 tj4).s 11 tj4).o 2 tj12).o 5 tj13)
def JJ.cd_r:LC:=⟨JJ.cd_s,[(JJ.cd_s,2,[4,201,5,201])],no,[4,10],[2,3,4,10],@JJ.cd_,fun _ _ _ _ _ _=>jr (jb fun _=>(jb fun _=>(jb fun _=>ja))) ja⟩
def JJ (n:Z9):Option (Z7×Unit):= bnd (iter (fun s↦JJ.cd_ n.kids (↑(List.length n.kids):Int) s.1 s.2 some) ((0:Int),[])) fun y=>bnd (strings_Join y.2 (Z6 [44,32])) fun y1=>some (y1,())
def JJ.mc:MCallee:=⟨115,JJ.pre,JJ.post,fun X=>JJ X.1⟩
def JJ.G:EB Za:=⟨tb,Tryz.f115,[⟨130,strings_Join.ce,strings_Join.ok⟩,⟨116,Yi.ce,Yi.ok⟩],[0,1,2,4,5,7,9,10,11,12],[5],[],[(100003,JJ.cd_r.ck)],[],[]⟩
theorem JJ.ok:MOk Za 115 JJ.mc:=fnM JJ.G (mc:=JJ.mc) Tryz.func115 (m:=1) ⟨trivial,kL JJ.cd_r⟩
def Yj (t0:Z9):Option Z7:= br (t0.head.2.2.2==1) (bnd (okIf (decide (List.length t0.head.2.2.1+List.length (Z6 [91,93])≤9223372036854775807))) fun y=>some (t0.head.2.2.1++Z6 [91,93])) (some t0.head.2.2.1)
def Yj.ce:=ceOf tab Tryz.f117 Yj
def Yj.G:EB Za:=⟨tb,Tryz.f117,[],[0,1,2,5],[],[],[],[],[]⟩
theorem Yj.ok:CalleeOk Za 117 Yj.ce:=fnB Yj.G Tryz.func117 (m:=0) trivial
abbrev tj19:SD:=.one (.fn 117)
def JK.pre:Shape:=⟨[(0,tj7),(1,tj19)],[]⟩
def JK.post:Shape:=⟨[(0,tj1)],[]⟩
def JK.cd_ (t9:List Z9)(t10:Int)(t11:Int)(l:List Z7)(Z:(Int×(List Z7))⊕(Int×(List Z7))→Option ρ):Option ρ:= br (decide (t11<t10)) (bnd (idx t9 t11) fun y=>bnd (Yj (Rose.mk (y.head.1,y.head.2.1,y.head.2.2.1,y.head.2.2.2) y.kids)) fun y1=>bnd (okIf (decide ((l.length+1)*16≤140737488355328)&&decide (l.length+1≤140737488355328))) fun y2=>Z (.inl ((i64.wrap (t11+1)),(l++[y1])))) (Z (.inr (t11,l)))
def JK.cd_s:Shape:=((((((((JK.pre.s 2 tj9).s 4 tj1).s 5 tj10).s 9 tj11).s 10 tj4).s 11 tj4).o 2 tj12).o 5 tj13)
def JK.cd_r:LC:=⟨JK.cd_s,[(JK.cd_s,2,[4,201,5,201])],no,[4,10],[2,3,4,10],@JK.cd_,fun _ _ _ _ _ _=>jr (jb fun _=>(jb fun _=>(jb fun _=>ja))) ja⟩
def JK (n:Z9):Option (Z7×Unit):= bnd (iter (fun s↦JK.cd_ n.kids (↑(List.length n.kids):Int) s.1 s.2 some) ((0:Int),[])) fun y=>bnd (strings_Join y.2 (Z6 [44,32])) fun y1=>some (y1,())
def JK.mc:MCallee:=⟨115,JK.pre,JK.post,fun X=>JK X.1⟩
def JK.G:EB Za:=⟨tb,Tryz.f115,[⟨130,strings_Join.ce,strings_Join.ok⟩,⟨117,Yj.ce,Yj.ok⟩],[0,1,2,4,5,7,9,10,11,12],[5],[],[(100003,JK.cd_r.ck)],[],[]⟩
theorem JK.ok:MOk Za 115 JK.mc:=fnM JK.G (mc:=JK.mc) Tryz.func115 (m:=1) ⟨trivial,kL JK.cd_r⟩
abbrev tj20:SD:=.one (.ref 4 0)
def Jc.self.pre:Shape:=⟨[(0,tj0),(1,tj7)],[(1000100,tj2),(1000101,tj3)]⟩
def Jc.self.post:Shape:=⟨[],[(1000101,tj3),(1000100,tj2)]⟩
def jf.self.pre:Shape:=⟨[(0,tj0),(1,tj7)],[(1000100,tj2),(1000101,tj3)]⟩
def jf.self.post:Shape:=⟨[],[(1000101,tj3),(1000100,tj2)]⟩
def jH.self.pre:Shape:=⟨[(0,tj0),(1,tj7)],[(1000100,tj2),(1000101,tj3)]⟩
def jH.self.post:Shape:=⟨[],[(1000101,tj3),(1000100,tj2)]⟩
def jO.self.pre:Shape:=⟨[(0,tj0),(1,tj7)],[(1000100,tj2),(1000101,tj3)]⟩
def jO.self.post:Shape:=⟨[],[(1000101,tj3),(1000100,tj2)]⟩
def jR.self.pre:Shape:=⟨[(0,tj0),(1,tj7)],[(1000100,tj2),(1000101,tj3)]⟩
def jR.self.post:Shape:=⟨[],[(1000101,tj3),(1000100,tj2)]⟩
class kz.Self where
  F_tongue_printer_line_b:densU Jc.self.pre.tys→Option (densU Jc.self.post.tys)
  ok_tongue_printer_line_b:MOk Za 21 ⟨21,Jc.self.pre,Jc.self.post,F_tongue_printer_line_b⟩
  F_tongue_printer_statement_b:densU jf.self.pre.tys→Option (densU jf.self.post.tys)
  ok_tongue_printer_statement_b:MOk Za 44 ⟨44,jf.self.pre,jf.self.post,F_tongue_printer_statement_b⟩
  F_tongue_printer_block_b:densU jH.self.pre.tys→Option (densU jH.self.post.tys)
  ok_tongue_printer_block_b:MOk Za 93 ⟨93,jH.self.pre,jH.self.post,F_tongue_printer_block_b⟩
  F_tongue_printer_choice_b:densU jO.self.pre.tys→Option (densU jO.self.post.tys)
  ok_tongue_printer_choice_b:MOk Za 94 ⟨94,jO.self.pre,jO.self.post,F_tongue_printer_choice_b⟩
  F_tongue_printer_gate_b:densU jR.self.pre.tys→Option (densU jR.self.post.tys)
  ok_tongue_printer_gate_b:MOk Za 91 ⟨91,jR.self.pre,jR.self.post,F_tongue_printer_gate_b⟩
section
variable [kz.Self]
def Jc.self (X:densU Jc.self.pre.tys):Option (densU Jc.self.post.tys):=kz.Self.F_tongue_printer_line_b X
def Jc.self.mc:MCallee:=⟨21,Jc.self.pre,Jc.self.post,fun X=>Jc.self X⟩
theorem Jc.self.ok:MOk Za 21 Jc.self.mc:=kz.Self.ok_tongue_printer_line_b
def jf.self (X:densU jf.self.pre.tys):Option (densU jf.self.post.tys):=kz.Self.F_tongue_printer_statement_b X
def jf.self.mc:MCallee:=⟨44,jf.self.pre,jf.self.post,fun X=>jf.self X⟩
theorem jf.self.ok:MOk Za 44 jf.self.mc:=kz.Self.ok_tongue_printer_statement_b
def jH.self (X:densU jH.self.pre.tys):Option (densU jH.self.post.tys):=kz.Self.F_tongue_printer_block_b X
def jH.self.mc:MCallee:=⟨93,jH.self.pre,jH.self.post,fun X=>jH.self X⟩
theorem jH.self.ok:MOk Za 93 jH.self.mc:=kz.Self.ok_tongue_printer_block_b
def jO.self (X:densU jO.self.pre.tys):Option (densU jO.self.post.tys):=kz.Self.F_tongue_printer_choice_b X
def jO.self.mc:MCallee:=⟨94,jO.self.pre,jO.self.post,fun X=>jO.self X⟩
theorem jO.self.ok:MOk Za 94 jO.self.mc:=kz.Self.ok_tongue_printer_choice_b
def jR.self (X:densU jR.self.pre.tys):Option (densU jR.self.post.tys):=kz.Self.F_tongue_printer_gate_b X
def jR.self.mc:MCallee:=⟨91,jR.self.pre,jR.self.post,fun X=>jR.self X⟩
theorem jR.self.ok:MOk Za 91 jR.self.mc:=kz.Self.ok_tongue_printer_gate_b
def Jc.pre:Shape:=⟨[(0,tj0),(1,tj7)],[(1000100,tj2),(1000101,tj3)]⟩
def Jc.post:Shape:=⟨[],[(1000101,tj3),(1000100,tj2)]⟩
def Jc (n:Z9) (ua:Int) (ub:List Int):Option ((List Int)×Int×Unit):= bnd (strings_Repeat (Z6 [9]) ua) fun y=>bnd (jD [y] ua ub) fun y1=>bnd (jf.self (Rose.mk (n.head.1,n.head.2.1,n.head.2.2.1,n.head.2.2.2) n.kids,y1.2.1,y1.1,())) fun y2=>bnd (jD [Z6 [10]] y2.2.1 y2.1) fun y3=>some (y3.1,y3.2.1,())
def Jc.mc:MCallee:=⟨21,Jc.pre,Jc.post,fun X=>Jc X.1 X.2.1 X.2.2.1⟩
def Jc.G:EB Za:=⟨tb,Tryz.f21,[⟨43,strings_Repeat.ce,strings_Repeat.ok⟩],[0,1,3],[1000100,1000101],[],[],[⟨42,jD.mc,jD.ok⟩,⟨44,jf.self.mc,jf.self.ok⟩],[]⟩
theorem Jc.ok:MOk Za 21 Jc.mc:=fnM Jc.G (mc:=Jc.mc) Tryz.func21 (m:=0) trivial
def jf.pre:Shape:=⟨[(0,tj0),(1,tj7)],[(1000100,tj2),(1000101,tj3)]⟩
def jf.post:Shape:=⟨[],[(1000101,tj3),(1000100,tj2)]⟩
def jf.c1 {ρ:Type} (n0:Int)(n1:Int)(n2:Z7)(n3:Int)(n4:List Z9)(Z:Int×Int×Z7×Int×(List Z9)×Int×Int×Z7×Int×(List Z9)→Option ρ):Option ρ:= bnd (Jz (Rose.mk (n0,n1,n2,n3) n4) (0:Int)) fun y=>bnd (Jz (Rose.mk (n0,n1,n2,n3) n4) (1:Int)) fun y1=>Z (y.head.1,y.head.2.1,y.head.2.2.1,y.head.2.2.2,y.kids,y1.head.1,y1.head.2.1,y1.head.2.2.1,y1.head.2.2.2,y1.kids)
def jf.c1s:Shape:=((jf.pre.s 3 tj15).o 3 tj12)
def jf.c1x0:Shape:=((((jf.c1s.s 4 tj20).s 5 tj16).o 4 tj12).o 5 tj12)
def jf.c1r:RC:=⟨jf.c1s,[(jf.c1x0,0,[6,110])],no,[1,2,3,4,5],fun _=>jf.c1,fun _ _ _ _ _ _ _=>jb fun _=>(jb fun _=>ja)⟩
def jf.cm_ {ρ:Type} (t12:Int)(Z:Bool→Option ρ):Option ρ:= br (t12==2) (Z (t12==2)) (Z (t12==3))
def jf.cm_s:Shape:=(jf.c1x0.s 12 tj4)
def jf.cm_x0:Shape:=(jf.cm_s.s 13 tj17)
def jf.cm_r:RC:=⟨jf.cm_s,[(jf.cm_x0,0,[2,101])],no,[1],fun _=>jf.cm_,fun _ _ _=>jr ja ja⟩
def jf.cj_ {ρ:Type} (word:Z7)(n0:Int)(Z:Z7→Option ρ):Option ρ:= br (n0==3) (Z (Z6 [98,105,116,32])) (Z word)
def jf.cj_s:Shape:=(jf.cm_x0.s 6 tj1)
def jf.cj_r:RC:=⟨jf.cj_s,[(jf.cj_s,0,[1,201])],no,[1,4],fun _=>jf.cj_,fun _ _ _ _=>jr ja ja⟩
def jf.c8 {ρ:Type} (word:Z7)(n2:Z7)(a0:Int)(a1:Int)(a2:Z7)(a3:Int)(a4:List Z9)(ua:Int)(ub:List Int)(Z:Int×(List Int)→Option ρ):Option ρ:= bnd (kc (Rose.mk (a0,a1,a2,a3) a4,(1:Int),())) fun y=>bnd (jD [word,n2,Z6 [91],y.1,Z6 [93,59]] ua ub) fun y1=>Z (y1.2.1,y1.1)
def jf.c8r:RC:=⟨jf.cj_s,[(jf.cj_s,0,[19,202])],no,[1,6,9,10,11,12,13,19,20],fun _=>jf.c8,fun _ _ _ _ _ _ _ _ _ _ _=>jb fun _=>(jb fun _=>ja)⟩
def jf.c10 {ρ:Type} (n2:Z7)(a0:Int)(a1:Int)(a2:Z7)(a3:Int)(a4:List Z9)(ua:Int)(ub:List Int)(Z:Int×(List Int)→Option ρ):Option ρ:= bnd (kc (Rose.mk (a0,a1,a2,a3) a4,(1:Int),())) fun y=>bnd (jD [Z6 [99,111,110,115,116,32],n2,Z6 [32,61,32],y.1,Z6 [59]] ua ub) fun y1=>Z (y1.2.1,y1.1)
def jf.c10r:RC:=⟨jf.cm_x0,[(jf.cm_x0,0,[18,202])],no,[5,8,9,10,11,12,18,19],fun _=>jf.c10,fun _ _ _ _ _ _ _ _ _ _=>jb fun _=>(jb fun _=>ja)⟩
def jf.c16 {ρ:Type} (n2:Z7)(a0:Int)(a1:Int)(a2:Z7)(a3:Int)(a4:List Z9)(b0:Int)(b1:Int)(b2:Z7)(b3:Int)(b4:List Z9)(ua:Int)(ub:List Int)(Z:Int×(List Int)→Option ρ):Option ρ:= bnd (kc (Rose.mk (a0,a1,a2,a3) a4,(1:Int),())) fun y=>bnd (kc (Rose.mk (b0,b1,b2,b3) b4,(1:Int),())) fun y1=>bnd (jD [Z6 [102,111,114,32],n2,Z6 [32,105,110,32],y.1,Z6 [32,46,46,32],y1.1,Z6 [32]] ua ub) fun y2=>Z (y2.2.1,y2.1)
def jf.c16r:RC:=⟨jf.cm_x0,[(jf.cm_x0,0,[18,202])],no,[5,8,9,10,11,12,13,14,15,16,17,18,19],fun _=>jf.c16,fun _ _ _ _ _ _ _ _ _ _ _ _ _ _ _=>jb fun _=>(jb fun _=>(jb fun _=>ja))⟩
def jf.c24 {ρ:Type} (a0:Int)(a1:Int)(a2:Z7)(a3:Int)(a4:List Z9)(b0:Int)(b1:Int)(b2:Z7)(b3:Int)(b4:List Z9)(ua:Int)(ub:List Int)(Z:Int×(List Int)→Option ρ):Option ρ:= bnd (JG (Rose.mk (a0,a1,a2,a3) a4)) fun y=>bnd (JG (Rose.mk (b0,b1,b2,b3) b4)) fun y1=>bnd (jD [Z6 [109,101,97,115,117,114,101,32],y,Z6 [32,45,62,32],y1,Z6 [59]] ua ub) fun y2=>Z (y2.2.1,y2.1)
def jf.c24r:RC:=⟨jf.cm_x0,[(jf.cm_x0,0,[18,202])],no,[8,9,10,11,12,13,14,15,16,17,18,19],fun _=>jf.c24,fun _ _ _ _ _ _ _ _ _ _ _ _ _ _=>jb fun _=>(jb fun _=>(jb fun _=>ja))⟩
def jf.c33 {ρ:Type} (a0:Int)(a1:Int)(a2:Z7)(a3:Int)(a4:List Z9)(b0:Int)(b1:Int)(b2:Z7)(b3:Int)(b4:List Z9)(ua:Int)(ub:List Int)(Z:Int×(List Int)→Option ρ):Option ρ:= bnd (JG (Rose.mk (a0,a1,a2,a3) a4)) fun y=>bnd (VN (Rose.mk (b0,b1,b2,b3) b4,(1:Int),())) fun y1=>bnd (jD [y,Z6 [32,94,61,32],y1.1,Z6 [59]] ua ub) fun y2=>Z (y2.2.1,y2.1)
def jf.c33r:RC:=⟨jf.cm_x0,[(jf.cm_x0,0,[18,202])],no,[8,9,10,11,12,13,14,15,16,17,18,19],fun _=>jf.c33,fun _ _ _ _ _ _ _ _ _ _ _ _ _ _=>jb fun _=>(jb fun _=>(jb fun _=>ja))⟩
def jf (n:Z9) (ua:Int) (ub:List Int):Option ((List Int)×Int×Unit):= bnd (jf.c1 n.head.1 n.head.2.1 n.head.2.2.1 n.head.2.2.2 n.kids some) fun y=>bnd (jf.cm_ n.head.1 some) fun y1=>br y1 (bnd (jf.cj_ (Z6 [113,117,98,105,116,32]) n.head.1 some) fun y2=>bnd (jf.c8 y2 n.head.2.2.1 y.1 y.2.1 y.2.2.1 y.2.2.2.1 y.2.2.2.2.1 ua ub some) fun y3=>some (y3.2,y3.1,())) (br (n.head.1==4) (bnd (jf.c10 n.head.2.2.1 y.1 y.2.1 y.2.2.1 y.2.2.2.1 y.2.2.2.2.1 ua ub some) fun y4=>some (y4.2,y4.1,())) (br (n.head.1==5) (bnd (jR.self (Rose.mk (n.head.1,n.head.2.1,n.head.2.2.1,n.head.2.2.2) n.kids,ua,ub,())) fun y5=>some (y5.1,y5.2.1,())) (br (n.head.1==8) (bnd (jI (Rose.mk (n.head.1,n.head.2.1,n.head.2.2.1,n.head.2.2.2) n.kids) ua ub) fun y6=>some (y6.1,y6.2.1,())) (br (n.head.1==12) (bnd (jf.c16 n.head.2.2.1 y.1 y.2.1 y.2.2.1 y.2.2.2.1 y.2.2.2.2.1 y.2.2.2.2.2.1 y.2.2.2.2.2.2.1 y.2.2.2.2.2.2.2.1 y.2.2.2.2.2.2.2.2.1 y.2.2.2.2.2.2.2.2.2 ua ub some) fun y7=>bnd (Jz (Rose.mk (n.head.1,n.head.2.1,n.head.2.2.1,n.head.2.2.2) n.kids) (2:Int)) fun y8=>bnd (jH.self (y8,y7.1,y7.2,())) fun y9=>some (y9.1,y9.2.1,())) (br (n.head.1==13) (bnd (kc (Rose.mk (y.1,y.2.1,y.2.2.1,y.2.2.2.1) y.2.2.2.2.1,(1:Int),())) fun y10=>bnd (jD [Z6 [119,104,101,110,32],y10.1,Z6 [32]] ua ub) fun y11=>bnd (jH.self (Rose.mk (y.2.2.2.2.2.1,y.2.2.2.2.2.2.1,y.2.2.2.2.2.2.2.1,y.2.2.2.2.2.2.2.2.1) y.2.2.2.2.2.2.2.2.2,y11.2.1,y11.1,())) fun y12=>some (y12.1,y12.2.1,())) (br (n.head.1==14) (bnd (jO.self (Rose.mk (n.head.1,n.head.2.1,n.head.2.2.1,n.head.2.2.2) n.kids,ua,ub,())) fun y13=>some (y13.1,y13.2.1,())) (br (n.head.1==15) (bnd (jf.c24 y.1 y.2.1 y.2.2.1 y.2.2.2.1 y.2.2.2.2.1 y.2.2.2.2.2.1 y.2.2.2.2.2.2.1 y.2.2.2.2.2.2.2.1 y.2.2.2.2.2.2.2.2.1 y.2.2.2.2.2.2.2.2.2 ua ub some) fun y14=>some (y14.2,y14.1,())) (br (n.head.1==16) (bnd (JG (Rose.mk (y.1,y.2.1,y.2.2.1,y.2.2.2.1) y.2.2.2.2.1)) fun y15=>bnd (jD [Z6 [114,101,115,101,116,32],y15,Z6 [59]] ua ub) fun y16=>some (y16.1,y16.2.1,())) (br (n.head.1==17) (bnd (jD [Z6 [119,105,116,104,105,110,32]] ua ub) fun y17=>bnd (jH.self (Rose.mk (y.1,y.2.1,y.2.2.1,y.2.2.2.1) y.2.2.2.2.1,y17.2.1,y17.1,())) fun y18=>bnd (jD [Z6 [32,97,112,112,108,121,32]] y18.2.1 y18.1) fun y19=>bnd (jH.self (Rose.mk (y.2.2.2.2.2.1,y.2.2.2.2.2.2.1,y.2.2.2.2.2.2.2.1,y.2.2.2.2.2.2.2.2.1) y.2.2.2.2.2.2.2.2.2,y19.2.1,y19.1,())) fun y20=>some (y20.1,y20.2.1,())) (br (n.head.1==18) (bnd (jf.c33 y.1 y.2.1 y.2.2.1 y.2.2.2.1 y.2.2.2.2.1 y.2.2.2.2.2.1 y.2.2.2.2.2.2.1 y.2.2.2.2.2.2.2.1 y.2.2.2.2.2.2.2.2.1 y.2.2.2.2.2.2.2.2.2 ua ub some) fun y21=>some (y21.2,y21.1,())) (some (ub,ua,()))))))))))))
def jf.mc:MCallee:=⟨44,jf.pre,jf.post,fun X=>jf X.1 X.2.1 X.2.2.1⟩
def jf.G:EB Za:=⟨tb,Tryz.f44,[⟨89,Jz.ce,Jz.ok⟩,⟨95,JG.ce,JG.ok⟩],[0,1,3,4,5,6,12,13,18,27,36,41,46,61,71,76,85,92,106],[1000100,1000101,1002122930013,2000000000013],[(33,[(5,[113]),(6,[113,1000101,1000100])]),(24,[(5,[83]),(6,[83,1000101,1000100])]),(16,[(7,[55]),(8,[55,1000101,1000100])]),(10,[(5,[34]),(6,[34,1000101,1000100])]),(8,[(6,[25]),(7,[25,1000101,1000100])]),(1,[(4,[4]),(5,[5]),(6,[4]),(7,[5])])],[(33,jf.c33r.ck),(24,jf.c24r.ck),(16,jf.c16r.ck),(10,jf.c10r.ck),(8,jf.c8r.ck),(224581,jf.cj_r.ck),(212293,jf.cm_r.ck),(1,jf.c1r.ck)],[⟨90,kc.mc,kc.ok⟩,⟨42,jD.mc,jD.ok⟩,⟨91,jR.self.mc,jR.self.ok⟩,⟨92,jI.mc,jI.ok⟩,⟨93,jH.self.mc,jH.self.ok⟩,⟨94,jO.self.mc,jO.self.ok⟩,⟨96,VN.mc,VN.ok⟩],[]⟩
theorem jf.ok:MOk Za 44 jf.mc:=fnM jf.G (mc:=jf.mc) Tryz.func44 (m:=8) ⟨⟨⟨⟨⟨⟨⟨⟨trivial,kR jf.c1r⟩,kJ jf.cm_r⟩,kJ jf.cj_r⟩,kR jf.c8r⟩,kR jf.c10r⟩,kR jf.c16r⟩,kR jf.c24r⟩,kR jf.c33r⟩
def jH.pre:Shape:=⟨[(0,tj0),(1,tj7)],[(1000100,tj2),(1000101,tj3)]⟩
def jH.post:Shape:=⟨[],[(1000101,tj3),(1000100,tj2)]⟩
def jH.ce_ {ρ:Type} (t17:List Z9)(t18:Int)(t19:Int)(ua:Int)(ub:List Int)(Z:(Int×Int×(List Int))⊕(Int×Int×(List Int))→Option ρ):Option ρ:= br (decide (t19<t18)) (bnd (idx t17 t19) fun y=>bnd (Jc.self (Rose.mk (y.head.1,y.head.2.1,y.head.2.2.1,y.head.2.2.2) y.kids,ua,ub,())) fun y1=>Z (.inl ((i64.wrap (t19+1)),y1.2.1,y1.1))) (Z (.inr (t19,ua,ub)))
def jH.ce_s:Shape:=(((((jH.pre.s 3 tj15).s 17 tj11).s 18 tj4).s 19 tj4).o 3 tj12)
def jH.ce_r:LC:=⟨jH.ce_s,[(jH.ce_s,2,[3,201,5,202])],no,[3,9,10],[1,2,3,9,10],fun _=>jH.ce_,fun _ _ _ _ _ _ _=>jr (jb fun _=>(jb fun _=>ja)) ja⟩
def jH (n:Z9) (ua:Int) (ub:List Int):Option ((List Int)×Int×Unit):= bnd (jD [Z6 [123,10]] ua ub) fun y=>bnd (iter (fun s↦jH.ce_ n.kids (↑(List.length n.kids):Int) s.1 s.2.1 s.2.2 some) ((0:Int),i64.wrap (y.2.1+1),y.1)) fun y1=>bnd (strings_Repeat (Z6 [9]) (i64.wrap (y1.2.1-1))) fun y2=>bnd (jD [y2,Z6 [125]] (i64.wrap (y1.2.1-1)) y1.2.2) fun y3=>some (y3.1,y3.2.1,())
def jH.mc:MCallee:=⟨93,jH.pre,jH.post,fun X=>jH X.1 X.2.1 X.2.2.1⟩
def jH.G:EB Za:=⟨tb,Tryz.f93,[⟨43,strings_Repeat.ce,strings_Repeat.ok⟩],[0,1,3,5,17,18,19,20],[1000100,1000101],[],[(100004,jH.ce_r.ck)],[⟨42,jD.mc,jD.ok⟩,⟨21,Jc.self.mc,Jc.self.ok⟩],[]⟩
theorem jH.ok:MOk Za 93 jH.mc:=fnM jH.G (mc:=jH.mc) Tryz.func93 (m:=1) ⟨trivial,kL jH.ce_r⟩
def jO.pre:Shape:=⟨[(0,tj0),(1,tj7)],[(1000100,tj2),(1000101,tj3)]⟩
def jO.post:Shape:=⟨[],[(1000101,tj3),(1000100,tj2)]⟩
def jO.cb_ {ρ:Type} (n3:Int)(ua:Int)(ub:List Int)(Z:Int×(List Int)→Option ρ):Option ρ:= br (n3==1) (bnd (jD [Z6 [33]] ua ub) fun y=>Z (y.2.1,y.1)) (Z (ua,ub))
def jO.cb_s:Shape:=((jO.pre.s 3 tj15).o 3 tj12)
def jO.cb_r:RC:=⟨jO.cb_s,[(jO.cb_s,0,[6,202])],no,[4,6,7],fun _=>jO.cb_,fun _ _ _ _ _=>jr (jb fun _=>ja) ja⟩
def jO (n:Z9) (ua:Int) (ub:List Int):Option ((List Int)×Int×Unit):= bnd (jD [Z6 [105,102,32]] ua ub) fun y=>bnd (jO.cb_ n.head.2.2.2 y.2.1 y.1 some) fun y1=>bnd (Jz (Rose.mk (n.head.1,n.head.2.1,n.head.2.2.1,n.head.2.2.2) n.kids) (0:Int)) fun y2=>bnd (JG y2) fun y3=>bnd (jD [y3,Z6 [32]] y1.1 y1.2) fun y4=>bnd (Jz (Rose.mk (n.head.1,n.head.2.1,n.head.2.2.1,n.head.2.2.2) n.kids) (1:Int)) fun y5=>bnd (jH.self (y5,y4.2.1,y4.1,())) fun y6=>br (decide ((↑(List.length n.kids):Int)>2)) (bnd (jD [Z6 [32,101,108,115,101,32]] y6.2.1 y6.1) fun y7=>bnd (idx n.kids (2:Int)) fun y8=>bnd (jH.self (y8,y7.2.1,y7.1,())) fun y9=>some (y9.1,y9.2.1,())) (some (y6.1,y6.2.1,()))
def jO.mc:MCallee:=⟨94,jO.pre,jO.post,fun X=>jO X.1 X.2.1 X.2.2.1⟩
def jO.G:EB Za:=⟨tb,Tryz.f94,[⟨89,Jz.ce,Jz.ok⟩,⟨95,JG.ce,JG.ok⟩],[0,1,3,9,26],[1000100,1000101],[],[(208197,jO.cb_r.ck)],[⟨42,jD.mc,jD.ok⟩,⟨93,jH.self.mc,jH.self.ok⟩],[]⟩
theorem jO.ok:MOk Za 94 jO.mc:=fnM jO.G (mc:=jO.mc) Tryz.func94 (m:=1) ⟨trivial,kJ jO.cb_r⟩
def jR.pre:Shape:=⟨[(0,tj0),(1,tj7)],[(1000100,tj2),(1000101,tj3)]⟩
def jR.post:Shape:=⟨[],[(1000101,tj3),(1000100,tj2)]⟩
def jR.cb_ {ρ:Type} (n0:Int)(n1:Int)(n2:Z7)(n3:Int)(n4:List Z9)(ua:Int)(ub:List Int)(Z:Int×(List Int)→Option ρ):Option ρ:= bnd (Jz (Rose.mk (n0,n1,n2,n3) n4) (0:Int)) fun y=>br (decide ((↑(List.length y.kids):Int)>0)) (bnd (Jz (Rose.mk (n0,n1,n2,n3) n4) (0:Int)) fun y1=>bnd (JJ y1) fun y2=>bnd (jD [Z6 [40],y2.1,Z6 [41]] ua ub) fun y3=>Z (y3.2.1,y3.1)) (Z (ua,ub))
def jR.cb_s:Shape:=((jR.pre.s 3 tj15).o 3 tj12)
def jR.cb_r:RC:=⟨jR.cb_s,[(jR.cb_s,0,[6,202])],no,[1,2,3,4,5,6,7],fun _=>jR.cb_,fun _ _ _ _ _ _ _ _ _=>jb fun _=>(jr (jb fun _=>(jb fun _=>(jb fun _=>ja))) ja)⟩
def jR (n:Z9) (ua:Int) (ub:List Int):Option ((List Int)×Int×Unit):= bnd (jD [Z6 [103,97,116,101,32],n.head.2.2.1] ua ub) fun y=>bnd (jR.cb_ n.head.1 n.head.2.1 n.head.2.2.1 n.head.2.2.2 n.kids y.2.1 y.1 some) fun y1=>bnd (Jz (Rose.mk (n.head.1,n.head.2.1,n.head.2.2.1,n.head.2.2.2) n.kids) (1:Int)) fun y2=>bnd (JK y2) fun y3=>bnd (jD [Z6 [32],y3.1,Z6 [32]] y1.1 y1.2) fun y4=>bnd (Jz (Rose.mk (n.head.1,n.head.2.1,n.head.2.2.1,n.head.2.2.2) n.kids) (2:Int)) fun y5=>bnd (jH.self (y5,y4.2.1,y4.1,())) fun y6=>some (y6.1,y6.2.1,())
def jR.mc:MCallee:=⟨91,jR.pre,jR.post,fun X=>jR X.1 X.2.1 X.2.2.1⟩
def jR.G:EB Za:=⟨tb,Tryz.f91,[⟨89,Jz.ce,Jz.ok⟩],[0,1,3,13],[1000100,1000101],[],[(208197,jR.cb_r.ck)],[⟨42,jD.mc,jD.ok⟩,⟨115,JJ.mc,JJ.ok⟩,⟨93,jH.self.mc,jH.self.ok⟩,⟨1000023,JK.mc,JK.ok⟩],[]⟩
theorem jR.ok:MOk Za 91 jR.mc:=fnM jR.G (mc:=jR.mc) Tryz.func91 (m:=1) ⟨trivial,kJ jR.cb_r⟩
end
@[reducible] def kz.fuel:Nat→kz.Self
  | 0=>{ F_tongue_printer_line_b:=fun _=>none,ok_tongue_printer_line_b:=⟨⟨Tryz.f21,Tryz.func21,by kernel_rfl,by kernel_rfl⟩,fun _ _ _ _ _ _ _ hy=>by cases hy⟩,F_tongue_printer_statement_b:=fun _=>none,ok_tongue_printer_statement_b:=⟨⟨Tryz.f44,Tryz.func44,by kernel_rfl,by kernel_rfl⟩,fun _ _ _ _ _ _ _ hy=>by cases hy⟩,F_tongue_printer_block_b:=fun _=>none,ok_tongue_printer_block_b:=⟨⟨Tryz.f93,Tryz.func93,by kernel_rfl,by kernel_rfl⟩,fun _ _ _ _ _ _ _ hy=>by cases hy⟩,F_tongue_printer_choice_b:=fun _=>none,ok_tongue_printer_choice_b:=⟨⟨Tryz.f94,Tryz.func94,by kernel_rfl,by kernel_rfl⟩,fun _ _ _ _ _ _ _ hy=>by cases hy⟩,F_tongue_printer_gate_b:=fun _=>none,ok_tongue_printer_gate_b:=⟨⟨Tryz.f91,Tryz.func91,by kernel_rfl,by kernel_rfl⟩,fun _ _ _ _ _ _ _ hy=>by cases hy⟩ }
  | n+1=>{ F_tongue_printer_line_b:=fun X=>(@Jc.mc (kz.fuel n)).F X,ok_tongue_printer_line_b:=@Jc.ok (kz.fuel n),F_tongue_printer_statement_b:=fun X=>(@jf.mc (kz.fuel n)).F X,ok_tongue_printer_statement_b:=@jf.ok (kz.fuel n),F_tongue_printer_block_b:=fun X=>(@jH.mc (kz.fuel n)).F X,ok_tongue_printer_block_b:=@jH.ok (kz.fuel n),F_tongue_printer_choice_b:=fun X=>(@jO.mc (kz.fuel n)).F X,ok_tongue_printer_choice_b:=@jO.ok (kz.fuel n),F_tongue_printer_gate_b:=fun X=>(@jR.mc (kz.fuel n)).F X,ok_tongue_printer_gate_b:=@jR.ok (kz.fuel n) }
def YF (X:densU Jc.self.pre.tys):Option (densU Jc.self.post.tys):=(kz.fuel (1000000)).F_tongue_printer_line_b X
def YF.mc:MCallee:=⟨21,Jc.self.pre,Jc.self.post,fun X=>YF X⟩
theorem YF.ok:MOk Za 21 YF.mc:=(kz.fuel (1000000)).ok_tongue_printer_line_b
abbrev tj21:SD:=.one (.ref 1 0)
abbrev tj22:SD:=.one (.ref 7 0)
abbrev tj23:SO:=.box [.selfp 7 61,.own 2007 0,.val (.int .i64)]
def kN.cd_ (t9:List Z9)(t10:Int)(t11:Int)(t72:Int)(uc:List Int)(Z:(Int×Int×(List Int))⊕(Int×Int×(List Int))→Option ρ):Option ρ:= br (decide (t11<t10)) (bnd (idx t9 t11) fun y=>bnd (YF (Rose.mk (y.head.1,y.head.2.1,y.head.2.2.1,y.head.2.2.2) y.kids,t72,uc,())) fun y1=>Z (.inl ((i64.wrap (t11+1)),y1.2.1,y1.1))) (Z (.inr (t11,t72,uc)))
def kN.cd_s:Shape:=⟨[(0,tj7),(1,tj21),(2,tj1),(3,tj22),(9,tj11),(10,tj4),(11,tj4)],[(1,tj12),(7,tj23),(2007,tj3)]⟩
def kN.cd_r:LC:=⟨kN.cd_s,[(kN.cd_s,2,[4,201,5,202])],no,[4,10,11],[2,3,4,10,11],@kN.cd_,fun _ _ _ _ _ _ _=>jr (jb fun _=>(jb fun _=>ja)) ja⟩
def kN (n:Z9):Option Z7:= bnd (iter (fun s↦kN.cd_ n.kids (↑(List.length n.kids):Int) s.1 s.2.1 s.2.2 some) ((0:Int),(0:Int),[])) fun y=>bnd (kh y.2.1 y.2.2) fun y1=>some y1.1
def kN.ce:=ceOf tab Tryz.f10 kN
def kN.G:EB Za:=⟨tb,Tryz.f10,[],[0,1,2,3,5,9,10,11,12],[6,7,1007,2007],[],[(100003,kN.cd_r.ck)],[⟨21,YF.mc,YF.ok⟩,⟨22,kh.mc,kh.ok⟩],[]⟩
theorem kN.ok:CalleeOk Za 10 kN.ce:=fnB kN.G Tryz.func10 (m:=1) ⟨trivial,kL kN.cd_r⟩
end
end W
end

section
set_option maxHeartbeats 4000000
set_option maxRecDepth 100000
namespace W
open Go Go.Ql Go.Proofs Go.IntKind
noncomputable section
variable {ρ:Type}
def kT (code:Int) (t1:Int):Option (Int×Int):= some (code,t1)
def kT.ce:Go.Ql.Callee:=⟨[(.int .i64),(.int .i64)],[(.st (.pair (.int .i64) (.int .i64)))],fun X=>kT X.1 X.2⟩
def kT.G:Env:=⟨8,tab,[],[0,1,4],[],[],[],[],HS,[]⟩
theorem kT.ok:CalleeOk Za 12 kT.ce:=fn_ok (G:=kT.G) UK mixed Tryz.func12 ⟨Np,Na,Hs,HU⟩ (m:=0) (by kernel_rfl) trivial (by kernel_rfl) (fun _=>by kernel_rfl)
abbrev tn0:SD:=.one (.val .str)
abbrev tn1:SD:=.one (.ref 1000700 0)
abbrev tn2:SD:=.one (.ref 1000800 0)
abbrev tn3:SO:=.arr 0 false 24 (.st (.node (.pair (.int .i64) (.pair (.int .i64) (.pair .str (.int .i64))))))
abbrev tn4:SO:=.box [.val (.int .i64),.val (.int .i64),.val .str,.val (.int .i64),.own 1000695 0]
abbrev tn5:SO:=.box [.val (.int .i64),.val (.int .i64)]
abbrev tn6:SD:=.one (.ref 14 0)
abbrev tn7:SO:=.box [.val .str,.val (.int .i64),.val (.int .i64),.val .str,.val (.int .i64)]
abbrev tn8:SO:=.clo 0 [] [.val (.ifc 35 (.st (.int .i64)))]
def jA.pre:Shape:=⟨[(0,tn0),(2,tn1),(3,tn2)],[(1000695,tn3),(1000700,tn4),(1000800,tn5)]⟩
def jA.chk:St→Bool:=fun st=>match look st.slots 2,look st.slots 3,look st.objs 1000700,look st.objs 1000800 with | some (.one (.ref 1000700 0)),some (.one (.ref 1000800 0)),some (.box [.val (.int .i64) _,.val (.int .i64) _,.val .str _,.val (.int .i64) _,.own 1000695 0]),some (.box [.val (.int .i64) _,.val (.int .i64) _])=>true | _,_,_,_=>false
def jA.c8 (t140:Z7)(t141:Int)(t142:Int)(t143:Z7)(t144:Int)(ua:List Z9)(Z:(Z7×Int×Int×Z7×Int×(List Z9))⊕(Z7×Int×Int×Z7×Int×Int)→Option ρ):Option ρ:= bnd (jZ t140 t141 t142 t143 t144) fun y=>sel y (fun u=>bnd (okIf (decide ((ua.length+1)*64≤140737488355328)&&decide (ua.length+1≤140737488355328))) fun y1=>bnd (inR (List.length (ua++[Rose.mk ((0:Int),(0:Int),Z6 [],(0:Int)) []])) (ua.length:Int)) fun y2=>bnd (idx (ua++[Rose.mk ((0:Int),(0:Int),Z6 [],(0:Int)) []]) (ua.length:Int)) fun y3=>Z (.inl (u.2.1,u.2.2.1,u.2.2.2.1,u.2.2.2.2.1,u.2.2.2.2.2.1,(List.set (ua++[Rose.mk ((0:Int),(0:Int),Z6 [],(0:Int)) []]) (Int.toNat (ua.length:Int)) u.1)))) (fun v=>Z (.inr (v.2.1,v.2.2.1,v.2.2.2.1,v.2.2.2.2.1,v.2.2.2.2.2.1,v.1)))
def jA.c8s:Shape:=⟨[(0,tn0),(2,tn1),(3,tn2),(4,tn6)],[(14,tn7),(1000695,tn3),(1000700,tn4),(1000800,tn5)]⟩
def jA.c8x1:Shape:=⟨[(2,tn1),(3,tn2)],[(14,tn7),(900001,tn8),(1000695,tn3),(1000700,tn4),(1000800,tn5)]⟩
def jA.c8r:Ck:=Ck.of (T:=(Z7×Int×Int×Z7×Int×(List Z9))⊕(Z7×Int×Int×Z7×Int×Int)) jA.c8s (fun ρ X Z=>jA.c8 X.2.1 X.2.2.1 X.2.2.2.1 (q4 X).1 (q4 X).2.1 (q4 X).2.2.1 Z) (fun ρ X V Z=>sel V (fun V=>Z 0 (Shape.inj jA.c8s (X.1,V.1,V.2.1,V.2.2.1,V.2.2.2.1,V.2.2.2.2.1,V.2.2.2.2.2,(q4 X).2.2.2))) (fun V=>Z 1000000 (Shape.inj jA.c8x1 (V.1,V.2.1,V.2.2.1,V.2.2.2.1,V.2.2.2.2.1,V.2.2.2.2.2,(q4 X).2.2))))
def jA.cl_ (t140:Z7)(t141:Int)(t142:Int)(t143:Z7)(t144:Int)(ua:List Z9)(Z:(Z7×Int×Int×Z7×Int×(List Z9))⊕((Z7×Int×Int×Z7×Int×Int×(List Z9))⊕(Z7×Int×Int×Z7×Int×(List Z9)))→Option ρ):Option ρ:= br (t142 !=0) (bnd (jA.c8 t140 t141 t142 t143 t144 ua some) fun y=>sel y (fun u=>Z (.inl (u.1,u.2.1,u.2.2.1,u.2.2.2.1,u.2.2.2.2.1,u.2.2.2.2.2))) (fun v=>Z (.inr (.inl (v.1,v.2.1,v.2.2.1,v.2.2.2.1,v.2.2.2.2.1,v.2.2.2.2.2,ua))))) (Z (.inr (.inr (t140,t141,t142,t143,t144,ua))))
def jA.cl_r:Ck:=Ck.ofLoop (S:=Z7×Int×Int×Z7×Int×(List Z9)) (T:=(Z7×Int×Int×Z7×Int×Int×(List Z9))⊕(Z7×Int×Int×Z7×Int×(List Z9))) jA.c8s (fun X=>(X.2.1,X.2.2.1,X.2.2.2.1,(q4 X).1,(q4 X).2.1,(q4 X).2.2.1)) (fun ρ X Q Z=>jA.cl_ Q.1 Q.2.1 Q.2.2.1 Q.2.2.2.1 Q.2.2.2.2.1 Q.2.2.2.2.2 Z) (fun ρ X V Z=>sel V (fun V=>Z 1000000 (Shape.inj jA.c8x1 (V.1,V.2.1,V.2.2.1,V.2.2.2.1,V.2.2.2.2.1,V.2.2.2.2.2.1,V.2.2.2.2.2.2,(q4 X).2.2.2))) (fun V=>Z 2 (Shape.inj jA.c8s (X.1,V.1,V.2.1,V.2.2.1,V.2.2.2.1,V.2.2.2.2.1,V.2.2.2.2.2,(q4 X).2.2.2))))
def jA.c9  (Z:Unit→Option ρ):Option ρ:= Z ()
def jA.c9r:Ck:=Ck.of (T:=Unit) jA.c8s (fun ρ X Z=>jA.c9  Z) (fun ρ X V Z=>Z 0 (Shape.inj jA.c8s X))
def jA (text:Z7) (ua:List Z9) (ub:Int) (uc:Int) (ud:Z7) (ue:Int) (uf:Int) (ug:Int):Option ((Z9×(Int×Int))⊕Int):= bnd (jL text (0:Int) (0:Int) [] (0:Int)) fun y=>bnd (iter (fun s↦jA.cl_ s.1 s.2.1 s.2.2.1 s.2.2.2.1 s.2.2.2.2.1 s.2.2.2.2.2 some) (y.2.1,y.2.2.1,y.2.2.2.1,y.2.2.2.2.1,y.2.2.2.2.2.1,ua)) fun y1=>sel y1 (fun u=>some (Sum.inr u.2.2.2.2.2.1)) (fun v=>bnd (jA.c9 some) fun y2=>some (Sum.inl (Rose.mk ((1:Int),uc,ud,ue) v.2.2.2.2.2,uf,ug)))
def jA.F (X:densU jA.pre.tys):Option (dens [(.st (.node (.pair (.int .i64) (.pair (.int .i64) (.pair .str (.int .i64)))))),(.st (.pair (.int .i64) (.int .i64)))]⊕((.st (.int .i64)):Ty).den):=jA X.1 X.2.1 X.2.2.1 X.2.2.2.1 (q4 X).1 (q4 X).2.1 (q4 X).2.2.1 (q4 X).2.2.2.1
def jA.G:Env:=⟨35,tab,[(12,kT.ce)],[0,2,3,4,7,23],[2,8,5002,1000695,1000700,1000800,48000002,48000003],[(9,[⟨[],[],[34],[]⟩,⟨[],[],[33],[1000700]⟩,⟨[0],[1000700],[34],[]⟩,⟨[1,2,0],[1000800],[],[]⟩]), (8,[⟨[],[],[26,27,29],[14,29]⟩,⟨[0],[],[26,27,29],[14,29]⟩,⟨[],[],[24,25,28,29],[29]⟩,⟨[2],[14],[24,25,28,29],[29]⟩,⟨[1,0],[],[26,27,29],[14,29]⟩,⟨[],[29],[24,25,26,27,28],[14]⟩,⟨[1,0,5,3,2,4],[1000695],[],[]⟩,⟨[6,1,0,5,3,2,4],[],[32],[1000700]⟩,⟨[7,6,1,0,5,3,2,4],[1000695],[32],[1000700]⟩,⟨[0,1,2,3,4,5,6],[],[31],[1000695]⟩,⟨[9,0,1,2,3,4,5,6],[1000700],[31],[1000695]⟩])],[(9,jA.c9r),(100007,jA.cl_r),(8,jA.c8r)],[(14,jL.mc)],HS,[(15,jZ.ma)]⟩
theorem jA.p0:YY jA.G (Uk (kw jA.G.cks (kK (segF3 Tryz.f6))) 0).1 (Uk (kw jA.G.cks (kK (segF3 Tryz.f6))) 0).2:=
  loop_ok (s:=jA.cl_r) (by kernel_rfl) (by kernel_rfl) (loops_of (sh:=jA.c8s) (I:=fun X Q=>(X.1,Q.1,Q.2.1,Q.2.2.1,Q.2.2.2.1,Q.2.2.2.2.1,Q.2.2.2.2.2,(q4 X).2.2.2)) (fun X=>rfl) (fun ρ X Q Z=>(jr (jb fun _=>(JN (fun _=>ja) (fun _=>ja))) ja)) (fun ρ X t k=>(JN (fun _=>(by kernel_rfl)) (fun _=>(by kernel_rfl)))) (fun X s=>by kernel_rfl))
theorem jA.p1:YY jA.G (Uk (kw jA.G.cks (kK (segF3 Tryz.f6))) 1).1 (Uk (kw jA.G.cks (kK (segF3 Tryz.f6))) 1).2:=
  region_ok (s:=jA.c8r) (by kernel_rfl) (by kernel_rfl) (sums_of (sh:=jA.c8s) (fun ρ X Z=>(jb fun _=>(JN (fun _=>(jb fun _=>(jb fun _=>(jb fun _=>ja)))) (fun _=>ja)))) (fun ρ X t k=>(JN (fun _=>(by kernel_rfl)) (fun _=>(by kernel_rfl)))) (fun X=>by kernel_rfl))
theorem jA.p2:YY jA.G (Uk (kw jA.G.cks (kK (segF3 Tryz.f6))) 2).1 (Uk (kw jA.G.cks (kK (segF3 Tryz.f6))) 2).2:=
  region_ok (s:=jA.c9r) (by kernel_rfl) (by kernel_rfl) (sums_of (sh:=jA.c8s) (fun ρ X Z=>ja) (fun ρ X t k=>(by kernel_rfl)) (fun X=>by kernel_rfl))
theorem jA.ok:SegOk jA.G (segF3 Tryz.f6) jA.pre jA.chk [(.st (.node (.pair (.int .i64) (.pair (.int .i64) (.pair .str (.int .i64)))))),(.st (.pair (.int .i64) (.int .i64)))] 35 (.st (.int .i64)) jA.F:=segOk (m:=3) ⟨⟨⟨trivial,jA.p0⟩,jA.p1⟩,jA.p2⟩ (by kernel_rfl)
end
end W
end

section
set_option maxHeartbeats 800000
set_option maxRecDepth 100000
namespace W
open Go Go.Ql Go.Proofs
theorem as_yes (v:Value) (w:World):(Instr.typeAssert (.iface 35 v) 20 35 true).run Tryz.prog w=.ok (.tuple #[v,.bool true]) w:=by kernel_rfl
theorem catch_idle (p q:Value) (w:World):CallsD Tryz.prog 13 #[p,q] .returning w fun e u' w'=>e=.returned (.tuple #[])∧u'=.returning∧Same w w':=by
 refine callsD_of_wpS Tryz.func13 rfl fun c₀ cs hu=>?_
 apply wpS_seq
 apply wpS_region
 simp [wpOpsS,go_sem,recoverD,hu,Tryz.ntmps13,Exit.thenS]
 refine wpS_of_wp ?_
 apply wp_block
 apply wp_seq
 apply wp_region
 simp [wpOps,go_sem]
 refine .inl (wp_cond (t:=true) ?_ ?_)
 ·simp [Act.eval,Array.replicate]
 simp only [if_true]
 apply wp_region
 simp [wpOps,go_sem]
 refine .inl ?_
 cases c₀
 simp_all [bodyPostS,results,Tryz.results13,Exit.inBlock]
 exact Same.refl w
abbrev nodeT:Ty:=.st (.node (.pair (.int .i64) (.pair (.int .i64) (.pair .str (.int .i64)))))
abbrev fauT:Ty:=.st (.pair (.int .i64) (.int .i64))
noncomputable def kfin (e:Ex) (st:St):Option (dens [nodeT,fauT]):=bif Nat.blt e 2 then resK jA.G ⟨[(2,.one (.ref 1000700 0)),(3,.one (.ref 1000800 0))],st.objs⟩ Tryz.f6.results.toList (finK (Ql.look st.objs) [nodeT,fauT] fun x=>x) else none
noncomputable def c67:Code:=match Tryz.f13.body with
 | some (.seq _ (.block _ (.seq _ (.cond _ _ (.seq _ (.cond _ a _))))))=>a
 | _=>.skip
noncomputable def G13:Env:=⟨15,tab,[(12,kT.ce)],[0,1,3,10,11,14],[],[],[],[],HS,[]⟩
def st13 (k a:Int) (s:Z7) (n f0 f1 at_:Int):St:=⟨[(0,.one (.ref 1000700 0)),(1,.one (.ref 1000800 0)),(10,.agg [.val (.int .i64) at_])],
 [(1000700,.box [.val (.int .i64) k,.val (.int .i64) a,.val .str s,.val (.int .i64) n,.own 1000695 0]),(1000800,.box [.val (.int .i64) f0,.val (.int .i64) f1])]⟩
theorem tail_eq (k a:Int) (s:Z7) (n f0 f1 at_:Int):execK G13 c67 _ (st13 k a s n f0 f1 at_) kfin=some ((Rose.mk (0,0,[],0) []:nodeT.den),((1,at_):Int×Int)):=by kernel_rfl
theorem clo_all:AllOk Tryz.prog G13:=⟨fns_cons kT.ok Np,Na,Hs,HU⟩
theorem c67_draws:Ys G13 c67=true:=by kernel_rfl
theorem c67_pieces:kw G13.cks c67=[]:=by kernel_rfl
theorem look_two {A B:Ob} {id:Nat} {ob:Ob} (h:Ql.look [(1000700,A),(1000800,B)] id=some ob):(id=1000700∧ob=A)∨(id=1000800∧ob=B):=by
 have h:=YH h
 simpa [zo] using h
theorem rd_one {w:World} {c:Int} (Z:Nat→Prop) (nm:Names) (objs:List (Nat×Ob)):rdAs w Z nm objs [.val (.int .i64) c] [.int .i64 c]:=
 ⟨rfl,fun i a v h1 h2=>by
  match i,h1,h2 with
  | 0,h1,h2=>cases h1;cases h2;rfl
  | i+1,h1,_=>cases h1⟩
theorem catch_thrown {n:Nat} {w0 w:World} {Z:Nat→Prop} {nm0:Names} {df:List Deferred} {cm:Bool} {st:St} {a:Act} {nm:Names} (hR:Rel n w0 ⟨Z,fun _=>False,nm0,df,cm⟩ st a w nm) {k at0 m:Int} {s:Z7} {f0 f1:Int}
 (h2:Ql.look st.objs 1000700=some (.box [.val (.int .i64) k,.val (.int .i64) at0,.val .str s,.val (.int .i64) m,.own 1000695 0])) (h3:Ql.look st.objs 1000800=some (.box [.val (.int .i64) f0,.val (.int .i64) f1])) {b2 b3:Nat}
 (e2:nm 1000700=.pointer (some ⟨b2,0,none⟩)) (e3:nm 1000800=.pointer (some ⟨b3,0,none⟩)) (at_:Int) (older:List PanicEntry)
 {a2:Act} (s2:a2.tmps.size=35) (t2:a2.tmps[2]?=some (.pointer (some ⟨b2,0,none⟩))) (t3:a2.tmps[3]?=some (.pointer (some ⟨b3,0,none⟩))) :
 CallsD Tryz.prog 13 #[.pointer (some ⟨b2,0,none⟩),.pointer (some ⟨b3,0,none⟩)] (.panicking ({ v:=.iface 35 (.agg #[.int .i64 at_]),recovered:=false }::older)) w
 fun e u' w'=>e=.returned (.tuple #[])∧u'=.panicking ({ v:=.iface 35 (.agg #[.int .i64 at_]),recovered:=true }::older) ∧
  ∃v,(results Tryz.f6 a2.tmps).run Tryz.prog w'=.ok v w'∧Same w0 w'∧rdRes w' (Uz w0 w' Z) [nodeT,fauT] ((Rose.mk (0,0,[],0) []:nodeT.den),((1,at_):Int×Int)) v:=by
 refine callsD_of_wpS Tryz.func13 rfl fun c₀ cs hu=>?_
 apply wpS_seq
 apply wpS_region
 simp [wpOpsS,go_sem,recoverD,hu,Tryz.ntmps13,Exit.thenS]
 refine wpS_of_wp ?_
 apply wp_block
 apply wp_seq
 apply wp_region
 simp [wpOps,go_sem]
 refine .inl (wp_cond (t:=false) ?_ ?_)
 ·simp [Act.eval,Array.replicate]
 simp only [zf,if_false]
 apply wp_seq
 apply wp_region
 simp [wpOps,go_sem,as_yes]
 refine .inl (.inl (.inl (wp_cond (t:=true) ?_ ?_)))
 ·simp [Act.eval,Array.replicate]
 simp only [if_true]
 have r1:Rel n w0 ⟨Z,fun _=>False,nm0,df,cm⟩ ⟨[],[(1000700,.box [.val (.int .i64) k,.val (.int .i64) at0,.val .str s,.val (.int .i64) m,.own 1000695 0]),(1000800,.box [.val (.int .i64) f0,.val (.int .i64) f1])]⟩ a w nm:=hR.only2 (by
  intro id ob hl
  rcases look_two hl with ⟨rfl,rfl⟩ | ⟨rfl,rfl⟩
  ·refine ⟨h2,Ob.semi.ok ?_⟩
   intro x hx
   simp only [Z2,List.not_mem_nil,or_false] at hx
   rcases hx with rfl | rfl | rfl | rfl | rfl
   ·exact .inl ⟨_,_,rfl⟩
   ·exact .inl ⟨_,_,rfl⟩
   ·exact .inl ⟨_,_,rfl⟩
   ·exact .inl ⟨_,_,rfl⟩
   ·exact .inr ⟨_,_,rfl,rfl⟩
  ·refine ⟨h3,Ob.semi.ok ?_⟩
   intro x hx
   simp only [Z2,List.not_mem_nil,or_false] at hx
   rcases hx with rfl | rfl
   ·exact .inl ⟨_,_,rfl⟩
   ·exact .inl ⟨_,_,rfl⟩)
 refine wpIn_wide.1 (VC UK clo_all mixed c67 c67_draws (by rw [c67_pieces];intro p hp;cases hp) (w0:=w0) (Z0:=⟨Z,fun _=>False,nm0,[],true⟩) none (.inr (by kernel_rfl)) (st:=st13 k at0 s m f0 f1 at_) (nm:=nm) (r:=((Rose.mk (0,0,[],0) []:nodeT.den),((1,at_):Int×Int))) (k:=kfin) ?_ (tail_eq k at0 s m f0 f1 at_) ?_)
 ·refine r1.frame rfl (by simp;rfl) ?_
  intro t d hl
  have hl:=YH hl
  replace hl:(t,d)∈[(0,Dv.one (.ref 1000700 0)),(1,.one (.ref 1000800 0)),(10,.agg [.val (.int .i64) at_])]:=hl
  simp only [Z2,zo,List.not_mem_nil,or_false] at hl
  rcases hl with ⟨rfl,rfl⟩ | ⟨rfl,rfl⟩ | ⟨rfl,rfl⟩
  ·exact ⟨.pointer (some ⟨b2,0,none⟩),by simp,rfl,fun cs hl=>⟨b2,e2,rfl⟩⟩
  ·exact ⟨.pointer (some ⟨b3,0,none⟩),by simp,rfl,fun cs hl=>⟨b3,e3,rfl⟩⟩
  ·refine ⟨.agg #[.int .i64 at_],by simp,#[.int .i64 at_],rfl,rd_one _ _ _,fun u hu=>?_⟩
   simp at hu
   subst hu
   rfl
 ·intro e st' a' w' nm' h' hk _
  unfold kfin at hk
  cases hlt:Nat.blt e 2 with
  | false=>rw [hlt] at hk;cases hk
  | true=>
    rw [hlt] at hk
    simp only [zg] at hk
    have hF:=h'.frame (cm:=false) (n':=35) (a':=a2) (df:=a2.defers) (sl:=[(2,.one (.ref 1000700 0)),(3,.one (.ref 1000800 0))]) rfl s2 (by
     intro t d hl
     have hl:=YH hl
     simp only [Z2,zo,List.not_mem_nil,or_false] at hl
     rcases hl with ⟨rfl,rfl⟩ | ⟨rfl,rfl⟩
     ·refine ⟨_,t2,rfl,fun cs hl=>?_⟩
      have hg:=h'.given 1000700 _ (by decide) hl trivial
      have hg2:=hR.given 1000700 _ (by decide) h2 trivial
      exact ⟨b2,(hg.trans hg2.symm).trans e2,rfl⟩
     ·refine ⟨_,t3,rfl,fun cs hl=>?_⟩
      have hg:=h'.given 1000800 _ (by decide) hl trivial
      have hg3:=hR.given 1000800 _ (by decide) h3 trivial
      exact ⟨b3,(hg.trans hg3.symm).trans e3,rfl⟩)
    obtain ⟨x',v,hx,hv,hs,hr⟩:=res_fin (G:=jA.G) (fn:=Tryz.f6) (rs:=[nodeT,fauT]) (f:=fun x=>x) UK hF hk
    subst hx
    match e,hlt with
    | 0,_=>exact ⟨h'.calm rfl,_,rfl,_,by simp [results,Tryz.results13],rfl,rfl,v,hv,hs,hr⟩
    | 1,_=>exact ⟨h'.calm rfl,_,rfl,_,by simp [results,Tryz.results13],rfl,rfl,v,hv,hs,hr⟩
    | n+2,h=>rw [Nat.blt_eq] at h;omega
abbrev zeroN:nodeT.den:=Rose.mk (0,0,[],0) []
noncomputable def Yz (text:Z7):Option (nodeT.den×(Int×Int)):=
 br (decide ((text.length:Int)>40000)) (some (zeroN,(2,0)))
  (bnd (jA text [] 0 0 [] 0 0 0) fun y=>sel y (fun u=>some u) (fun v=>some (zeroN,(1,v))))
noncomputable def Yz.ce:Go.Ql.Callee:=⟨[.str],[nodeT,fauT],fun x_=>Yz x_⟩
noncomputable def r0:Code:=match Tryz.f6.body with
 | some (.seq a _)=>a
 | _=>.skip
noncomputable def r1:Code:=match Tryz.f6.body with
 | some (.seq _ (.seq a _))=>a
 | _=>.skip
noncomputable def r3:Code:=match Tryz.f6.body with
 | some (.seq _ (.seq _ (.seq a _)))=>a
 | _=>.skip
theorem body_eq:Tryz.f6.body=some (.seq r0 (.seq r1 (.seq r3 (kK (segF3 Tryz.f6))))):=by kernel_rfl
noncomputable def GD:Env:=⟨35,tab,[(12,kT.ce)],[0,2,3,4,7,23],[2,5002],[],[],[],HS,[]⟩
noncomputable def stD (s:Z7):St:=⟨[(0,.one (.val .str s)),(2,.one (.ref 2 0)),(3,.one (.ref 3 0))],
 [(2,.box [.val (.int .i64) 0,.val (.int .i64) 0,.val .str [],.val (.int .i64) 0,.own 5002 0]),(3,.box [.val (.int .i64) 0,.val (.int .i64) 0]),(5002,.arr 0 false 24 nodeT [])]⟩
theorem r0_eq (s:Z7):execK GD r0 (Ex×St) ⟨[(0,.one (.val .str s))],[]⟩ (fun e st=>some (e,st))=some (0,stD s):=by kernel_rfl
theorem door_all:AllOk Tryz.prog GD:=⟨fns_cons kT.ok Np,Na,Hs,HU⟩
theorem r0_draws:Ys GD r0=true:=by kernel_rfl
theorem r0_pieces:kw GD.cks r0=[]:=by kernel_rfl
theorem r1_draws:Ys GD r1=true:=by kernel_rfl
theorem r1_pieces:kw GD.cks r1=[]:=by kernel_rfl
noncomputable def kdoor (b:Bool) (e:Ex) (st:St):Option (dens [nodeT,fauT]⊕(Ex×St)):=bif Nat.beq e 1 then resK GD st Tryz.f6.results.toList (finK (Ql.look st.objs) [nodeT,fauT] fun x=>.inl x) else some (.inr (e,st))
theorem r1_eq (s:Z7):execK GD r1 _ (stD s) (kdoor true)=br (decide ((s.length:Int)>40000)) (some (.inl (zeroN,((2,0):Int×Int)))) (some (.inr (0,stD s))):=by kernel_rfl
theorem parse_all:AllOk Tryz.prog jA.G:=⟨fns_cons kT.ok Np,mfns_cons jL.ok Na,Hs,alts_cons jZ.ok HU⟩
theorem mkf (fn:Fn) (first cap:Array Value) (w:World):(Instr.makeFunc fn first cap).run Tryz.prog w=.ok (.func fn first cap) w:=rfl
def dfd (p q:Addr):Deferred:=⟨.fn (.func 13) #[.pointer (some p),.pointer (some q)],#[]⟩
theorem r3_wp {Q:Exit→Act→World→Prop} {a:Act} {w:World} {p q:Addr} (hsz:a.tmps.size=35) (h2:a.tmps[2]?=some (.pointer (some p))) (h3:a.tmps[3]?=some (.pointer (some q))) (hd:a.defers=[])
 (h:Q .normal ⟨a.tmps.setIfInBounds 10 (.func (.func 13) #[] #[.pointer (some p),.pointer (some q)]),[dfd p q]⟩ w):r3.wp Tryz.prog Q a w:=by
 unfold r3 Tryz.f6
 apply wp_region
 have e2:a.tmps.getD 2 undef=.pointer (some p):=by simp [h2]
 have e3:a.tmps.getD 3 undef=.pointer (some q):=by simp [h3]
 simp [wpOps,go_sem,mkf,h2,h3,hd,hsz]
 rw [(Array.getElem?_eq_some_iff.1 h2).2,(Array.getElem?_eq_some_iff.1 h3).2]
 exact .inl (.inl h)
theorem ins_args (w:World) (p q:Addr):(invoke (.fn (.func 13) #[.pointer (some p),.pointer (some q)]) #[]).run Tryz.prog w=.ok (.enter 13 #[.pointer (some p),.pointer (some q)]) w:=by
 simp [go_sem]
def oldN (i:Nat):Nat:=if i=1000700 then 2 else if i=1000800 then 3 else 5002
theorem look_three {A B C:Ob} {id:Nat} {ob:Ob} (h:Ql.look [(1000695,A),(1000700,B),(1000800,C)] id=some ob):(id=1000695∧ob=A)∨(id=1000700∧ob=B)∨(id=1000800∧ob=C):=by
 have h:=YH h
 simpa [zo] using h
theorem frame_slots {s:Z7} {w:World} {Z0:Bs} {nm:Names} {objs:List (Nat×Ob)} {w0:World} {a:Act} {b2 b3:Nat} (h0:a.tmps[0]?=some (.string ⟨s.toArray⟩)) (h2:a.tmps[2]?=some (.pointer (some ⟨b2,0,none⟩))) (h3:a.tmps[3]?=some (.pointer (some ⟨b3,0,none⟩)))
 (e2:nm 1000700=.pointer (some ⟨b2,0,none⟩)) (e3:nm 1000800=.pointer (some ⟨b3,0,none⟩)) :
 ∀t d,Ql.look [(0,Dv.one (.val .str s)),(2,.one (.ref 1000700 0)),(3,.one (.ref 1000800 0))] t=some d → ∃v,a.tmps[t]?=some v∧rdD w (Zc w0 Z0 nm objs w) nm objs d v:=by
 intro t d hl
 have hl:=YH hl
 simp only [Z2,zo,List.not_mem_nil,or_false] at hl
 rcases hl with ⟨rfl,rfl⟩ | ⟨rfl,rfl⟩ | ⟨rfl,rfl⟩
 ·exact ⟨_,h0,rfl⟩
 ·exact ⟨_,h2,rfl,fun cs hl=>⟨b2,e2,rfl⟩⟩
 ·exact ⟨_,h3,rfl,fun cs hl=>⟨b3,e3,rfl⟩⟩
theorem chk_inv {st:St} (h:jA.chk st=true):Ql.look st.slots 2=some (.one (.ref 1000700 0))∧Ql.look st.slots 3=some (.one (.ref 1000800 0)) ∧
 (∃k at0 s m,Ql.look st.objs 1000700=some (.box [.val (.int .i64) k,.val (.int .i64) at0,.val .str s,.val (.int .i64) m,.own 1000695 0])) ∧ ∃f0 f1,Ql.look st.objs 1000800=some (.box [.val (.int .i64) f0,.val (.int .i64) f1]):=by
 unfold jA.chk at h
 split at h
 ·rename_i h1 h2 h3 h4
  exact ⟨h1,h2,⟨_,_,_,_,h3⟩,_,_,h4⟩
 ·cases h
theorem Yz.ok:CalleeOk Tryz.prog 6 Yz.ce:=by
 refine ⟨⟨Tryz.f6,Tryz.func6,by kernel_rfl,by kernel_rfl⟩,fun w Z vs s r hg hZ ha hr=>?_⟩
 obtain ⟨v,rfl,hv⟩:=ha
 change [v]=[Value.string ⟨List.toArray s⟩] at hv
 obtain rfl:=List.cons.inj hv |>.1
 have hr:Yz s=some r:=hr
 unfold Yz at hr
 refine calls_of_wp_defers Tryz.func6 body_eq ?_
 apply wp_seq
 have hrel:Rel 35 w ⟨Z,fun _=>False,fun _=>undef,[],true⟩ ⟨[(0,.one (.val .str s))],[]⟩ { tmps:=[Value.string ⟨List.toArray s⟩].toArray++Array.replicate (Tryz.f6.ntmps-[Value.string ⟨List.toArray s⟩].toArray.size) undef,defers:=[] } w (fun _=>undef):=by
  refine ⟨⟨[],rfl,Marks.nil _ _ _⟩,by simp,fun t d hl=>?_,fun id ob hl=>by simp [Ql.look] at hl,fun id ob b hl=>by simp [Ql.look] at hl,fun id id' ob ob' b hl=>by simp [Ql.look] at hl,SameBut.refl _ w,fun id ob _ hl=>by simp [Ql.look] at hl,⟨hg,fun b hb=>hb.elim⟩,fun _=>rfl⟩
  have hl:=YH hl
  simp only [Z2,zo,List.not_mem_nil,or_false] at hl
  obtain ⟨rfl,rfl⟩:=hl
  exact ⟨.string ⟨List.toArray s⟩,by simp,rfl⟩
 refine wpIn_wide.1 (VC UK door_all mixed r0 r0_draws (by rw [r0_pieces];intro p hp;cases hp) none (.inr (by kernel_rfl)) hrel (r0_eq s) ?_)
 intro e st0 a0 w0 nm0 h0 hk0 _
 cases hk0
 show Code.wp Tryz.prog _ _ a0 w0
 apply wp_seq
 cases hlen:decide ((s.length:Int)>40000) with
 | true=>
   rw [hlen] at hr
   cases hr
   refine wpIn_wide.1 (VC UK door_all mixed r1 r1_draws (by rw [r1_pieces];intro p hp;cases hp) none (.inr (by kernel_rfl)) h0 ((r1_eq s).trans (by rw [hlen];rfl)) ?_)
   intro e st1 a1 w1 nm1 h1 hk1 _
   unfold kdoor at hk1
   cases he:Nat.beq e 1 with
   | false=>rw [he] at hk1;cases hk1
   | true=>
     have:=beqN.1 he
     subst this
     rw [he] at hk1
     simp only [zg] at hk1
     show Leaves Tryz.prog Tryz.f6 a1.tmps _ a1.defers .returning w1
     rw [h1.calm rfl]
     obtain ⟨x',v,hx,hv,hsm,hrd⟩:=res_fin (G:=GD) (fn:=Tryz.f6) (rs:=[nodeT,fauT]) (ρ:=dens [nodeT,fauT]⊕(Ex×St)) (f:=Sum.inl) UK h1 hk1
     cases hx
     exact ⟨v,hv,v,rfl,hsm,hrd⟩
 | false=>
   rw [hlen] at hr
   obtain ⟨y,hy,hr⟩:=jW hr
   refine wpIn_wide.1 (VC UK door_all mixed r1 r1_draws (by rw [r1_pieces];intro p hp;cases hp) none (.inr (by kernel_rfl)) h0 ((r1_eq s).trans (by rw [hlen];rfl)) ?_)
   intro e st1 a1 w1 nm1 h1 hk1 _
   unfold kdoor at hk1
   cases he:Nat.beq e 1 with
   | true=>
     rw [he] at hk1
     simp only [zg] at hk1
     obtain ⟨x',v,hx,hv,hsm,hrd⟩:=res_fin (G:=GD) (fn:=Tryz.f6) (rs:=[nodeT,fauT]) (ρ:=dens [nodeT,fauT]⊕(Ex×St)) (f:=Sum.inl) UK h1 hk1
     cases hx
   | false=>
     rw [he] at hk1
     simp only [zh] at hk1
     cases hk1
     show Code.wp Tryz.prog _ _ a1 w1
     apply wp_seq
     obtain ⟨v0,t0,d0⟩:=h1.slots 0 _ rfl
     obtain ⟨v2,t2,d2⟩:=h1.slots 2 _ rfl
     obtain ⟨v3,t3,d3⟩:=h1.slots 3 _ rfl
     have d0:[v0]=[Value.string ⟨List.toArray s⟩]:=d0
     obtain rfl:=(List.cons.inj d0).1
     obtain ⟨b2,n2,rfl⟩:=d2.2 _ rfl
     obtain ⟨b3,n3,rfl⟩:=d3.2 _ rfl
     refine r3_wp h1.size t2 t3 (h1.calm rfl) ?_
     have q1:=h1.renum2 (objs:=[(1000695,.arr 0 false 24 nodeT []),(1000700,.box [.val (.int .i64) 0,.val (.int .i64) 0,.val .str [],.val (.int .i64) 0,.own 1000695 0]),(1000800,.box [.val (.int .i64) 0,.val (.int .i64) 0])]) (nm':=fun i=>nm1 (oldN i)) (old:=oldN) (by
      intro i j hij hi hj
      obtain ⟨o,ho⟩:=Option.isSome_iff_exists.1 hi
      obtain ⟨o',ho'⟩:=Option.isSome_iff_exists.1 hj
      rcases look_three ho with ⟨rfl,_⟩ | ⟨rfl,_⟩ | ⟨rfl,_⟩<;>rcases look_three ho' with ⟨rfl,_⟩ | ⟨rfl,_⟩ | ⟨rfl,_⟩<;>first | rfl | (exact absurd hij (by decide))) (by
      intro id ob hl
      rcases look_three hl with ⟨rfl,rfl⟩ | ⟨rfl,rfl⟩ | ⟨rfl,rfl⟩
      ·exact ⟨_,rfl,rfl,rfl⟩
      ·refine ⟨_,rfl,⟨_,rfl,rfl,fun j x hx=>?_⟩,rfl⟩
       match j,hx with
       | 0,hx=>cases hx;exact ⟨_,rfl,.inl ⟨_,_,rfl,rfl⟩⟩
       | 1,hx=>cases hx;exact ⟨_,rfl,.inl ⟨_,_,rfl,rfl⟩⟩
       | 2,hx=>cases hx;exact ⟨_,rfl,.inl ⟨_,_,rfl,rfl⟩⟩
       | 3,hx=>cases hx;exact ⟨_,rfl,.inl ⟨_,_,rfl,rfl⟩⟩
       | 4,hx=>cases hx;exact ⟨_,rfl,.inr ⟨_,_,rfl,rfl⟩⟩
       | j+5,hx=>cases hx
      ·refine ⟨_,rfl,⟨_,rfl,rfl,fun j x hx=>?_⟩,rfl⟩
       match j,hx with
       | 0,hx=>cases hx;exact ⟨_,rfl,.inl ⟨_,_,rfl,rfl⟩⟩
       | 1,hx=>cases hx;exact ⟨_,rfl,.inl ⟨_,_,rfl,rfl⟩⟩
       | j+2,hx=>cases hx)
     have m2:(fun i=>nm1 (oldN i)) 1000700=.pointer (some ⟨b2,0,none⟩):=n2
     have m3:(fun i=>nm1 (oldN i)) 1000800=.pointer (some ⟨b3,0,none⟩):=n3
     have q2:=q1.frame (cm:=true) (n':=35) (a':=⟨a1.tmps.setIfInBounds 10 (.func (.func 13) #[] #[.pointer (some ⟨b2,0,none⟩),.pointer (some ⟨b3,0,none⟩)]),[dfd ⟨b2,0,none⟩ ⟨b3,0,none⟩]⟩) (df:=[dfd ⟨b2,0,none⟩ ⟨b3,0,none⟩]) rfl (by rw [Array.size_setIfInBounds];exact h1.size)
      (frame_slots (s:=s) (by simpa using t0) (by simpa using t2) (by simpa using t3) m2 m3)
     have key:execK jA.G (kK (segF3 Tryz.f6)) _ (jA.pre.inj (s,([]:List nodeT.den),(0:Int),(0:Int),([]:Z7),(0:Int),(0:Int),(0:Int),())) (Nn jA.G (segF3 Tryz.f6).results.toList [nodeT,fauT] 35 (.st (.int .i64)) jA.chk)=some y:=(jA.ok.eq (s,([]:List nodeT.den),(0:Int),(0:Int),([]:Z7),(0:Int),(0:Int),(0:Int),())).trans hy
     refine wpIn_wide.1 (VC UK parse_all mixed (kK (segF3 Tryz.f6)) jA.ok.draws jA.ok.ps none (.inr (by kernel_rfl)) (st:=jA.pre.inj (s,([]:List nodeT.den),(0:Int),(0:Int),([]:Z7),(0:Int),(0:Int),(0:Int),())) q2 key ?_)
     intro e st a w2 nm h hk _
     unfold Nn at hk
     cases hlt:Nat.blt e 2 with
     | true=>
       rw [hlt] at hk
       simp only [zg] at hk
       have fin:Leaves Tryz.prog Tryz.f6 a.tmps (fun e w'=>∃v,e=.returned v∧Same w w'∧rdRes w' (Uz w w' Z) [nodeT,fauT] r v) a.defers .returning w2:=by
        rw [h.calm rfl]
        refine leaves_cons (by simp) (ins_args _ _ _) ?_
        refine (catch_idle _ _ w2).mono ?_
        rintro e u' w3 ⟨rfl,rfl,hs⟩
        obtain ⟨x',v,hx,hv,hsm,hrd⟩:=res_fin (G:=jA.G) (fn:=Tryz.f6) (rs:=[nodeT,fauT]) (ρ:=dens [nodeT,fauT]⊕(Ty.st (.int .i64)).den) (f:=Sum.inl) UK (h.grow hs) hk
        subst hx
        cases hr
        exact ⟨v,hv,v,rfl,hsm,hrd⟩
       match e,hlt with
       | 0,_=>exact fin
       | 1,_=>exact fin
       | n+2,h=>rw [Nat.blt_eq] at h;omega
     | false=>
       rw [hlt] at hk
       simp only [zh] at hk
       cases hp:Nat.beq e pEx&&jA.chk st with
       | false=>rw [hp] at hk;cases hk
       | true=>
         rw [hp] at hk
         simp only [zg] at hk
         rw [z7] at hp
         obtain ⟨hpe,hch⟩:=hp
         have:=beqN.1 hpe
         subst this
         split at hk
         ·rename_i s' d' ho
          split at hk
          ·rename_i hs'
           subst hs'
           cases hk
           obtain ⟨vx,vy,g1,g2,g3⟩:=h.objs payId _ ho
           have e1:vx=#[]:=by
            have:=g2.1
            simp at this
            exact this
           obtain ⟨v,e2⟩:∃v,vy=#[v]:=by
            have:=g3.1
            match hv:vy.toList,this with
            | [v],_=>exact ⟨v,by rw [←Array.toArray_toList (xs:=vy),hv]⟩
           subst e1;subst e2
           have hv:=g3.2 0 _ _ rfl rfl
           obtain ⟨u,us,eu,hu,hc⟩:=hv
           have eu:=(List.cons.inj eu).1
           obtain rfl:v=.iface 35 u:=eu
           have hu:u=.agg us:=by
            rcases hu with ⟨_,e⟩ | ⟨hu,_⟩
            ·exact e
            ·cases hu
           subst hu
           have ec:us.toList=[.int .i64 d']:=hc
           have eus:us=#[.int .i64 d']:=by rw [←Array.toArray_toList (xs:=us),ec]
           subst eus
           obtain ⟨s2,s3,⟨k,at0,nmz,m,o2⟩,f0,f1,o3⟩:=chk_inv hch
           have k2:nm 1000700=_:=h.given 1000700 _ (by decide) o2 trivial
           have k3:nm 1000800=_:=h.given 1000800 _ (by decide) o3 trivial
           have k2:=k2.trans m2
           have k3:=k3.trans m3
           obtain ⟨u2,t2',d2'⟩:=h.slots 2 _ s2
           obtain ⟨u3,t3',d3'⟩:=h.slots 3 _ s3
           obtain ⟨b4,j2,rfl⟩:=d2'.2 _ o2
           obtain ⟨b5,j3,rfl⟩:=d3'.2 _ o3
           rw [k2] at j2
           rw [k3] at j3
           cases j2
           cases j3
           show qEx _ nm pBad a w2
           unfold qEx
           rw [if_pos rfl]
           refine ⟨_,g1,?_⟩
           show Leaves Tryz.prog Tryz.f6 a.tmps _ a.defers (.panicking [_]) w2
           rw [h.calm rfl]
           refine leaves_cons (by simp) (ins_args _ _ _) ?_
           refine (catch_thrown h o2 o3 k2 k3 d' [] (a2:=a) h.size t2' t3').mono ?_
           rintro e u' w3 ⟨rfl,rfl,v',hv',hs,hr'⟩
           cases hr
           exact ⟨v',hv',v',rfl,hs,hr'⟩
          ·cases hk
         ·cases hk
end W
end

section
set_option maxHeartbeats 4000000
set_option maxRecDepth 100000
namespace W
open Go Go.Ql Go.Proofs Go.IntKind
noncomputable section
variable {ρ:Type}
abbrev to0:SD:=.one (.val .bool)
abbrev to1:SD:=.one (.ref 1 0)
abbrev to2:SD:=.one (.ref 2 0)
abbrev to3:SO:=.box [.val (.int .i64),.val (.int .i64),.val .str,.val (.int .i64),.val (.sl (.st (.node (.pair (.int .i64) (.pair (.int .i64) (.pair .str (.int .i64)))))))]
abbrev to4:SO:=.box [.val (.int .i64),.val (.int .i64)]
def kg.c2 (n0:Int)(n1:Int)(n2:Z7)(n3:Int)(n4:List Z9)(f0:Int)(Z:Bool→Option ρ):Option ρ:= br (f0==0) (bnd (kN (Rose.mk (n0,n1,n2,n3) n4)) fun y=>Z (y==Z6 [104,32,113,91,50,93,59,10])) (Z false)
def kg.c2s:Shape:=⟨[(0,to0),(1,to1),(2,to2)],[(1,to3),(2,to4)]⟩
def kg.c2r:RC:=⟨kg.c2s,[(kg.c2s,0,[201])],no,[1,2,3,4,5,6],@kg.c2,fun _ _ _ _ _ _ _ _=>jr (jb fun _=>ja) ja⟩
def kg  : Option Bool:= bnd (Yz (Z6 [104,32,113,32,91,32,50,32,93,32,59])) fun y=>bnd (kg.c2 y.1.head.1 y.1.head.2.1 y.1.head.2.2.1 y.1.head.2.2.2 y.1.kids y.2.1 some) fun y1=>some y1
def kg.ce:=ceOf tab Tryz.f8 kg
def kg.G:EB Za:=⟨tb,Tryz.f8,[⟨6,Yz.ce,Yz.ok⟩,⟨10,kN.ce,kN.ok⟩],[0,1,2],[],[],[(2,kg.c2r.ck)],[],[]⟩
theorem kg.ok:CalleeOk Za 8 kg.ce:=fnB kg.G Tryz.func8 (m:=1) ⟨trivial,kR kg.c2r⟩
abbrev to5:SD:=.one (.val .str)
abbrev to6:SD:=.one (.ref 3 0)
abbrev to7:SD:=.one (.ref 4 0)
abbrev to8:SD:=.one (.ref 5 0)
abbrev to9:SD:=.one (.ref 6 0)
def kq.c3 (n0:Int)(n1:Int)(n2:Z7)(n3:Int)(n4:List Z9)(f0:Int)(f1:Int)(m0:Int)(m1:Int)(m2:Z7)(m3:Int)(m4:List Z9)(g0:Int)(g1:Int)(Z:Bool→Option ρ):Option ρ:= bnd kg fun y=>br y (br (Ty.eqT (Ty.pair (Ty.int IntKind.i64) (Ty.int IntKind.i64)) (f0,f1) (g0,g1)) (bnd (VR (Rose.mk (n0,n1,n2,n3) n4,Rose.mk (m0,m1,m2,m3) m4,true,())) fun y1=>Z y1.1) (Z false)) (Z false)
def kq.c3s:Shape:=⟨[(0,to5),(2,to0),(3,to6),(4,to7),(5,to8),(6,to9)],[(3,to3),(4,to4),(5,to3),(6,to4)]⟩
def kq.c3r:RC:=⟨kq.c3s,[(kq.c3s,0,[1,201])],no,[2,3,4,5,6,7,8,9,10,11,12,13,14,15],@kq.c3,fun _ _ _ _ _ _ _ _ _ _ _ _ _ _ _ _=>jb fun _=>(jr (jr (jb fun _=>ja) ja) ja)⟩
def kq (text:Z7):Option Bool:= bnd (Yz text) fun y=>bnd (JH text) fun y1=>bnd (kq.c3 y.1.head.1 y.1.head.2.1 y.1.head.2.2.1 y.1.head.2.2.2 y.1.kids y.2.1 y.2.2 y1.1.head.1 y1.1.head.2.1 y1.1.head.2.2.1 y1.1.head.2.2.2 y1.1.kids y1.2.1 y1.2.2 some) fun y2=>some y2
def kq.ce:=ceOf tab Tryz.f3 kq
def kq.G:EB Za:=⟨tb,Tryz.f3,[⟨6,Yz.ce,Yz.ok⟩,⟨7,JH.ce,JH.ok⟩,⟨8,kg.ce,kg.ok⟩],[0,2,3,4,5,6],[],[],[(3,kq.c3r.ck)],[⟨9,VR.mc,VR.ok⟩],[]⟩
theorem kq.ok:CalleeOk Za 3 kq.ce:=fnB kq.G Tryz.func3 (m:=1) ⟨trivial,kR kq.c3r⟩
end
end W
end
