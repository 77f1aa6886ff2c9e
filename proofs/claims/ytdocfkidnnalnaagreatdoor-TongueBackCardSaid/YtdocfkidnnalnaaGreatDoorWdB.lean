/- Lifted functions, part 4: each with its contract; a function that recovers; the laws. -/
import Derived.Test.YtdocfkidnnalnaaGreatDoorWcB
import Derived.Test.YtdocfkidnnalnaaGreatDoorLfB
import Derived.Test.YtdocfkidnnalnaaGreatDoorProg
import Derived.Test.YtdocfkidnnalnaaGreatDoorCaB
import Derived.Test.YtdocfkidnnalnaaGreatDoorWbB
import Derived.WalkKit
import Derived.Recover
set_option linter.all false
section
set_option maxHeartbeats 4000000
set_option maxRecDepth 100000
namespace W
open Go Go.Ql Go.Proofs Go.IntKind
noncomputable section
variable {ρ:Type}
abbrev ti1:SD:=.one (.ref 1 0)
abbrev ti2:SD:=.one (.val .str)
abbrev ti4:SD:=.one (.val (.int .i64))
abbrev ti7:SD:=.one (.val (.st (.node (.pair (.int .i64) (.pair (.int .i64) (.pair .str (.int .i64)))))))
abbrev ti8:SO:=.box [.val (.int .i64),.val (.int .i64),.val .str,.val (.int .i64),.val (.sl (.st (.node (.pair (.int .i64) (.pair (.int .i64) (.pair .str (.int .i64)))))))]
abbrev ti16:SD:=.one (.ref 2 0)
def Jh (n:Z8) (i:Int):Option Z8:=
  br (decide (i<(↑(List.length n.kids):Int)))
   (bnd (idx n.kids i) fun y=>
    some (Rose.mk (y.head.1,y.head.2.1,y.head.2.2.1,y.head.2.2.2) y.kids))
   (some (Rose.mk ((0:Int),(0:Int),[],(0:Int)) []))
def Jh.ce:=ceOf tab Tryz.f89 Jh
def Jh.G:EB Z9:=⟨tb,Tryz.f89,[],[0,1,2,4,9],[],[],[],[],[]⟩
theorem Jh.ok:CalleeOk Z9 89 Jh.ce:=fnB Jh.G Tryz.func89 (m:=0) trivial
def kr (text:Z6) (has:Int) (must:Int):Option Z6:=
  br (decide (has<must))
   (bnd (okIf (decide (List.length (Z5 [40])+text.length≤9223372036854775807))) fun y=>
    bnd (okIf (decide (List.length (Z5 [40]++text)+List.length (Z5 [41])≤9223372036854775807))) fun y1=>
    some (Z5 [40]++text++Z5 [41]))
   (some text)
def kr.ce:=ceOf tab Tryz.f114 kr
def kr.G:EB Z9:=⟨tb,Tryz.f114,[],[0,1,2,6,9],[],[],[],[],[]⟩
theorem kr.ok:CalleeOk Z9 114 kr.ce:=fnB kr.G Tryz.func114 (m:=0) trivial
def jt.self.pre:Shape:=⟨[(0,ti7),(1,ti4)],[]⟩
def jt.self.post:Shape:=⟨[(0,ti2)],[]⟩
class jt.Self where
  F:densU jt.self.pre.tys→Option (densU jt.self.post.tys)
  ok:MOk Z9 90 ⟨90,jt.self.pre,jt.self.post,F⟩
section
variable [jt.Self]
def jt.self (X:densU jt.self.pre.tys):Option (densU jt.self.post.tys):=jt.Self.F X
def jt.self.mc:MCallee:=⟨90,jt.self.pre,jt.self.post,fun X=>jt.self X⟩
theorem jt.self.ok:MOk Z9 90 jt.self.mc:=jt.Self.ok
def jt.pre:Shape:=⟨[(0,ti7),(1,ti4)],[]⟩
def jt.post:Shape:=⟨[(0,ti2)],[]⟩
def jt.cu_ {ρ:Type} (r:Int)(left:Int)(right:Int)(Z:Int×Int→Option ρ):Option ρ:=
  br (r==1)
   (Z ((2:Int),right))
   (br (r==5)
     (Z ((6:Int),(4:Int)))
     (Z (left,right)))
def jt.cu_s:Shape:=(((((((jt.pre.s 2 ti16).s 4 ti2).s 5 ti4).s 6 ti4).s 7 ti4).s 9 ti4).o 2 ti8)
def jt.cu_r:RC:=⟨jt.cu_s,[(jt.cu_s,0,[4,202])],no,[3,4,5],fun _=>jt.cu_,fun _ _ _ _ _=>jN jd (jN jd jd)⟩
def jt.c18 {ρ:Type} (must:Int)(r:Int)(left:Int)(right:Int)(n0:Int)(n1:Int)(n2:Z6)(n3:Int)(n4:List Z8)(Z:Z6→Option ρ):Option ρ:=
  bnd (Jh (Rose.mk (n0,n1,n2,n3) n4) (0:Int)) fun y=>
  bnd (jt.self (y,left,())) fun y1=>
  bnd (okIf (decide (List.length y1.1+List.length (Z5 [32])≤9223372036854775807))) fun y2=>
  bnd (okIf (decide (List.length (y1.1++Z5 [32])+n2.length≤9223372036854775807))) fun y3=>
  bnd (okIf (decide (List.length (y1.1++Z5 [32]++n2)+List.length (Z5 [32])≤9223372036854775807))) fun y4=>
  bnd (Jh (Rose.mk (n0,n1,n2,n3) n4) (1:Int)) fun y5=>
  bnd (jt.self (y5,right,())) fun y6=>
  bnd (okIf (decide (List.length (y1.1++Z5 [32]++n2++Z5 [32])+List.length y6.1≤9223372036854775807))) fun y7=>
  bnd (kr (y1.1++Z5 [32]++n2++Z5 [32]++y6.1) r must) fun y8=>
  Z y8
def jt.c18r:RC:=⟨jt.cu_s,[(jt.cu_s,0,[2,201])],no,[1,3,4,5,7,8,9,10,11],fun _=>jt.c18,fun _ _ _ _ _ _ _ _ _ _ _=>jm fun _=>(jm fun _=>(jm fun _=>(jm fun _=>(jm fun _=>(jm fun _=>(jm fun _=>(jm fun _=>(jm fun _=>jd))))))))⟩
def jt (n:Z8) (must:Int):Option (Z6×Unit):=
  br (n.head.1==20)
   (bnd (strconv_Itoa n.head.2.2.2) fun y=>
    some (y,()))
   (br (n.head.1==21)
     (some (n.head.2.2.1,()))
     (br (n.head.1==22)
       (bnd (okIf (decide (List.length (Z5 [115,105,122,101,40])+List.length n.head.2.2.1≤9223372036854775807))) fun y1=>
        bnd (okIf (decide (List.length (Z5 [115,105,122,101,40]++n.head.2.2.1)+List.length (Z5 [41])≤9223372036854775807))) fun y2=>
        some (Z5 [115,105,122,101,40]++n.head.2.2.1++Z5 [41],()))
       (br (n.head.1==23)
         (bnd (Jh (Rose.mk (n.head.1,n.head.2.1,n.head.2.2.1,n.head.2.2.2) n.kids) (0:Int)) fun y3=>
          bnd (jt.self (y3,(4:Int),())) fun y4=>
          bnd (okIf (decide (List.length (Z5 [45])+List.length y4.1≤9223372036854775807))) fun y5=>
          bnd (kr (Z5 [45]++y4.1) (4:Int) must) fun y6=>
          some (y6,()))
         (br (n.head.1==24)
           (bnd (Jb n.head.2.2.1) fun y7=>
            bnd (jt.cu_ y7 y7 (i64.wrap (y7+1)) some) fun y8=>
            bnd (jt.c18 must y7 y8.1 y8.2 n.head.1 n.head.2.1 n.head.2.2.1 n.head.2.2.2 n.kids some) fun y9=>
            some (y9,()))
           (some (Z5 [],()))))))
def jt.mc:MCallee:=⟨90,jt.pre,jt.post,fun X=>jt X.1 X.2.1⟩
def jt.G:EB Z9:=⟨tb,Tryz.f90,[⟨113,strconv_Itoa.ce,strconv_Itoa.ok⟩,⟨89,Jh.ce,Jh.ok⟩,⟨114,kr.ce,kr.ok⟩,⟨61,Jb.ce,Jb.ok⟩],[0,1,2,4,5,6,7,9,10,15,19,25,33,41,42,44],[],[(18,[])],[(18,jt.c18r.ck),(253260,jt.cu_r.ck)],[⟨90,jt.self.mc,jt.self.ok⟩],[]⟩
theorem jt.ok:MOk Z9 90 jt.mc:=fnM jt.G (mc:=jt.mc) Tryz.func90 (m:=2) ⟨⟨trivial,kJ jt.cu_r⟩,kR jt.c18r⟩
end
@[reducible] def jt.fuel:Nat→jt.Self
  | 0=>⟨fun _=>none,⟨⟨Tryz.f90,Tryz.func90,by kernel_rfl,by kernel_rfl⟩,fun _ _ _ _ _ _ _ hy=>by cases hy⟩⟩
  | n+1=>⟨fun X=>(@jt.mc (jt.fuel n)).F X,@jt.ok (jt.fuel n)⟩
def JC (X:densU jt.self.pre.tys):Option (densU jt.self.post.tys):=(jt.fuel (1000000)).F X
def JC.mc:MCallee:=⟨90,jt.self.pre,jt.self.post,fun X=>JC X⟩
theorem JC.ok:MOk Z9 90 JC.mc:=mok_diag (F:=fun n=>(jt.fuel n).F) (fun n=>(jt.fuel n).ok) (fun X=>1000000)
def Jp.c3 (n0:Int)(n1:Int)(n2:Z6)(n3:Int)(n4:List Z8)(Z:Z6→Option ρ):Option ρ:=
  bnd (okIf (decide (n2.length+List.length (Z5 [91])≤9223372036854775807))) fun y=>
  bnd (Jh (Rose.mk (n0,n1,n2,n3) n4) (0:Int)) fun y1=>
  bnd (JC (y1,(1:Int),())) fun y2=>
  bnd (okIf (decide (List.length (n2++Z5 [91])+List.length y2.1≤9223372036854775807))) fun y3=>
  bnd (okIf (decide (List.length (n2++Z5 [91]++y2.1)+List.length (Z5 [93])≤9223372036854775807))) fun y4=>
  Z (n2++Z5 [91]++y2.1++Z5 [93])
def Jp.c3s:Shape:=⟨[(0,ti7),(1,ti1),(2,ti2),(4,ti4)],[(1,ti8)]⟩
def Jp.c3r:RC:=⟨Jp.c3s,[(Jp.c3s,0,[1,201])],no,[3,4,5,6,7],@Jp.c3,fun _ _ _ _ _ _ _=>jm fun _=>(jm fun _=>(jm fun _=>(jm fun _=>(jm fun _=>jd))))⟩
def Jp.c5 (n0:Int)(n1:Int)(n2:Z6)(n3:Int)(n4:List Z8)(Z:Z6→Option ρ):Option ρ:=
  bnd (okIf (decide (n2.length+List.length (Z5 [91])≤9223372036854775807))) fun y=>
  bnd (Jh (Rose.mk (n0,n1,n2,n3) n4) (0:Int)) fun y1=>
  bnd (JC (y1,(1:Int),())) fun y2=>
  bnd (okIf (decide (List.length (n2++Z5 [91])+List.length y2.1≤9223372036854775807))) fun y3=>
  bnd (okIf (decide (List.length (n2++Z5 [91]++y2.1)+List.length (Z5 [32,46,46,32])≤9223372036854775807))) fun y4=>
  bnd (Jh (Rose.mk (n0,n1,n2,n3) n4) (1:Int)) fun y5=>
  bnd (JC (y5,(1:Int),())) fun y6=>
  bnd (okIf (decide (List.length (n2++Z5 [91]++y2.1++Z5 [32,46,46,32])+List.length y6.1≤9223372036854775807))) fun y7=>
  bnd (okIf (decide (List.length (n2++Z5 [91]++y2.1++Z5 [32,46,46,32]++y6.1)+List.length (Z5 [93])≤9223372036854775807))) fun y8=>
  Z (n2++Z5 [91]++y2.1++Z5 [32,46,46,32]++y6.1++Z5 [93])
def Jp.c5r:RC:=⟨Jp.c3s,[(Jp.c3s,0,[1,201])],no,[3,4,5,6,7],@Jp.c5,fun _ _ _ _ _ _ _=>jm fun _=>(jm fun _=>(jm fun _=>(jm fun _=>(jm fun _=>(jm fun _=>(jm fun _=>(jm fun _=>(jm fun _=>jd))))))))⟩
def Jp (n:Z8):Option Z6:=
  br (n.head.2.2.2==1)
   (bnd (Jp.c3 n.head.1 n.head.2.1 n.head.2.2.1 n.head.2.2.2 n.kids some) fun y=>
    some y)
   (br (n.head.2.2.2==2)
     (bnd (Jp.c5 n.head.1 n.head.2.1 n.head.2.2.1 n.head.2.2.2 n.kids some) fun y1=>
      some y1)
     (some n.head.2.2.1))
def Jp.ce:=ceOf tab Tryz.f95 Jp
def Jp.G:EB Z9:=⟨tb,Tryz.f95,[⟨89,Jh.ce,Jh.ok⟩],[0,1,2,4,5,15],[],[(5,[]),(3,[])],[(5,Jp.c5r.ck),(3,Jp.c3r.ck)],[⟨90,JC.mc,JC.ok⟩],[]⟩
theorem Jp.ok:CalleeOk Z9 95 Jp.ce:=fnB Jp.G Tryz.func95 (m:=2) ⟨⟨trivial,kR Jp.c3r⟩,kR Jp.c5r⟩
abbrev ti17:SD:=.one (.ref 1000110 0)
abbrev ti18:SD:=.one (.ref 1000120 0)
abbrev ti19:SO:=.box [.val (.int .i64)]
def Ja.self.pre:Shape:=⟨[(0,ti7),(1,ti4)],[]⟩
def Ja.self.post:Shape:=⟨[(0,ti2)],[]⟩
def jY.self.pre:Shape:=⟨[(0,ti2),(1,ti4),(2,ti17),(3,ti18)],[(1000110,ti8),(1000120,ti19)]⟩
def jY.self.post:Shape:=⟨[(0,ti2)],[(1000110,ti8),(1000120,ti19)]⟩
class kB.Self where
  F_tongue_truth_b:densU Ja.self.pre.tys→Option (densU Ja.self.post.tys)
  ok_tongue_truth_b:MOk Z9 96 ⟨96,Ja.self.pre,Ja.self.post,F_tongue_truth_b⟩
  F_tongue_truth_1_b:densU jY.self.pre.tys→Option (densU jY.self.post.tys)
  ok_tongue_truth_1_b:MOk Z9 119 ⟨119,jY.self.pre,jY.self.post,F_tongue_truth_1_b⟩
section
variable [kB.Self]
def Ja.self (X:densU Ja.self.pre.tys):Option (densU Ja.self.post.tys):=kB.Self.F_tongue_truth_b X
def Ja.self.mc:MCallee:=⟨96,Ja.self.pre,Ja.self.post,fun X=>Ja.self X⟩
theorem Ja.self.ok:MOk Z9 96 Ja.self.mc:=kB.Self.ok_tongue_truth_b
def jY.self (X:densU jY.self.pre.tys):Option (densU jY.self.post.tys):=kB.Self.F_tongue_truth_1_b X
def jY.self.mc:MCallee:=⟨119,jY.self.pre,jY.self.post,fun X=>jY.self X⟩
theorem jY.self.ok:MOk Z9 119 jY.self.mc:=kB.Self.ok_tongue_truth_1_b
def Ja.pre:Shape:=⟨[(0,ti7),(1,ti4)],[]⟩
def Ja.post:Shape:=⟨[(0,ti2)],[]⟩
def Ja (n:Z8) (must:Int):Option (Z6×Unit):=
  br (n.head.1==29)
   (bnd (jY.self (Z5 [124],(1:Int),n.head.1,n.head.2.1,n.head.2.2.1,n.head.2.2.2,Rose.kids n,must,())) fun y=>
    some (y.1,()))
   (br (n.head.1==30)
     (bnd (jY.self (Z5 [94],(2:Int),n.head.1,n.head.2.1,n.head.2.2.1,n.head.2.2.2,Rose.kids n,must,())) fun y1=>
      some (y1.1,()))
     (br (n.head.1==28)
       (bnd (jY.self (Z5 [38],(3:Int),n.head.1,n.head.2.1,n.head.2.2.1,n.head.2.2.2,Rose.kids n,must,())) fun y2=>
        some (y2.1,()))
       (br (n.head.1==27)
         (bnd (Jh (Rose.mk (n.head.1,n.head.2.1,n.head.2.2.1,n.head.2.2.2) n.kids) (0:Int)) fun y3=>
          bnd (Ja.self (y3,(4:Int),())) fun y4=>
          bnd (okIf (decide (List.length (Z5 [33])+List.length y4.1≤9223372036854775807))) fun y5=>
          some (Z5 [33]++y4.1,()))
         (br (n.head.1==26)
           (bnd (strconv_Itoa n.head.2.2.2) fun y6=>
            some (y6,()))
           (bnd (Jp (Rose.mk (n.head.1,n.head.2.1,n.head.2.2.1,n.head.2.2.2) n.kids)) fun y7=>
            some (y7,()))))))
def Ja.mc:MCallee:=⟨96,Ja.pre,Ja.post,fun X=>Ja X.1 X.2.1⟩
def Ja.G:EB Z9:=⟨tb,Tryz.f96,[⟨89,Jh.ce,Jh.ok⟩,⟨113,strconv_Itoa.ce,strconv_Itoa.ok⟩,⟨95,Jp.ce,Jp.ok⟩],[0,1,2,3,4,5,8,9,13,17,21,27],[],[],[],[⟨96,Ja.self.mc,Ja.self.ok⟩,⟨119,jY.self.mc,jY.self.ok⟩],[]⟩
theorem Ja.ok:MOk Z9 96 Ja.mc:=fnM Ja.G (mc:=Ja.mc) Tryz.func96 (m:=0) trivial
def jY.pre:Shape:=⟨[(0,ti2),(1,ti4),(2,ti17),(3,ti18)],[(1000110,ti8),(1000120,ti19)]⟩
def jY.post:Shape:=⟨[(0,ti2)],[(1000110,ti8),(1000120,ti19)]⟩
def jY.c1 {ρ:Type} (word:Z6)(r:Int)(ua:Int)(ub:Int)(uc:Z6)(ud:Int)(ue:List Z8)(uf:Int)(Z:Z6→Option ρ):Option ρ:=
  bnd (Jh (Rose.mk (ua,ub,uc,ud) ue) (0:Int)) fun y=>
  bnd (Ja.self (y,r,())) fun y1=>
  bnd (okIf (decide (List.length y1.1+List.length (Z5 [32])≤9223372036854775807))) fun y2=>
  bnd (okIf (decide (List.length (y1.1++Z5 [32])+word.length≤9223372036854775807))) fun y3=>
  bnd (okIf (decide (List.length (y1.1++Z5 [32]++word)+List.length (Z5 [32])≤9223372036854775807))) fun y4=>
  bnd (Jh (Rose.mk (ua,ub,uc,ud) ue) (1:Int)) fun y5=>
  bnd (Ja.self (y5,i64.wrap (r+1),())) fun y6=>
  bnd (okIf (decide (List.length (y1.1++Z5 [32]++word++Z5 [32])+List.length y6.1≤9223372036854775807))) fun y7=>
  bnd (kr (y1.1++Z5 [32]++word++Z5 [32]++y6.1) r uf) fun y8=>
  Z y8
def jY.c1s:Shape:=(jY.pre.s 6 ti2)
def jY.c1r:RC:=⟨jY.c1s,[(jY.c1s,0,[2,201])],no,[0,1,3,4,5,6,7,8],fun _=>jY.c1,fun _ _ _ _ _ _ _ _ _ _=>jm fun _=>(jm fun _=>(jm fun _=>(jm fun _=>(jm fun _=>(jm fun _=>(jm fun _=>(jm fun _=>(jm fun _=>jd))))))))⟩
def jY (word:Z6) (r:Int) (ua:Int) (ub:Int) (uc:Z6) (ud:Int) (ue:List Z8) (uf:Int):Option (Z6×Int×Int×Z6×Int×(List Z8)×Int×Unit):=
  bnd (jY.c1 word r ua ub uc ud ue uf some) fun y=>
  some (y,ua,ub,uc,ud,ue,uf,())
def jY.mc:MCallee:=⟨119,jY.pre,jY.post,fun X=>jY X.1 X.2.1 X.2.2.1 X.2.2.2.1 (q4 X).1 (q4 X).2.1 (q4 X).2.2.1 (q4 X).2.2.2.1⟩
def jY.G:EB Z9:=⟨tb,Tryz.f119,[⟨89,Jh.ce,Jh.ok⟩,⟨114,kr.ce,kr.ok⟩],[0,1,2,3,6],[],[(1,[])],[(1,jY.c1r.ck)],[⟨96,Ja.self.mc,Ja.self.ok⟩],[]⟩
theorem jY.ok:MOk Z9 119 jY.mc:=fnM jY.G (mc:=jY.mc) Tryz.func119 (m:=1) ⟨trivial,kR jY.c1r⟩
end
@[reducible] def kB.fuel:Nat→kB.Self
  | 0=>{ F_tongue_truth_b:=fun _=>none,ok_tongue_truth_b:=⟨⟨Tryz.f96,Tryz.func96,by kernel_rfl,by kernel_rfl⟩,fun _ _ _ _ _ _ _ hy=>by cases hy⟩,F_tongue_truth_1_b:=fun _=>none,ok_tongue_truth_1_b:=⟨⟨Tryz.f119,Tryz.func119,by kernel_rfl,by kernel_rfl⟩,fun _ _ _ _ _ _ _ hy=>by cases hy⟩ }
  | n+1=>{ F_tongue_truth_b:=fun X=>(@Ja.mc (kB.fuel n)).F X,ok_tongue_truth_b:=@Ja.ok (kB.fuel n),F_tongue_truth_1_b:=fun X=>(@jY.mc (kB.fuel n)).F X,ok_tongue_truth_1_b:=@jY.ok (kB.fuel n) }
def Ym (X:densU Ja.self.pre.tys):Option (densU Ja.self.post.tys):=(kB.fuel (1000000)).F_tongue_truth_b X
def Ym.mc:MCallee:=⟨96,Ja.self.pre,Ja.self.post,fun X=>Ym X⟩
theorem Ym.ok:MOk Z9 96 Ym.mc:=(kB.fuel (1000000)).ok_tongue_truth_b
end
end W
end

section
set_option maxHeartbeats 4000000
set_option maxRecDepth 100000
namespace W
open Go Go.Ql Go.Proofs Go.IntKind
noncomputable section
variable {ρ:Type}
abbrev tj0:SD:=.one (.ref 1000100 0)
abbrev tj1:SD:=.one (.val .str)
abbrev tj2:SO:=.box [.selfp 1000100 61,.own 1000101 0,.val (.int .i64)]
abbrev tj3:SO:=.arr 0 false 5 (.int .u8)
abbrev tj4:SD:=.one (.val (.int .i64))
abbrev tj5:SD:=.one (.val (.nilv 1))
def Jr.pre:Shape:=⟨[(0,tj0),(1,tj1)],[(1000100,tj2),(1000101,tj3)]⟩
def Jr.post:Shape:=⟨[(0,tj4),(1,tj5)],[(1000101,tj3),(1000100,tj2)]⟩
def Jr (s:Z6) (ua:Int) (ub:List Int):Option (Int×Unit×(List Int)×Int×Unit):=
  bnd (JK ua ub) fun y=>
  bnd (okIf (decide (List.length y.1+s.length≤140737488355328))) fun y1=>
  some ((s.length:Int),(),y.1++List.map (fun b↦(↑(UInt8.toNat b):Int)) s,y.2.1,())
def Jr.mc:MCallee:=⟨84,Jr.pre,Jr.post,fun X=>Jr X.1 X.2.1 X.2.2.1⟩
def Jr.G:EB Z9:=⟨tb,Tryz.f84,[],[0,1,4,5],[1000100,1000101],[],[],[⟨108,JK.mc,JK.ok⟩],[]⟩
theorem Jr.ok:MOk Z9 84 Jr.mc:=fnM Jr.G (mc:=Jr.mc) Tryz.func84 (m:=0) trivial
abbrev tj6:SD:=.one (.val (.sl .str))
def jy.pre:Shape:=⟨[(0,tj0),(1,tj6)],[(1000100,tj2),(1000101,tj3)]⟩
def jy.post:Shape:=⟨[],[(1000101,tj3),(1000100,tj2)]⟩
def jy.co_ (t6:List Z6)(t7:Int)(t8:Int)(ua:Int)(ub:List Int)(Z:(Int×Int×(List Int))⊕(Int×Int×(List Int))→Option ρ):Option ρ:=
  br (decide (t8<t7))
   (bnd (idx t6 t8) fun y=>
    bnd (Jr y ua ub) fun y1=>
    Z (.inl ((i64.wrap (t8+1)),y1.2.2.2.1,y1.2.2.1)))
   (Z (.inr (t8,ua,ub)))
def jy.co_s:Shape:=(((jy.pre.s 6 tj6).s 7 tj4).s 8 tj4)
def jy.co_r:LC:=⟨jy.co_s,[(jy.co_s,2,[3,203])],no,[3,4,5],[1,2,3,4,5],@jy.co_,fun _ _ _ _ _ _ _=>jN (jm fun _=>(jm fun _=>jd)) jd⟩
def jy (ws:List Z6) (ua:Int) (ub:List Int):Option ((List Int)×Int×Unit):=
  bnd (iter (fun s↦jy.co_ ws (ws.length:Int) s.1 s.2.1 s.2.2 some) ((0:Int),ua,ub)) fun y=>
  some (y.2.2,y.2.1,())
def jy.mc:MCallee:=⟨42,jy.pre,jy.post,fun X=>jy X.1 X.2.1 X.2.2.1⟩
def jy.G:EB Z9:=⟨tb,Tryz.f42,[],[0,1,5,6,7,8,9],[1000100,1000101],[],[(100001,jy.co_r.ck)],[⟨84,Jr.mc,Jr.ok⟩],[]⟩
theorem jy.ok:MOk Z9 42 jy.mc:=fnM jy.G (mc:=jy.mc) Tryz.func42 (m:=1) ⟨trivial,kL jy.co_r⟩
def kK (n:Z8):Option Z6:=
  bnd (JC (Rose.mk (n.head.1,n.head.2.1,n.head.2.2.1,n.head.2.2.2) n.kids,(1:Int),())) fun y=>
  some y.1
def kK.ce:=ceOf tab Tryz.f118 kK
def kK.G:EB Z9:=⟨tb,Tryz.f118,[],[0,1,2],[],[],[],[⟨90,JC.mc,JC.ok⟩],[]⟩
theorem kK.ok:CalleeOk Z9 118 kK.ce:=fnB kK.G Tryz.func118 (m:=0) trivial
abbrev tj7:SD:=.one (.val (.st (.node (.pair (.int .i64) (.pair (.int .i64) (.pair .str (.int .i64)))))))
abbrev tj8:SD:=.one (.fn 118)
abbrev tj9:SD:=.one (.ref 2 0)
abbrev tj10:SD:=.one (.own 5 0)
abbrev tj11:SD:=.one (.val (.sl (.st (.node (.pair (.int .i64) (.pair (.int .i64) (.pair .str (.int .i64))))))))
abbrev tj12:SO:=.box [.val (.int .i64),.val (.int .i64),.val .str,.val (.int .i64),.val (.sl (.st (.node (.pair (.int .i64) (.pair (.int .i64) (.pair .str (.int .i64)))))))]
abbrev tj13:SO:=.arr 0 false 9 .str
def Jf.pre:Shape:=⟨[(0,tj7),(1,tj8)],[]⟩
def Jf.post:Shape:=⟨[(0,tj1)],[]⟩
def Jf.cb_ (t9:List Z8)(t10:Int)(t11:Int)(l:List Z6)(Z:(Int×(List Z6))⊕(Int×(List Z6))→Option ρ):Option ρ:=
  br (decide (t11<t10))
   (bnd (idx t9 t11) fun y=>
    bnd (kK (Rose.mk (y.head.1,y.head.2.1,y.head.2.2.1,y.head.2.2.2) y.kids)) fun y1=>
    bnd (okIf (decide ((l.length+1)*16≤140737488355328)&&decide (l.length+1≤140737488355328))) fun y2=>
    Z (.inl ((i64.wrap (t11+1)),(l++[y1]))))
   (Z (.inr (t11,l)))
def Jf.cb_s:Shape:=((((((((Jf.pre.s 2 tj9).s 4 tj1).s 5 tj10).s 9 tj11).s 10 tj4).s 11 tj4).o 2 tj12).o 5 tj13)
def Jf.cb_r:LC:=⟨Jf.cb_s,[(Jf.cb_s,2,[4,201,5,201])],no,[4,10],[2,3,4,10],@Jf.cb_,fun _ _ _ _ _ _=>jN (jm fun _=>(jm fun _=>(jm fun _=>jd))) jd⟩
def Jf (n:Z8):Option (Z6×Unit):=
  bnd (iter (fun s↦Jf.cb_ n.kids (↑(List.length n.kids):Int) s.1 s.2 some) ((0:Int),[])) fun y=>
  bnd (strings_Join y.2 (Z5 [44,32])) fun y1=>
  some (y1,())
def Jf.mc:MCallee:=⟨115,Jf.pre,Jf.post,fun X=>Jf X.1⟩
def Jf.G:EB Z9:=⟨tb,Tryz.f115,[⟨130,strings_Join.ce,strings_Join.ok⟩,⟨118,kK.ce,kK.ok⟩],[0,1,2,4,5,7,9,10,11,12],[5],[],[(100003,Jf.cb_r.ck)],[],[]⟩
theorem Jf.ok:MOk Z9 115 Jf.mc:=fnM Jf.G (mc:=Jf.mc) Tryz.func115 (m:=1) ⟨trivial,kL Jf.cb_r⟩
abbrev tj14:SD:=.one (.fn 95)
def Jg.pre:Shape:=⟨[(0,tj7),(1,tj14)],[]⟩
def Jg.post:Shape:=⟨[(0,tj1)],[]⟩
def Jg.cb_ (t9:List Z8)(t10:Int)(t11:Int)(l:List Z6)(Z:(Int×(List Z6))⊕(Int×(List Z6))→Option ρ):Option ρ:=
  br (decide (t11<t10))
   (bnd (idx t9 t11) fun y=>
    bnd (Jp (Rose.mk (y.head.1,y.head.2.1,y.head.2.2.1,y.head.2.2.2) y.kids)) fun y1=>
    bnd (okIf (decide ((l.length+1)*16≤140737488355328)&&decide (l.length+1≤140737488355328))) fun y2=>
    Z (.inl ((i64.wrap (t11+1)),(l++[y1]))))
   (Z (.inr (t11,l)))
def Jg.cb_s:Shape:=((((((((Jg.pre.s 2 tj9).s 4 tj1).s 5 tj10).s 9 tj11).s 10 tj4).s 11 tj4).o 2 tj12).o 5 tj13)
def Jg.cb_r:LC:=⟨Jg.cb_s,[(Jg.cb_s,2,[4,201,5,201])],no,[4,10],[2,3,4,10],@Jg.cb_,fun _ _ _ _ _ _=>jN (jm fun _=>(jm fun _=>(jm fun _=>jd))) jd⟩
def Jg (n:Z8):Option (Z6×Unit):=
  bnd (iter (fun s↦Jg.cb_ n.kids (↑(List.length n.kids):Int) s.1 s.2 some) ((0:Int),[])) fun y=>
  bnd (strings_Join y.2 (Z5 [44,32])) fun y1=>
  some (y1,())
def Jg.mc:MCallee:=⟨115,Jg.pre,Jg.post,fun X=>Jg X.1⟩
def Jg.G:EB Z9:=⟨tb,Tryz.f115,[⟨130,strings_Join.ce,strings_Join.ok⟩,⟨95,Jp.ce,Jp.ok⟩],[0,1,2,4,5,7,9,10,11,12],[5],[],[(100003,Jg.cb_r.ck)],[],[]⟩
theorem Jg.ok:MOk Z9 115 Jg.mc:=fnM Jg.G (mc:=Jg.mc) Tryz.func115 (m:=1) ⟨trivial,kL Jg.cb_r⟩
abbrev tj15:SD:=.one (.ref 3 0)
abbrev tj16:SD:=.one (.ref 5 0)
abbrev tj17:SD:=.one (.val .bool)
def jC.pre:Shape:=⟨[(0,tj0),(1,tj7)],[(1000100,tj2),(1000101,tj3)]⟩
def jC.post:Shape:=⟨[],[(1000101,tj3),(1000100,tj2)]⟩
def jC.cj_ (t8:List Z8)(t10:Int)(ua:Int)(ub:List Int)(Z:Int×Bool×Int×(List Int)→Option ρ):Option ρ:=
  bnd (idx t8 t10) fun y=>
  br (y.head.1==9)
   (bnd (jy [Z5 [105,110,118,32,64,32]] ua ub) fun y1=>
    Z (y.head.1,(y.head.1==9),y1.2.1,y1.1))
   (br (y.head.1==10)
     (bnd (jy [Z5 [99,116,114,108,32,64,32]] ua ub) fun y2=>
      Z (y.head.1,(y.head.1==9),y2.2.1,y2.1))
     (bnd (Jh (Rose.mk (y.head.1,y.head.2.1,y.head.2.2.1,y.head.2.2.2) y.kids) (0:Int)) fun y3=>
      bnd (JC (y3,(1:Int),())) fun y4=>
      bnd (jy [Z5 [112,111,119,40],y4.1,Z5 [41,32,64,32]] ua ub) fun y5=>
      Z (y.head.1,(y.head.1==9),y5.2.1,y5.1)))
def jC.cj_s:Shape:=(((((jC.pre.s 3 tj15).s 8 tj11).s 9 tj4).s 10 tj4).o 3 tj12)
def jC.cj_x0:Shape:=(((jC.cj_s.s 5 tj16).s 15 tj4).s 22 tj17)
def jC.cj_r:RC:=⟨jC.cj_s,[(jC.cj_x0,0,[4,102,5,202])],no,[1,3,9,10],@jC.cj_,fun _ _ _ _ _ _=>jm fun _=>(jN (jm fun _=>jd) (jN (jm fun _=>jd) (jm fun _=>(jm fun _=>(jm fun _=>jd)))))⟩
def jC.ca_ (t8:List Z8)(t9:Int)(t10:Int)(ua:Int)(ub:List Int)(Z:(Int×Int×(List Int))⊕(Int×Int×(List Int))→Option ρ):Option ρ:=
  br (decide (t10<t9))
   (bnd (jC.cj_ t8 t10 ua ub some) fun y=>
    Z (.inl ((i64.wrap (t10+1)),y.2.2.1,y.2.2.2)))
   (Z (.inr (t10,ua,ub)))
def jC.ca_r:LC:=⟨jC.cj_s,[(jC.cj_s,2,[3,201,5,202])],no,[3,9,10],[1,2,3,9,10],@jC.ca_,fun _ _ _ _ _ _ _=>jN (jm fun _=>jd) jd⟩
def jC.cA_ (n0:Int)(n1:Int)(n2:Z6)(n3:Int)(n4:List Z8)(ua:Int)(ub:List Int)(Z:Int×(List Int)→Option ρ):Option ρ:=
  bnd (Jh (Rose.mk (n0,n1,n2,n3) n4) (1:Int)) fun y=>
  br (decide ((↑(List.length y.kids):Int)>0))
   (bnd (Jh (Rose.mk (n0,n1,n2,n3) n4) (1:Int)) fun y1=>
    bnd (Jf y1) fun y2=>
    bnd (jy [Z5 [40],y2.1,Z5 [41]] ua ub) fun y3=>
    Z (y3.2.1,y3.1))
   (Z (ua,ub))
def jC.cA_r:RC:=⟨jC.cj_s,[(jC.cj_s,0,[9,202])],no,[4,5,6,7,8,9,10],@jC.cA_,fun _ _ _ _ _ _ _ _ _=>jm fun _=>(jN (jm fun _=>(jm fun _=>(jm fun _=>jd))) jd)⟩
def jC.cB_ (n0:Int)(n1:Int)(n2:Z6)(n3:Int)(n4:List Z8)(ua:Int)(ub:List Int)(Z:Int×(List Int)→Option ρ):Option ρ:=
  bnd (Jh (Rose.mk (n0,n1,n2,n3) n4) (2:Int)) fun y=>
  br (decide ((↑(List.length y.kids):Int)>0))
   (bnd (Jh (Rose.mk (n0,n1,n2,n3) n4) (2:Int)) fun y1=>
    bnd (Jg y1) fun y2=>
    bnd (jy [Z5 [32],y2.1] ua ub) fun y3=>
    Z (y3.2.1,y3.1))
   (Z (ua,ub))
def jC.cB_r:RC:=⟨jC.cj_s,[(jC.cj_s,0,[9,202])],no,[4,5,6,7,8,9,10],@jC.cB_,fun _ _ _ _ _ _ _ _ _=>jm fun _=>(jN (jm fun _=>(jm fun _=>(jm fun _=>jd))) jd)⟩
def jC (n:Z8) (ua:Int) (ub:List Int):Option ((List Int)×Int×Unit):=
  bnd (Jh (Rose.mk (n.head.1,n.head.2.1,n.head.2.2.1,n.head.2.2.2) n.kids) (0:Int)) fun y=>
  bnd (iter (fun s↦jC.ca_ y.kids (↑(List.length y.kids):Int) s.1 s.2.1 s.2.2 some) ((0:Int),ua,ub)) fun y1=>
  bnd (jy [n.head.2.2.1] y1.2.1 y1.2.2) fun y2=>
  bnd (jC.cA_ n.head.1 n.head.2.1 n.head.2.2.1 n.head.2.2.2 n.kids y2.2.1 y2.1 some) fun y3=>
  bnd (jC.cB_ n.head.1 n.head.2.1 n.head.2.2.1 n.head.2.2.2 n.kids y3.1 y3.2 some) fun y4=>
  bnd (jy [Z5 [59]] y4.1 y4.2) fun y5=>
  some (y5.1,y5.2.1,())
def jC.mc:MCallee:=⟨92,jC.pre,jC.post,fun X=>jC X.1 X.2.1 X.2.2.1⟩
def jC.G:EB Z9:=⟨tb,Tryz.f92,[⟨89,Jh.ce,Jh.ok⟩],[0,1,3,5,8,9,10,11,15,22,27,42,53],[1000100,1000101,1002123030005,1002123030015,1002123030022,2000000000005,2000000000015,2000000000022],[],[(257349,jC.cB_r.ck),(249157,jC.cA_r.ck),(100002,jC.ca_r.ck),(212303,jC.cj_r.ck)],[⟨42,jy.mc,jy.ok⟩,⟨90,JC.mc,JC.ok⟩,⟨115,Jf.mc,Jf.ok⟩,⟨1000057,Jg.mc,Jg.ok⟩],[]⟩
theorem jC.ok:MOk Z9 92 jC.mc:=fnM jC.G (mc:=jC.mc) Tryz.func92 (m:=4) ⟨⟨⟨⟨trivial,kL jC.ca_r⟩,kJ jC.cj_r⟩,kJ jC.cA_r⟩,kJ jC.cB_r⟩
def kg (t0:Z8):Option Z6:=
  some t0.head.2.2.1
def kg.ce:=ceOf tab Tryz.f116 kg
def kg.G:EB Z9:=⟨tb,Tryz.f116,[],[0,1,2],[],[],[],[],[]⟩
theorem kg.ok:CalleeOk Z9 116 kg.ce:=fnB kg.G Tryz.func116 (m:=0) trivial
abbrev tj18:SD:=.one (.fn 116)
def Ji.pre:Shape:=⟨[(0,tj7),(1,tj18)],[]⟩
def Ji.post:Shape:=⟨[(0,tj1)],[]⟩
def Ji.cb_ (t9:List Z8)(t10:Int)(t11:Int)(l:List Z6)(Z:(Int×(List Z6))⊕(Int×(List Z6))→Option ρ):Option ρ:=
  br (decide (t11<t10))
   (bnd (idx t9 t11) fun y=>
    bnd (kg (Rose.mk (y.head.1,y.head.2.1,y.head.2.2.1,y.head.2.2.2) y.kids)) fun y1=>
    bnd (okIf (decide ((l.length+1)*16≤140737488355328)&&decide (l.length+1≤140737488355328))) fun y2=>
    Z (.inl ((i64.wrap (t11+1)),(l++[y1]))))
   (Z (.inr (t11,l)))
def Ji.cb_s:Shape:=((((((((Ji.pre.s 2 tj9).s 4 tj1).s 5 tj10).s 9 tj11).s 10 tj4).s 11 tj4).o 2 tj12).o 5 tj13)
def Ji.cb_r:LC:=⟨Ji.cb_s,[(Ji.cb_s,2,[4,201,5,201])],no,[4,10],[2,3,4,10],@Ji.cb_,fun _ _ _ _ _ _=>jN (jm fun _=>(jm fun _=>(jm fun _=>jd))) jd⟩
def Ji (n:Z8):Option (Z6×Unit):=
  bnd (iter (fun s↦Ji.cb_ n.kids (↑(List.length n.kids):Int) s.1 s.2 some) ((0:Int),[])) fun y=>
  bnd (strings_Join y.2 (Z5 [44,32])) fun y1=>
  some (y1,())
def Ji.mc:MCallee:=⟨115,Ji.pre,Ji.post,fun X=>Ji X.1⟩
def Ji.G:EB Z9:=⟨tb,Tryz.f115,[⟨130,strings_Join.ce,strings_Join.ok⟩,⟨116,kg.ce,kg.ok⟩],[0,1,2,4,5,7,9,10,11,12],[5],[],[(100003,Ji.cb_r.ck)],[],[]⟩
theorem Ji.ok:MOk Z9 115 Ji.mc:=fnM Ji.G (mc:=Ji.mc) Tryz.func115 (m:=1) ⟨trivial,kL Ji.cb_r⟩
def JZ (t0:Z8):Option Z6:=
  br (t0.head.2.2.2==1)
   (bnd (okIf (decide (List.length t0.head.2.2.1+List.length (Z5 [91,93])≤9223372036854775807))) fun y=>
    some (t0.head.2.2.1++Z5 [91,93]))
   (some t0.head.2.2.1)
def JZ.ce:=ceOf tab Tryz.f117 JZ
def JZ.G:EB Z9:=⟨tb,Tryz.f117,[],[0,1,2,5],[],[],[],[],[]⟩
theorem JZ.ok:CalleeOk Z9 117 JZ.ce:=fnB JZ.G Tryz.func117 (m:=0) trivial
abbrev tj19:SD:=.one (.fn 117)
def Jj.pre:Shape:=⟨[(0,tj7),(1,tj19)],[]⟩
def Jj.post:Shape:=⟨[(0,tj1)],[]⟩
def Jj.cb_ (t9:List Z8)(t10:Int)(t11:Int)(l:List Z6)(Z:(Int×(List Z6))⊕(Int×(List Z6))→Option ρ):Option ρ:=
  br (decide (t11<t10))
   (bnd (idx t9 t11) fun y=>
    bnd (JZ (Rose.mk (y.head.1,y.head.2.1,y.head.2.2.1,y.head.2.2.2) y.kids)) fun y1=>
    bnd (okIf (decide ((l.length+1)*16≤140737488355328)&&decide (l.length+1≤140737488355328))) fun y2=>
    Z (.inl ((i64.wrap (t11+1)),(l++[y1]))))
   (Z (.inr (t11,l)))
def Jj.cb_s:Shape:=((((((((Jj.pre.s 2 tj9).s 4 tj1).s 5 tj10).s 9 tj11).s 10 tj4).s 11 tj4).o 2 tj12).o 5 tj13)
def Jj.cb_r:LC:=⟨Jj.cb_s,[(Jj.cb_s,2,[4,201,5,201])],no,[4,10],[2,3,4,10],@Jj.cb_,fun _ _ _ _ _ _=>jN (jm fun _=>(jm fun _=>(jm fun _=>jd))) jd⟩
def Jj (n:Z8):Option (Z6×Unit):=
  bnd (iter (fun s↦Jj.cb_ n.kids (↑(List.length n.kids):Int) s.1 s.2 some) ((0:Int),[])) fun y=>
  bnd (strings_Join y.2 (Z5 [44,32])) fun y1=>
  some (y1,())
def Jj.mc:MCallee:=⟨115,Jj.pre,Jj.post,fun X=>Jj X.1⟩
def Jj.G:EB Z9:=⟨tb,Tryz.f115,[⟨130,strings_Join.ce,strings_Join.ok⟩,⟨117,JZ.ce,JZ.ok⟩],[0,1,2,4,5,7,9,10,11,12],[5],[],[(100003,Jj.cb_r.ck)],[],[]⟩
theorem Jj.ok:MOk Z9 115 Jj.mc:=fnM Jj.G (mc:=Jj.mc) Tryz.func115 (m:=1) ⟨trivial,kL Jj.cb_r⟩
abbrev tj20:SD:=.one (.ref 4 0)
def jW.self.pre:Shape:=⟨[(0,tj0),(1,tj7)],[(1000100,tj2),(1000101,tj3)]⟩
def jW.self.post:Shape:=⟨[],[(1000101,tj3),(1000100,tj2)]⟩
def ja.self.pre:Shape:=⟨[(0,tj0),(1,tj7)],[(1000100,tj2),(1000101,tj3)]⟩
def ja.self.post:Shape:=⟨[],[(1000101,tj3),(1000100,tj2)]⟩
def jB.self.pre:Shape:=⟨[(0,tj0),(1,tj7)],[(1000100,tj2),(1000101,tj3)]⟩
def jB.self.post:Shape:=⟨[],[(1000101,tj3),(1000100,tj2)]⟩
def jG.self.pre:Shape:=⟨[(0,tj0),(1,tj7)],[(1000100,tj2),(1000101,tj3)]⟩
def jG.self.post:Shape:=⟨[],[(1000101,tj3),(1000100,tj2)]⟩
def jL.self.pre:Shape:=⟨[(0,tj0),(1,tj7)],[(1000100,tj2),(1000101,tj3)]⟩
def jL.self.post:Shape:=⟨[],[(1000101,tj3),(1000100,tj2)]⟩
class Ju.Self where
  F_tongue_printer_line_b:densU jW.self.pre.tys→Option (densU jW.self.post.tys)
  ok_tongue_printer_line_b:MOk Z9 21 ⟨21,jW.self.pre,jW.self.post,F_tongue_printer_line_b⟩
  F_tongue_printer_statement_b:densU ja.self.pre.tys→Option (densU ja.self.post.tys)
  ok_tongue_printer_statement_b:MOk Z9 44 ⟨44,ja.self.pre,ja.self.post,F_tongue_printer_statement_b⟩
  F_tongue_printer_block_b:densU jB.self.pre.tys→Option (densU jB.self.post.tys)
  ok_tongue_printer_block_b:MOk Z9 93 ⟨93,jB.self.pre,jB.self.post,F_tongue_printer_block_b⟩
  F_tongue_printer_choice_b:densU jG.self.pre.tys→Option (densU jG.self.post.tys)
  ok_tongue_printer_choice_b:MOk Z9 94 ⟨94,jG.self.pre,jG.self.post,F_tongue_printer_choice_b⟩
  F_tongue_printer_gate_b:densU jL.self.pre.tys→Option (densU jL.self.post.tys)
  ok_tongue_printer_gate_b:MOk Z9 91 ⟨91,jL.self.pre,jL.self.post,F_tongue_printer_gate_b⟩
section
variable [Ju.Self]
def jW.self (X:densU jW.self.pre.tys):Option (densU jW.self.post.tys):=Ju.Self.F_tongue_printer_line_b X
def jW.self.mc:MCallee:=⟨21,jW.self.pre,jW.self.post,fun X=>jW.self X⟩
theorem jW.self.ok:MOk Z9 21 jW.self.mc:=Ju.Self.ok_tongue_printer_line_b
def ja.self (X:densU ja.self.pre.tys):Option (densU ja.self.post.tys):=Ju.Self.F_tongue_printer_statement_b X
def ja.self.mc:MCallee:=⟨44,ja.self.pre,ja.self.post,fun X=>ja.self X⟩
theorem ja.self.ok:MOk Z9 44 ja.self.mc:=Ju.Self.ok_tongue_printer_statement_b
def jB.self (X:densU jB.self.pre.tys):Option (densU jB.self.post.tys):=Ju.Self.F_tongue_printer_block_b X
def jB.self.mc:MCallee:=⟨93,jB.self.pre,jB.self.post,fun X=>jB.self X⟩
theorem jB.self.ok:MOk Z9 93 jB.self.mc:=Ju.Self.ok_tongue_printer_block_b
def jG.self (X:densU jG.self.pre.tys):Option (densU jG.self.post.tys):=Ju.Self.F_tongue_printer_choice_b X
def jG.self.mc:MCallee:=⟨94,jG.self.pre,jG.self.post,fun X=>jG.self X⟩
theorem jG.self.ok:MOk Z9 94 jG.self.mc:=Ju.Self.ok_tongue_printer_choice_b
def jL.self (X:densU jL.self.pre.tys):Option (densU jL.self.post.tys):=Ju.Self.F_tongue_printer_gate_b X
def jL.self.mc:MCallee:=⟨91,jL.self.pre,jL.self.post,fun X=>jL.self X⟩
theorem jL.self.ok:MOk Z9 91 jL.self.mc:=Ju.Self.ok_tongue_printer_gate_b
def jW.pre:Shape:=⟨[(0,tj0),(1,tj7)],[(1000100,tj2),(1000101,tj3)]⟩
def jW.post:Shape:=⟨[],[(1000101,tj3),(1000100,tj2)]⟩
def jW (n:Z8) (ua:Int) (ub:List Int):Option ((List Int)×Int×Unit):=
  bnd (strings_Repeat (Z5 [9]) ua) fun y=>
  bnd (jy [y] ua ub) fun y1=>
  bnd (ja.self (Rose.mk (n.head.1,n.head.2.1,n.head.2.2.1,n.head.2.2.2) n.kids,y1.2.1,y1.1,())) fun y2=>
  bnd (jy [Z5 [10]] y2.2.1 y2.1) fun y3=>
  some (y3.1,y3.2.1,())
def jW.mc:MCallee:=⟨21,jW.pre,jW.post,fun X=>jW X.1 X.2.1 X.2.2.1⟩
def jW.G:EB Z9:=⟨tb,Tryz.f21,[⟨43,strings_Repeat.ce,strings_Repeat.ok⟩],[0,1,3],[1000100,1000101],[],[],[⟨42,jy.mc,jy.ok⟩,⟨44,ja.self.mc,ja.self.ok⟩],[]⟩
theorem jW.ok:MOk Z9 21 jW.mc:=fnM jW.G (mc:=jW.mc) Tryz.func21 (m:=0) trivial
def ja.pre:Shape:=⟨[(0,tj0),(1,tj7)],[(1000100,tj2),(1000101,tj3)]⟩
def ja.post:Shape:=⟨[],[(1000101,tj3),(1000100,tj2)]⟩
def ja.c1 {ρ:Type} (n0:Int)(n1:Int)(n2:Z6)(n3:Int)(n4:List Z8)(Z:Int×Int×Z6×Int×(List Z8)×Int×Int×Z6×Int×(List Z8)→Option ρ):Option ρ:=
  bnd (Jh (Rose.mk (n0,n1,n2,n3) n4) (0:Int)) fun y=>
  bnd (Jh (Rose.mk (n0,n1,n2,n3) n4) (1:Int)) fun y1=>
  Z (y.head.1,y.head.2.1,y.head.2.2.1,y.head.2.2.2,y.kids,y1.head.1,y1.head.2.1,y1.head.2.2.1,y1.head.2.2.2,y1.kids)
def ja.c1s:Shape:=((ja.pre.s 3 tj15).o 3 tj12)
def ja.c1x0:Shape:=((((ja.c1s.s 4 tj20).s 5 tj16).o 4 tj12).o 5 tj12)
def ja.c1r:RC:=⟨ja.c1s,[(ja.c1x0,0,[6,110])],no,[1,2,3,4,5],fun _=>ja.c1,fun _ _ _ _ _ _ _=>jm fun _=>(jm fun _=>jd)⟩
def ja.ci_ {ρ:Type} (t12:Int)(Z:Bool→Option ρ):Option ρ:=
  br (t12==2)
   (Z (t12==2))
   (Z (t12==3))
def ja.ci_s:Shape:=(ja.c1x0.s 12 tj4)
def ja.ci_x0:Shape:=(ja.ci_s.s 13 tj17)
def ja.ci_r:RC:=⟨ja.ci_s,[(ja.ci_x0,0,[2,101])],no,[1],fun _=>ja.ci_,fun _ _ _=>jN jd jd⟩
def ja.cw_ {ρ:Type} (word:Z6)(n0:Int)(Z:Z6→Option ρ):Option ρ:=
  br (n0==3)
   (Z (Z5 [98,105,116,32]))
   (Z word)
def ja.cw_s:Shape:=(ja.ci_x0.s 6 tj1)
def ja.cw_r:RC:=⟨ja.cw_s,[(ja.cw_s,0,[1,201])],no,[1,4],fun _=>ja.cw_,fun _ _ _ _=>jN jd jd⟩
def ja.c8 {ρ:Type} (word:Z6)(n2:Z6)(a0:Int)(a1:Int)(a2:Z6)(a3:Int)(a4:List Z8)(ua:Int)(ub:List Int)(Z:Int×(List Int)→Option ρ):Option ρ:=
  bnd (JC (Rose.mk (a0,a1,a2,a3) a4,(1:Int),())) fun y=>
  bnd (jy [word,n2,Z5 [91],y.1,Z5 [93,59]] ua ub) fun y1=>
  Z (y1.2.1,y1.1)
def ja.c8r:RC:=⟨ja.cw_s,[(ja.cw_s,0,[19,202])],no,[1,6,9,10,11,12,13,19,20],fun _=>ja.c8,fun _ _ _ _ _ _ _ _ _ _ _=>jm fun _=>(jm fun _=>jd)⟩
def ja.c10 {ρ:Type} (n2:Z6)(a0:Int)(a1:Int)(a2:Z6)(a3:Int)(a4:List Z8)(ua:Int)(ub:List Int)(Z:Int×(List Int)→Option ρ):Option ρ:=
  bnd (JC (Rose.mk (a0,a1,a2,a3) a4,(1:Int),())) fun y=>
  bnd (jy [Z5 [99,111,110,115,116,32],n2,Z5 [32,61,32],y.1,Z5 [59]] ua ub) fun y1=>
  Z (y1.2.1,y1.1)
def ja.c10r:RC:=⟨ja.ci_x0,[(ja.ci_x0,0,[18,202])],no,[5,8,9,10,11,12,18,19],fun _=>ja.c10,fun _ _ _ _ _ _ _ _ _ _=>jm fun _=>(jm fun _=>jd)⟩
def ja.c16 {ρ:Type} (n2:Z6)(a0:Int)(a1:Int)(a2:Z6)(a3:Int)(a4:List Z8)(b0:Int)(b1:Int)(b2:Z6)(b3:Int)(b4:List Z8)(ua:Int)(ub:List Int)(Z:Int×(List Int)→Option ρ):Option ρ:=
  bnd (JC (Rose.mk (a0,a1,a2,a3) a4,(1:Int),())) fun y=>
  bnd (JC (Rose.mk (b0,b1,b2,b3) b4,(1:Int),())) fun y1=>
  bnd (jy [Z5 [102,111,114,32],n2,Z5 [32,105,110,32],y.1,Z5 [32,46,46,32],y1.1,Z5 [32]] ua ub) fun y2=>
  Z (y2.2.1,y2.1)
def ja.c16r:RC:=⟨ja.ci_x0,[(ja.ci_x0,0,[18,202])],no,[5,8,9,10,11,12,13,14,15,16,17,18,19],fun _=>ja.c16,fun _ _ _ _ _ _ _ _ _ _ _ _ _ _ _=>jm fun _=>(jm fun _=>(jm fun _=>jd))⟩
def ja.c24 {ρ:Type} (a0:Int)(a1:Int)(a2:Z6)(a3:Int)(a4:List Z8)(b0:Int)(b1:Int)(b2:Z6)(b3:Int)(b4:List Z8)(ua:Int)(ub:List Int)(Z:Int×(List Int)→Option ρ):Option ρ:=
  bnd (Jp (Rose.mk (a0,a1,a2,a3) a4)) fun y=>
  bnd (Jp (Rose.mk (b0,b1,b2,b3) b4)) fun y1=>
  bnd (jy [Z5 [109,101,97,115,117,114,101,32],y,Z5 [32,45,62,32],y1,Z5 [59]] ua ub) fun y2=>
  Z (y2.2.1,y2.1)
def ja.c24r:RC:=⟨ja.ci_x0,[(ja.ci_x0,0,[18,202])],no,[8,9,10,11,12,13,14,15,16,17,18,19],fun _=>ja.c24,fun _ _ _ _ _ _ _ _ _ _ _ _ _ _=>jm fun _=>(jm fun _=>(jm fun _=>jd))⟩
def ja.c33 {ρ:Type} (a0:Int)(a1:Int)(a2:Z6)(a3:Int)(a4:List Z8)(b0:Int)(b1:Int)(b2:Z6)(b3:Int)(b4:List Z8)(ua:Int)(ub:List Int)(Z:Int×(List Int)→Option ρ):Option ρ:=
  bnd (Jp (Rose.mk (a0,a1,a2,a3) a4)) fun y=>
  bnd (Ym (Rose.mk (b0,b1,b2,b3) b4,(1:Int),())) fun y1=>
  bnd (jy [y,Z5 [32,94,61,32],y1.1,Z5 [59]] ua ub) fun y2=>
  Z (y2.2.1,y2.1)
def ja.c33r:RC:=⟨ja.ci_x0,[(ja.ci_x0,0,[18,202])],no,[8,9,10,11,12,13,14,15,16,17,18,19],fun _=>ja.c33,fun _ _ _ _ _ _ _ _ _ _ _ _ _ _=>jm fun _=>(jm fun _=>(jm fun _=>jd))⟩
def ja (n:Z8) (ua:Int) (ub:List Int):Option ((List Int)×Int×Unit):=
  bnd (ja.c1 n.head.1 n.head.2.1 n.head.2.2.1 n.head.2.2.2 n.kids some) fun y=>
  bnd (ja.ci_ n.head.1 some) fun y1=>
  br y1
   (bnd (ja.cw_ (Z5 [113,117,98,105,116,32]) n.head.1 some) fun y2=>
    bnd (ja.c8 y2 n.head.2.2.1 y.1 y.2.1 y.2.2.1 y.2.2.2.1 y.2.2.2.2.1 ua ub some) fun y3=>
    some (y3.2,y3.1,()))
   (br (n.head.1==4)
     (bnd (ja.c10 n.head.2.2.1 y.1 y.2.1 y.2.2.1 y.2.2.2.1 y.2.2.2.2.1 ua ub some) fun y4=>
      some (y4.2,y4.1,()))
     (br (n.head.1==5)
       (bnd (jL.self (Rose.mk (n.head.1,n.head.2.1,n.head.2.2.1,n.head.2.2.2) n.kids,ua,ub,())) fun y5=>
        some (y5.1,y5.2.1,()))
       (br (n.head.1==8)
         (bnd (jC (Rose.mk (n.head.1,n.head.2.1,n.head.2.2.1,n.head.2.2.2) n.kids) ua ub) fun y6=>
          some (y6.1,y6.2.1,()))
         (br (n.head.1==12)
           (bnd (ja.c16 n.head.2.2.1 y.1 y.2.1 y.2.2.1 y.2.2.2.1 y.2.2.2.2.1 y.2.2.2.2.2.1 y.2.2.2.2.2.2.1 y.2.2.2.2.2.2.2.1 y.2.2.2.2.2.2.2.2.1 y.2.2.2.2.2.2.2.2.2 ua ub some) fun y7=>
            bnd (Jh (Rose.mk (n.head.1,n.head.2.1,n.head.2.2.1,n.head.2.2.2) n.kids) (2:Int)) fun y8=>
            bnd (jB.self (y8,y7.1,y7.2,())) fun y9=>
            some (y9.1,y9.2.1,()))
           (br (n.head.1==13)
             (bnd (JC (Rose.mk (y.1,y.2.1,y.2.2.1,y.2.2.2.1) y.2.2.2.2.1,(1:Int),())) fun y10=>
              bnd (jy [Z5 [119,104,101,110,32],y10.1,Z5 [32]] ua ub) fun y11=>
              bnd (jB.self (Rose.mk (y.2.2.2.2.2.1,y.2.2.2.2.2.2.1,y.2.2.2.2.2.2.2.1,y.2.2.2.2.2.2.2.2.1) y.2.2.2.2.2.2.2.2.2,y11.2.1,y11.1,())) fun y12=>
              some (y12.1,y12.2.1,()))
             (br (n.head.1==14)
               (bnd (jG.self (Rose.mk (n.head.1,n.head.2.1,n.head.2.2.1,n.head.2.2.2) n.kids,ua,ub,())) fun y13=>
                some (y13.1,y13.2.1,()))
               (br (n.head.1==15)
                 (bnd (ja.c24 y.1 y.2.1 y.2.2.1 y.2.2.2.1 y.2.2.2.2.1 y.2.2.2.2.2.1 y.2.2.2.2.2.2.1 y.2.2.2.2.2.2.2.1 y.2.2.2.2.2.2.2.2.1 y.2.2.2.2.2.2.2.2.2 ua ub some) fun y14=>
                  some (y14.2,y14.1,()))
                 (br (n.head.1==16)
                   (bnd (Jp (Rose.mk (y.1,y.2.1,y.2.2.1,y.2.2.2.1) y.2.2.2.2.1)) fun y15=>
                    bnd (jy [Z5 [114,101,115,101,116,32],y15,Z5 [59]] ua ub) fun y16=>
                    some (y16.1,y16.2.1,()))
                   (br (n.head.1==17)
                     (bnd (jy [Z5 [119,105,116,104,105,110,32]] ua ub) fun y17=>
                      bnd (jB.self (Rose.mk (y.1,y.2.1,y.2.2.1,y.2.2.2.1) y.2.2.2.2.1,y17.2.1,y17.1,())) fun y18=>
                      bnd (jy [Z5 [32,97,112,112,108,121,32]] y18.2.1 y18.1) fun y19=>
                      bnd (jB.self (Rose.mk (y.2.2.2.2.2.1,y.2.2.2.2.2.2.1,y.2.2.2.2.2.2.2.1,y.2.2.2.2.2.2.2.2.1) y.2.2.2.2.2.2.2.2.2,y19.2.1,y19.1,())) fun y20=>
                      some (y20.1,y20.2.1,()))
                     (br (n.head.1==18)
                       (bnd (ja.c33 y.1 y.2.1 y.2.2.1 y.2.2.2.1 y.2.2.2.2.1 y.2.2.2.2.2.1 y.2.2.2.2.2.2.1 y.2.2.2.2.2.2.2.1 y.2.2.2.2.2.2.2.2.1 y.2.2.2.2.2.2.2.2.2 ua ub some) fun y21=>
                        some (y21.2,y21.1,()))
                       (some (ub,ua,()))))))))))))
def ja.mc:MCallee:=⟨44,ja.pre,ja.post,fun X=>ja X.1 X.2.1 X.2.2.1⟩
def ja.G:EB Z9:=⟨tb,Tryz.f44,[⟨89,Jh.ce,Jh.ok⟩,⟨95,Jp.ce,Jp.ok⟩],[0,1,3,4,5,6,12,13,18,27,36,41,46,61,71,76,85,92,106],[1000100,1000101,1002122930013,2000000000013],[(33,[(5,[113]),(6,[113,1000101,1000100])]),(24,[(5,[83]),(6,[83,1000101,1000100])]),(16,[(7,[55]),(8,[55,1000101,1000100])]),(10,[(5,[34]),(6,[34,1000101,1000100])]),(8,[(6,[25]),(7,[25,1000101,1000100])]),(1,[(4,[4]),(5,[5]),(6,[4]),(7,[5])])],[(33,ja.c33r.ck),(24,ja.c24r.ck),(16,ja.c16r.ck),(10,ja.c10r.ck),(8,ja.c8r.ck),(224581,ja.cw_r.ck),(212293,ja.ci_r.ck),(1,ja.c1r.ck)],[⟨90,JC.mc,JC.ok⟩,⟨42,jy.mc,jy.ok⟩,⟨91,jL.self.mc,jL.self.ok⟩,⟨92,jC.mc,jC.ok⟩,⟨93,jB.self.mc,jB.self.ok⟩,⟨94,jG.self.mc,jG.self.ok⟩,⟨96,Ym.mc,Ym.ok⟩],[]⟩
theorem ja.ok:MOk Z9 44 ja.mc:=fnM ja.G (mc:=ja.mc) Tryz.func44 (m:=8) ⟨⟨⟨⟨⟨⟨⟨⟨trivial,kR ja.c1r⟩,kJ ja.ci_r⟩,kJ ja.cw_r⟩,kR ja.c8r⟩,kR ja.c10r⟩,kR ja.c16r⟩,kR ja.c24r⟩,kR ja.c33r⟩
def jB.pre:Shape:=⟨[(0,tj0),(1,tj7)],[(1000100,tj2),(1000101,tj3)]⟩
def jB.post:Shape:=⟨[],[(1000101,tj3),(1000100,tj2)]⟩
def jB.cf_ {ρ:Type} (t17:List Z8)(t18:Int)(t19:Int)(ua:Int)(ub:List Int)(Z:(Int×Int×(List Int))⊕(Int×Int×(List Int))→Option ρ):Option ρ:=
  br (decide (t19<t18))
   (bnd (idx t17 t19) fun y=>
    bnd (jW.self (Rose.mk (y.head.1,y.head.2.1,y.head.2.2.1,y.head.2.2.2) y.kids,ua,ub,())) fun y1=>
    Z (.inl ((i64.wrap (t19+1)),y1.2.1,y1.1)))
   (Z (.inr (t19,ua,ub)))
def jB.cf_s:Shape:=(((((jB.pre.s 3 tj15).s 17 tj11).s 18 tj4).s 19 tj4).o 3 tj12)
def jB.cf_r:LC:=⟨jB.cf_s,[(jB.cf_s,2,[3,201,5,202])],no,[3,9,10],[1,2,3,9,10],fun _=>jB.cf_,fun _ _ _ _ _ _ _=>jN (jm fun _=>(jm fun _=>jd)) jd⟩
def jB (n:Z8) (ua:Int) (ub:List Int):Option ((List Int)×Int×Unit):=
  bnd (jy [Z5 [123,10]] ua ub) fun y=>
  bnd (iter (fun s↦jB.cf_ n.kids (↑(List.length n.kids):Int) s.1 s.2.1 s.2.2 some) ((0:Int),i64.wrap (y.2.1+1),y.1)) fun y1=>
  bnd (strings_Repeat (Z5 [9]) (i64.wrap (y1.2.1-1))) fun y2=>
  bnd (jy [y2,Z5 [125]] (i64.wrap (y1.2.1-1)) y1.2.2) fun y3=>
  some (y3.1,y3.2.1,())
def jB.mc:MCallee:=⟨93,jB.pre,jB.post,fun X=>jB X.1 X.2.1 X.2.2.1⟩
def jB.G:EB Z9:=⟨tb,Tryz.f93,[⟨43,strings_Repeat.ce,strings_Repeat.ok⟩],[0,1,3,5,17,18,19,20],[1000100,1000101],[],[(100004,jB.cf_r.ck)],[⟨42,jy.mc,jy.ok⟩,⟨21,jW.self.mc,jW.self.ok⟩],[]⟩
theorem jB.ok:MOk Z9 93 jB.mc:=fnM jB.G (mc:=jB.mc) Tryz.func93 (m:=1) ⟨trivial,kL jB.cf_r⟩
def jG.pre:Shape:=⟨[(0,tj0),(1,tj7)],[(1000100,tj2),(1000101,tj3)]⟩
def jG.post:Shape:=⟨[],[(1000101,tj3),(1000100,tj2)]⟩
def jG.cc_ {ρ:Type} (n3:Int)(ua:Int)(ub:List Int)(Z:Int×(List Int)→Option ρ):Option ρ:=
  br (n3==1)
   (bnd (jy [Z5 [33]] ua ub) fun y=>
    Z (y.2.1,y.1))
   (Z (ua,ub))
def jG.cc_s:Shape:=((jG.pre.s 3 tj15).o 3 tj12)
def jG.cc_r:RC:=⟨jG.cc_s,[(jG.cc_s,0,[6,202])],no,[4,6,7],fun _=>jG.cc_,fun _ _ _ _ _=>jN (jm fun _=>jd) jd⟩
def jG (n:Z8) (ua:Int) (ub:List Int):Option ((List Int)×Int×Unit):=
  bnd (jy [Z5 [105,102,32]] ua ub) fun y=>
  bnd (jG.cc_ n.head.2.2.2 y.2.1 y.1 some) fun y1=>
  bnd (Jh (Rose.mk (n.head.1,n.head.2.1,n.head.2.2.1,n.head.2.2.2) n.kids) (0:Int)) fun y2=>
  bnd (Jp y2) fun y3=>
  bnd (jy [y3,Z5 [32]] y1.1 y1.2) fun y4=>
  bnd (Jh (Rose.mk (n.head.1,n.head.2.1,n.head.2.2.1,n.head.2.2.2) n.kids) (1:Int)) fun y5=>
  bnd (jB.self (y5,y4.2.1,y4.1,())) fun y6=>
  br (decide ((↑(List.length n.kids):Int)>2))
   (bnd (jy [Z5 [32,101,108,115,101,32]] y6.2.1 y6.1) fun y7=>
    bnd (idx n.kids (2:Int)) fun y8=>
    bnd (jB.self (y8,y7.2.1,y7.1,())) fun y9=>
    some (y9.1,y9.2.1,()))
   (some (y6.1,y6.2.1,()))
def jG.mc:MCallee:=⟨94,jG.pre,jG.post,fun X=>jG X.1 X.2.1 X.2.2.1⟩
def jG.G:EB Z9:=⟨tb,Tryz.f94,[⟨89,Jh.ce,Jh.ok⟩,⟨95,Jp.ce,Jp.ok⟩],[0,1,3,9,26],[1000100,1000101],[],[(208197,jG.cc_r.ck)],[⟨42,jy.mc,jy.ok⟩,⟨93,jB.self.mc,jB.self.ok⟩],[]⟩
theorem jG.ok:MOk Z9 94 jG.mc:=fnM jG.G (mc:=jG.mc) Tryz.func94 (m:=1) ⟨trivial,kJ jG.cc_r⟩
def jL.pre:Shape:=⟨[(0,tj0),(1,tj7)],[(1000100,tj2),(1000101,tj3)]⟩
def jL.post:Shape:=⟨[],[(1000101,tj3),(1000100,tj2)]⟩
def jL.cc_ {ρ:Type} (n0:Int)(n1:Int)(n2:Z6)(n3:Int)(n4:List Z8)(ua:Int)(ub:List Int)(Z:Int×(List Int)→Option ρ):Option ρ:=
  bnd (Jh (Rose.mk (n0,n1,n2,n3) n4) (0:Int)) fun y=>
  br (decide ((↑(List.length y.kids):Int)>0))
   (bnd (Jh (Rose.mk (n0,n1,n2,n3) n4) (0:Int)) fun y1=>
    bnd (Ji y1) fun y2=>
    bnd (jy [Z5 [40],y2.1,Z5 [41]] ua ub) fun y3=>
    Z (y3.2.1,y3.1))
   (Z (ua,ub))
def jL.cc_s:Shape:=((jL.pre.s 3 tj15).o 3 tj12)
def jL.cc_r:RC:=⟨jL.cc_s,[(jL.cc_s,0,[6,202])],no,[1,2,3,4,5,6,7],fun _=>jL.cc_,fun _ _ _ _ _ _ _ _ _=>jm fun _=>(jN (jm fun _=>(jm fun _=>(jm fun _=>jd))) jd)⟩
def jL (n:Z8) (ua:Int) (ub:List Int):Option ((List Int)×Int×Unit):=
  bnd (jy [Z5 [103,97,116,101,32],n.head.2.2.1] ua ub) fun y=>
  bnd (jL.cc_ n.head.1 n.head.2.1 n.head.2.2.1 n.head.2.2.2 n.kids y.2.1 y.1 some) fun y1=>
  bnd (Jh (Rose.mk (n.head.1,n.head.2.1,n.head.2.2.1,n.head.2.2.2) n.kids) (1:Int)) fun y2=>
  bnd (Jj y2) fun y3=>
  bnd (jy [Z5 [32],y3.1,Z5 [32]] y1.1 y1.2) fun y4=>
  bnd (Jh (Rose.mk (n.head.1,n.head.2.1,n.head.2.2.1,n.head.2.2.2) n.kids) (2:Int)) fun y5=>
  bnd (jB.self (y5,y4.2.1,y4.1,())) fun y6=>
  some (y6.1,y6.2.1,())
def jL.mc:MCallee:=⟨91,jL.pre,jL.post,fun X=>jL X.1 X.2.1 X.2.2.1⟩
def jL.G:EB Z9:=⟨tb,Tryz.f91,[⟨89,Jh.ce,Jh.ok⟩],[0,1,3,13],[1000100,1000101],[],[(208197,jL.cc_r.ck)],[⟨42,jy.mc,jy.ok⟩,⟨115,Ji.mc,Ji.ok⟩,⟨93,jB.self.mc,jB.self.ok⟩,⟨1000023,Jj.mc,Jj.ok⟩],[]⟩
theorem jL.ok:MOk Z9 91 jL.mc:=fnM jL.G (mc:=jL.mc) Tryz.func91 (m:=1) ⟨trivial,kJ jL.cc_r⟩
end
@[reducible] def Ju.fuel:Nat→Ju.Self
  | 0=>{ F_tongue_printer_line_b:=fun _=>none,ok_tongue_printer_line_b:=⟨⟨Tryz.f21,Tryz.func21,by kernel_rfl,by kernel_rfl⟩,fun _ _ _ _ _ _ _ hy=>by cases hy⟩,F_tongue_printer_statement_b:=fun _=>none,ok_tongue_printer_statement_b:=⟨⟨Tryz.f44,Tryz.func44,by kernel_rfl,by kernel_rfl⟩,fun _ _ _ _ _ _ _ hy=>by cases hy⟩,F_tongue_printer_block_b:=fun _=>none,ok_tongue_printer_block_b:=⟨⟨Tryz.f93,Tryz.func93,by kernel_rfl,by kernel_rfl⟩,fun _ _ _ _ _ _ _ hy=>by cases hy⟩,F_tongue_printer_choice_b:=fun _=>none,ok_tongue_printer_choice_b:=⟨⟨Tryz.f94,Tryz.func94,by kernel_rfl,by kernel_rfl⟩,fun _ _ _ _ _ _ _ hy=>by cases hy⟩,F_tongue_printer_gate_b:=fun _=>none,ok_tongue_printer_gate_b:=⟨⟨Tryz.f91,Tryz.func91,by kernel_rfl,by kernel_rfl⟩,fun _ _ _ _ _ _ _ hy=>by cases hy⟩ }
  | n+1=>{ F_tongue_printer_line_b:=fun X=>(@jW.mc (Ju.fuel n)).F X,ok_tongue_printer_line_b:=@jW.ok (Ju.fuel n),F_tongue_printer_statement_b:=fun X=>(@ja.mc (Ju.fuel n)).F X,ok_tongue_printer_statement_b:=@ja.ok (Ju.fuel n),F_tongue_printer_block_b:=fun X=>(@jB.mc (Ju.fuel n)).F X,ok_tongue_printer_block_b:=@jB.ok (Ju.fuel n),F_tongue_printer_choice_b:=fun X=>(@jG.mc (Ju.fuel n)).F X,ok_tongue_printer_choice_b:=@jG.ok (Ju.fuel n),F_tongue_printer_gate_b:=fun X=>(@jL.mc (Ju.fuel n)).F X,ok_tongue_printer_gate_b:=@jL.ok (Ju.fuel n) }
def kS (X:densU jW.self.pre.tys):Option (densU jW.self.post.tys):=(Ju.fuel (1000000)).F_tongue_printer_line_b X
def kS.mc:MCallee:=⟨21,jW.self.pre,jW.self.post,fun X=>kS X⟩
theorem kS.ok:MOk Z9 21 kS.mc:=(Ju.fuel (1000000)).ok_tongue_printer_line_b
abbrev tj21:SD:=.one (.ref 1 0)
abbrev tj22:SD:=.one (.ref 7 0)
abbrev tj23:SO:=.box [.selfp 7 61,.own 2007 0,.val (.int .i64)]
def JB.cb_ (t9:List Z8)(t10:Int)(t11:Int)(t72:Int)(uc:List Int)(Z:(Int×Int×(List Int))⊕(Int×Int×(List Int))→Option ρ):Option ρ:=
  br (decide (t11<t10))
   (bnd (idx t9 t11) fun y=>
    bnd (kS (Rose.mk (y.head.1,y.head.2.1,y.head.2.2.1,y.head.2.2.2) y.kids,t72,uc,())) fun y1=>
    Z (.inl ((i64.wrap (t11+1)),y1.2.1,y1.1)))
   (Z (.inr (t11,t72,uc)))
def JB.cb_s:Shape:=⟨[(0,tj7),(1,tj21),(2,tj1),(3,tj22),(9,tj11),(10,tj4),(11,tj4)],[(1,tj12),(7,tj23),(2007,tj3)]⟩
def JB.cb_r:LC:=⟨JB.cb_s,[(JB.cb_s,2,[4,201,5,202])],no,[4,10,11],[2,3,4,10,11],@JB.cb_,fun _ _ _ _ _ _ _=>jN (jm fun _=>(jm fun _=>jd)) jd⟩
def JB (n:Z8):Option Z6:=
  bnd (iter (fun s↦JB.cb_ n.kids (↑(List.length n.kids):Int) s.1 s.2.1 s.2.2 some) ((0:Int),(0:Int),[])) fun y=>
  bnd (JA y.2.1 y.2.2) fun y1=>
  some y1.1
def JB.ce:=ceOf tab Tryz.f10 JB
def JB.G:EB Z9:=⟨tb,Tryz.f10,[],[0,1,2,3,5,9,10,11,12],[6,7,1007,2007],[],[(100003,JB.cb_r.ck)],[⟨21,kS.mc,kS.ok⟩,⟨22,JA.mc,JA.ok⟩],[]⟩
theorem JB.ok:CalleeOk Z9 10 JB.ce:=fnB JB.G Tryz.func10 (m:=1) ⟨trivial,kL JB.cb_r⟩
end
end W
end

section
set_option maxHeartbeats 4000000
set_option maxRecDepth 100000
namespace W
open Go Go.Ql Go.Proofs Go.IntKind
noncomputable section
variable {ρ:Type}
def kc (code:Int) (t1:Int):Option (Int×Int):=
  some (code,t1)
def kc.ce:Go.Ql.Callee:=⟨[(.int .i64),(.int .i64)],[(.st (.pair (.int .i64) (.int .i64)))],fun X=>kc X.1 X.2⟩
def kc.G:Env:=⟨8,tab,[],[0,1,4],[],[],[],[],Hi,[]⟩
theorem kc.ok:CalleeOk Z9 12 kc.ce:=fn_ok (G:=kc.G) VO mixed Tryz.func12 ⟨HD,Hq,UF,Hk⟩ (m:=0) (by kernel_rfl) trivial (by kernel_rfl) (fun _=>by kernel_rfl)
abbrev tn0:SD:=.one (.val .str)
abbrev tn1:SD:=.one (.ref 1000700 0)
abbrev tn2:SD:=.one (.ref 1000800 0)
abbrev tn3:SO:=.arr 0 false 24 (.st (.node (.pair (.int .i64) (.pair (.int .i64) (.pair .str (.int .i64))))))
abbrev tn4:SO:=.box [.val (.int .i64),.val (.int .i64),.val .str,.val (.int .i64),.own 1000695 0]
abbrev tn5:SO:=.box [.val (.int .i64),.val (.int .i64)]
abbrev tn6:SD:=.one (.ref 14 0)
abbrev tn7:SO:=.box [.val .str,.val (.int .i64),.val (.int .i64),.val .str,.val (.int .i64)]
abbrev tn8:SO:=.clo 0 [] [.val (.ifc 35 (.st (.int .i64)))]
def jz.pre:Shape:=⟨[(0,tn0),(2,tn1),(3,tn2)],[(1000695,tn3),(1000700,tn4),(1000800,tn5)]⟩
def jz.chk:St→Bool:=fun st=>match look st.slots 2,look st.slots 3,look st.objs 1000700,look st.objs 1000800 with | some (.one (.ref 1000700 0)),some (.one (.ref 1000800 0)),some (.box [.val (.int .i64) _,.val (.int .i64) _,.val .str _,.val (.int .i64) _,.own 1000695 0]),some (.box [.val (.int .i64) _,.val (.int .i64) _])=>true | _,_,_,_=>false
def jz.c8 (t140:Z6)(t141:Int)(t142:Int)(t143:Z6)(t144:Int)(ua:List Z8)(Z:(Z6×Int×Int×Z6×Int×(List Z8))⊕(Z6×Int×Int×Z6×Int×Int)→Option ρ):Option ρ:=
  bnd (jS t140 t141 t142 t143 t144) fun y=>
  sel y
   (fun u=>bnd (okIf (decide ((ua.length+1)*64≤140737488355328)&&decide (ua.length+1≤140737488355328))) fun y1=>
    bnd (inR (List.length (ua++[Rose.mk ((0:Int),(0:Int),Z5 [],(0:Int)) []])) (ua.length:Int)) fun y2=>
    bnd (idx (ua++[Rose.mk ((0:Int),(0:Int),Z5 [],(0:Int)) []]) (ua.length:Int)) fun y3=>
    Z (.inl (u.2.1,u.2.2.1,u.2.2.2.1,u.2.2.2.2.1,u.2.2.2.2.2.1,(List.set (ua++[Rose.mk ((0:Int),(0:Int),Z5 [],(0:Int)) []]) (Int.toNat (ua.length:Int)) u.1))))
   (fun v=>Z (.inr (v.2.1,v.2.2.1,v.2.2.2.1,v.2.2.2.2.1,v.2.2.2.2.2.1,v.1)))
def jz.c8s:Shape:=⟨[(0,tn0),(2,tn1),(3,tn2),(4,tn6)],[(14,tn7),(1000695,tn3),(1000700,tn4),(1000800,tn5)]⟩
def jz.c8x1:Shape:=⟨[(2,tn1),(3,tn2)],[(14,tn7),(900001,tn8),(1000695,tn3),(1000700,tn4),(1000800,tn5)]⟩
def jz.c8r:Ck:=Ck.of (T:=(Z6×Int×Int×Z6×Int×(List Z8))⊕(Z6×Int×Int×Z6×Int×Int)) jz.c8s (fun ρ X Z=>jz.c8 X.2.1 X.2.2.1 X.2.2.2.1 (q4 X).1 (q4 X).2.1 (q4 X).2.2.1 Z) (fun ρ X V Z=>sel V (fun V=>Z 0 (Shape.inj jz.c8s (X.1,V.1,V.2.1,V.2.2.1,V.2.2.2.1,V.2.2.2.2.1,V.2.2.2.2.2,(q4 X).2.2.2))) (fun V=>Z 1000000 (Shape.inj jz.c8x1 (V.1,V.2.1,V.2.2.1,V.2.2.2.1,V.2.2.2.2.1,V.2.2.2.2.2,(q4 X).2.2))))
def jz.ch_ (t140:Z6)(t141:Int)(t142:Int)(t143:Z6)(t144:Int)(ua:List Z8)(Z:(Z6×Int×Int×Z6×Int×(List Z8))⊕((Z6×Int×Int×Z6×Int×Int×(List Z8))⊕(Z6×Int×Int×Z6×Int×(List Z8)))→Option ρ):Option ρ:=
  br (t142 !=0)
   (bnd (jz.c8 t140 t141 t142 t143 t144 ua some) fun y=>
    sel y
     (fun u=>Z (.inl (u.1,u.2.1,u.2.2.1,u.2.2.2.1,u.2.2.2.2.1,u.2.2.2.2.2)))
     (fun v=>Z (.inr (.inl (v.1,v.2.1,v.2.2.1,v.2.2.2.1,v.2.2.2.2.1,v.2.2.2.2.2,ua)))))
   (Z (.inr (.inr (t140,t141,t142,t143,t144,ua))))
def jz.ch_r:Ck:=Ck.ofLoop (S:=Z6×Int×Int×Z6×Int×(List Z8)) (T:=(Z6×Int×Int×Z6×Int×Int×(List Z8))⊕(Z6×Int×Int×Z6×Int×(List Z8))) jz.c8s (fun X=>(X.2.1,X.2.2.1,X.2.2.2.1,(q4 X).1,(q4 X).2.1,(q4 X).2.2.1)) (fun ρ X Q Z=>jz.ch_ Q.1 Q.2.1 Q.2.2.1 Q.2.2.2.1 Q.2.2.2.2.1 Q.2.2.2.2.2 Z) (fun ρ X V Z=>sel V (fun V=>Z 1000000 (Shape.inj jz.c8x1 (V.1,V.2.1,V.2.2.1,V.2.2.2.1,V.2.2.2.2.1,V.2.2.2.2.2.1,V.2.2.2.2.2.2,(q4 X).2.2.2))) (fun V=>Z 2 (Shape.inj jz.c8s (X.1,V.1,V.2.1,V.2.2.1,V.2.2.2.1,V.2.2.2.2.1,V.2.2.2.2.2,(q4 X).2.2.2))))
def jz.c9  (Z:Unit→Option ρ):Option ρ:=
  Z ()
def jz.c9r:Ck:=Ck.of (T:=Unit) jz.c8s (fun ρ X Z=>jz.c9  Z) (fun ρ X V Z=>Z 0 (Shape.inj jz.c8s X))
def jz (text:Z6) (ua:List Z8) (ub:Int) (uc:Int) (ud:Z6) (ue:Int) (uf:Int) (ug:Int):Option ((Z8×(Int×Int))⊕Int):=
  bnd (jI text (0:Int) (0:Int) [] (0:Int)) fun y=>
  bnd (iter (fun s↦jz.ch_ s.1 s.2.1 s.2.2.1 s.2.2.2.1 s.2.2.2.2.1 s.2.2.2.2.2 some) (y.2.1,y.2.2.1,y.2.2.2.1,y.2.2.2.2.1,y.2.2.2.2.2.1,ua)) fun y1=>
  sel y1
   (fun u=>some (Sum.inr u.2.2.2.2.2.1))
   (fun v=>bnd (jz.c9 some) fun y2=>
    some (Sum.inl (Rose.mk ((1:Int),uc,ud,ue) v.2.2.2.2.2,uf,ug)))
def jz.F (X:densU jz.pre.tys):Option (dens [(.st (.node (.pair (.int .i64) (.pair (.int .i64) (.pair .str (.int .i64)))))),(.st (.pair (.int .i64) (.int .i64)))]⊕((.st (.int .i64)):Ty).den):=jz X.1 X.2.1 X.2.2.1 X.2.2.2.1 (q4 X).1 (q4 X).2.1 (q4 X).2.2.1 (q4 X).2.2.2.1
def jz.G:Env:=⟨35,tab,[(12,kc.ce)],[0,2,3,4,7,23],[2,8,5002,1000695,1000700,1000800,48000002,48000003],[(9,[⟨[],[],[34],[]⟩,⟨[],[],[33],[1000700]⟩,⟨[0],[1000700],[34],[]⟩,⟨[1,2,0],[1000800],[],[]⟩]),
  (8,[⟨[],[],[26,27,29],[14,29]⟩,⟨[0],[],[26,27,29],[14,29]⟩,⟨[],[],[24,25,28,29],[29]⟩,⟨[2],[14],[24,25,28,29],[29]⟩,⟨[1,0],[],[26,27,29],[14,29]⟩,⟨[],[29],[24,25,26,27,28],[14]⟩,⟨[1,0,5,3,2,4],[1000695],[],[]⟩,⟨[6,1,0,5,3,2,4],[],[32],[1000700]⟩,⟨[7,6,1,0,5,3,2,4],[1000695],[32],[1000700]⟩,⟨[0,1,2,3,4,5,6],[],[31],[1000695]⟩,⟨[9,0,1,2,3,4,5,6],[1000700],[31],[1000695]⟩])],[(9,jz.c9r),(100007,jz.ch_r),(8,jz.c8r)],[(14,jI.mc)],Hi,[(15,jS.ma)]⟩
theorem jz.p0:Yg jz.G (Vr (JP jz.G.cks (JY (segF3 Tryz.f6))) 0).1 (Vr (JP jz.G.cks (JY (segF3 Tryz.f6))) 0).2:=
  loop_ok (s:=jz.ch_r) (by kernel_rfl) (by kernel_rfl) (loops_of (sh:=jz.c8s) (I:=fun X Q=>(X.1,Q.1,Q.2.1,Q.2.2.1,Q.2.2.2.1,Q.2.2.2.2.1,Q.2.2.2.2.2,(q4 X).2.2.2)) (fun X=>rfl) (fun ρ X Q Z=>(jN (jm fun _=>(Jw (fun _=>jd) (fun _=>jd))) jd)) (fun ρ X t k=>(Jw (fun _=>(by kernel_rfl)) (fun _=>(by kernel_rfl)))) (fun X s=>by kernel_rfl))
theorem jz.p1:Yg jz.G (Vr (JP jz.G.cks (JY (segF3 Tryz.f6))) 1).1 (Vr (JP jz.G.cks (JY (segF3 Tryz.f6))) 1).2:=
  region_ok (s:=jz.c8r) (by kernel_rfl) (by kernel_rfl) (sums_of (sh:=jz.c8s) (fun ρ X Z=>(jm fun _=>(Jw (fun _=>(jm fun _=>(jm fun _=>(jm fun _=>jd)))) (fun _=>jd)))) (fun ρ X t k=>(Jw (fun _=>(by kernel_rfl)) (fun _=>(by kernel_rfl)))) (fun X=>by kernel_rfl))
theorem jz.p2:Yg jz.G (Vr (JP jz.G.cks (JY (segF3 Tryz.f6))) 2).1 (Vr (JP jz.G.cks (JY (segF3 Tryz.f6))) 2).2:=
  region_ok (s:=jz.c9r) (by kernel_rfl) (by kernel_rfl) (sums_of (sh:=jz.c8s) (fun ρ X Z=>jd) (fun ρ X t k=>(by kernel_rfl)) (fun X=>by kernel_rfl))
theorem jz.ok:SegOk jz.G (segF3 Tryz.f6) jz.pre jz.chk [(.st (.node (.pair (.int .i64) (.pair (.int .i64) (.pair .str (.int .i64)))))),(.st (.pair (.int .i64) (.int .i64)))] 35 (.st (.int .i64)) jz.F:=segOk (m:=3) ⟨⟨⟨trivial,jz.p0⟩,jz.p1⟩,jz.p2⟩ (by kernel_rfl)
end
end W
end

section
set_option maxHeartbeats 800000
set_option maxRecDepth 100000
namespace W
open Go Go.Ql Go.Proofs
theorem as_yes (v:Value) (w:World):(Instr.typeAssert (.iface 35 v) 20 35 true).run Tryz.prog w=.ok (.tuple #[v,.bool true]) w:=by kernel_rfl
theorem catch_idle (p q:Value) (w:World):CallsD Tryz.prog 13 #[p,q] .returning w fun e u' w'=>e=.returned (.tuple #[])∧u'=.returning∧Same w w':=by
 refine callsD_of_wpS Tryz.func13 rfl fun c₀ cs hu=>?_
 apply wpS_seq
 apply wpS_region
 simp [wpOpsS,go_sem,recoverD,hu,Tryz.ntmps13,Exit.thenS]
 refine wpS_of_wp ?_
 apply wp_block
 apply wp_seq
 apply wp_region
 simp [wpOps,go_sem]
 refine .inl (wp_cond (t:=true) ?_ ?_)
 ·simp [Act.eval,Array.replicate]
 simp only [if_true]
 apply wp_region
 simp [wpOps,go_sem]
 refine .inl ?_
 cases c₀
 simp_all [bodyPostS,results,Tryz.results13,Exit.inBlock]
 exact Same.refl w
abbrev nodeT:Ty:=.st (.node (.pair (.int .i64) (.pair (.int .i64) (.pair .str (.int .i64)))))
abbrev fauT:Ty:=.st (.pair (.int .i64) (.int .i64))
noncomputable def kfin (e:Ex) (st:St):Option (dens [nodeT,fauT]):=bif Nat.blt e 2 then resK jz.G ⟨[(2,.one (.ref 1000700 0)),(3,.one (.ref 1000800 0))],st.objs⟩ Tryz.f6.results.toList (finK (Ql.look st.objs) [nodeT,fauT] fun x=>x) else none
noncomputable def c67:Code:=match Tryz.f13.body with
 | some (.seq _ (.block _ (.seq _ (.cond _ _ (.seq _ (.cond _ a _))))))=>a
 | _=>.skip
noncomputable def G13:Env:=⟨15,tab,[(12,kc.ce)],[0,1,3,10,11,14],[],[],[],[],Hi,[]⟩
def st13 (k a:Int) (s:Z6) (n f0 f1 at_:Int):St:=⟨[(0,.one (.ref 1000700 0)),(1,.one (.ref 1000800 0)),(10,.agg [.val (.int .i64) at_])],
 [(1000700,.box [.val (.int .i64) k,.val (.int .i64) a,.val .str s,.val (.int .i64) n,.own 1000695 0]),(1000800,.box [.val (.int .i64) f0,.val (.int .i64) f1])]⟩
theorem tail_eq (k a:Int) (s:Z6) (n f0 f1 at_:Int):execK G13 c67 _ (st13 k a s n f0 f1 at_) kfin=some ((Rose.mk (0,0,[],0) []:nodeT.den),((1,at_):Int×Int)):=by kernel_rfl
theorem clo_all:AllOk Tryz.prog G13:=⟨fns_cons kc.ok HD,Hq,UF,Hk⟩
theorem c67_draws:kG G13 c67=true:=by kernel_rfl
theorem c67_pieces:JP G13.cks c67=[]:=by kernel_rfl
theorem look_two {A B:Ob} {id:Nat} {ob:Ob} (h:Ql.look [(1000700,A),(1000800,B)] id=some ob):(id=1000700∧ob=A)∨(id=1000800∧ob=B):=by
 have h:=kV h
 simpa [zm] using h
theorem rd_one {w:World} {c:Int} (Z:Nat→Prop) (nm:Names) (objs:List (Nat×Ob)):rdAs w Z nm objs [.val (.int .i64) c] [.int .i64 c]:=
 ⟨rfl,fun i a v h1 h2=>by
  match i,h1,h2 with
  | 0,h1,h2=>cases h1;cases h2;rfl
  | i+1,h1,_=>cases h1⟩
theorem catch_thrown {n:Nat} {w0 w:World} {Z:Nat→Prop} {nm0:Names} {df:List Deferred} {cm:Bool} {st:St} {a:Act} {nm:Names} (hR:Rel n w0 ⟨Z,fun _=>False,nm0,df,cm⟩ st a w nm) {k at0 m:Int} {s:Z6} {f0 f1:Int}
 (h2:Ql.look st.objs 1000700=some (.box [.val (.int .i64) k,.val (.int .i64) at0,.val .str s,.val (.int .i64) m,.own 1000695 0])) (h3:Ql.look st.objs 1000800=some (.box [.val (.int .i64) f0,.val (.int .i64) f1])) {b2 b3:Nat}
 (e2:nm 1000700=.pointer (some ⟨b2,0,none⟩)) (e3:nm 1000800=.pointer (some ⟨b3,0,none⟩)) (at_:Int) (older:List PanicEntry)
 {a2:Act} (s2:a2.tmps.size=35) (t2:a2.tmps[2]?=some (.pointer (some ⟨b2,0,none⟩))) (t3:a2.tmps[3]?=some (.pointer (some ⟨b3,0,none⟩))) :
 CallsD Tryz.prog 13 #[.pointer (some ⟨b2,0,none⟩),.pointer (some ⟨b3,0,none⟩)] (.panicking ({ v:=.iface 35 (.agg #[.int .i64 at_]),recovered:=false }::older)) w
 fun e u' w'=>e=.returned (.tuple #[])∧u'=.panicking ({ v:=.iface 35 (.agg #[.int .i64 at_]),recovered:=true }::older) ∧
  ∃v,(results Tryz.f6 a2.tmps).run Tryz.prog w'=.ok v w'∧Same w0 w'∧rdRes w' (VD w0 w' Z) [nodeT,fauT] ((Rose.mk (0,0,[],0) []:nodeT.den),((1,at_):Int×Int)) v:=by
 refine callsD_of_wpS Tryz.func13 rfl fun c₀ cs hu=>?_
 apply wpS_seq
 apply wpS_region
 simp [wpOpsS,go_sem,recoverD,hu,Tryz.ntmps13,Exit.thenS]
 refine wpS_of_wp ?_
 apply wp_block
 apply wp_seq
 apply wp_region
 simp [wpOps,go_sem]
 refine .inl (wp_cond (t:=false) ?_ ?_)
 ·simp [Act.eval,Array.replicate]
 simp only [zd,if_false]
 apply wp_seq
 apply wp_region
 simp [wpOps,go_sem,as_yes]
 refine .inl (.inl (.inl (wp_cond (t:=true) ?_ ?_)))
 ·simp [Act.eval,Array.replicate]
 simp only [if_true]
 have r1:Rel n w0 ⟨Z,fun _=>False,nm0,df,cm⟩ ⟨[],[(1000700,.box [.val (.int .i64) k,.val (.int .i64) at0,.val .str s,.val (.int .i64) m,.own 1000695 0]),(1000800,.box [.val (.int .i64) f0,.val (.int .i64) f1])]⟩ a w nm:=hR.only2 (by
  intro id ob hl
  rcases look_two hl with ⟨rfl,rfl⟩ | ⟨rfl,rfl⟩
  ·refine ⟨h2,Ob.semi.ok ?_⟩
   intro x hx
   simp only [zz,List.not_mem_nil,or_false] at hx
   rcases hx with rfl | rfl | rfl | rfl | rfl
   ·exact .inl ⟨_,_,rfl⟩
   ·exact .inl ⟨_,_,rfl⟩
   ·exact .inl ⟨_,_,rfl⟩
   ·exact .inl ⟨_,_,rfl⟩
   ·exact .inr ⟨_,_,rfl,rfl⟩
  ·refine ⟨h3,Ob.semi.ok ?_⟩
   intro x hx
   simp only [zz,List.not_mem_nil,or_false] at hx
   rcases hx with rfl | rfl
   ·exact .inl ⟨_,_,rfl⟩
   ·exact .inl ⟨_,_,rfl⟩)
 refine wpIn_wide.1 (YR VO clo_all mixed c67 c67_draws (by rw [c67_pieces];intro p hp;cases hp) (w0:=w0) (Z0:=⟨Z,fun _=>False,nm0,[],true⟩) none (.inr (by kernel_rfl)) (st:=st13 k at0 s m f0 f1 at_) (nm:=nm) (r:=((Rose.mk (0,0,[],0) []:nodeT.den),((1,at_):Int×Int))) (k:=kfin) ?_ (tail_eq k at0 s m f0 f1 at_) ?_)
 ·refine r1.frame rfl (by simp;rfl) ?_
  intro t d hl
  have hl:=kV hl
  replace hl:(t,d)∈[(0,Dv.one (.ref 1000700 0)),(1,.one (.ref 1000800 0)),(10,.agg [.val (.int .i64) at_])]:=hl
  simp only [zz,zm,List.not_mem_nil,or_false] at hl
  rcases hl with ⟨rfl,rfl⟩ | ⟨rfl,rfl⟩ | ⟨rfl,rfl⟩
  ·exact ⟨.pointer (some ⟨b2,0,none⟩),by simp,rfl,fun cs hl=>⟨b2,e2,rfl⟩⟩
  ·exact ⟨.pointer (some ⟨b3,0,none⟩),by simp,rfl,fun cs hl=>⟨b3,e3,rfl⟩⟩
  ·refine ⟨.agg #[.int .i64 at_],by simp,#[.int .i64 at_],rfl,rd_one _ _ _,fun u hu=>?_⟩
   simp at hu
   subst hu
   rfl
 ·intro e st' a' w' nm' h' hk _
  unfold kfin at hk
  cases hlt:Nat.blt e 2 with
  | false=>rw [hlt] at hk;cases hk
  | true=>
    rw [hlt] at hk
    simp only [ze] at hk
    have hF:=h'.frame (cm:=false) (n':=35) (a':=a2) (df:=a2.defers) (sl:=[(2,.one (.ref 1000700 0)),(3,.one (.ref 1000800 0))]) rfl s2 (by
     intro t d hl
     have hl:=kV hl
     simp only [zz,zm,List.not_mem_nil,or_false] at hl
     rcases hl with ⟨rfl,rfl⟩ | ⟨rfl,rfl⟩
     ·refine ⟨_,t2,rfl,fun cs hl=>?_⟩
      have hg:=h'.given 1000700 _ (by decide) hl trivial
      have hg2:=hR.given 1000700 _ (by decide) h2 trivial
      exact ⟨b2,(hg.trans hg2.symm).trans e2,rfl⟩
     ·refine ⟨_,t3,rfl,fun cs hl=>?_⟩
      have hg:=h'.given 1000800 _ (by decide) hl trivial
      have hg3:=hR.given 1000800 _ (by decide) h3 trivial
      exact ⟨b3,(hg.trans hg3.symm).trans e3,rfl⟩)
    obtain ⟨x',v,hx,hv,hs,hr⟩:=res_fin (G:=jz.G) (fn:=Tryz.f6) (rs:=[nodeT,fauT]) (f:=fun x=>x) VO hF hk
    subst hx
    match e,hlt with
    | 0,_=>exact ⟨h'.calm rfl,_,rfl,_,by simp [results,Tryz.results13],rfl,rfl,v,hv,hs,hr⟩
    | 1,_=>exact ⟨h'.calm rfl,_,rfl,_,by simp [results,Tryz.results13],rfl,rfl,v,hv,hs,hr⟩
    | n+2,h=>rw [Nat.blt_eq] at h;omega
abbrev zeroN:nodeT.den:=Rose.mk (0,0,[],0) []
noncomputable def kE (text:Z6):Option (nodeT.den×(Int×Int)):=
 br (decide ((text.length:Int)>40000)) (some (zeroN,(2,0)))
  (bnd (jz text [] 0 0 [] 0 0 0) fun y=>sel y (fun u=>some u) (fun v=>some (zeroN,(1,v))))
noncomputable def kE.ce:Go.Ql.Callee:=⟨[.str],[nodeT,fauT],fun x_=>kE x_⟩
noncomputable def r0:Code:=match Tryz.f6.body with
 | some (.seq a _)=>a
 | _=>.skip
noncomputable def r1:Code:=match Tryz.f6.body with
 | some (.seq _ (.seq a _))=>a
 | _=>.skip
noncomputable def r3:Code:=match Tryz.f6.body with
 | some (.seq _ (.seq _ (.seq a _)))=>a
 | _=>.skip
theorem body_eq:Tryz.f6.body=some (.seq r0 (.seq r1 (.seq r3 (JY (segF3 Tryz.f6))))):=by kernel_rfl
noncomputable def GD:Env:=⟨35,tab,[(12,kc.ce)],[0,2,3,4,7,23],[2,5002],[],[],[],Hi,[]⟩
noncomputable def stD (s:Z6):St:=⟨[(0,.one (.val .str s)),(2,.one (.ref 2 0)),(3,.one (.ref 3 0))],
 [(2,.box [.val (.int .i64) 0,.val (.int .i64) 0,.val .str [],.val (.int .i64) 0,.own 5002 0]),(3,.box [.val (.int .i64) 0,.val (.int .i64) 0]),(5002,.arr 0 false 24 nodeT [])]⟩
theorem r0_eq (s:Z6):execK GD r0 (Ex×St) ⟨[(0,.one (.val .str s))],[]⟩ (fun e st=>some (e,st))=some (0,stD s):=by kernel_rfl
theorem door_all:AllOk Tryz.prog GD:=⟨fns_cons kc.ok HD,Hq,UF,Hk⟩
theorem r0_draws:kG GD r0=true:=by kernel_rfl
theorem r0_pieces:JP GD.cks r0=[]:=by kernel_rfl
theorem r1_draws:kG GD r1=true:=by kernel_rfl
theorem r1_pieces:JP GD.cks r1=[]:=by kernel_rfl
noncomputable def kdoor (b:Bool) (e:Ex) (st:St):Option (dens [nodeT,fauT]⊕(Ex×St)):=bif Nat.beq e 1 then resK GD st Tryz.f6.results.toList (finK (Ql.look st.objs) [nodeT,fauT] fun x=>.inl x) else some (.inr (e,st))
theorem r1_eq (s:Z6):execK GD r1 _ (stD s) (kdoor true)=br (decide ((s.length:Int)>40000)) (some (.inl (zeroN,((2,0):Int×Int)))) (some (.inr (0,stD s))):=by kernel_rfl
theorem parse_all:AllOk Tryz.prog jz.G:=⟨fns_cons kc.ok HD,mfns_cons jI.ok Hq,UF,alts_cons jS.ok Hk⟩
theorem mkf (fn:Fn) (first cap:Array Value) (w:World):(Instr.makeFunc fn first cap).run Tryz.prog w=.ok (.func fn first cap) w:=rfl
def dfd (p q:Addr):Deferred:=⟨.fn (.func 13) #[.pointer (some p),.pointer (some q)],#[]⟩
theorem r3_wp {Q:Exit→Act→World→Prop} {a:Act} {w:World} {p q:Addr} (hsz:a.tmps.size=35) (h2:a.tmps[2]?=some (.pointer (some p))) (h3:a.tmps[3]?=some (.pointer (some q))) (hd:a.defers=[])
 (h:Q .normal ⟨a.tmps.setIfInBounds 10 (.func (.func 13) #[] #[.pointer (some p),.pointer (some q)]),[dfd p q]⟩ w):r3.wp Tryz.prog Q a w:=by
 unfold r3 Tryz.f6
 apply wp_region
 have e2:a.tmps.getD 2 undef=.pointer (some p):=by simp [h2]
 have e3:a.tmps.getD 3 undef=.pointer (some q):=by simp [h3]
 simp [wpOps,go_sem,mkf,h2,h3,hd,hsz]
 rw [(Array.getElem?_eq_some_iff.1 h2).2,(Array.getElem?_eq_some_iff.1 h3).2]
 exact .inl (.inl h)
theorem ins_args (w:World) (p q:Addr):(invoke (.fn (.func 13) #[.pointer (some p),.pointer (some q)]) #[]).run Tryz.prog w=.ok (.enter 13 #[.pointer (some p),.pointer (some q)]) w:=by
 simp [go_sem]
def oldN (i:Nat):Nat:=if i=1000700 then 2 else if i=1000800 then 3 else 5002
theorem look_three {A B C:Ob} {id:Nat} {ob:Ob} (h:Ql.look [(1000695,A),(1000700,B),(1000800,C)] id=some ob):(id=1000695∧ob=A)∨(id=1000700∧ob=B)∨(id=1000800∧ob=C):=by
 have h:=kV h
 simpa [zm] using h
theorem frame_slots {s:Z6} {w:World} {Z0:Bs} {nm:Names} {objs:List (Nat×Ob)} {w0:World} {a:Act} {b2 b3:Nat} (h0:a.tmps[0]?=some (.string ⟨s.toArray⟩)) (h2:a.tmps[2]?=some (.pointer (some ⟨b2,0,none⟩))) (h3:a.tmps[3]?=some (.pointer (some ⟨b3,0,none⟩)))
 (e2:nm 1000700=.pointer (some ⟨b2,0,none⟩)) (e3:nm 1000800=.pointer (some ⟨b3,0,none⟩)) :
 ∀t d,Ql.look [(0,Dv.one (.val .str s)),(2,.one (.ref 1000700 0)),(3,.one (.ref 1000800 0))] t=some d → ∃v,a.tmps[t]?=some v∧rdD w (Zc w0 Z0 nm objs w) nm objs d v:=by
 intro t d hl
 have hl:=kV hl
 simp only [zz,zm,List.not_mem_nil,or_false] at hl
 rcases hl with ⟨rfl,rfl⟩ | ⟨rfl,rfl⟩ | ⟨rfl,rfl⟩
 ·exact ⟨_,h0,rfl⟩
 ·exact ⟨_,h2,rfl,fun cs hl=>⟨b2,e2,rfl⟩⟩
 ·exact ⟨_,h3,rfl,fun cs hl=>⟨b3,e3,rfl⟩⟩
theorem chk_inv {st:St} (h:jz.chk st=true):Ql.look st.slots 2=some (.one (.ref 1000700 0))∧Ql.look st.slots 3=some (.one (.ref 1000800 0)) ∧
 (∃k at0 s m,Ql.look st.objs 1000700=some (.box [.val (.int .i64) k,.val (.int .i64) at0,.val .str s,.val (.int .i64) m,.own 1000695 0])) ∧ ∃f0 f1,Ql.look st.objs 1000800=some (.box [.val (.int .i64) f0,.val (.int .i64) f1]):=by
 unfold jz.chk at h
 split at h
 ·rename_i h1 h2 h3 h4
  exact ⟨h1,h2,⟨_,_,_,_,h3⟩,_,_,h4⟩
 ·cases h
theorem kE.ok:CalleeOk Tryz.prog 6 kE.ce:=by
 refine ⟨⟨Tryz.f6,Tryz.func6,by kernel_rfl,by kernel_rfl⟩,fun w Z vs s r hg hZ ha hr=>?_⟩
 obtain ⟨v,rfl,hv⟩:=ha
 change [v]=[Value.string ⟨List.toArray s⟩] at hv
 obtain rfl:=List.cons.inj hv |>.1
 have hr:kE s=some r:=hr
 unfold kE at hr
 refine calls_of_wp_defers Tryz.func6 body_eq ?_
 apply wp_seq
 have hrel:Rel 35 w ⟨Z,fun _=>False,fun _=>undef,[],true⟩ ⟨[(0,.one (.val .str s))],[]⟩ { tmps:=[Value.string ⟨List.toArray s⟩].toArray++Array.replicate (Tryz.f6.ntmps-[Value.string ⟨List.toArray s⟩].toArray.size) undef,defers:=[] } w (fun _=>undef):=by
  refine ⟨⟨[],rfl,Marks.nil _ _ _⟩,by simp,fun t d hl=>?_,fun id ob hl=>by simp [Ql.look] at hl,fun id ob b hl=>by simp [Ql.look] at hl,fun id id' ob ob' b hl=>by simp [Ql.look] at hl,SameBut.refl _ w,fun id ob _ hl=>by simp [Ql.look] at hl,⟨hg,fun b hb=>hb.elim⟩,fun _=>rfl⟩
  have hl:=kV hl
  simp only [zz,zm,List.not_mem_nil,or_false] at hl
  obtain ⟨rfl,rfl⟩:=hl
  exact ⟨.string ⟨List.toArray s⟩,by simp,rfl⟩
 refine wpIn_wide.1 (YR VO door_all mixed r0 r0_draws (by rw [r0_pieces];intro p hp;cases hp) none (.inr (by kernel_rfl)) hrel (r0_eq s) ?_)
 intro e st0 a0 w0 nm0 h0 hk0 _
 cases hk0
 show Code.wp Tryz.prog _ _ a0 w0
 apply wp_seq
 cases hlen:decide ((s.length:Int)>40000) with
 | true=>
   rw [hlen] at hr
   cases hr
   refine wpIn_wide.1 (YR VO door_all mixed r1 r1_draws (by rw [r1_pieces];intro p hp;cases hp) none (.inr (by kernel_rfl)) h0 ((r1_eq s).trans (by rw [hlen];rfl)) ?_)
   intro e st1 a1 w1 nm1 h1 hk1 _
   unfold kdoor at hk1
   cases he:Nat.beq e 1 with
   | false=>rw [he] at hk1;cases hk1
   | true=>
     have:=beqN.1 he
     subst this
     rw [he] at hk1
     simp only [ze] at hk1
     show Leaves Tryz.prog Tryz.f6 a1.tmps _ a1.defers .returning w1
     rw [h1.calm rfl]
     obtain ⟨x',v,hx,hv,hsm,hrd⟩:=res_fin (G:=GD) (fn:=Tryz.f6) (rs:=[nodeT,fauT]) (ρ:=dens [nodeT,fauT]⊕(Ex×St)) (f:=Sum.inl) VO h1 hk1
     cases hx
     exact ⟨v,hv,v,rfl,hsm,hrd⟩
 | false=>
   rw [hlen] at hr
   obtain ⟨y,hy,hr⟩:=jQ hr
   refine wpIn_wide.1 (YR VO door_all mixed r1 r1_draws (by rw [r1_pieces];intro p hp;cases hp) none (.inr (by kernel_rfl)) h0 ((r1_eq s).trans (by rw [hlen];rfl)) ?_)
   intro e st1 a1 w1 nm1 h1 hk1 _
   unfold kdoor at hk1
   cases he:Nat.beq e 1 with
   | true=>
     rw [he] at hk1
     simp only [ze] at hk1
     obtain ⟨x',v,hx,hv,hsm,hrd⟩:=res_fin (G:=GD) (fn:=Tryz.f6) (rs:=[nodeT,fauT]) (ρ:=dens [nodeT,fauT]⊕(Ex×St)) (f:=Sum.inl) VO h1 hk1
     cases hx
   | false=>
     rw [he] at hk1
     simp only [zf] at hk1
     cases hk1
     show Code.wp Tryz.prog _ _ a1 w1
     apply wp_seq
     obtain ⟨v0,t0,d0⟩:=h1.slots 0 _ rfl
     obtain ⟨v2,t2,d2⟩:=h1.slots 2 _ rfl
     obtain ⟨v3,t3,d3⟩:=h1.slots 3 _ rfl
     have d0:[v0]=[Value.string ⟨List.toArray s⟩]:=d0
     obtain rfl:=(List.cons.inj d0).1
     obtain ⟨b2,n2,rfl⟩:=d2.2 _ rfl
     obtain ⟨b3,n3,rfl⟩:=d3.2 _ rfl
     refine r3_wp h1.size t2 t3 (h1.calm rfl) ?_
     have q1:=h1.renum2 (objs:=[(1000695,.arr 0 false 24 nodeT []),(1000700,.box [.val (.int .i64) 0,.val (.int .i64) 0,.val .str [],.val (.int .i64) 0,.own 1000695 0]),(1000800,.box [.val (.int .i64) 0,.val (.int .i64) 0])]) (nm':=fun i=>nm1 (oldN i)) (old:=oldN) (by
      intro i j hij hi hj
      obtain ⟨o,ho⟩:=Option.isSome_iff_exists.1 hi
      obtain ⟨o',ho'⟩:=Option.isSome_iff_exists.1 hj
      rcases look_three ho with ⟨rfl,_⟩ | ⟨rfl,_⟩ | ⟨rfl,_⟩<;>rcases look_three ho' with ⟨rfl,_⟩ | ⟨rfl,_⟩ | ⟨rfl,_⟩<;>first | rfl | (exact absurd hij (by decide))) (by
      intro id ob hl
      rcases look_three hl with ⟨rfl,rfl⟩ | ⟨rfl,rfl⟩ | ⟨rfl,rfl⟩
      ·exact ⟨_,rfl,rfl,rfl⟩
      ·refine ⟨_,rfl,⟨_,rfl,rfl,fun j x hx=>?_⟩,rfl⟩
       match j,hx with
       | 0,hx=>cases hx;exact ⟨_,rfl,.inl ⟨_,_,rfl,rfl⟩⟩
       | 1,hx=>cases hx;exact ⟨_,rfl,.inl ⟨_,_,rfl,rfl⟩⟩
       | 2,hx=>cases hx;exact ⟨_,rfl,.inl ⟨_,_,rfl,rfl⟩⟩
       | 3,hx=>cases hx;exact ⟨_,rfl,.inl ⟨_,_,rfl,rfl⟩⟩
       | 4,hx=>cases hx;exact ⟨_,rfl,.inr ⟨_,_,rfl,rfl⟩⟩
       | j+5,hx=>cases hx
      ·refine ⟨_,rfl,⟨_,rfl,rfl,fun j x hx=>?_⟩,rfl⟩
       match j,hx with
       | 0,hx=>cases hx;exact ⟨_,rfl,.inl ⟨_,_,rfl,rfl⟩⟩
       | 1,hx=>cases hx;exact ⟨_,rfl,.inl ⟨_,_,rfl,rfl⟩⟩
       | j+2,hx=>cases hx)
     have m2:(fun i=>nm1 (oldN i)) 1000700=.pointer (some ⟨b2,0,none⟩):=n2
     have m3:(fun i=>nm1 (oldN i)) 1000800=.pointer (some ⟨b3,0,none⟩):=n3
     have q2:=q1.frame (cm:=true) (n':=35) (a':=⟨a1.tmps.setIfInBounds 10 (.func (.func 13) #[] #[.pointer (some ⟨b2,0,none⟩),.pointer (some ⟨b3,0,none⟩)]),[dfd ⟨b2,0,none⟩ ⟨b3,0,none⟩]⟩) (df:=[dfd ⟨b2,0,none⟩ ⟨b3,0,none⟩]) rfl (by rw [Array.size_setIfInBounds];exact h1.size)
      (frame_slots (s:=s) (by simpa using t0) (by simpa using t2) (by simpa using t3) m2 m3)
     have key:execK jz.G (JY (segF3 Tryz.f6)) _ (jz.pre.inj (s,([]:List nodeT.den),(0:Int),(0:Int),([]:Z6),(0:Int),(0:Int),(0:Int),())) (HC jz.G (segF3 Tryz.f6).results.toList [nodeT,fauT] 35 (.st (.int .i64)) jz.chk)=some y:=(jz.ok.eq (s,([]:List nodeT.den),(0:Int),(0:Int),([]:Z6),(0:Int),(0:Int),(0:Int),())).trans hy
     refine wpIn_wide.1 (YR VO parse_all mixed (JY (segF3 Tryz.f6)) jz.ok.draws jz.ok.ps none (.inr (by kernel_rfl)) (st:=jz.pre.inj (s,([]:List nodeT.den),(0:Int),(0:Int),([]:Z6),(0:Int),(0:Int),(0:Int),())) q2 key ?_)
     intro e st a w2 nm h hk _
     unfold HC at hk
     cases hlt:Nat.blt e 2 with
     | true=>
       rw [hlt] at hk
       simp only [ze] at hk
       have fin:Leaves Tryz.prog Tryz.f6 a.tmps (fun e w'=>∃v,e=.returned v∧Same w w'∧rdRes w' (VD w w' Z) [nodeT,fauT] r v) a.defers .returning w2:=by
        rw [h.calm rfl]
        refine leaves_cons (by simp) (ins_args _ _ _) ?_
        refine (catch_idle _ _ w2).mono ?_
        rintro e u' w3 ⟨rfl,rfl,hs⟩
        obtain ⟨x',v,hx,hv,hsm,hrd⟩:=res_fin (G:=jz.G) (fn:=Tryz.f6) (rs:=[nodeT,fauT]) (ρ:=dens [nodeT,fauT]⊕(Ty.st (.int .i64)).den) (f:=Sum.inl) VO (h.grow hs) hk
        subst hx
        cases hr
        exact ⟨v,hv,v,rfl,hsm,hrd⟩
       match e,hlt with
       | 0,_=>exact fin
       | 1,_=>exact fin
       | n+2,h=>rw [Nat.blt_eq] at h;omega
     | false=>
       rw [hlt] at hk
       simp only [zf] at hk
       cases hp:Nat.beq e pEx&&jz.chk st with
       | false=>rw [hp] at hk;cases hk
       | true=>
         rw [hp] at hk
         simp only [ze] at hk
         rw [z7] at hp
         obtain ⟨hpe,hch⟩:=hp
         have:=beqN.1 hpe
         subst this
         split at hk
         ·rename_i s' d' ho
          split at hk
          ·rename_i hs'
           subst hs'
           cases hk
           obtain ⟨vx,vy,g1,g2,g3⟩:=h.objs payId _ ho
           have e1:vx=#[]:=by
            have:=g2.1
            simp at this
            exact this
           obtain ⟨v,e2⟩:∃v,vy=#[v]:=by
            have:=g3.1
            match hv:vy.toList,this with
            | [v],_=>exact ⟨v,by rw [←Array.toArray_toList (xs:=vy),hv]⟩
           subst e1;subst e2
           have hv:=g3.2 0 _ _ rfl rfl
           obtain ⟨u,us,eu,hu,hc⟩:=hv
           have eu:=(List.cons.inj eu).1
           obtain rfl:v=.iface 35 u:=eu
           have hu:u=.agg us:=by
            rcases hu with ⟨_,e⟩ | ⟨hu,_⟩
            ·exact e
            ·cases hu
           subst hu
           have ec:us.toList=[.int .i64 d']:=hc
           have eus:us=#[.int .i64 d']:=by rw [←Array.toArray_toList (xs:=us),ec]
           subst eus
           obtain ⟨s2,s3,⟨k,at0,nmz,m,o2⟩,f0,f1,o3⟩:=chk_inv hch
           have k2:nm 1000700=_:=h.given 1000700 _ (by decide) o2 trivial
           have k3:nm 1000800=_:=h.given 1000800 _ (by decide) o3 trivial
           have k2:=k2.trans m2
           have k3:=k3.trans m3
           obtain ⟨u2,t2',d2'⟩:=h.slots 2 _ s2
           obtain ⟨u3,t3',d3'⟩:=h.slots 3 _ s3
           obtain ⟨b4,j2,rfl⟩:=d2'.2 _ o2
           obtain ⟨b5,j3,rfl⟩:=d3'.2 _ o3
           rw [k2] at j2
           rw [k3] at j3
           cases j2
           cases j3
           show qEx _ nm pBad a w2
           unfold qEx
           rw [if_pos rfl]
           refine ⟨_,g1,?_⟩
           show Leaves Tryz.prog Tryz.f6 a.tmps _ a.defers (.panicking [_]) w2
           rw [h.calm rfl]
           refine leaves_cons (by simp) (ins_args _ _ _) ?_
           refine (catch_thrown h o2 o3 k2 k3 d' [] (a2:=a) h.size t2' t3').mono ?_
           rintro e u' w3 ⟨rfl,rfl,v',hv',hs,hr'⟩
           cases hr
           exact ⟨v',hv',v',rfl,hs,hr'⟩
          ·cases hk
         ·cases hk
end W
end

section
set_option maxHeartbeats 4000000
set_option maxRecDepth 100000
namespace W
open Go Go.Ql Go.Proofs Go.IntKind
noncomputable section
variable {ρ:Type}
abbrev to0:SD:=.one (.val .bool)
abbrev to1:SD:=.one (.ref 1 0)
abbrev to2:SD:=.one (.ref 2 0)
abbrev to3:SO:=.box [.val (.int .i64),.val (.int .i64),.val .str,.val (.int .i64),.val (.sl (.st (.node (.pair (.int .i64) (.pair (.int .i64) (.pair .str (.int .i64)))))))]
abbrev to4:SO:=.box [.val (.int .i64),.val (.int .i64)]
def JH.c2 (n0:Int)(n1:Int)(n2:Z6)(n3:Int)(n4:List Z8)(f0:Int)(Z:Bool→Option ρ):Option ρ:=
  br (f0==0)
   (bnd (JB (Rose.mk (n0,n1,n2,n3) n4)) fun y=>
    Z (y==Z5 [104,32,113,91,50,93,59,10]))
   (Z false)
def JH.c2s:Shape:=⟨[(0,to0),(1,to1),(2,to2)],[(1,to3),(2,to4)]⟩
def JH.c2r:RC:=⟨JH.c2s,[(JH.c2s,0,[201])],no,[1,2,3,4,5,6],@JH.c2,fun _ _ _ _ _ _ _ _=>jN (jm fun _=>jd) jd⟩
def JH  : Option Bool:=
  bnd (kE (Z5 [104,32,113,32,91,32,50,32,93,32,59])) fun y=>
  bnd (JH.c2 y.1.head.1 y.1.head.2.1 y.1.head.2.2.1 y.1.head.2.2.2 y.1.kids y.2.1 some) fun y1=>
  some y1
def JH.ce:=ceOf tab Tryz.f8 JH
def JH.G:EB Z9:=⟨tb,Tryz.f8,[⟨6,kE.ce,kE.ok⟩,⟨10,JB.ce,JB.ok⟩],[0,1,2],[],[],[(2,JH.c2r.ck)],[],[]⟩
theorem JH.ok:CalleeOk Z9 8 JH.ce:=fnB JH.G Tryz.func8 (m:=1) ⟨trivial,kR JH.c2r⟩
abbrev to5:SD:=.one (.val .str)
abbrev to6:SD:=.one (.ref 3 0)
abbrev to7:SD:=.one (.ref 4 0)
abbrev to9:SD:=.one (.ref 6 0)
def JR.c10 (t:Z6)(n0:Int)(n1:Int)(n2:Z6)(n3:Int)(n4:List Z8)(f0:Int)(m0:Int)(m1:Int)(m2:Z6)(m3:Int)(m4:List Z8)(Z:Bool→Option ρ):Option ρ:=
  br (f0==0)
   (bnd (Vg (Rose.mk (n0,n1,n2,n3) n4,Rose.mk (m0,m1,m2,m3) m4,false,())) fun y=>
    br y.1
     (bnd (JB (Rose.mk (m0,m1,m2,m3) m4)) fun y1=>
      Z (y1==t))
     (Z false))
   (Z false)
def JR.c10s:Shape:=⟨[(0,to5),(2,to0),(3,to6),(4,to7),(5,to5),(6,to9)],[(3,to3),(4,to4),(6,to3)]⟩
def JR.c10r:RC:=⟨JR.c10s,[(JR.c10s,0,[1,201])],no,[2,3,4,5,6,7,8,10,11,12,13,14],@JR.c10,fun _ _ _ _ _ _ _ _ _ _ _ _ _ _=>jN (jm fun _=>(jN (jm fun _=>jd) jd)) jd⟩
def JR (text:Z6):Option Bool:=
  bnd (kE text) fun y=>
  bnd JH fun y1=>
  br (!y1)
   (some false)
   (br (y.2.1 !=0)
     (some true)
     (bnd (JB (Rose.mk (y.1.head.1,y.1.head.2.1,y.1.head.2.2.1,y.1.head.2.2.2) y.1.kids)) fun y2=>
      bnd (kE y2) fun y3=>
      br (decide ((y2.length:Int)>40000))
       (some (y3.2.1==2))
       (bnd (JR.c10 y2 y.1.head.1 y.1.head.2.1 y.1.head.2.2.1 y.1.head.2.2.2 y.1.kids y3.2.1 y3.1.head.1 y3.1.head.2.1 y3.1.head.2.2.1 y3.1.head.2.2.2 y3.1.kids some) fun y4=>
        some y4)))
def JR.ce:=ceOf tab Tryz.f5 JR
def JR.G:EB Z9:=⟨tb,Tryz.f5,[⟨6,kE.ce,kE.ok⟩,⟨8,JH.ce,JH.ok⟩,⟨10,JB.ce,JB.ok⟩],[0,2,3,4,5,6,13,16,26],[],[],[(10,JR.c10r.ck)],[⟨9,Vg.mc,Vg.ok⟩],[]⟩
theorem JR.ok:CalleeOk Z9 5 JR.ce:=fnB JR.G Tryz.func5 (m:=1) ⟨trivial,kR JR.c10r⟩
end
end W
end
