/- Lifted functions, part 3: each with its contract. -/
import Derived.Test.YtdocfkidnnalnaaGreatDoorWbB
import Derived.Test.YtdocfkidnnalnaaGreatDoorLfB
import Derived.Test.YtdocfkidnnalnaaGreatDoorProg
set_option linter.all false
section
set_option maxHeartbeats 4000000
set_option maxRecDepth 100000
namespace W
open Go Go.Ql Go.Proofs Go.IntKind
noncomputable section
variable {ρ:Type}
abbrev th1:SD:=.one (.val .bool)
abbrev th4:SD:=.one (.val (.int .i64))
abbrev th14:SD:=.one (.ref 3 0)
abbrev th16:SD:=.one (.ref 4 0)
abbrev th24:SD:=.one (.val (.st (.node (.pair (.int .i64) (.pair (.int .i64) (.pair .str (.int .i64)))))))
abbrev th26:SO:=.box [.val (.int .i64),.val (.int .i64),.val .str,.val (.int .i64),.val (.sl (.st (.node (.pair (.int .i64) (.pair (.int .i64) (.pair .str (.int .i64)))))))]
end
end W
end

section
set_option maxHeartbeats 4000000
set_option maxRecDepth 100000
namespace W
open Go Go.Ql Go.Proofs Go.IntKind
noncomputable section
variable {ρ:Type}
def jF.self.pre:Shape:=⟨[(0,th24),(1,th24),(2,th1)],[]⟩
def jF.self.post:Shape:=⟨[(0,th1)],[]⟩
class jF.Self where
  F:densU jF.self.pre.tys→Option (densU jF.self.post.tys)
  ok:MOk Z9 9 ⟨9,jF.self.pre,jF.self.post,F⟩
section
variable [jF.Self]
def jF.self (X:densU jF.self.pre.tys):Option (densU jF.self.post.tys):=jF.Self.F X
def jF.self.mc:MCallee:=⟨9,jF.self.pre,jF.self.post,fun X=>jF.self X⟩
theorem jF.self.ok:MOk Z9 9 jF.self.mc:=jF.Self.ok
def jF.pre:Shape:=⟨[(0,th24),(1,th24),(2,th1)],[]⟩
def jF.post:Shape:=⟨[(0,th1)],[]⟩
def jF.c1 {ρ:Type} (places:Bool)(a0:Int)(a1:Int)(a2:Z6)(a3:Int)(a4:List Z8)(b0:Int)(b1:Int)(b2:Z6)(b3:Int)(b4:List Z8)(Z:Bool→Option ρ):Option ρ:=
  br (a0 !=b0)
   (Z true)
   (br (!a2==b2)
     (Z true)
     (br (a3 !=b3)
       (Z true)
       (br ((a4.length:Int) !=(b4.length:Int))
         (Z true)
         (br places
           (Z (a1 !=b1))
           (Z false)))))
def jF.c1s:Shape:=(((((jF.pre.s 3 th14).s 4 th16).s 6 th1).o 3 th26).o 4 th26)
def jF.c1x0:Shape:=(jF.c1s.s 45 th1)
def jF.c1r:RC:=⟨jF.c1s,[(jF.c1x0,0,[4,101])],no,[2,4,5,6,7,8,9,10,11,12,13],fun _=>jF.c1,fun _ _ _ _ _ _ _ _ _ _ _ _ _=>jN jd (jN jd (jN jd (jN jd (jN jd jd))))⟩
def jF.c6 {ρ:Type} (places:Bool)(i:Int)(a4:List Z8)(b4:List Z8)(Z:Bool→Option ρ):Option ρ:=
  bnd (idx a4 i) fun y=>
  bnd (idx b4 i) fun y1=>
  bnd (jF.self (y,y1,places,())) fun y2=>
  Z (!y2.1)
def jF.c6s:Shape:=(jF.c1s.s 7 th4)
def jF.c6x0:Shape:=(jF.c6s.s 65 th1)
def jF.c6r:RC:=⟨jF.c6s,[(jF.c6x0,0,[5,101])],no,[2,4,9,14],fun _=>jF.c6,fun _ _ _ _ _ _=>jm fun _=>(jm fun _=>(jm fun _=>jd))⟩
def jF.cf_ {ρ:Type} (places:Bool)(i:Int)(a4:List Z8)(b4:List Z8)(Z:Int⊕(Int⊕Int)→Option ρ):Option ρ:=
  br (decide (i<(a4.length:Int)))
   (bnd (jF.c6 places i a4 b4 some) fun y=>
    br y
     (Z (.inr (.inl i)))
     (Z (.inl (i64.wrap (i+1)))))
   (Z (.inr (.inr i)))
def jF.cf_r:LC:=⟨jF.c6s,[(jF.c6s,1,[3,400,201,301]),(jF.c6s,2,[4,201])],fun X=>(false,()),[4],[2,4,9,14],fun _=>jF.cf_,fun _ _ _ _ _ _=>jN (jm fun _=>(jN jd jd)) jd⟩
def jF (a:Z8) (b:Z8) (places:Bool):Option (Bool×Unit):=
  bnd (jF.c1 places a.head.1 a.head.2.1 a.head.2.2.1 a.head.2.2.2 a.kids b.head.1 b.head.2.1 b.head.2.2.1 b.head.2.2.2 b.kids some) fun y=>
  br y
   (some (false,()))
   (bnd (iter (fun s↦jF.cf_ places s a.kids b.kids some) (0:Int)) fun y1=>
    sel y1
     (fun u=>some (false,()))
     (fun v=>some (true,())))
def jF.mc:MCallee:=⟨9,jF.pre,jF.post,fun X=>jF X.1 X.2.1 X.2.2.1⟩
def jF.G:EB Z9:=⟨tb,Tryz.f9,[],[0,1,2,3,4,6,7,45,50,65],[],[(6,[])],[(100004,jF.cf_r.ck),(6,jF.c6r.ck),(1,jF.c1r.ck)],[⟨9,jF.self.mc,jF.self.ok⟩],[]⟩
theorem jF.ok:MOk Z9 9 jF.mc:=fnM jF.G (mc:=jF.mc) Tryz.func9 (m:=3) ⟨⟨⟨trivial,kR jF.c1r⟩,kL jF.cf_r⟩,kR jF.c6r⟩
end
@[reducible] def jF.fuel:Nat→jF.Self
  | 0=>⟨fun _=>none,⟨⟨Tryz.f9,Tryz.func9,by kernel_rfl,by kernel_rfl⟩,fun _ _ _ _ _ _ _ hy=>by cases hy⟩⟩
  | n+1=>⟨fun X=>(@jF.mc (jF.fuel n)).F X,@jF.ok (jF.fuel n)⟩
def Vg (X:densU jF.self.pre.tys):Option (densU jF.self.post.tys):=(jF.fuel (sizeOf X.1)).F X
def Vg.mc:MCallee:=⟨9,jF.self.pre,jF.self.post,fun X=>Vg X⟩
theorem Vg.ok:MOk Z9 9 Vg.mc:=mok_diag (F:=fun n=>(jF.fuel n).F) (fun n=>(jF.fuel n).ok) (fun X=>sizeOf X.1)
end
end W
end
