/- Lifted functions, part 2: each with its contract. -/
import Derived.Test.YtdocfkidnnalnaaGreatDoorWaB
import Derived.Test.YtdocfkidnnalnaaGreatDoorLfB
import Derived.Test.YtdocfkidnnalnaaGreatDoorProg
set_option linter.all false
section
set_option maxHeartbeats 4000000
set_option maxRecDepth 100000
namespace W
open Go Go.Ql Go.Proofs Go.IntKind
noncomputable section
variable {ρ:Type}
abbrev tg35:SD:=.one (.own 5 0)
def jk.pre:Shape:=⟨[(0,tg0),(1,tg8)],[(1000100,tg2)]⟩
def jk.post:Shape:=⟨[(0,tg15)],[(1000100,tg2)]⟩
def jk.post2:Shape:=⟨[(0,tg12)],[(1000100,tg2)]⟩
def jk.c3 (t0:Int)(t1:Z6)(t2:Int)(mods:List Z8)(ua:Z6)(ub:Int)(uc:Int)(ud:Z6)(ue:Int)(Z:(Int×Int×Z6×Int×(List Z8)×Z6×Int×Int×Z6×Int)⊕((Int×Z6×Int×Int×Z6×Int)⊕(Int×Z6×Int×Int×Z6×Int))→Option ρ):Option ρ:=
  bnd (jJ ua ub uc ud ue) fun y=>
  sel y
   (fun u=>bnd (jE (t0,t1,t2) mods u.1 u.2.1 u.2.2.1 u.2.2.2.1 u.2.2.2.2.1 u.2.2.2.2.2.1) fun y1=>
    sel y1
     (fun u_1=>Z (.inl (u_1.1.head.1,u_1.1.head.2.1,u_1.1.head.2.2.1,u_1.1.head.2.2.2,u_1.1.kids,u_1.2.1,u_1.2.2.1,u_1.2.2.2.1,u_1.2.2.2.2.1,u_1.2.2.2.2.2.1)))
     (fun v_1=>Z (.inr (.inl (v_1.1,v_1.2.1,v_1.2.2.1,v_1.2.2.2.1,v_1.2.2.2.2.1,v_1.2.2.2.2.2.1)))))
   (fun v=>Z (.inr (.inr (v.1,v.2.1,v.2.2.1,v.2.2.2.1,v.2.2.2.2.1,v.2.2.2.2.2.1))))
def jk.c3s:Shape:=(((((((((jk.pre.s 3 tg10).s 4 tg14).s 5 tg35).s 6 tg20).s 18 tg3).o 3 tg11).o 4 tg19).o 5 tg29).o 6 tg11)
def jk.c3x0:Shape:=((jk.c3s.s 5 tg27).g 5)
def jk.c3x1:Shape:=⟨[],[(3,tg11),(4,tg19),(6,tg11),(900001,tg13),(1000100,tg2)]⟩
def jk.c3x2:Shape:=(jk.c3x1.o 5 tg29)
def jk.c3r:RC:=⟨jk.c3s,[(jk.c3x0,0,[1,309,1,400,401,402,403,105,3,205]),(jk.c3x1,1000000,[302,8,301,3,205,101]),(jk.c3x2,1000000,[302,12,205,101])],fun X=>(X.2.1,X.2.2.1,X.2.2.2.1,(q4 X).1,()),[2,3,4,10,14,15,16,17,18],@jk.c3,fun _ _ _ _ _ _ _ _ _ _ _=>jm fun _=>(Jw (fun _=>(jm fun _=>(Jw (fun _=>jd) (fun _=>jd)))) (fun _=>jd))⟩
def jk.cm_ (t0:Int)(t1:Z6)(t2:Int)(mods:List Z8)(m0:Int)(m1:Z6)(m2:Int)(ua:Z6)(ub:Int)(uc:Int)(ud:Z6)(ue:Int)(Z:(Bool×(List Z8)×Z6×Int×Int×Z6×Int)⊕((Bool×Int×Z6×Int×Int×Z6×Int)⊕((Bool×Int×Int×Z6×Int×(List Z8)×Z6×Int×Int×Z6×Int)⊕((Int×Z6×Int×Int×Z6×Int)⊕(Int×Z6×Int×Int×Z6×Int))))→Option ρ):Option ρ:=
  bnd (jq (Z5 [105,110,118]) ua ub uc ud ue) fun y=>
  br y.1
   (bnd (Jy (9:Int) (m0,m1,m2) []) fun y1=>
    bnd (okIf (decide ((mods.length+1)*64≤140737488355328)&&decide (mods.length+1≤140737488355328))) fun y2=>
    Z (.inl (y.1,(mods++[y1]),y.2.1,y.2.2.1,y.2.2.2.1,y.2.2.2.2.1,y.2.2.2.2.2.1)))
   (bnd (jq (Z5 [99,116,114,108]) y.2.1 y.2.2.1 y.2.2.2.1 y.2.2.2.2.1 y.2.2.2.2.2.1) fun y3=>
    br y3.1
     (bnd (Jy (10:Int) (m0,m1,m2) []) fun y4=>
      bnd (okIf (decide ((mods.length+1)*64≤140737488355328)&&decide (mods.length+1≤140737488355328))) fun y5=>
      Z (.inl (y.1,(mods++[y4]),y3.2.1,y3.2.2.1,y3.2.2.2.1,y3.2.2.2.2.1,y3.2.2.2.2.2.1)))
     (bnd (jq (Z5 [112,111,119]) y3.2.1 y3.2.2.1 y3.2.2.2.1 y3.2.2.2.2.1 y3.2.2.2.2.2.1) fun y6=>
      br y6.1
       (bnd (jr (Z5 [40]) y6.2.1 y6.2.2.1 y6.2.2.2.1 y6.2.2.2.2.1 y6.2.2.2.2.2.1) fun y7=>
        sel y7
         (fun u=>bnd (Jq (u.2.1,u.2.2.1,u.2.2.2.1,u.2.2.2.2.1,u.2.2.2.2.2.1,())) fun y8=>
          sel y8
           (fun u_1=>bnd (jr (Z5 [41]) u_1.2.1 u_1.2.2.1 u_1.2.2.2.1 u_1.2.2.2.2.1 u_1.2.2.2.2.2.1) fun y9=>
            sel y9
             (fun u_2=>bnd (Jy (11:Int) (m0,m1,m2) [Rose.mk (u_1.1.head.1,u_1.1.head.2.1,u_1.1.head.2.2.1,u_1.1.head.2.2.2) u_1.1.kids]) fun y10=>
              bnd (okIf (decide ((mods.length+1)*64≤140737488355328)&&decide (mods.length+1≤140737488355328))) fun y11=>
              Z (.inl (y.1,(mods++[y10]),u_2.2.1,u_2.2.2.1,u_2.2.2.2.1,u_2.2.2.2.2.1,u_2.2.2.2.2.2.1)))
             (fun v_2=>Z (.inr (.inl (y.1,v_2.1,v_2.2.1,v_2.2.2.1,v_2.2.2.2.1,v_2.2.2.2.2.1,v_2.2.2.2.2.2.1)))))
           (fun v_1=>Z (.inr (.inl (y.1,v_1.1,v_1.2.1,v_1.2.2.1,v_1.2.2.2.1,v_1.2.2.2.2.1,v_1.2.2.2.2.2.1)))))
         (fun v=>Z (.inr (.inl (y.1,v.1,v.2.1,v.2.2.1,v.2.2.2.1,v.2.2.2.2.1,v.2.2.2.2.2.1)))))
       (bnd (jk.c3 t0 t1 t2 mods y6.2.1 y6.2.2.1 y6.2.2.2.1 y6.2.2.2.2.1 y6.2.2.2.2.2.1 some) fun y12=>
        sel y12
         (fun u_3=>Z (.inr (.inr (.inl (y.1,u_3.1,u_3.2.1,u_3.2.2.1,u_3.2.2.2.1,u_3.2.2.2.2.1,u_3.2.2.2.2.2.1,u_3.2.2.2.2.2.2.1,u_3.2.2.2.2.2.2.2.1,u_3.2.2.2.2.2.2.2.2.1,u_3.2.2.2.2.2.2.2.2.2)))))
         (fun v_3=>sel v_3
           (fun u_4=>Z (.inr (.inr (.inr (.inl (u_4.1,u_4.2.1,u_4.2.2.1,u_4.2.2.2.1,u_4.2.2.2.2.1,u_4.2.2.2.2.2))))))
           (fun v_4=>Z (.inr (.inr (.inr (.inr (v_4.1,v_4.2.1,v_4.2.2.1,v_4.2.2.2.1,v_4.2.2.2.2.1,v_4.2.2.2.2.2))))))))))
def jk.cm_s:Shape:=(jk.c3s.d 18)
def jk.cm_x1:Shape:=(jk.c3s.o 900001 tg13)
def jk.cm_r:RC:=⟨jk.cm_s,[(jk.c3s,0,[1,101,8,201,3,205]),(jk.cm_x1,1000000,[1,101,12,205,101]),(jk.c3x0,1,[1,308,1,101,400,401,402,105,3,205]),(jk.c3x1,1000000,[301,8,301,3,205,101]),(jk.c3x2,1000000,[301,12,205,101])],fun X=>(X.2.1,X.2.2.1,X.2.2.2.1,()),[1,2,3,9,10,11,12,13,14,15,16,17],@jk.cm_,fun _ _ _ _ _ _ _ _ _ _ _ _ _ _=>jm fun _=>(jN (jm fun _=>(jm fun _=>jd)) (jm fun _=>(jN (jm fun _=>(jm fun _=>jd)) (jm fun _=>(jN (jm fun _=>(Jw (fun _=>(jm fun _=>(Jw (fun _=>(jm fun _=>(Jw (fun _=>(jm fun _=>(jm fun _=>jd))) (fun _=>jd)))) (fun _=>jd)))) (fun _=>jd))) (jm fun _=>(Jw (fun _=>jd) (fun _=>(Jw (fun _=>jd) (fun _=>jd))))))))))⟩
def jk.ca_ (t0:Int)(t1:Z6)(t2:Int)(mods:List Z8)(ua:Z6)(ub:Int)(uc:Int)(ud:Z6)(ue:Int)(Z:((List Z8)×Z6×Int×Int×Z6×Int)⊕(((List Z8)×Int×Z6×Int×Int×Z6×Int)⊕(((List Z8)×Int×Int×Z6×Int×(List Z8)×Z6×Int×Int×Z6×Int)⊕((Int×Z6×Int×Int×Z6×Int)⊕((List Z8)×Int×Z6×Int×Int×Z6×Int))))→Option ρ):Option ρ:=
  bnd (jk.cm_ t0 t1 t2 mods uc ud ue ua ub uc ud ue some) fun y=>
  sel y
   (fun u=>bnd (jr (Z5 [64]) u.2.2.1 u.2.2.2.1 u.2.2.2.2.1 u.2.2.2.2.2.1 u.2.2.2.2.2.2) fun y1=>
    sel y1
     (fun u_1=>Z (.inl (u.2.1,u_1.2.1,u_1.2.2.1,u_1.2.2.2.1,u_1.2.2.2.2.1,u_1.2.2.2.2.2.1)))
     (fun v_1=>Z (.inr (.inl (u.2.1,v_1.1,v_1.2.1,v_1.2.2.1,v_1.2.2.2.1,v_1.2.2.2.2.1,v_1.2.2.2.2.2.1)))))
   (fun v=>sel v
     (fun u_2=>Z (.inr (.inl (mods,u_2.2.1,u_2.2.2.1,u_2.2.2.2.1,u_2.2.2.2.2.1,u_2.2.2.2.2.2.1,u_2.2.2.2.2.2.2))))
     (fun v_2=>sel v_2
       (fun u_3=>Z (.inr (.inr (.inl (mods,u_3.2.1,u_3.2.2.1,u_3.2.2.2.1,u_3.2.2.2.2.1,u_3.2.2.2.2.2.1,u_3.2.2.2.2.2.2.1,u_3.2.2.2.2.2.2.2.1,u_3.2.2.2.2.2.2.2.2.1,u_3.2.2.2.2.2.2.2.2.2.1,u_3.2.2.2.2.2.2.2.2.2.2)))))
       (fun v_3=>sel v_3
         (fun u_4=>Z (.inr (.inr (.inr (.inl (u_4.1,u_4.2.1,u_4.2.2.1,u_4.2.2.2.1,u_4.2.2.2.2.1,u_4.2.2.2.2.2))))))
         (fun v_4=>Z (.inr (.inr (.inr (.inr (mods,v_4.1,v_4.2.1,v_4.2.2.1,v_4.2.2.2.1,v_4.2.2.2.2.1,v_4.2.2.2.2.2)))))))))
def jk.ca_s:Shape:=((jk.cm_s.d 6).g 6)
def jk.ca_x0:Shape:=(jk.ca_s.o 900001 tg13)
def jk.ca_x1:Shape:=(((jk.c3x0.d 6).d 18).g 6)
def jk.ca_x2:Shape:=(jk.c3x1.g 6)
def jk.ca_x3:Shape:=(jk.c3x2.g 6)
def jk.ca_r:LC:=⟨jk.ca_s,[(jk.ca_x0,1000000,[9,206,101]),(jk.ca_x1,1,[1,101,3,210,301]),(jk.ca_x2,1000000,[301,8,206]),(jk.ca_x3,1000000,[301,8,206,101])],no,[9,10,11,12,13,14],[1,2,3,9,10,11,12,13,14],@jk.ca_,fun _ _ _ _ _ _ _ _ _ _ _=>jm fun _=>(Jw (fun _=>(jm fun _=>(Jw (fun _=>jd) (fun _=>jd)))) (fun _=>(Jw (fun _=>jd) (fun _=>(Jw (fun _=>jd) (fun _=>(Jw (fun _=>jd) (fun _=>jd))))))))⟩
def jk (t:Int×(Z6×Int)) (ua:Z6) (ub:Int) (uc:Int) (ud:Z6) (ue:Int):Option ((Z8×Z6×Int×Int×Z6×Int×Unit)⊕(Int×Z6×Int×Int×Z6×Int×Unit)):=
  bnd (iter (fun s↦jk.ca_ t.1 t.2.1 t.2.2 s.1 s.2.1 s.2.2.1 s.2.2.2.1 s.2.2.2.2.1 s.2.2.2.2.2 some) ([],ua,ub,uc,ud,ue)) fun y=>
  sel y
   (fun u=>some (Sum.inr (u.2.1,u.2.2.1,u.2.2.2.1,u.2.2.2.2.1,u.2.2.2.2.2.1,u.2.2.2.2.2.2,())))
   (fun v=>sel v
     (fun u_1=>some (Sum.inl (Rose.mk (u_1.2.1,u_1.2.2.1,u_1.2.2.2.1,u_1.2.2.2.2.1) u_1.2.2.2.2.2.1,u_1.2.2.2.2.2.2.1,u_1.2.2.2.2.2.2.2.1,u_1.2.2.2.2.2.2.2.2.1,u_1.2.2.2.2.2.2.2.2.2.1,u_1.2.2.2.2.2.2.2.2.2.2,())))
     (fun v_1=>sel v_1
       (fun u_2=>some (Sum.inr (u_2.1,u_2.2.1,u_2.2.2.1,u_2.2.2.2.1,u_2.2.2.2.2.1,u_2.2.2.2.2.2,())))
       (fun v_2=>some (Sum.inr (v_2.2.1,v_2.2.2.1,v_2.2.2.2.1,v_2.2.2.2.2.1,v_2.2.2.2.2.2.1,v_2.2.2.2.2.2.2,())))))
def jk.ma:MAlt:=⟨71,jk.pre,jk.post,true,jk.post2,fun X=>jk X.1 X.2.1 X.2.2.1 X.2.2.2.1 (q4 X).1 (q4 X).2.1⟩
def jk.G:EB Z9:=⟨tb,Tryz.f71,[⟨68,Jy.ce,Jy.ok⟩],[0,1,3,4,5,6,7,18,26,34],[5,1000100,1002164060005,1002164060018,2000000000005,2000000000018],[(3,[(4,[1000100]),(5,[5,1000100]),(6,[4])])],[(100002,jk.ca_r.ck),(216406,jk.cm_r.ck),(3,jk.c3r.ck)],[⟨25,jq.mc,jq.ok⟩],[⟨27,jr.ma,jr.ok⟩,⟨28,Jq.ma,Jq.ok⟩,⟨26,jJ.ma,jJ.ok⟩,⟨74,jE.ma,jE.ok⟩]⟩
theorem jk.ok:AltOk Z9 71 jk.ma:=fnA jk.G (ma:=jk.ma) Tryz.func71 (m:=3) ⟨⟨⟨trivial,kL jk.ca_r⟩,kJ jk.cm_r⟩,kR jk.c3r⟩
abbrev tg36:SO:=.clo 105 [.ref 1000100 0] []
abbrev tg37:SO:=.clo 124 [.ref 1000100 0] []
abbrev tg38:SO:=.clo 132 [.ref 1000100 0] []
abbrev tg39:SD:=.one (.ref 9 0)
abbrev tg40:SD:=.one (.ref 10 0)
def jH.self.pre:Shape:=⟨[(0,tg0)],[(1000100,tg2)]⟩
def jH.self.post:Shape:=⟨[(0,tg15)],[(1000100,tg2)]⟩
def jH.self.post2:Shape:=⟨[(0,tg12)],[(1000100,tg2)]⟩
def ji.self.pre:Shape:=⟨[(0,tg0),(1,tg1),(2,tg6),(3,tg16)],[(1000090,tg36),(1000100,tg2)]⟩
def ji.self.post:Shape:=⟨[(0,tg15)],[(1000090,tg36),(1000100,tg2)]⟩
def ji.self.post2:Shape:=⟨[(0,tg12)],[(1000090,tg36),(1000100,tg2)]⟩
def jU.self.pre:Shape:=⟨[(0,tg0)],[(1000100,tg2)]⟩
def jU.self.post:Shape:=⟨[(0,tg15)],[(1000100,tg2)]⟩
def jU.self.post2:Shape:=⟨[(0,tg12)],[(1000100,tg2)]⟩
def jg.self.pre:Shape:=⟨[(0,tg0),(1,tg1),(2,tg6),(3,tg16)],[(1000090,tg37),(1000100,tg2)]⟩
def jg.self.post:Shape:=⟨[(0,tg15)],[(1000090,tg37),(1000100,tg2)]⟩
def jg.self.post2:Shape:=⟨[(0,tg12)],[(1000090,tg37),(1000100,tg2)]⟩
def jP.self.pre:Shape:=⟨[(0,tg0)],[(1000100,tg2)]⟩
def jP.self.post:Shape:=⟨[(0,tg15)],[(1000100,tg2)]⟩
def jP.self.post2:Shape:=⟨[(0,tg12)],[(1000100,tg2)]⟩
def jh.self.pre:Shape:=⟨[(0,tg0),(1,tg1),(2,tg6),(3,tg16)],[(1000090,tg38),(1000100,tg2)]⟩
def jh.self.post:Shape:=⟨[(0,tg15)],[(1000090,tg38),(1000100,tg2)]⟩
def jh.self.post2:Shape:=⟨[(0,tg12)],[(1000090,tg38),(1000100,tg2)]⟩
def jo.self.pre:Shape:=⟨[(0,tg0)],[(1000100,tg2)]⟩
def jo.self.post:Shape:=⟨[(0,tg15)],[(1000100,tg2)]⟩
def jo.self.post2:Shape:=⟨[(0,tg12)],[(1000100,tg2)]⟩
class jX.Self where
  F_tongue_parser_either_b:densU jH.self.pre.tys→Option (densU jH.self.post.tys⊕densU jH.self.post2.tys)
  ok_tongue_parser_either_b:AltOk Z9 73 ⟨73,jH.self.pre,jH.self.post,true,jH.self.post2,F_tongue_parser_either_b⟩
  F_tongue_parser_joined__odd_b:densU ji.self.pre.tys→Option (densU ji.self.post.tys⊕densU ji.self.post2.tys)
  ok_tongue_parser_joined__odd_b:AltOk Z9 104 ⟨104,ji.self.pre,ji.self.post,true,ji.self.post2,F_tongue_parser_joined__odd_b⟩
  F_tongue_parser_odd_b:densU jU.self.pre.tys→Option (densU jU.self.post.tys⊕densU jU.self.post2.tys)
  ok_tongue_parser_odd_b:AltOk Z9 105 ⟨105,jU.self.pre,jU.self.post,true,jU.self.post2,F_tongue_parser_odd_b⟩
  F_tongue_parser_joined__both_b:densU jg.self.pre.tys→Option (densU jg.self.post.tys⊕densU jg.self.post2.tys)
  ok_tongue_parser_joined__both_b:AltOk Z9 104 ⟨104,jg.self.pre,jg.self.post,true,jg.self.post2,F_tongue_parser_joined__both_b⟩
  F_tongue_parser_both_b:densU jP.self.pre.tys→Option (densU jP.self.post.tys⊕densU jP.self.post2.tys)
  ok_tongue_parser_both_b:AltOk Z9 124 ⟨124,jP.self.pre,jP.self.post,true,jP.self.post2,F_tongue_parser_both_b⟩
  F_tongue_parser_joined__not_b:densU jh.self.pre.tys→Option (densU jh.self.post.tys⊕densU jh.self.post2.tys)
  ok_tongue_parser_joined__not_b:AltOk Z9 104 ⟨104,jh.self.pre,jh.self.post,true,jh.self.post2,F_tongue_parser_joined__not_b⟩
  F_tongue_parser_not_b:densU jo.self.pre.tys→Option (densU jo.self.post.tys⊕densU jo.self.post2.tys)
  ok_tongue_parser_not_b:AltOk Z9 132 ⟨132,jo.self.pre,jo.self.post,true,jo.self.post2,F_tongue_parser_not_b⟩
section
variable [jX.Self]
def jH.self (X:densU jH.self.pre.tys):Option (densU jH.self.post.tys⊕densU jH.self.post2.tys):=jX.Self.F_tongue_parser_either_b X
def jH.self.ma:MAlt:=⟨73,jH.self.pre,jH.self.post,true,jH.self.post2,fun X=>jH.self X⟩
theorem jH.self.ok:AltOk Z9 73 jH.self.ma:=jX.Self.ok_tongue_parser_either_b
def ji.self (X:densU ji.self.pre.tys):Option (densU ji.self.post.tys⊕densU ji.self.post2.tys):=jX.Self.F_tongue_parser_joined__odd_b X
def ji.self.ma:MAlt:=⟨104,ji.self.pre,ji.self.post,true,ji.self.post2,fun X=>ji.self X⟩
theorem ji.self.ok:AltOk Z9 104 ji.self.ma:=jX.Self.ok_tongue_parser_joined__odd_b
def jU.self (X:densU jU.self.pre.tys):Option (densU jU.self.post.tys⊕densU jU.self.post2.tys):=jX.Self.F_tongue_parser_odd_b X
def jU.self.ma:MAlt:=⟨105,jU.self.pre,jU.self.post,true,jU.self.post2,fun X=>jU.self X⟩
theorem jU.self.ok:AltOk Z9 105 jU.self.ma:=jX.Self.ok_tongue_parser_odd_b
def jg.self (X:densU jg.self.pre.tys):Option (densU jg.self.post.tys⊕densU jg.self.post2.tys):=jX.Self.F_tongue_parser_joined__both_b X
def jg.self.ma:MAlt:=⟨104,jg.self.pre,jg.self.post,true,jg.self.post2,fun X=>jg.self X⟩
theorem jg.self.ok:AltOk Z9 104 jg.self.ma:=jX.Self.ok_tongue_parser_joined__both_b
def jP.self (X:densU jP.self.pre.tys):Option (densU jP.self.post.tys⊕densU jP.self.post2.tys):=jX.Self.F_tongue_parser_both_b X
def jP.self.ma:MAlt:=⟨124,jP.self.pre,jP.self.post,true,jP.self.post2,fun X=>jP.self X⟩
theorem jP.self.ok:AltOk Z9 124 jP.self.ma:=jX.Self.ok_tongue_parser_both_b
def jh.self (X:densU jh.self.pre.tys):Option (densU jh.self.post.tys⊕densU jh.self.post2.tys):=jX.Self.F_tongue_parser_joined__not_b X
def jh.self.ma:MAlt:=⟨104,jh.self.pre,jh.self.post,true,jh.self.post2,fun X=>jh.self X⟩
theorem jh.self.ok:AltOk Z9 104 jh.self.ma:=jX.Self.ok_tongue_parser_joined__not_b
def jo.self (X:densU jo.self.pre.tys):Option (densU jo.self.post.tys⊕densU jo.self.post2.tys):=jX.Self.F_tongue_parser_not_b X
def jo.self.ma:MAlt:=⟨132,jo.self.pre,jo.self.post,true,jo.self.post2,fun X=>jo.self X⟩
theorem jo.self.ok:AltOk Z9 132 jo.self.ma:=jX.Self.ok_tongue_parser_not_b
def jH.pre:Shape:=⟨[(0,tg0)],[(1000100,tg2)]⟩
def jH.post:Shape:=⟨[(0,tg15)],[(1000100,tg2)]⟩
def jH.post2:Shape:=⟨[(0,tg12)],[(1000100,tg2)]⟩
def jH (ua:Z6) (ub:Int) (uc:Int) (ud:Z6) (ue:Int):Option ((Z8×Z6×Int×Int×Z6×Int×Unit)⊕(Int×Z6×Int×Int×Z6×Int×Unit)):=
  bnd (ji.self (Z5 [124],(29:Int),ua,ub,uc,ud,ue,())) fun y=>
  sel y
   (fun u=>some (Sum.inl (Rose.mk (u.1.head.1,u.1.head.2.1,u.1.head.2.2.1,u.1.head.2.2.2) u.1.kids,u.2.1,u.2.2.1,u.2.2.2.1,u.2.2.2.2.1,u.2.2.2.2.2.1,())))
   (fun v=>some (Sum.inr (v.1,v.2.1,v.2.2.1,v.2.2.2.1,v.2.2.2.2.1,v.2.2.2.2.2.1,())))
def jH.ma:MAlt:=⟨73,jH.pre,jH.post,true,jH.post2,fun X=>jH X.1 X.2.1 X.2.2.1 X.2.2.2.1 (q4 X).1⟩
def jH.G:EB Z9:=⟨tb,Tryz.f73,[],[0,2],[1000100],[],[],[],[⟨104,ji.self.ma,ji.self.ok⟩]⟩
theorem jH.ok:AltOk Z9 73 jH.ma:=fnA jH.G (ma:=jH.ma) Tryz.func73 (m:=0) trivial
def ji.pre:Shape:=⟨[(0,tg0),(1,tg1),(2,tg6),(3,tg16)],[(1000090,tg36),(1000100,tg2)]⟩
def ji.post:Shape:=⟨[(0,tg15)],[(1000090,tg36),(1000100,tg2)]⟩
def ji.post2:Shape:=⟨[(0,tg12)],[(1000090,tg36),(1000100,tg2)]⟩
def ji.c4 {ρ:Type} (kind:Int)(a0:Int)(a1:Int)(a2:Z6)(a3:Int)(a4:List Z8)(t0:Int)(t1:Z6)(t2:Int)(ua:Z6)(ub:Int)(uc:Int)(ud:Z6)(ue:Int)(Z:(Int×Int×Z6×Int×(List Z8)×Z6×Int×Int×Z6×Int)⊕(Int×Z6×Int×Int×Z6×Int)→Option ρ):Option ρ:=
  bnd (jU.self (ua,ub,uc,ud,ue,())) fun y=>
  sel y
   (fun u=>bnd (Jy kind (t0,t1,t2) [Rose.mk (a0,a1,a2,a3) a4,u.1]) fun y1=>
    Z (.inl (y1.head.1,y1.head.2.1,y1.head.2.2.1,y1.head.2.2.2,y1.kids,u.2.1,u.2.2.1,u.2.2.2.1,u.2.2.2.2.1,u.2.2.2.2.2.1)))
   (fun v=>Z (.inr (v.1,v.2.1,v.2.2.1,v.2.2.2.1,v.2.2.2.2.1,v.2.2.2.2.2.1)))
def ji.c4s:Shape:=((((((ji.pre.s 8 tg22).s 9 tg39).s 10 tg40).o 8 tg19).o 9 tg19).o 10 tg11)
def ji.c4x1:Shape:=(((((ji.post.d 0).o 8 tg19).o 9 tg19).o 10 tg11).o 900001 tg13)
def ji.c4r:RC:=⟨ji.c4s,[(ji.c4s,0,[7,205,3,205]),(ji.c4x1,1000000,[302,13,205,101])],no,[1,7,8,9,10,11,12,13,14,15,16,17,18,19],fun _=>ji.c4,fun _ _ _ _ _ _ _ _ _ _ _ _ _ _ _ _=>jm fun _=>(Jw (fun _=>(jm fun _=>jd)) (fun _=>jd))⟩
def ji.ca_ {ρ:Type} (w:Z6)(kind:Int)(a0:Int)(a1:Int)(a2:Z6)(a3:Int)(a4:List Z8)(ua:Z6)(ub:Int)(uc:Int)(ud:Z6)(ue:Int)(Z:(Int×Int×Z6×Int×(List Z8)×Z6×Int×Int×Z6×Int)⊕((Int×Int×Z6×Int×(List Z8)×Int×Z6×Int×Int×Z6×Int)⊕(Int×Int×Z6×Int×(List Z8)×Z6×Int×Int×Z6×Int))→Option ρ):Option ρ:=
  bnd (jM w ua ub uc ud ue) fun y=>
  br y.1
   (bnd (jI y.2.1 y.2.2.1 y.2.2.2.1 y.2.2.2.2.1 y.2.2.2.2.2.1) fun y1=>
    bnd (ji.c4 kind a0 a1 a2 a3 a4 y1.1.1 y1.1.2.1 y1.1.2.2 y1.2.1 y1.2.2.1 y1.2.2.2.1 y1.2.2.2.2.1 y1.2.2.2.2.2.1 some) fun y2=>
    sel y2
     (fun u=>Z (.inl (u.1,u.2.1,u.2.2.1,u.2.2.2.1,u.2.2.2.2.1,u.2.2.2.2.2.1,u.2.2.2.2.2.2.1,u.2.2.2.2.2.2.2.1,u.2.2.2.2.2.2.2.2.1,u.2.2.2.2.2.2.2.2.2)))
     (fun v=>Z (.inr (.inl (a0,a1,a2,a3,a4,v.1,v.2.1,v.2.2.1,v.2.2.2.1,v.2.2.2.2.1,v.2.2.2.2.2)))))
   (Z (.inr (.inr (a0,a1,a2,a3,a4,y.2.1,y.2.2.1,y.2.2.2.1,y.2.2.2.2.1,y.2.2.2.2.2.1))))
def ji.ca_s:Shape:=((ji.c4s.d 10).g 10)
def ji.ca_x0:Shape:=(ji.c4x1.g 10)
def ji.ca_r:LC:=⟨ji.ca_s,[(ji.ca_x0,1000000,[302,5,210,101]),(ji.ca_s,2,[7,210])],no,[7,8,9,10,11,12,13,14,15,16],[0,1,7,8,9,10,11,12,13,14,15,16],fun _=>ji.ca_,fun _ _ _ _ _ _ _ _ _ _ _ _ _ _=>jm fun _=>(jN (jm fun _=>(jm fun _=>(Jw (fun _=>jd) (fun _=>jd)))) jd)⟩
def ji (w:Z6) (kind:Int) (ua:Z6) (ub:Int) (uc:Int) (ud:Z6) (ue:Int):Option ((Z8×Z6×Int×Int×Z6×Int×Unit)⊕(Int×Z6×Int×Int×Z6×Int×Unit)):=
  bnd (jU.self (ua,ub,uc,ud,ue,())) fun y=>
  sel y
   (fun u=>bnd (iter (fun s↦ji.ca_ w kind s.1 s.2.1 s.2.2.1 s.2.2.2.1 s.2.2.2.2.1 s.2.2.2.2.2.1 s.2.2.2.2.2.2.1 s.2.2.2.2.2.2.2.1 s.2.2.2.2.2.2.2.2.1 s.2.2.2.2.2.2.2.2.2 some) (u.1.head.1,u.1.head.2.1,u.1.head.2.2.1,u.1.head.2.2.2,Rose.kids u.1,u.2.1,u.2.2.1,u.2.2.2.1,u.2.2.2.2.1,u.2.2.2.2.2.1)) fun y1=>
    sel y1
     (fun u_1=>some (Sum.inr (u_1.2.2.2.2.2.1,u_1.2.2.2.2.2.2.1,u_1.2.2.2.2.2.2.2.1,u_1.2.2.2.2.2.2.2.2.1,u_1.2.2.2.2.2.2.2.2.2.1,u_1.2.2.2.2.2.2.2.2.2.2,())))
     (fun v_1=>some (Sum.inl (Rose.mk (v_1.1,v_1.2.1,v_1.2.2.1,v_1.2.2.2.1) v_1.2.2.2.2.1,v_1.2.2.2.2.2.1,v_1.2.2.2.2.2.2.1,v_1.2.2.2.2.2.2.2.1,v_1.2.2.2.2.2.2.2.2.1,v_1.2.2.2.2.2.2.2.2.2,()))))
   (fun v=>some (Sum.inr (v.1,v.2.1,v.2.2.1,v.2.2.2.1,v.2.2.2.2.1,v.2.2.2.2.2.1,())))
def ji.ma:MAlt:=⟨104,ji.pre,ji.post,true,ji.post2,fun X=>ji X.1 X.2.1 X.2.2.1 X.2.2.2.1 (q4 X).1 (q4 X).2.1 (q4 X).2.2.1⟩
def ji.G:EB Z9:=⟨tb,Tryz.f104,[⟨68,Jy.ce,Jy.ok⟩],[0,1,2,3,8,9,10,15],[1000100],[(4,[(4,[1000100]),(5,[23]),(6,[23]),(7,[9])])],[(100002,ji.ca_r.ck),(4,ji.c4r.ck)],[⟨58,jM.mc,jM.ok⟩,⟨14,jI.mc,jI.ok⟩],[⟨105,jU.self.ma,jU.self.ok⟩]⟩
theorem ji.ok:AltOk Z9 104 ji.ma:=fnA ji.G (ma:=ji.ma) Tryz.func104 (m:=2) ⟨⟨trivial,kL ji.ca_r⟩,kR ji.c4r⟩
def jU.pre:Shape:=⟨[(0,tg0)],[(1000100,tg2)]⟩
def jU.post:Shape:=⟨[(0,tg15)],[(1000100,tg2)]⟩
def jU.post2:Shape:=⟨[(0,tg12)],[(1000100,tg2)]⟩
def jU (ua:Z6) (ub:Int) (uc:Int) (ud:Z6) (ue:Int):Option ((Z8×Z6×Int×Int×Z6×Int×Unit)⊕(Int×Z6×Int×Int×Z6×Int×Unit)):=
  bnd (jg.self (Z5 [94],(30:Int),ua,ub,uc,ud,ue,())) fun y=>
  sel y
   (fun u=>some (Sum.inl (Rose.mk (u.1.head.1,u.1.head.2.1,u.1.head.2.2.1,u.1.head.2.2.2) u.1.kids,u.2.1,u.2.2.1,u.2.2.2.1,u.2.2.2.2.1,u.2.2.2.2.2.1,())))
   (fun v=>some (Sum.inr (v.1,v.2.1,v.2.2.1,v.2.2.2.1,v.2.2.2.2.1,v.2.2.2.2.2.1,())))
def jU.ma:MAlt:=⟨105,jU.pre,jU.post,true,jU.post2,fun X=>jU X.1 X.2.1 X.2.2.1 X.2.2.2.1 (q4 X).1⟩
def jU.G:EB Z9:=⟨tb,Tryz.f105,[],[0,2],[1000100],[],[],[],[⟨104,jg.self.ma,jg.self.ok⟩]⟩
theorem jU.ok:AltOk Z9 105 jU.ma:=fnA jU.G (ma:=jU.ma) Tryz.func105 (m:=0) trivial
def jg.pre:Shape:=⟨[(0,tg0),(1,tg1),(2,tg6),(3,tg16)],[(1000090,tg37),(1000100,tg2)]⟩
def jg.post:Shape:=⟨[(0,tg15)],[(1000090,tg37),(1000100,tg2)]⟩
def jg.post2:Shape:=⟨[(0,tg12)],[(1000090,tg37),(1000100,tg2)]⟩
def jg.c4 {ρ:Type} (kind:Int)(a0:Int)(a1:Int)(a2:Z6)(a3:Int)(a4:List Z8)(t0:Int)(t1:Z6)(t2:Int)(ua:Z6)(ub:Int)(uc:Int)(ud:Z6)(ue:Int)(Z:(Int×Int×Z6×Int×(List Z8)×Z6×Int×Int×Z6×Int)⊕(Int×Z6×Int×Int×Z6×Int)→Option ρ):Option ρ:=
  bnd (jP.self (ua,ub,uc,ud,ue,())) fun y=>
  sel y
   (fun u=>bnd (Jy kind (t0,t1,t2) [Rose.mk (a0,a1,a2,a3) a4,u.1]) fun y1=>
    Z (.inl (y1.head.1,y1.head.2.1,y1.head.2.2.1,y1.head.2.2.2,y1.kids,u.2.1,u.2.2.1,u.2.2.2.1,u.2.2.2.2.1,u.2.2.2.2.2.1)))
   (fun v=>Z (.inr (v.1,v.2.1,v.2.2.1,v.2.2.2.1,v.2.2.2.2.1,v.2.2.2.2.2.1)))
def jg.c4s:Shape:=((((((jg.pre.s 8 tg22).s 9 tg39).s 10 tg40).o 8 tg19).o 9 tg19).o 10 tg11)
def jg.c4x1:Shape:=⟨[],[(8,tg19),(9,tg19),(10,tg11),(900001,tg13),(1000090,tg37),(1000100,tg2)]⟩
def jg.c4r:RC:=⟨jg.c4s,[(jg.c4s,0,[7,205,3,205]),(jg.c4x1,1000000,[302,13,205,101])],no,[1,7,8,9,10,11,12,13,14,15,16,17,18,19],fun _=>jg.c4,fun _ _ _ _ _ _ _ _ _ _ _ _ _ _ _ _=>jm fun _=>(Jw (fun _=>(jm fun _=>jd)) (fun _=>jd))⟩
def jg.ca_ {ρ:Type} (w:Z6)(kind:Int)(a0:Int)(a1:Int)(a2:Z6)(a3:Int)(a4:List Z8)(ua:Z6)(ub:Int)(uc:Int)(ud:Z6)(ue:Int)(Z:(Int×Int×Z6×Int×(List Z8)×Z6×Int×Int×Z6×Int)⊕((Int×Int×Z6×Int×(List Z8)×Int×Z6×Int×Int×Z6×Int)⊕(Int×Int×Z6×Int×(List Z8)×Z6×Int×Int×Z6×Int))→Option ρ):Option ρ:=
  bnd (jM w ua ub uc ud ue) fun y=>
  br y.1
   (bnd (jI y.2.1 y.2.2.1 y.2.2.2.1 y.2.2.2.2.1 y.2.2.2.2.2.1) fun y1=>
    bnd (jg.c4 kind a0 a1 a2 a3 a4 y1.1.1 y1.1.2.1 y1.1.2.2 y1.2.1 y1.2.2.1 y1.2.2.2.1 y1.2.2.2.2.1 y1.2.2.2.2.2.1 some) fun y2=>
    sel y2
     (fun u=>Z (.inl (u.1,u.2.1,u.2.2.1,u.2.2.2.1,u.2.2.2.2.1,u.2.2.2.2.2.1,u.2.2.2.2.2.2.1,u.2.2.2.2.2.2.2.1,u.2.2.2.2.2.2.2.2.1,u.2.2.2.2.2.2.2.2.2)))
     (fun v=>Z (.inr (.inl (a0,a1,a2,a3,a4,v.1,v.2.1,v.2.2.1,v.2.2.2.1,v.2.2.2.2.1,v.2.2.2.2.2)))))
   (Z (.inr (.inr (a0,a1,a2,a3,a4,y.2.1,y.2.2.1,y.2.2.2.1,y.2.2.2.2.1,y.2.2.2.2.2.1))))
def jg.ca_s:Shape:=((jg.c4s.d 10).g 10)
def jg.ca_x0:Shape:=(jg.c4x1.g 10)
def jg.ca_r:LC:=⟨jg.ca_s,[(jg.ca_x0,1000000,[302,5,210,101]),(jg.ca_s,2,[7,210])],no,[7,8,9,10,11,12,13,14,15,16],[0,1,7,8,9,10,11,12,13,14,15,16],fun _=>jg.ca_,fun _ _ _ _ _ _ _ _ _ _ _ _ _ _=>jm fun _=>(jN (jm fun _=>(jm fun _=>(Jw (fun _=>jd) (fun _=>jd)))) jd)⟩
def jg (w:Z6) (kind:Int) (ua:Z6) (ub:Int) (uc:Int) (ud:Z6) (ue:Int):Option ((Z8×Z6×Int×Int×Z6×Int×Unit)⊕(Int×Z6×Int×Int×Z6×Int×Unit)):=
  bnd (jP.self (ua,ub,uc,ud,ue,())) fun y=>
  sel y
   (fun u=>bnd (iter (fun s↦jg.ca_ w kind s.1 s.2.1 s.2.2.1 s.2.2.2.1 s.2.2.2.2.1 s.2.2.2.2.2.1 s.2.2.2.2.2.2.1 s.2.2.2.2.2.2.2.1 s.2.2.2.2.2.2.2.2.1 s.2.2.2.2.2.2.2.2.2 some) (u.1.head.1,u.1.head.2.1,u.1.head.2.2.1,u.1.head.2.2.2,Rose.kids u.1,u.2.1,u.2.2.1,u.2.2.2.1,u.2.2.2.2.1,u.2.2.2.2.2.1)) fun y1=>
    sel y1
     (fun u_1=>some (Sum.inr (u_1.2.2.2.2.2.1,u_1.2.2.2.2.2.2.1,u_1.2.2.2.2.2.2.2.1,u_1.2.2.2.2.2.2.2.2.1,u_1.2.2.2.2.2.2.2.2.2.1,u_1.2.2.2.2.2.2.2.2.2.2,())))
     (fun v_1=>some (Sum.inl (Rose.mk (v_1.1,v_1.2.1,v_1.2.2.1,v_1.2.2.2.1) v_1.2.2.2.2.1,v_1.2.2.2.2.2.1,v_1.2.2.2.2.2.2.1,v_1.2.2.2.2.2.2.2.1,v_1.2.2.2.2.2.2.2.2.1,v_1.2.2.2.2.2.2.2.2.2,()))))
   (fun v=>some (Sum.inr (v.1,v.2.1,v.2.2.1,v.2.2.2.1,v.2.2.2.2.1,v.2.2.2.2.2.1,())))
def jg.ma:MAlt:=⟨104,jg.pre,jg.post,true,jg.post2,fun X=>jg X.1 X.2.1 X.2.2.1 X.2.2.2.1 (q4 X).1 (q4 X).2.1 (q4 X).2.2.1⟩
def jg.G:EB Z9:=⟨tb,Tryz.f104,[⟨68,Jy.ce,Jy.ok⟩],[0,1,2,3,8,9,10,15],[1000100],[(4,[(4,[1000100]),(5,[23]),(6,[23]),(7,[9])])],[(100002,jg.ca_r.ck),(4,jg.c4r.ck)],[⟨58,jM.mc,jM.ok⟩,⟨14,jI.mc,jI.ok⟩],[⟨124,jP.self.ma,jP.self.ok⟩]⟩
theorem jg.ok:AltOk Z9 104 jg.ma:=fnA jg.G (ma:=jg.ma) Tryz.func104 (m:=2) ⟨⟨trivial,kL jg.ca_r⟩,kR jg.c4r⟩
def jP.pre:Shape:=⟨[(0,tg0)],[(1000100,tg2)]⟩
def jP.post:Shape:=⟨[(0,tg15)],[(1000100,tg2)]⟩
def jP.post2:Shape:=⟨[(0,tg12)],[(1000100,tg2)]⟩
def jP (ua:Z6) (ub:Int) (uc:Int) (ud:Z6) (ue:Int):Option ((Z8×Z6×Int×Int×Z6×Int×Unit)⊕(Int×Z6×Int×Int×Z6×Int×Unit)):=
  bnd (jh.self (Z5 [38],(28:Int),ua,ub,uc,ud,ue,())) fun y=>
  sel y
   (fun u=>some (Sum.inl (Rose.mk (u.1.head.1,u.1.head.2.1,u.1.head.2.2.1,u.1.head.2.2.2) u.1.kids,u.2.1,u.2.2.1,u.2.2.2.1,u.2.2.2.2.1,u.2.2.2.2.2.1,())))
   (fun v=>some (Sum.inr (v.1,v.2.1,v.2.2.1,v.2.2.2.1,v.2.2.2.2.1,v.2.2.2.2.2.1,())))
def jP.ma:MAlt:=⟨124,jP.pre,jP.post,true,jP.post2,fun X=>jP X.1 X.2.1 X.2.2.1 X.2.2.2.1 (q4 X).1⟩
def jP.G:EB Z9:=⟨tb,Tryz.f124,[],[0,2],[1000100],[],[],[],[⟨104,jh.self.ma,jh.self.ok⟩]⟩
theorem jP.ok:AltOk Z9 124 jP.ma:=fnA jP.G (ma:=jP.ma) Tryz.func124 (m:=0) trivial
def jh.pre:Shape:=⟨[(0,tg0),(1,tg1),(2,tg6),(3,tg16)],[(1000090,tg38),(1000100,tg2)]⟩
def jh.post:Shape:=⟨[(0,tg15)],[(1000090,tg38),(1000100,tg2)]⟩
def jh.post2:Shape:=⟨[(0,tg12)],[(1000090,tg38),(1000100,tg2)]⟩
def jh.c4 {ρ:Type} (kind:Int)(a0:Int)(a1:Int)(a2:Z6)(a3:Int)(a4:List Z8)(t0:Int)(t1:Z6)(t2:Int)(ua:Z6)(ub:Int)(uc:Int)(ud:Z6)(ue:Int)(Z:(Int×Int×Z6×Int×(List Z8)×Z6×Int×Int×Z6×Int)⊕(Int×Z6×Int×Int×Z6×Int)→Option ρ):Option ρ:=
  bnd (jo.self (ua,ub,uc,ud,ue,())) fun y=>
  sel y
   (fun u=>bnd (Jy kind (t0,t1,t2) [Rose.mk (a0,a1,a2,a3) a4,u.1]) fun y1=>
    Z (.inl (y1.head.1,y1.head.2.1,y1.head.2.2.1,y1.head.2.2.2,y1.kids,u.2.1,u.2.2.1,u.2.2.2.1,u.2.2.2.2.1,u.2.2.2.2.2.1)))
   (fun v=>Z (.inr (v.1,v.2.1,v.2.2.1,v.2.2.2.1,v.2.2.2.2.1,v.2.2.2.2.2.1)))
def jh.c4s:Shape:=((((((jh.pre.s 8 tg22).s 9 tg39).s 10 tg40).o 8 tg19).o 9 tg19).o 10 tg11)
def jh.c4x1:Shape:=(((((jh.post.d 0).o 8 tg19).o 9 tg19).o 10 tg11).o 900001 tg13)
def jh.c4r:RC:=⟨jh.c4s,[(jh.c4s,0,[7,205,3,205]),(jh.c4x1,1000000,[302,13,205,101])],no,[1,7,8,9,10,11,12,13,14,15,16,17,18,19],fun _=>jh.c4,fun _ _ _ _ _ _ _ _ _ _ _ _ _ _ _ _=>jm fun _=>(Jw (fun _=>(jm fun _=>jd)) (fun _=>jd))⟩
def jh.ca_ {ρ:Type} (w:Z6)(kind:Int)(a0:Int)(a1:Int)(a2:Z6)(a3:Int)(a4:List Z8)(ua:Z6)(ub:Int)(uc:Int)(ud:Z6)(ue:Int)(Z:(Int×Int×Z6×Int×(List Z8)×Z6×Int×Int×Z6×Int)⊕((Int×Int×Z6×Int×(List Z8)×Int×Z6×Int×Int×Z6×Int)⊕(Int×Int×Z6×Int×(List Z8)×Z6×Int×Int×Z6×Int))→Option ρ):Option ρ:=
  bnd (jM w ua ub uc ud ue) fun y=>
  br y.1
   (bnd (jI y.2.1 y.2.2.1 y.2.2.2.1 y.2.2.2.2.1 y.2.2.2.2.2.1) fun y1=>
    bnd (jh.c4 kind a0 a1 a2 a3 a4 y1.1.1 y1.1.2.1 y1.1.2.2 y1.2.1 y1.2.2.1 y1.2.2.2.1 y1.2.2.2.2.1 y1.2.2.2.2.2.1 some) fun y2=>
    sel y2
     (fun u=>Z (.inl (u.1,u.2.1,u.2.2.1,u.2.2.2.1,u.2.2.2.2.1,u.2.2.2.2.2.1,u.2.2.2.2.2.2.1,u.2.2.2.2.2.2.2.1,u.2.2.2.2.2.2.2.2.1,u.2.2.2.2.2.2.2.2.2)))
     (fun v=>Z (.inr (.inl (a0,a1,a2,a3,a4,v.1,v.2.1,v.2.2.1,v.2.2.2.1,v.2.2.2.2.1,v.2.2.2.2.2)))))
   (Z (.inr (.inr (a0,a1,a2,a3,a4,y.2.1,y.2.2.1,y.2.2.2.1,y.2.2.2.2.1,y.2.2.2.2.2.1))))
def jh.ca_s:Shape:=((jh.c4s.d 10).g 10)
def jh.ca_x0:Shape:=(jh.c4x1.g 10)
def jh.ca_r:LC:=⟨jh.ca_s,[(jh.ca_x0,1000000,[302,5,210,101]),(jh.ca_s,2,[7,210])],no,[7,8,9,10,11,12,13,14,15,16],[0,1,7,8,9,10,11,12,13,14,15,16],fun _=>jh.ca_,fun _ _ _ _ _ _ _ _ _ _ _ _ _ _=>jm fun _=>(jN (jm fun _=>(jm fun _=>(Jw (fun _=>jd) (fun _=>jd)))) jd)⟩
def jh (w:Z6) (kind:Int) (ua:Z6) (ub:Int) (uc:Int) (ud:Z6) (ue:Int):Option ((Z8×Z6×Int×Int×Z6×Int×Unit)⊕(Int×Z6×Int×Int×Z6×Int×Unit)):=
  bnd (jo.self (ua,ub,uc,ud,ue,())) fun y=>
  sel y
   (fun u=>bnd (iter (fun s↦jh.ca_ w kind s.1 s.2.1 s.2.2.1 s.2.2.2.1 s.2.2.2.2.1 s.2.2.2.2.2.1 s.2.2.2.2.2.2.1 s.2.2.2.2.2.2.2.1 s.2.2.2.2.2.2.2.2.1 s.2.2.2.2.2.2.2.2.2 some) (u.1.head.1,u.1.head.2.1,u.1.head.2.2.1,u.1.head.2.2.2,Rose.kids u.1,u.2.1,u.2.2.1,u.2.2.2.1,u.2.2.2.2.1,u.2.2.2.2.2.1)) fun y1=>
    sel y1
     (fun u_1=>some (Sum.inr (u_1.2.2.2.2.2.1,u_1.2.2.2.2.2.2.1,u_1.2.2.2.2.2.2.2.1,u_1.2.2.2.2.2.2.2.2.1,u_1.2.2.2.2.2.2.2.2.2.1,u_1.2.2.2.2.2.2.2.2.2.2,())))
     (fun v_1=>some (Sum.inl (Rose.mk (v_1.1,v_1.2.1,v_1.2.2.1,v_1.2.2.2.1) v_1.2.2.2.2.1,v_1.2.2.2.2.2.1,v_1.2.2.2.2.2.2.1,v_1.2.2.2.2.2.2.2.1,v_1.2.2.2.2.2.2.2.2.1,v_1.2.2.2.2.2.2.2.2.2,()))))
   (fun v=>some (Sum.inr (v.1,v.2.1,v.2.2.1,v.2.2.2.1,v.2.2.2.2.1,v.2.2.2.2.2.1,())))
def jh.ma:MAlt:=⟨104,jh.pre,jh.post,true,jh.post2,fun X=>jh X.1 X.2.1 X.2.2.1 X.2.2.2.1 (q4 X).1 (q4 X).2.1 (q4 X).2.2.1⟩
def jh.G:EB Z9:=⟨tb,Tryz.f104,[⟨68,Jy.ce,Jy.ok⟩],[0,1,2,3,8,9,10,15],[1000100],[(4,[(4,[1000100]),(5,[23]),(6,[23]),(7,[9])])],[(100002,jh.ca_r.ck),(4,jh.c4r.ck)],[⟨58,jM.mc,jM.ok⟩,⟨14,jI.mc,jI.ok⟩],[⟨132,jo.self.ma,jo.self.ok⟩]⟩
theorem jh.ok:AltOk Z9 104 jh.ma:=fnA jh.G (ma:=jh.ma) Tryz.func104 (m:=2) ⟨⟨trivial,kL jh.ca_r⟩,kR jh.c4r⟩
def jo.pre:Shape:=⟨[(0,tg0)],[(1000100,tg2)]⟩
def jo.post:Shape:=⟨[(0,tg15)],[(1000100,tg2)]⟩
def jo.post2:Shape:=⟨[(0,tg12)],[(1000100,tg2)]⟩
def jo.c3 {ρ:Type} (t0:Int)(t1:Z6)(t2:Int)(ua:Z6)(ub:Int)(uc:Int)(ud:Z6)(ue:Int)(Z:(Int×Int×Z6×Int×(List Z8)×Z6×Int×Int×Z6×Int)⊕(Int×Z6×Int×Int×Z6×Int)→Option ρ):Option ρ:=
  bnd (jo.self (ua,ub,uc,ud,ue,())) fun y=>
  sel y
   (fun u=>bnd (Jy (27:Int) (t0,t1,t2) [u.1]) fun y1=>
    Z (.inl (y1.head.1,y1.head.2.1,y1.head.2.2.1,y1.head.2.2.2,y1.kids,u.2.1,u.2.2.1,u.2.2.2.1,u.2.2.2.2.1,u.2.2.2.2.2.1)))
   (fun v=>Z (.inr (v.1,v.2.1,v.2.2.1,v.2.2.2.1,v.2.2.2.2.1,v.2.2.2.2.2.1)))
def jo.c3s:Shape:=((((jo.pre.s 2 tg9).s 3 tg10).o 2 tg19).o 3 tg11)
def jo.c3x1:Shape:=((((jo.c3s.d 0).d 2).d 3).o 900001 tg13)
def jo.c3r:RC:=⟨jo.c3s,[(jo.c3s,0,[205,3,205]),(jo.c3x1,1000000,[8,205,101])],no,[5,6,7,8,9,10,11,12],fun _=>jo.c3,fun _ _ _ _ _ _ _ _ _ _=>jm fun _=>(Jw (fun _=>(jm fun _=>jd)) (fun _=>jd))⟩
def jo.c8 {ρ:Type} (t0:Int)(t1:Z6)(Z:Bool→Option ρ):Option ρ:=
  br (t0==3)
   (br (t1==Z5 [48])
     (Z true)
     (Z (t1==Z5 [49])))
   (Z false)
def jo.c8x0:Shape:=(jo.c3s.s 25 tg3)
def jo.c8r:RC:=⟨jo.c3s,[(jo.c8x0,0,[101])],no,[5,6],fun _=>jo.c8,fun _ _ _ _=>jN (jN jd jd) jd⟩
def jo.c10 {ρ:Type} (t1:Z6)(Z:Int→Option ρ):Option ρ:=
  bnd (idx t1 (0:Int)) fun y=>
  Z (i64.wrap (u8.wrap ((↑(UInt8.toNat y):Int)-48)))
def jo.c10r:RC:=⟨jo.c3s,[(jo.c3s,0,[400,307,1,401,101,402,403,404,405])],fun X=>((26:Int),[],[],(q4 X).2.1,(q4 X).2.2.1,(q4 X).2.2.2.1,()),[6],fun _=>jo.c10,fun _ _ _=>jm fun _=>jd⟩
def jo (ua:Z6) (ub:Int) (uc:Int) (ud:Z6) (ue:Int):Option ((Z8×Z6×Int×Int×Z6×Int×Unit)⊕(Int×Z6×Int×Int×Z6×Int×Unit)):=
  bnd (jq (Z5 [33]) ua ub uc ud ue) fun y=>
  br y.1
   (bnd (jo.c3 uc ud ue y.2.1 y.2.2.1 y.2.2.2.1 y.2.2.2.2.1 y.2.2.2.2.2.1 some) fun y1=>
    sel y1
     (fun u=>some (Sum.inl (Rose.mk (u.1,u.2.1,u.2.2.1,u.2.2.2.1) u.2.2.2.2.1,u.2.2.2.2.2.1,u.2.2.2.2.2.2.1,u.2.2.2.2.2.2.2.1,u.2.2.2.2.2.2.2.2.1,u.2.2.2.2.2.2.2.2.2,())))
     (fun v=>some (Sum.inr (v.1,v.2.1,v.2.2.1,v.2.2.2.1,v.2.2.2.2.1,v.2.2.2.2.2,()))))
   (bnd (jq (Z5 [40]) y.2.1 y.2.2.1 y.2.2.2.1 y.2.2.2.2.1 y.2.2.2.2.2.1) fun y2=>
    br y2.1
     (bnd (jH.self (y2.2.1,y2.2.2.1,y2.2.2.2.1,y2.2.2.2.2.1,y2.2.2.2.2.2.1,())) fun y3=>
      sel y3
       (fun u_1=>bnd (jr (Z5 [41]) u_1.2.1 u_1.2.2.1 u_1.2.2.2.1 u_1.2.2.2.2.1 u_1.2.2.2.2.2.1) fun y4=>
        sel y4
         (fun u_2=>some (Sum.inl (Rose.mk (u_1.1.head.1,u_1.1.head.2.1,u_1.1.head.2.2.1,u_1.1.head.2.2.2) u_1.1.kids,u_2.2.1,u_2.2.2.1,u_2.2.2.2.1,u_2.2.2.2.2.1,u_2.2.2.2.2.2.1,())))
         (fun v_2=>some (Sum.inr (v_2.1,v_2.2.1,v_2.2.2.1,v_2.2.2.2.1,v_2.2.2.2.2.1,v_2.2.2.2.2.2.1,()))))
       (fun v_1=>some (Sum.inr (v_1.1,v_1.2.1,v_1.2.2.1,v_1.2.2.2.1,v_1.2.2.2.2.1,v_1.2.2.2.2.2.1,()))))
     (bnd (jo.c8 uc ud some) fun y5=>
      br y5
       (bnd (jI y2.2.1 y2.2.2.1 y2.2.2.2.1 y2.2.2.2.2.1 y2.2.2.2.2.2.1) fun y6=>
        bnd (jo.c10 ud some) fun y7=>
        some (Sum.inl (Rose.mk ((26:Int),ue,[],y7) [],y6.2.1,y6.2.2.1,y6.2.2.2.1,y6.2.2.2.2.1,y6.2.2.2.2.2.1,())))
       (bnd (Jl y2.2.1 y2.2.2.1 y2.2.2.2.1 y2.2.2.2.2.1 y2.2.2.2.2.2.1) fun y8=>
        sel y8
         (fun u_3=>some (Sum.inl (Rose.mk (u_3.1.head.1,u_3.1.head.2.1,u_3.1.head.2.2.1,u_3.1.head.2.2.2) u_3.1.kids,u_3.2.1,u_3.2.2.1,u_3.2.2.2.1,u_3.2.2.2.2.1,u_3.2.2.2.2.2.1,())))
         (fun v_3=>some (Sum.inr (v_3.1,v_3.2.1,v_3.2.2.1,v_3.2.2.2.1,v_3.2.2.2.2.1,v_3.2.2.2.2.2.1,()))))))
def jo.ma:MAlt:=⟨132,jo.pre,jo.post,true,jo.post2,fun X=>jo X.1 X.2.1 X.2.2.1 X.2.2.2.1 (q4 X).1⟩
def jo.G:EB Z9:=⟨tb,Tryz.f132,[⟨68,Jy.ce,Jy.ok⟩],[0,2,3,4,9,17,25],[1000100],[(10,[(8,[2])]),(3,[(2,[1000100]),(3,[15]),(4,[15]),(5,[2])])],[(10,jo.c10r.ck),(8,jo.c8r.ck),(3,jo.c3r.ck)],[⟨25,jq.mc,jq.ok⟩,⟨14,jI.mc,jI.ok⟩],[⟨132,jo.self.ma,jo.self.ok⟩,⟨73,jH.self.ma,jH.self.ok⟩,⟨27,jr.ma,jr.ok⟩,⟨70,Jl.ma,Jl.ok⟩]⟩
theorem jo.ok:AltOk Z9 132 jo.ma:=fnA jo.G (ma:=jo.ma) Tryz.func132 (m:=3) ⟨⟨⟨trivial,kR jo.c3r⟩,kR jo.c8r⟩,kR jo.c10r⟩
end
@[reducible] def jX.fuel:Nat→jX.Self
  | 0=>{ F_tongue_parser_either_b:=fun _=>none,ok_tongue_parser_either_b:=⟨⟨Tryz.f73,Tryz.func73,by kernel_rfl,by kernel_rfl⟩,fun _ _ _ _ _ _ _ hy=>by cases hy⟩,F_tongue_parser_joined__odd_b:=fun _=>none,ok_tongue_parser_joined__odd_b:=⟨⟨Tryz.f104,Tryz.func104,by kernel_rfl,by kernel_rfl⟩,fun _ _ _ _ _ _ _ hy=>by cases hy⟩,F_tongue_parser_odd_b:=fun _=>none,ok_tongue_parser_odd_b:=⟨⟨Tryz.f105,Tryz.func105,by kernel_rfl,by kernel_rfl⟩,fun _ _ _ _ _ _ _ hy=>by cases hy⟩,F_tongue_parser_joined__both_b:=fun _=>none,ok_tongue_parser_joined__both_b:=⟨⟨Tryz.f104,Tryz.func104,by kernel_rfl,by kernel_rfl⟩,fun _ _ _ _ _ _ _ hy=>by cases hy⟩,F_tongue_parser_both_b:=fun _=>none,ok_tongue_parser_both_b:=⟨⟨Tryz.f124,Tryz.func124,by kernel_rfl,by kernel_rfl⟩,fun _ _ _ _ _ _ _ hy=>by cases hy⟩,F_tongue_parser_joined__not_b:=fun _=>none,ok_tongue_parser_joined__not_b:=⟨⟨Tryz.f104,Tryz.func104,by kernel_rfl,by kernel_rfl⟩,fun _ _ _ _ _ _ _ hy=>by cases hy⟩,F_tongue_parser_not_b:=fun _=>none,ok_tongue_parser_not_b:=⟨⟨Tryz.f132,Tryz.func132,by kernel_rfl,by kernel_rfl⟩,fun _ _ _ _ _ _ _ hy=>by cases hy⟩ }
  | n+1=>{ F_tongue_parser_either_b:=fun X=>(@jH.ma (jX.fuel n)).F X,ok_tongue_parser_either_b:=@jH.ok (jX.fuel n),F_tongue_parser_joined__odd_b:=fun X=>(@ji.ma (jX.fuel n)).F X,ok_tongue_parser_joined__odd_b:=@ji.ok (jX.fuel n),F_tongue_parser_odd_b:=fun X=>(@jU.ma (jX.fuel n)).F X,ok_tongue_parser_odd_b:=@jU.ok (jX.fuel n),F_tongue_parser_joined__both_b:=fun X=>(@jg.ma (jX.fuel n)).F X,ok_tongue_parser_joined__both_b:=@jg.ok (jX.fuel n),F_tongue_parser_both_b:=fun X=>(@jP.ma (jX.fuel n)).F X,ok_tongue_parser_both_b:=@jP.ok (jX.fuel n),F_tongue_parser_joined__not_b:=fun X=>(@jh.ma (jX.fuel n)).F X,ok_tongue_parser_joined__not_b:=@jh.ok (jX.fuel n),F_tongue_parser_not_b:=fun X=>(@jo.ma (jX.fuel n)).F X,ok_tongue_parser_not_b:=@jo.ok (jX.fuel n) }
def kN (X:densU jH.self.pre.tys):Option (densU jH.self.post.tys⊕densU jH.self.post2.tys):=(jX.fuel (1000000)).F_tongue_parser_either_b X
def kN.ma:MAlt:=⟨73,jH.self.pre,jH.self.post,true,jH.self.post2,fun X=>kN X⟩
theorem kN.ok:AltOk Z9 73 kN.ma:=(jX.fuel (1000000)).ok_tongue_parser_either_b
abbrev tg41:SO:=.box [.val (.int .i64),.val (.int .i64),.val .str,.val (.int .i64),.own 5003 0]
abbrev tg42:SO:=.box [.val (.int .i64),.val (.int .i64),.val .str,.val (.int .i64),.own 5005 0]
abbrev tg43:SD:=.one (.ref 11 0)
abbrev tg44:SD:=.one (.ref 12 0)
def jl.self.pre:Shape:=⟨[(0,tg0)],[(1000100,tg2)]⟩
def jl.self.post:Shape:=⟨[(0,tg15)],[(1000100,tg2)]⟩
def jl.self.post2:Shape:=⟨[(0,tg12)],[(1000100,tg2)]⟩
def jj.self.pre:Shape:=⟨[(0,tg0),(1,tg8)],[(1000100,tg2)]⟩
def jj.self.post:Shape:=⟨[(0,tg15)],[(1000100,tg2)]⟩
def jj.self.post2:Shape:=⟨[(0,tg12)],[(1000100,tg2)]⟩
def jb.self.pre:Shape:=⟨[(0,tg0)],[(1000100,tg2)]⟩
def jb.self.post:Shape:=⟨[(0,tg15)],[(1000100,tg2)]⟩
def jb.self.post2:Shape:=⟨[(0,tg12)],[(1000100,tg2)]⟩
class JI.Self where
  F_tongue_parser_block_b:densU jl.self.pre.tys→Option (densU jl.self.post.tys⊕densU jl.self.post2.tys)
  ok_tongue_parser_block_b:AltOk Z9 67 ⟨67,jl.self.pre,jl.self.post,true,jl.self.post2,F_tongue_parser_block_b⟩
  F_tongue_parser_choice_b:densU jj.self.pre.tys→Option (densU jj.self.post.tys⊕densU jj.self.post2.tys)
  ok_tongue_parser_choice_b:AltOk Z9 69 ⟨69,jj.self.pre,jj.self.post,true,jj.self.post2,F_tongue_parser_choice_b⟩
  F_tongue_parser_statement_b:densU jb.self.pre.tys→Option (densU jb.self.post.tys⊕densU jb.self.post2.tys)
  ok_tongue_parser_statement_b:AltOk Z9 31 ⟨31,jb.self.pre,jb.self.post,true,jb.self.post2,F_tongue_parser_statement_b⟩
section
variable [JI.Self]
def jl.self (X:densU jl.self.pre.tys):Option (densU jl.self.post.tys⊕densU jl.self.post2.tys):=JI.Self.F_tongue_parser_block_b X
def jl.self.ma:MAlt:=⟨67,jl.self.pre,jl.self.post,true,jl.self.post2,fun X=>jl.self X⟩
theorem jl.self.ok:AltOk Z9 67 jl.self.ma:=JI.Self.ok_tongue_parser_block_b
def jj.self (X:densU jj.self.pre.tys):Option (densU jj.self.post.tys⊕densU jj.self.post2.tys):=JI.Self.F_tongue_parser_choice_b X
def jj.self.ma:MAlt:=⟨69,jj.self.pre,jj.self.post,true,jj.self.post2,fun X=>jj.self X⟩
theorem jj.self.ok:AltOk Z9 69 jj.self.ma:=JI.Self.ok_tongue_parser_choice_b
def jb.self (X:densU jb.self.pre.tys):Option (densU jb.self.post.tys⊕densU jb.self.post2.tys):=JI.Self.F_tongue_parser_statement_b X
def jb.self.ma:MAlt:=⟨31,jb.self.pre,jb.self.post,true,jb.self.post2,fun X=>jb.self X⟩
theorem jb.self.ok:AltOk Z9 31 jb.self.ma:=JI.Self.ok_tongue_parser_statement_b
def jl.pre:Shape:=⟨[(0,tg0)],[(1000100,tg2)]⟩
def jl.post:Shape:=⟨[(0,tg15)],[(1000100,tg2)]⟩
def jl.post2:Shape:=⟨[(0,tg12)],[(1000100,tg2)]⟩
def jl.c3 {ρ:Type} (uf:List Z8)(ua:Z6)(ub:Int)(uc:Int)(ud:Z6)(ue:Int)(Z:((List Z8)×Z6×Int×Int×Z6×Int)⊕(Int×Z6×Int×Int×Z6×Int)→Option ρ):Option ρ:=
  bnd (jb.self (ua,ub,uc,ud,ue,())) fun y=>
  sel y
   (fun u=>bnd (okIf (decide ((uf.length+1)*64≤140737488355328)&&decide (uf.length+1≤140737488355328))) fun y1=>
    Z (.inl ((uf++[u.1]),u.2.1,u.2.2.1,u.2.2.2.1,u.2.2.2.2.1,u.2.2.2.2.2.1)))
   (fun v=>Z (.inr (v.1,v.2.1,v.2.2.1,v.2.2.2.1,v.2.2.2.2.1,v.2.2.2.2.2.1)))
def jl.c3s:Shape:=(((((jl.pre.s 2 tg9).s 3 tg10).o 2 tg19).o 3 tg41).o 5003 tg29)
def jl.c3x1:Shape:=((((jl.c3s.d 0).d 2).d 3).o 900001 tg13)
def jl.c3r:RC:=⟨jl.c3s,[(jl.c3s,0,[9,206]),(jl.c3x1,1000000,[10,205,101])],no,[9,10,11,12,13,14],fun _=>jl.c3,fun _ _ _ _ _ _ _ _=>jm fun _=>(Jw (fun _=>(jm fun _=>jd)) (fun _=>jd))⟩
def jl.ca_ {ρ:Type} (uf:List Z8)(ua:Z6)(ub:Int)(uc:Int)(ud:Z6)(ue:Int)(Z:((List Z8)×Z6×Int×Int×Z6×Int)⊕(((List Z8)×Int×Z6×Int×Int×Z6×Int)⊕((List Z8)×Z6×Int×Int×Z6×Int))→Option ρ):Option ρ:=
  bnd (jq (Z5 [125]) ua ub uc ud ue) fun y=>
  br (!y.1)
   (bnd (jl.c3 uf y.2.1 y.2.2.1 y.2.2.2.1 y.2.2.2.2.1 y.2.2.2.2.2.1 some) fun y1=>
    sel y1
     (fun u=>Z (.inl (u.1,u.2.1,u.2.2.1,u.2.2.2.1,u.2.2.2.2.1,u.2.2.2.2.2)))
     (fun v=>Z (.inr (.inl (uf,v.1,v.2.1,v.2.2.1,v.2.2.2.1,v.2.2.2.2.1,v.2.2.2.2.2)))))
   (Z (.inr (.inr (uf,y.2.1,y.2.2.1,y.2.2.2.1,y.2.2.2.2.1,y.2.2.2.2.2.1))))
def jl.ca_r:LC:=⟨jl.c3s,[(jl.c3x1,1000000,[9,206,101]),(jl.c3s,2,[9,206])],no,[9,10,11,12,13,14],[9,10,11,12,13,14],fun _=>jl.ca_,fun _ _ _ _ _ _ _ _=>jm fun _=>(jN (jm fun _=>(Jw (fun _=>jd) (fun _=>jd))) jd)⟩
def jl (ua:Z6) (ub:Int) (uc:Int) (ud:Z6) (ue:Int):Option ((Z8×Z6×Int×Int×Z6×Int×Unit)⊕(Int×Z6×Int×Int×Z6×Int×Unit)):=
  bnd (jr (Z5 [123]) ua ub uc ud ue) fun y=>
  sel y
   (fun u=>bnd (JO (7:Int) u.1) fun y1=>
    bnd (iter (fun s↦jl.ca_ s.1 s.2.1 s.2.2.1 s.2.2.2.1 s.2.2.2.2.1 s.2.2.2.2.2 some) ([],u.2.1,u.2.2.1,u.2.2.2.1,u.2.2.2.2.1,u.2.2.2.2.2.1)) fun y2=>
    sel y2
     (fun u_1=>some (Sum.inr (u_1.2.1,u_1.2.2.1,u_1.2.2.2.1,u_1.2.2.2.2.1,u_1.2.2.2.2.2.1,u_1.2.2.2.2.2.2,())))
     (fun v_1=>some (Sum.inl (Rose.mk (y1.1,y1.2.1,y1.2.2.1,y1.2.2.2.1) v_1.1,v_1.2.1,v_1.2.2.1,v_1.2.2.2.1,v_1.2.2.2.2.1,v_1.2.2.2.2.2,()))))
   (fun v=>some (Sum.inr (v.1,v.2.1,v.2.2.1,v.2.2.2.1,v.2.2.2.2.1,v.2.2.2.2.2.1,())))
def jl.ma:MAlt:=⟨67,jl.pre,jl.post,true,jl.post2,fun X=>jl X.1 X.2.1 X.2.2.1 X.2.2.2.1 (q4 X).1⟩
def jl.G:EB Z9:=⟨tb,Tryz.f67,[],[0,2,3,9],[3,5003,1000100],[(3,[(3,[1000100]),(4,[14]),(5,[5003]),(7,[3])])],[(100002,jl.ca_r.ck),(3,jl.c3r.ck)],[⟨68,JO.mc,JO.ok⟩,⟨25,jq.mc,jq.ok⟩],[⟨27,jr.ma,jr.ok⟩,⟨31,jb.self.ma,jb.self.ok⟩]⟩
theorem jl.ok:AltOk Z9 67 jl.ma:=fnA jl.G (ma:=jl.ma) Tryz.func67 (m:=2) ⟨⟨trivial,kL jl.ca_r⟩,kR jl.c3r⟩
def jj.pre:Shape:=⟨[(0,tg0),(1,tg8)],[(1000100,tg2)]⟩
def jj.post:Shape:=⟨[(0,tg15)],[(1000100,tg2)]⟩
def jj.post2:Shape:=⟨[(0,tg12)],[(1000100,tg2)]⟩
def jj.cc_ {ρ:Type} (n3:Int)(ua:Z6)(ub:Int)(uc:Int)(ud:Z6)(ue:Int)(Z:Int×Z6×Int×Int×Z6×Int→Option ρ):Option ρ:=
  bnd (jq (Z5 [33]) ua ub uc ud ue) fun y=>
  br y.1
   (Z ((1:Int),y.2.1,y.2.2.1,y.2.2.2.1,y.2.2.2.2.1,y.2.2.2.2.2.1))
   (Z (n3,y.2.1,y.2.2.1,y.2.2.2.1,y.2.2.2.2.1,y.2.2.2.2.2.1))
def jj.cc_s:Shape:=(((((((jj.pre.s 3 tg10).s 4 tg14).s 5 tg23).o 3 tg11).o 4 tg19).o 5 tg42).o 5005 tg29)
def jj.cc_r:RC:=⟨jj.cc_s,[(jj.cc_s,0,[12,201,1,205])],no,[12,14,15,16,17,18],fun _=>jj.cc_,fun _ _ _ _ _ _ _ _=>jm fun _=>(jN jd jd)⟩
def jj.c4 {ρ:Type} (ug:List Z8)(ua:Z6)(ub:Int)(uc:Int)(ud:Z6)(ue:Int)(Z:((List Z8)×Z6×Int×Int×Z6×Int)⊕(Int×Z6×Int×Int×Z6×Int)→Option ρ):Option ρ:=
  bnd (Jl ua ub uc ud ue) fun y=>
  sel y
   (fun u=>bnd (jl.self (u.2.1,u.2.2.1,u.2.2.2.1,u.2.2.2.2.1,u.2.2.2.2.2.1,())) fun y1=>
    sel y1
     (fun u_1=>bnd (okIf (decide ((ug.length+2)*64≤140737488355328)&&decide (ug.length+2≤140737488355328))) fun y2=>
      Z (.inl ((ug++[u.1,u_1.1]),u_1.2.1,u_1.2.2.1,u_1.2.2.2.1,u_1.2.2.2.2.1,u_1.2.2.2.2.2.1)))
     (fun v_1=>Z (.inr (v_1.1,v_1.2.1,v_1.2.2.1,v_1.2.2.2.1,v_1.2.2.2.2.1,v_1.2.2.2.2.2.1))))
   (fun v=>Z (.inr (v.1,v.2.1,v.2.2.1,v.2.2.2.1,v.2.2.2.2.1,v.2.2.2.2.2.1)))
def jj.c4x1:Shape:=((((((jj.cc_s.d 0).d 1).d 3).d 4).d 5).o 900001 tg13)
def jj.c4r:RC:=⟨jj.cc_s,[(jj.cc_s,0,[13,206]),(jj.c4x1,1000000,[301,13,205,101])],no,[13,14,15,16,17,18],fun _=>jj.c4,fun _ _ _ _ _ _ _ _=>jm fun _=>(Jw (fun _=>(jm fun _=>(Jw (fun _=>(jm fun _=>jd)) (fun _=>jd)))) (fun _=>jd))⟩
def jj.c6 {ρ:Type} (ug:List Z8)(ua:Z6)(ub:Int)(uc:Int)(ud:Z6)(ue:Int)(Z:((List Z8)×Z6×Int×Int×Z6×Int)⊕(Int×Z6×Int×Int×Z6×Int)→Option ρ):Option ρ:=
  bnd (jl.self (ua,ub,uc,ud,ue,())) fun y=>
  sel y
   (fun u=>bnd (okIf (decide ((ug.length+1)*64≤140737488355328)&&decide (ug.length+1≤140737488355328))) fun y1=>
    Z (.inl ((ug++[u.1]),u.2.1,u.2.2.1,u.2.2.2.1,u.2.2.2.2.1,u.2.2.2.2.2.1)))
   (fun v=>Z (.inr (v.1,v.2.1,v.2.2.1,v.2.2.2.1,v.2.2.2.2.1,v.2.2.2.2.2.1)))
def jj.c6r:RC:=⟨jj.cc_s,[(jj.cc_s,0,[13,206]),(jj.c4x1,1000000,[301,13,205,101])],no,[13,14,15,16,17,18],fun _=>jj.c6,fun _ _ _ _ _ _ _ _=>jm fun _=>(Jw (fun _=>(jm fun _=>jd)) (fun _=>jd))⟩
def jj.cg_ {ρ:Type} (ug:List Z8)(ua:Z6)(ub:Int)(uc:Int)(ud:Z6)(ue:Int)(Z:((List Z8)×Z6×Int×Int×Z6×Int)⊕(Int×Z6×Int×Int×Z6×Int)→Option ρ):Option ρ:=
  bnd (jq (Z5 [101,108,115,101]) ua ub uc ud ue) fun y=>
  br y.1
   (bnd (jj.c6 ug y.2.1 y.2.2.1 y.2.2.2.1 y.2.2.2.2.1 y.2.2.2.2.2.1 some) fun y1=>
    sel y1
     (fun u=>Z (.inl (u.1,u.2.1,u.2.2.1,u.2.2.2.1,u.2.2.2.2.1,u.2.2.2.2.2)))
     (fun v=>Z (.inr (v.1,v.2.1,v.2.2.1,v.2.2.2.1,v.2.2.2.2.1,v.2.2.2.2.2))))
   (Z (.inl (ug,y.2.1,y.2.2.1,y.2.2.2.1,y.2.2.2.2.1,y.2.2.2.2.2.1)))
def jj.cg_r:RC:=⟨jj.cc_s,[(jj.cc_s,0,[13,206]),(jj.c4x1,1000000,[301,13,205,101])],no,[13,14,15,16,17,18],fun _=>jj.cg_,fun _ _ _ _ _ _ _ _=>jm fun _=>(jN (jm fun _=>(Jw (fun _=>jd) (fun _=>jd))) jd)⟩
def jj (t:Int×(Z6×Int)) (ua:Z6) (ub:Int) (uc:Int) (ud:Z6) (ue:Int):Option ((Z8×Z6×Int×Int×Z6×Int×Unit)⊕(Int×Z6×Int×Int×Z6×Int×Unit)):=
  bnd (JO (14:Int) (t.1,t.2.1,t.2.2)) fun y=>
  bnd (jj.cc_ y.2.2.2.1 ua ub uc ud ue some) fun y1=>
  bnd (jj.c4 [] y1.2.1 y1.2.2.1 y1.2.2.2.1 y1.2.2.2.2.1 y1.2.2.2.2.2 some) fun y2=>
  sel y2
   (fun u=>bnd (jj.cg_ u.1 u.2.1 u.2.2.1 u.2.2.2.1 u.2.2.2.2.1 u.2.2.2.2.2 some) fun y3=>
    sel y3
     (fun u_1=>some (Sum.inl (Rose.mk (y.1,y.2.1,y.2.2.1,y1.1) u_1.1,u_1.2.1,u_1.2.2.1,u_1.2.2.2.1,u_1.2.2.2.2.1,u_1.2.2.2.2.2,())))
     (fun v_1=>some (Sum.inr (v_1.1,v_1.2.1,v_1.2.2.1,v_1.2.2.2.1,v_1.2.2.2.2.1,v_1.2.2.2.2.2,()))))
   (fun v=>some (Sum.inr (v.1,v.2.1,v.2.2.1,v.2.2.2.1,v.2.2.2.2.1,v.2.2.2.2.2,())))
def jj.ma:MAlt:=⟨69,jj.pre,jj.post,true,jj.post2,fun X=>jj X.1 X.2.1 X.2.2.1 X.2.2.2.1 (q4 X).1 (q4 X).2.1⟩
def jj.G:EB Z9:=⟨tb,Tryz.f69,[],[0,1,3,4,5,9,21],[5,5005,1000100],[(6,[(3,[1000100]),(4,[26]),(5,[5005]),(7,[5])]),(4,[(3,[1000100]),(5,[1000100]),(6,[17]),(7,[5005]),(9,[5])])],[(220485,jj.cg_r.ck),(6,jj.c6r.ck),(4,jj.c4r.ck),(208197,jj.cc_r.ck)],[⟨68,JO.mc,JO.ok⟩,⟨25,jq.mc,jq.ok⟩],[⟨70,Jl.ma,Jl.ok⟩,⟨67,jl.self.ma,jl.self.ok⟩]⟩
theorem jj.ok:AltOk Z9 69 jj.ma:=fnA jj.G (ma:=jj.ma) Tryz.func69 (m:=4) ⟨⟨⟨⟨trivial,kJ jj.cc_r⟩,kR jj.c4r⟩,kJ jj.cg_r⟩,kR jj.c6r⟩
def jb.pre:Shape:=⟨[(0,tg0)],[(1000100,tg2)]⟩
def jb.post:Shape:=⟨[(0,tg15)],[(1000100,tg2)]⟩
def jb.post2:Shape:=⟨[(0,tg12)],[(1000100,tg2)]⟩
def jb.c8 {ρ:Type} (t0:Int)(t1:Z6)(t2:Int)(w0:Int)(w1:Z6)(w2:Int)(lo0:Int)(lo1:Int)(lo2:Z6)(lo3:Int)(lo4:List Z8)(hi0:Int)(hi1:Int)(hi2:Z6)(hi3:Int)(hi4:List Z8)(ua:Z6)(ub:Int)(uc:Int)(ud:Z6)(ue:Int)(Z:(Int×Int×Z6×Int×(List Z8)×Z6×Int×Int×Z6×Int)⊕(Int×Z6×Int×Int×Z6×Int)→Option ρ):Option ρ:=
  bnd (jl.self (ua,ub,uc,ud,ue,())) fun y=>
  sel y
   (fun u=>bnd (Jv (12:Int) (t0,t1,t2) (w0,w1,w2) [Rose.mk (lo0,lo1,lo2,lo3) lo4,Rose.mk (hi0,hi1,hi2,hi3) hi4,u.1]) fun y1=>
    Z (.inl (y1.head.1,y1.head.2.1,y1.head.2.2.1,y1.head.2.2.2,y1.kids,u.2.1,u.2.2.1,u.2.2.2.1,u.2.2.2.2.1,u.2.2.2.2.2.1)))
   (fun v=>Z (.inr (v.1,v.2.1,v.2.2.1,v.2.2.2.1,v.2.2.2.2.1,v.2.2.2.2.2.1)))
def jb.c8s:Shape:=((((((((((jb.pre.s 2 tg9).s 3 tg10).s 4 tg14).s 5 tg23).s 6 tg20).o 2 tg19).o 3 tg11).o 4 tg11).o 5 tg19).o 6 tg19)
def jb.c8x1:Shape:=(((((((jb.c8s.d 0).d 2).d 3).d 4).d 5).d 6).o 900001 tg13)
def jb.c8r:RC:=⟨jb.c8s,[(jb.c8s,0,[205,16,205]),(jb.c8x1,1000000,[21,205,101])],no,[5,6,7,8,9,10,11,12,13,14,15,16,17,18,19,20,21,22,23,24,25],fun _=>jb.c8,fun _ _ _ _ _ _ _ _ _ _ _ _ _ _ _ _ _ _ _ _ _ _ _=>jm fun _=>(Jw (fun _=>(jm fun _=>jd)) (fun _=>jd))⟩
def jb.c11 {ρ:Type} (t0:Int)(t1:Z6)(t2:Int)(e0:Int)(e1:Int)(e2:Z6)(e3:Int)(e4:List Z8)(ua:Z6)(ub:Int)(uc:Int)(ud:Z6)(ue:Int)(Z:(Int×Int×Z6×Int×(List Z8)×Z6×Int×Int×Z6×Int)⊕(Int×Z6×Int×Int×Z6×Int)→Option ρ):Option ρ:=
  bnd (jl.self (ua,ub,uc,ud,ue,())) fun y=>
  sel y
   (fun u=>bnd (Jy (13:Int) (t0,t1,t2) [Rose.mk (e0,e1,e2,e3) e4,u.1]) fun y1=>
    Z (.inl (y1.head.1,y1.head.2.1,y1.head.2.2.1,y1.head.2.2.2,y1.kids,u.2.1,u.2.2.1,u.2.2.2.1,u.2.2.2.2.1,u.2.2.2.2.2.1)))
   (fun v=>Z (.inr (v.1,v.2.1,v.2.2.1,v.2.2.2.1,v.2.2.2.2.1,v.2.2.2.2.2.1)))
def jb.c11s:Shape:=((((((((jb.c8s.d 4).d 5).d 6).s 7 tg21).g 4).g 5).g 6).o 7 tg19)
def jb.c11x1:Shape:=((((jb.c8x1.g 4).g 5).g 6).o 7 tg19)
def jb.c11r:RC:=⟨jb.c11s,[(jb.c11s,0,[205,8,205]),(jb.c11x1,1000000,[13,205,101])],no,[5,6,7,8,9,10,11,12,13,14,15,16,17],fun _=>jb.c11,fun _ _ _ _ _ _ _ _ _ _ _ _ _ _ _=>jm fun _=>(Jw (fun _=>(jm fun _=>jd)) (fun _=>jd))⟩
def jb.c27 {ρ:Type} (t0:Int)(t1:Z6)(t2:Int)(a0:Int)(a1:Int)(a2:Z6)(a3:Int)(a4:List Z8)(ua:Z6)(ub:Int)(uc:Int)(ud:Z6)(ue:Int)(Z:(Int×Int×Z6×Int×(List Z8)×Z6×Int×Int×Z6×Int)⊕(Int×Z6×Int×Int×Z6×Int)→Option ρ):Option ρ:=
  bnd (jl.self (ua,ub,uc,ud,ue,())) fun y=>
  sel y
   (fun u=>bnd (Jy (17:Int) (t0,t1,t2) [Rose.mk (a0,a1,a2,a3) a4,u.1]) fun y1=>
    Z (.inl (y1.head.1,y1.head.2.1,y1.head.2.2.1,y1.head.2.2.2,y1.kids,u.2.1,u.2.2.1,u.2.2.2.1,u.2.2.2.2.1,u.2.2.2.2.2.1)))
   (fun v=>Z (.inr (v.1,v.2.1,v.2.2.1,v.2.2.2.1,v.2.2.2.2.1,v.2.2.2.2.2.1)))
def jb.c27s:Shape:=((((jb.c11s.d 7).s 11 tg43).g 7).o 11 tg19)
def jb.c27x1:Shape:=((jb.c11x1.g 7).o 11 tg19)
def jb.c27r:RC:=⟨jb.c27s,[(jb.c27s,0,[205,8,205]),(jb.c27x1,1000000,[13,205,101])],no,[5,6,7,8,9,10,11,12,13,14,15,16,17],fun _=>jb.c27,fun _ _ _ _ _ _ _ _ _ _ _ _ _ _ _=>jm fun _=>(Jw (fun _=>(jm fun _=>jd)) (fun _=>jd))⟩
def jb.cp_ {ρ:Type} (ua:Z6)(ub:Int)(uc:Int)(ud:Z6)(ue:Int)(Z:Bool×Z6×Int×Int×Z6×Int→Option ρ):Option ρ:=
  bnd (jM (Z5 [105,110,118]) ua ub uc ud ue) fun y=>
  br y.1
   (Z (y.1,y.2.1,y.2.2.1,y.2.2.2.1,y.2.2.2.2.1,y.2.2.2.2.2.1))
   (bnd (jM (Z5 [99,116,114,108]) y.2.1 y.2.2.1 y.2.2.2.1 y.2.2.2.2.1 y.2.2.2.2.2.1) fun y1=>
    br y1.1
     (Z (y1.1,y1.2.1,y1.2.2.1,y1.2.2.2.1,y1.2.2.2.2.1,y1.2.2.2.2.2.1))
     (bnd (jM (Z5 [112,111,119]) y1.2.1 y1.2.2.1 y1.2.2.2.1 y1.2.2.2.2.1 y1.2.2.2.2.2.1) fun y2=>
      Z (y2.1,y2.2.1,y2.2.2.1,y2.2.2.2.1,y2.2.2.2.2.1,y2.2.2.2.2.2.1)))
def jb.cp_s:Shape:=((jb.c11s.d 7).g 7)
def jb.cp_x0:Shape:=(jb.cp_s.s 97 tg3)
def jb.cp_r:RC:=⟨jb.cp_s,[(jb.cp_x0,0,[101,8,205])],no,[8,9,10,11,12],fun _=>jb.cp_,fun _ _ _ _ _ _ _=>jm fun _=>(jN jd (jm fun _=>(jN jd (jm fun _=>jd))))⟩
def jb.c33 {ρ:Type} (ua:Z6)(ub:Int)(uc:Int)(ud:Z6)(ue:Int)(Z:Bool×Z6×Int×Int×Z6×Int→Option ρ):Option ρ:=
  bnd (jM (Z5 [91]) ua ub uc ud ue) fun y=>
  br y.1
   (Z (true,y.2.1,y.2.2.1,y.2.2.2.1,y.2.2.2.2.1,y.2.2.2.2.2.1))
   (bnd (jM (Z5 [94,61]) y.2.1 y.2.2.1 y.2.2.2.1 y.2.2.2.2.1 y.2.2.2.2.2.1) fun y1=>
    Z (y1.1,y1.2.1,y1.2.2.1,y1.2.2.2.1,y1.2.2.2.2.1,y1.2.2.2.2.2.1))
def jb.c33s:Shape:=((jb.cp_x0.s 12 tg44).o 12 tg11)
def jb.c33x0:Shape:=(jb.c33s.s 114 tg3)
def jb.c33r:RC:=⟨jb.c33s,[(jb.c33x0,0,[1,101,11,205])],no,[12,13,14,15,16],fun _=>jb.c33,fun _ _ _ _ _ _ _=>jm fun _=>(jN jd (jm fun _=>jd))⟩
def jb (ua:Z6) (ub:Int) (uc:Int) (ud:Z6) (ue:Int):Option ((Z8×Z6×Int×Int×Z6×Int×Unit)⊕(Int×Z6×Int×Int×Z6×Int×Unit)):=
  bnd (jq (Z5 [102,111,114]) ua ub uc ud ue) fun y=>
  br y.1
   (bnd (jJ y.2.1 y.2.2.1 y.2.2.2.1 y.2.2.2.2.1 y.2.2.2.2.2.1) fun y1=>
    sel y1
     (fun u=>bnd (jr (Z5 [105,110]) u.2.1 u.2.2.1 u.2.2.2.1 u.2.2.2.2.1 u.2.2.2.2.2.1) fun y2=>
      sel y2
       (fun u_1=>bnd (Jq (u_1.2.1,u_1.2.2.1,u_1.2.2.2.1,u_1.2.2.2.2.1,u_1.2.2.2.2.2.1,())) fun y3=>
        sel y3
         (fun u_2=>bnd (jr (Z5 [46,46]) u_2.2.1 u_2.2.2.1 u_2.2.2.2.1 u_2.2.2.2.2.1 u_2.2.2.2.2.2.1) fun y4=>
          sel y4
           (fun u_3=>bnd (Jq (u_3.2.1,u_3.2.2.1,u_3.2.2.2.1,u_3.2.2.2.2.1,u_3.2.2.2.2.2.1,())) fun y5=>
            sel y5
             (fun u_4=>bnd (jb.c8 uc ud ue u.1.1 u.1.2.1 u.1.2.2 u_2.1.head.1 u_2.1.head.2.1 u_2.1.head.2.2.1 u_2.1.head.2.2.2 u_2.1.kids u_4.1.head.1 u_4.1.head.2.1 u_4.1.head.2.2.1 u_4.1.head.2.2.2 u_4.1.kids u_4.2.1 u_4.2.2.1 u_4.2.2.2.1 u_4.2.2.2.2.1 u_4.2.2.2.2.2.1 some) fun y6=>
              sel y6
               (fun u_5=>some (Sum.inl (Rose.mk (u_5.1,u_5.2.1,u_5.2.2.1,u_5.2.2.2.1) u_5.2.2.2.2.1,u_5.2.2.2.2.2.1,u_5.2.2.2.2.2.2.1,u_5.2.2.2.2.2.2.2.1,u_5.2.2.2.2.2.2.2.2.1,u_5.2.2.2.2.2.2.2.2.2,())))
               (fun v_5=>some (Sum.inr (v_5.1,v_5.2.1,v_5.2.2.1,v_5.2.2.2.1,v_5.2.2.2.2.1,v_5.2.2.2.2.2,()))))
             (fun v_4=>some (Sum.inr (v_4.1,v_4.2.1,v_4.2.2.1,v_4.2.2.2.1,v_4.2.2.2.2.1,v_4.2.2.2.2.2.1,()))))
           (fun v_3=>some (Sum.inr (v_3.1,v_3.2.1,v_3.2.2.1,v_3.2.2.2.1,v_3.2.2.2.2.1,v_3.2.2.2.2.2.1,()))))
         (fun v_2=>some (Sum.inr (v_2.1,v_2.2.1,v_2.2.2.1,v_2.2.2.2.1,v_2.2.2.2.2.1,v_2.2.2.2.2.2.1,()))))
       (fun v_1=>some (Sum.inr (v_1.1,v_1.2.1,v_1.2.2.1,v_1.2.2.2.1,v_1.2.2.2.2.1,v_1.2.2.2.2.2.1,()))))
     (fun v=>some (Sum.inr (v.1,v.2.1,v.2.2.1,v.2.2.2.1,v.2.2.2.2.1,v.2.2.2.2.2.1,()))))
   (bnd (jq (Z5 [119,104,101,110]) y.2.1 y.2.2.1 y.2.2.2.1 y.2.2.2.2.1 y.2.2.2.2.2.1) fun y7=>
    br y7.1
     (bnd (Jq (y7.2.1,y7.2.2.1,y7.2.2.2.1,y7.2.2.2.2.1,y7.2.2.2.2.2.1,())) fun y8=>
      sel y8
       (fun u_6=>bnd (jb.c11 uc ud ue u_6.1.head.1 u_6.1.head.2.1 u_6.1.head.2.2.1 u_6.1.head.2.2.2 u_6.1.kids u_6.2.1 u_6.2.2.1 u_6.2.2.2.1 u_6.2.2.2.2.1 u_6.2.2.2.2.2.1 some) fun y9=>
        sel y9
         (fun u_7=>some (Sum.inl (Rose.mk (u_7.1,u_7.2.1,u_7.2.2.1,u_7.2.2.2.1) u_7.2.2.2.2.1,u_7.2.2.2.2.2.1,u_7.2.2.2.2.2.2.1,u_7.2.2.2.2.2.2.2.1,u_7.2.2.2.2.2.2.2.2.1,u_7.2.2.2.2.2.2.2.2.2,())))
         (fun v_7=>some (Sum.inr (v_7.1,v_7.2.1,v_7.2.2.1,v_7.2.2.2.1,v_7.2.2.2.2.1,v_7.2.2.2.2.2,()))))
       (fun v_6=>some (Sum.inr (v_6.1,v_6.2.1,v_6.2.2.1,v_6.2.2.2.1,v_6.2.2.2.2.1,v_6.2.2.2.2.2.1,()))))
     (bnd (jq (Z5 [105,102]) y7.2.1 y7.2.2.1 y7.2.2.2.1 y7.2.2.2.2.1 y7.2.2.2.2.2.1) fun y10=>
      br y10.1
       (bnd (jj.self ((uc,ud,ue),y10.2.1,y10.2.2.1,y10.2.2.2.1,y10.2.2.2.2.1,y10.2.2.2.2.2.1,())) fun y11=>
        sel y11
         (fun u_8=>some (Sum.inl (Rose.mk (u_8.1.head.1,u_8.1.head.2.1,u_8.1.head.2.2.1,u_8.1.head.2.2.2) u_8.1.kids,u_8.2.1,u_8.2.2.1,u_8.2.2.2.1,u_8.2.2.2.2.1,u_8.2.2.2.2.2.1,())))
         (fun v_8=>some (Sum.inr (v_8.1,v_8.2.1,v_8.2.2.1,v_8.2.2.2.1,v_8.2.2.2.2.1,v_8.2.2.2.2.2.1,()))))
       (bnd (jq (Z5 [109,101,97,115,117,114,101]) y10.2.1 y10.2.2.1 y10.2.2.2.1 y10.2.2.2.2.1 y10.2.2.2.2.2.1) fun y12=>
        br y12.1
         (bnd (Jl y12.2.1 y12.2.2.1 y12.2.2.2.1 y12.2.2.2.2.1 y12.2.2.2.2.2.1) fun y13=>
          sel y13
           (fun u_9=>bnd (jr (Z5 [45,62]) u_9.2.1 u_9.2.2.1 u_9.2.2.2.1 u_9.2.2.2.2.1 u_9.2.2.2.2.2.1) fun y14=>
            sel y14
             (fun u_10=>bnd (Jl u_10.2.1 u_10.2.2.1 u_10.2.2.2.1 u_10.2.2.2.2.1 u_10.2.2.2.2.2.1) fun y15=>
              sel y15
               (fun u_11=>bnd (jr (Z5 [59]) u_11.2.1 u_11.2.2.1 u_11.2.2.2.1 u_11.2.2.2.2.1 u_11.2.2.2.2.2.1) fun y16=>
                sel y16
                 (fun u_12=>bnd (Jy (15:Int) (uc,ud,ue) [Rose.mk (u_9.1.head.1,u_9.1.head.2.1,u_9.1.head.2.2.1,u_9.1.head.2.2.2) u_9.1.kids,Rose.mk (u_11.1.head.1,u_11.1.head.2.1,u_11.1.head.2.2.1,u_11.1.head.2.2.2) u_11.1.kids]) fun y17=>
                  some (Sum.inl (Rose.mk (y17.head.1,y17.head.2.1,y17.head.2.2.1,y17.head.2.2.2) y17.kids,u_12.2.1,u_12.2.2.1,u_12.2.2.2.1,u_12.2.2.2.2.1,u_12.2.2.2.2.2.1,())))
                 (fun v_12=>some (Sum.inr (v_12.1,v_12.2.1,v_12.2.2.1,v_12.2.2.2.1,v_12.2.2.2.2.1,v_12.2.2.2.2.2.1,()))))
               (fun v_11=>some (Sum.inr (v_11.1,v_11.2.1,v_11.2.2.1,v_11.2.2.2.1,v_11.2.2.2.2.1,v_11.2.2.2.2.2.1,()))))
             (fun v_10=>some (Sum.inr (v_10.1,v_10.2.1,v_10.2.2.1,v_10.2.2.2.1,v_10.2.2.2.2.1,v_10.2.2.2.2.2.1,()))))
           (fun v_9=>some (Sum.inr (v_9.1,v_9.2.1,v_9.2.2.1,v_9.2.2.2.1,v_9.2.2.2.2.1,v_9.2.2.2.2.2.1,()))))
         (bnd (jq (Z5 [114,101,115,101,116]) y12.2.1 y12.2.2.1 y12.2.2.2.1 y12.2.2.2.2.1 y12.2.2.2.2.2.1) fun y18=>
          br y18.1
           (bnd (Jl y18.2.1 y18.2.2.1 y18.2.2.2.1 y18.2.2.2.2.1 y18.2.2.2.2.2.1) fun y19=>
            sel y19
             (fun u_13=>bnd (jr (Z5 [59]) u_13.2.1 u_13.2.2.1 u_13.2.2.2.1 u_13.2.2.2.2.1 u_13.2.2.2.2.2.1) fun y20=>
              sel y20
               (fun u_14=>bnd (Jy (16:Int) (uc,ud,ue) [Rose.mk (u_13.1.head.1,u_13.1.head.2.1,u_13.1.head.2.2.1,u_13.1.head.2.2.2) u_13.1.kids]) fun y21=>
                some (Sum.inl (Rose.mk (y21.head.1,y21.head.2.1,y21.head.2.2.1,y21.head.2.2.2) y21.kids,u_14.2.1,u_14.2.2.1,u_14.2.2.2.1,u_14.2.2.2.2.1,u_14.2.2.2.2.2.1,())))
               (fun v_14=>some (Sum.inr (v_14.1,v_14.2.1,v_14.2.2.1,v_14.2.2.2.1,v_14.2.2.2.2.1,v_14.2.2.2.2.2.1,()))))
             (fun v_13=>some (Sum.inr (v_13.1,v_13.2.1,v_13.2.2.1,v_13.2.2.2.1,v_13.2.2.2.2.1,v_13.2.2.2.2.2.1,()))))
           (bnd (jq (Z5 [119,105,116,104,105,110]) y18.2.1 y18.2.2.1 y18.2.2.2.1 y18.2.2.2.2.1 y18.2.2.2.2.2.1) fun y22=>
            br y22.1
             (bnd (jl.self (y22.2.1,y22.2.2.1,y22.2.2.2.1,y22.2.2.2.2.1,y22.2.2.2.2.2.1,())) fun y23=>
              sel y23
               (fun u_15=>bnd (jr (Z5 [97,112,112,108,121]) u_15.2.1 u_15.2.2.1 u_15.2.2.2.1 u_15.2.2.2.2.1 u_15.2.2.2.2.2.1) fun y24=>
                sel y24
                 (fun u_16=>bnd (jb.c27 uc ud ue u_15.1.head.1 u_15.1.head.2.1 u_15.1.head.2.2.1 u_15.1.head.2.2.2 u_15.1.kids u_16.2.1 u_16.2.2.1 u_16.2.2.2.1 u_16.2.2.2.2.1 u_16.2.2.2.2.2.1 some) fun y25=>
                  sel y25
                   (fun u_17=>some (Sum.inl (Rose.mk (u_17.1,u_17.2.1,u_17.2.2.1,u_17.2.2.2.1) u_17.2.2.2.2.1,u_17.2.2.2.2.2.1,u_17.2.2.2.2.2.2.1,u_17.2.2.2.2.2.2.2.1,u_17.2.2.2.2.2.2.2.2.1,u_17.2.2.2.2.2.2.2.2.2,())))
                   (fun v_17=>some (Sum.inr (v_17.1,v_17.2.1,v_17.2.2.1,v_17.2.2.2.1,v_17.2.2.2.2.1,v_17.2.2.2.2.2,()))))
                 (fun v_16=>some (Sum.inr (v_16.1,v_16.2.1,v_16.2.2.1,v_16.2.2.2.1,v_16.2.2.2.2.1,v_16.2.2.2.2.2.1,()))))
               (fun v_15=>some (Sum.inr (v_15.1,v_15.2.1,v_15.2.2.1,v_15.2.2.2.1,v_15.2.2.2.2.1,v_15.2.2.2.2.2.1,()))))
             (bnd (jb.cp_ y22.2.1 y22.2.2.1 y22.2.2.2.1 y22.2.2.2.2.1 y22.2.2.2.2.2.1 some) fun y26=>
              br y26.1
               (bnd (jk (uc,ud,ue) y26.2.1 y26.2.2.1 y26.2.2.2.1 y26.2.2.2.2.1 y26.2.2.2.2.2) fun y27=>
                sel y27
                 (fun u_18=>some (Sum.inl (Rose.mk (u_18.1.head.1,u_18.1.head.2.1,u_18.1.head.2.2.1,u_18.1.head.2.2.2) u_18.1.kids,u_18.2.1,u_18.2.2.1,u_18.2.2.2.1,u_18.2.2.2.2.1,u_18.2.2.2.2.2.1,())))
                 (fun v_18=>some (Sum.inr (v_18.1,v_18.2.1,v_18.2.2.1,v_18.2.2.2.1,v_18.2.2.2.2.1,v_18.2.2.2.2.2.1,()))))
               (bnd (jJ y26.2.1 y26.2.2.1 y26.2.2.2.1 y26.2.2.2.2.1 y26.2.2.2.2.2) fun y28=>
                sel y28
                 (fun u_19=>bnd (jb.c33 u_19.2.1 u_19.2.2.1 u_19.2.2.2.1 u_19.2.2.2.2.1 u_19.2.2.2.2.2.1 some) fun y29=>
                  br y29.1
                   (bnd (ju (u_19.1.1,u_19.1.2.1,u_19.1.2.2) y29.2.1 y29.2.2.1 y29.2.2.2.1 y29.2.2.2.2.1 y29.2.2.2.2.2) fun y30=>
                    sel y30
                     (fun u_20=>bnd (jr (Z5 [94,61]) u_20.2.1 u_20.2.2.1 u_20.2.2.2.1 u_20.2.2.2.2.1 u_20.2.2.2.2.2.1) fun y31=>
                      sel y31
                       (fun u_21=>bnd (kN (u_21.2.1,u_21.2.2.1,u_21.2.2.2.1,u_21.2.2.2.2.1,u_21.2.2.2.2.2.1,())) fun y32=>
                        sel y32
                         (fun u_22=>bnd (jr (Z5 [59]) u_22.2.1 u_22.2.2.1 u_22.2.2.2.1 u_22.2.2.2.2.1 u_22.2.2.2.2.2.1) fun y33=>
                          sel y33
                           (fun u_23=>bnd (Jy (18:Int) (uc,ud,ue) [Rose.mk (u_20.1.head.1,u_20.1.head.2.1,u_20.1.head.2.2.1,u_20.1.head.2.2.2) u_20.1.kids,Rose.mk (u_22.1.head.1,u_22.1.head.2.1,u_22.1.head.2.2.1,u_22.1.head.2.2.2) u_22.1.kids]) fun y34=>
                            some (Sum.inl (Rose.mk (y34.head.1,y34.head.2.1,y34.head.2.2.1,y34.head.2.2.2) y34.kids,u_23.2.1,u_23.2.2.1,u_23.2.2.2.1,u_23.2.2.2.2.1,u_23.2.2.2.2.2.1,())))
                           (fun v_23=>some (Sum.inr (v_23.1,v_23.2.1,v_23.2.2.1,v_23.2.2.2.1,v_23.2.2.2.2.1,v_23.2.2.2.2.2.1,()))))
                         (fun v_22=>some (Sum.inr (v_22.1,v_22.2.1,v_22.2.2.1,v_22.2.2.2.1,v_22.2.2.2.2.1,v_22.2.2.2.2.2.1,()))))
                       (fun v_21=>some (Sum.inr (v_21.1,v_21.2.1,v_21.2.2.1,v_21.2.2.2.1,v_21.2.2.2.2.1,v_21.2.2.2.2.2.1,()))))
                     (fun v_20=>some (Sum.inr (v_20.1,v_20.2.1,v_20.2.2.1,v_20.2.2.2.1,v_20.2.2.2.2.1,v_20.2.2.2.2.2.1,()))))
                   (bnd (jE (uc,ud,ue) [] (u_19.1.1,u_19.1.2.1,u_19.1.2.2) y29.2.1 y29.2.2.1 y29.2.2.2.1 y29.2.2.2.2.1 y29.2.2.2.2.2) fun y35=>
                    sel y35
                     (fun u_24=>some (Sum.inl (Rose.mk (u_24.1.head.1,u_24.1.head.2.1,u_24.1.head.2.2.1,u_24.1.head.2.2.2) u_24.1.kids,u_24.2.1,u_24.2.2.1,u_24.2.2.2.1,u_24.2.2.2.2.1,u_24.2.2.2.2.2.1,())))
                     (fun v_24=>some (Sum.inr (v_24.1,v_24.2.1,v_24.2.2.1,v_24.2.2.2.1,v_24.2.2.2.2.1,v_24.2.2.2.2.2.1,())))))
                 (fun v_19=>some (Sum.inr (v_19.1,v_19.2.1,v_19.2.2.1,v_19.2.2.2.1,v_19.2.2.2.2.1,v_19.2.2.2.2.2.1,()))))))))))
def jb.ma:MAlt:=⟨31,jb.pre,jb.post,true,jb.post2,fun X=>jb X.1 X.2.1 X.2.2.1 X.2.2.2.1 (q4 X).1⟩
def jb.G:EB Z9:=⟨tb,Tryz.f31,[⟨29,Jv.ce,Jv.ok⟩,⟨68,Jy.ce,Jy.ok⟩],[0,2,3,4,5,6,7,8,9,10,11,12,13,14,19,40,51,57,73,84,97,114],[1000100,1003146970097,2000000000097],[(27,[(3,[1000100]),(4,[95]),(5,[95]),(6,[2])]),(11,[(3,[1000100]),(4,[49]),(5,[49]),(6,[2])]),(8,[(5,[1000100]),(6,[38]),(7,[38]),(8,[2])])],[(33,jb.c33r.ck),(314697,jb.cp_r.ck),(27,jb.c27r.ck),(11,jb.c11r.ck),(8,jb.c8r.ck)],[⟨25,jq.mc,jq.ok⟩,⟨58,jM.mc,jM.ok⟩],[⟨26,jJ.ma,jJ.ok⟩,⟨27,jr.ma,jr.ok⟩,⟨28,Jq.ma,Jq.ok⟩,⟨67,jl.self.ma,jl.self.ok⟩,⟨69,jj.self.ma,jj.self.ok⟩,⟨70,Jl.ma,Jl.ok⟩,⟨71,jk.ma,jk.ok⟩,⟨72,ju.ma,ju.ok⟩,⟨73,kN.ma,kN.ok⟩,⟨74,jE.ma,jE.ok⟩]⟩
theorem jb.ok:AltOk Z9 31 jb.ma:=fnA jb.G (ma:=jb.ma) Tryz.func31 (m:=5) ⟨⟨⟨⟨⟨trivial,kR jb.c8r⟩,kR jb.c11r⟩,kR jb.c27r⟩,kJ jb.cp_r⟩,kR jb.c33r⟩
end
@[reducible] def JI.fuel:Nat→JI.Self
  | 0=>{ F_tongue_parser_block_b:=fun _=>none,ok_tongue_parser_block_b:=⟨⟨Tryz.f67,Tryz.func67,by kernel_rfl,by kernel_rfl⟩,fun _ _ _ _ _ _ _ hy=>by cases hy⟩,F_tongue_parser_choice_b:=fun _=>none,ok_tongue_parser_choice_b:=⟨⟨Tryz.f69,Tryz.func69,by kernel_rfl,by kernel_rfl⟩,fun _ _ _ _ _ _ _ hy=>by cases hy⟩,F_tongue_parser_statement_b:=fun _=>none,ok_tongue_parser_statement_b:=⟨⟨Tryz.f31,Tryz.func31,by kernel_rfl,by kernel_rfl⟩,fun _ _ _ _ _ _ _ hy=>by cases hy⟩ }
  | n+1=>{ F_tongue_parser_block_b:=fun X=>(@jl.ma (JI.fuel n)).F X,ok_tongue_parser_block_b:=@jl.ok (JI.fuel n),F_tongue_parser_choice_b:=fun X=>(@jj.ma (JI.fuel n)).F X,ok_tongue_parser_choice_b:=@jj.ok (JI.fuel n),F_tongue_parser_statement_b:=fun X=>(@jb.ma (JI.fuel n)).F X,ok_tongue_parser_statement_b:=@jb.ok (JI.fuel n) }
def kQ (X:densU jl.self.pre.tys):Option (densU jl.self.post.tys⊕densU jl.self.post2.tys):=(JI.fuel (1000000)).F_tongue_parser_block_b X
def kQ.ma:MAlt:=⟨67,jl.self.pre,jl.self.post,true,jl.self.post2,fun X=>kQ X⟩
theorem kQ.ok:AltOk Z9 67 kQ.ma:=(JI.fuel (1000000)).ok_tongue_parser_block_b
def ku (X:densU jb.self.pre.tys):Option (densU jb.self.post.tys⊕densU jb.self.post2.tys):=(JI.fuel (1000000)).F_tongue_parser_statement_b X
def ku.ma:MAlt:=⟨31,jb.self.pre,jb.self.post,true,jb.self.post2,fun X=>ku X⟩
theorem ku.ok:AltOk Z9 31 ku.ma:=(JI.fuel (1000000)).ok_tongue_parser_statement_b
abbrev tg45:SD:=.one (.ref 1 0)
def jZ.pre:Shape:=⟨[(0,tg24)],[(1000095,tg25),(1000100,tg2)]⟩
def jZ.post:Shape:=⟨[(0,tg15)],[(1000095,tg25),(1000100,tg2)]⟩
def jZ.post2:Shape:=⟨[(0,tg12)],[(1000095,tg25),(1000100,tg2)]⟩
def jZ.cd_ (n3:Int)(ua:Z6)(ub:Int)(uc:Int)(ud:Z6)(ue:Int)(Z:(Int×Z6×Int×Int×Z6×Int)⊕(Int×Z6×Int×Int×Z6×Int)→Option ρ):Option ρ:=
  bnd (jq (Z5 [91]) ua ub uc ud ue) fun y=>
  br y.1
   (bnd (jr (Z5 [93]) y.2.1 y.2.2.1 y.2.2.2.1 y.2.2.2.2.1 y.2.2.2.2.2.1) fun y1=>
    sel y1
     (fun u=>Z (.inl ((1:Int),u.2.1,u.2.2.1,u.2.2.2.1,u.2.2.2.2.1,u.2.2.2.2.2.1)))
     (fun v=>Z (.inr (v.1,v.2.1,v.2.2.1,v.2.2.2.1,v.2.2.2.2.1,v.2.2.2.2.2.1))))
   (Z (.inl (n3,y.2.1,y.2.2.1,y.2.2.2.1,y.2.2.2.2.1,y.2.2.2.2.2.1)))
def jZ.cd_s:Shape:=((((((jZ.pre.s 1 tg45).s 2 tg9).s 3 tg10).o 1 tg19).o 2 tg11).o 3 tg19)
def jZ.cd_x1:Shape:=(jZ.cd_s.o 900001 tg13)
def jZ.cd_r:RC:=⟨jZ.cd_s,[(jZ.cd_s,0,[11,201,1,205]),(jZ.cd_x1,1000000,[13,205,101])],no,[11,13,14,15,16,17],@jZ.cd_,fun _ _ _ _ _ _ _ _=>jm fun _=>(jN (jm fun _=>(Jw (fun _=>jd) (fun _=>jd))) jd)⟩
def jZ (ua:Z6) (ub:Int) (uc:Int) (ud:Z6) (ue:Int):Option ((Z8×Z6×Int×Int×Z6×Int×Unit)⊕(Int×Z6×Int×Int×Z6×Int×Unit)):=
  bnd (jJ ua ub uc ud ue) fun y=>
  sel y
   (fun u=>bnd (Jv (6:Int) (u.1.1,u.1.2.1,u.1.2.2) (u.1.1,u.1.2.1,u.1.2.2) []) fun y1=>
    bnd (jZ.cd_ y1.head.2.2.2 u.2.1 u.2.2.1 u.2.2.2.1 u.2.2.2.2.1 u.2.2.2.2.2.1 some) fun y2=>
    sel y2
     (fun u_1=>some (Sum.inl (Rose.mk (y1.head.1,y1.head.2.1,y1.head.2.2.1,u_1.1) y1.kids,u_1.2.1,u_1.2.2.1,u_1.2.2.2.1,u_1.2.2.2.2.1,u_1.2.2.2.2.2,())))
     (fun v_1=>some (Sum.inr (v_1.1,v_1.2.1,v_1.2.2.1,v_1.2.2.2.1,v_1.2.2.2.2.1,v_1.2.2.2.2.2,()))))
   (fun v=>some (Sum.inr (v.1,v.2.1,v.2.2.1,v.2.2.2.1,v.2.2.2.2.1,v.2.2.2.2.2.1,())))
def jZ.ma:MAlt:=⟨65,jZ.pre,jZ.post,true,jZ.post2,fun X=>jZ X.1 X.2.1 X.2.2.1 X.2.2.2.1 (q4 X).1⟩
def jZ.G:EB Z9:=⟨tb,Tryz.f65,[⟨29,Jv.ce,Jv.ok⟩],[0,1,2,3,10],[1000095,1000100],[],[(212295,jZ.cd_r.ck)],[⟨25,jq.mc,jq.ok⟩],[⟨26,jJ.ma,jJ.ok⟩,⟨27,jr.ma,jr.ok⟩]⟩
theorem jZ.ok:AltOk Z9 65 jZ.ma:=fnA jZ.G (ma:=jZ.ma) Tryz.func65 (m:=1) ⟨trivial,kJ jZ.cd_r⟩
abbrev tg46:SO:=.clo 65 [] [.ref 1000095 0]
def Jo.pre:Shape:=⟨[(0,tg0),(1,tg16)],[(1000090,tg46),(1000095,tg25),(1000100,tg2)]⟩
def Jo.post:Shape:=⟨[(0,tg27)],[(1000090,tg46),(1000095,tg25),(1000100,tg2)]⟩
def Jo.post2:Shape:=⟨[(0,tg12)],[(1000090,tg46),(1000095,tg25),(1000100,tg2)]⟩
def Jo.ca_ (t8:List Z8)(ua:Z6)(ub:Int)(uc:Int)(ud:Z6)(ue:Int)(Z:((List Z8)×Z6×Int×Int×Z6×Int)⊕(((List Z8)×Int×Z6×Int×Int×Z6×Int)⊕((List Z8)×Z6×Int×Int×Z6×Int))→Option ρ):Option ρ:=
  bnd (jq (Z5 [44]) ua ub uc ud ue) fun y=>
  br y.1
   (bnd (jZ y.2.1 y.2.2.1 y.2.2.2.1 y.2.2.2.2.1 y.2.2.2.2.2.1) fun y1=>
    sel y1
     (fun u=>bnd (okIf (decide ((t8.length+1)*64≤140737488355328)&&decide (t8.length+1≤140737488355328))) fun y2=>
      Z (.inl ((t8++[u.1]),u.2.1,u.2.2.1,u.2.2.2.1,u.2.2.2.2.1,u.2.2.2.2.2.1)))
     (fun v=>Z (.inr (.inl (t8,v.1,v.2.1,v.2.2.1,v.2.2.2.1,v.2.2.2.2.1,v.2.2.2.2.2.1)))))
   (Z (.inr (.inr (t8,y.2.1,y.2.2.1,y.2.2.2.1,y.2.2.2.2.1,y.2.2.2.2.2.1))))
def Jo.ca_s:Shape:=(((Jo.pre.s 4 tg27).s 5 tg28).o 8 tg29)
def Jo.ca_x0:Shape:=(Jo.ca_s.o 900001 tg13)
def Jo.ca_r:LC:=⟨Jo.ca_s,[(Jo.ca_x0,1000000,[1,206,101]),(Jo.ca_s,2,[1,206])],no,[1,2,3,4,5,6],[1,2,3,4,5,6],@Jo.ca_,fun _ _ _ _ _ _ _ _=>jm fun _=>(jN (jm fun _=>(Jw (fun _=>(jm fun _=>jd)) (fun _=>jd))) jd)⟩
def Jo (ua:Z6) (ub:Int) (uc:Int) (ud:Z6) (ue:Int):Option (((List Z8)×Z6×Int×Int×Z6×Int×Unit)⊕(Int×Z6×Int×Int×Z6×Int×Unit)):=
  bnd (jZ ua ub uc ud ue) fun y=>
  sel y
   (fun u=>bnd (iter (fun s↦Jo.ca_ s.1 s.2.1 s.2.2.1 s.2.2.2.1 s.2.2.2.2.1 s.2.2.2.2.2 some) ([u.1],u.2.1,u.2.2.1,u.2.2.2.1,u.2.2.2.2.1,u.2.2.2.2.2.1)) fun y1=>
    sel y1
     (fun u_1=>some (Sum.inr (u_1.2.1,u_1.2.2.1,u_1.2.2.2.1,u_1.2.2.2.2.1,u_1.2.2.2.2.2.1,u_1.2.2.2.2.2.2,())))
     (fun v_1=>some (Sum.inl (v_1.1,v_1.2.1,v_1.2.2.1,v_1.2.2.2.1,v_1.2.2.2.2.1,v_1.2.2.2.2.2,()))))
   (fun v=>some (Sum.inr (v.1,v.2.1,v.2.2.1,v.2.2.2.1,v.2.2.2.2.1,v.2.2.2.2.2.1,())))
def Jo.ma:MAlt:=⟨63,Jo.pre,Jo.post,true,Jo.post2,fun X=>Jo X.1 X.2.1 X.2.2.1 X.2.2.2.1 (q4 X).1⟩
def Jo.G:EB Z9:=⟨tb,Tryz.f63,[],[0,1,4,5,10],[8,1000100],[],[(100002,Jo.ca_r.ck)],[⟨25,jq.mc,jq.ok⟩],[⟨65,jZ.ma,jZ.ok⟩]⟩
theorem Jo.ok:AltOk Z9 63 Jo.ma:=fnA Jo.G (ma:=Jo.ma) Tryz.func63 (m:=1) ⟨trivial,kL Jo.ca_r⟩
abbrev tg47:SO:=.clo 65 [] [.ref 2 0]
def jO.pre:Shape:=⟨[(0,tg0),(1,tg8)],[(1000100,tg2)]⟩
def jO.post:Shape:=⟨[(0,tg15)],[(1000100,tg2)]⟩
def jO.post2:Shape:=⟨[(0,tg12)],[(1000100,tg2)]⟩
def jO.cd_ (ints:List Z8)(ua:Z6)(ub:Int)(uc:Int)(ud:Z6)(ue:Int)(Z:((List Z8)×Z6×Int×Int×Z6×Int)⊕((List Z8)×Int×Z6×Int×Int×Z6×Int)→Option ρ):Option ρ:=
  bnd (jq (Z5 [40]) ua ub uc ud ue) fun y=>
  br y.1
   (bnd (Jn y.2.1 y.2.2.1 y.2.2.2.1 y.2.2.2.2.1 y.2.2.2.2.2.1) fun y1=>
    sel y1
     (fun u=>bnd (jr (Z5 [41]) u.2.1 u.2.2.1 u.2.2.2.1 u.2.2.2.2.1 u.2.2.2.2.2.1) fun y2=>
      sel y2
       (fun u_1=>Z (.inl (u.1,u_1.2.1,u_1.2.2.1,u_1.2.2.2.1,u_1.2.2.2.2.1,u_1.2.2.2.2.2.1)))
       (fun v_1=>Z (.inr (u.1,v_1.1,v_1.2.1,v_1.2.2.1,v_1.2.2.2.1,v_1.2.2.2.2.1,v_1.2.2.2.2.2.1))))
     (fun v=>Z (.inr (ints,v.1,v.2.1,v.2.2.1,v.2.2.2.1,v.2.2.2.2.1,v.2.2.2.2.2.1))))
   (Z (.inl (ints,y.2.1,y.2.2.1,y.2.2.2.1,y.2.2.2.2.1,y.2.2.2.2.2.1)))
def jO.cd_s:Shape:=(((((((((jO.pre.s 2 tg9).s 3 tg10).s 4 tg14).s 5 tg23).s 6 tg27).o 2 tg25).o 3 tg11).o 4 tg19).o 5 tg11)
def jO.cd_x1:Shape:=(jO.cd_s.o 900001 tg13)
def jO.cd_r:RC:=⟨jO.cd_s,[(jO.cd_s,0,[1,201,11,205]),(jO.cd_x1,1000000,[1,201,11,205,101])],no,[1,13,14,15,16,17],@jO.cd_,fun _ _ _ _ _ _ _ _=>jm fun _=>(jN (jm fun _=>(Jw (fun _=>(jm fun _=>(Jw (fun _=>jd) (fun _=>jd)))) (fun _=>jd))) jd)⟩
def jO.c7 (ints:List Z8)(wires:List Z8)(t0:Int)(t1:Z6)(t2:Int)(w0:Int)(w1:Z6)(w2:Int)(ua:Z6)(ub:Int)(uc:Int)(ud:Z6)(ue:Int)(Z:(Int×Int×Z6×Int×(List Z8)×Z6×Int×Int×Z6×Int)⊕(Int×Z6×Int×Int×Z6×Int)→Option ρ):Option ρ:=
  bnd (ky ints) fun y=>
  bnd (ky wires) fun y1=>
  bnd (kQ (ua,ub,uc,ud,ue,())) fun y2=>
  sel y2
   (fun u=>bnd (Jv (5:Int) (t0,t1,t2) (w0,w1,w2) [y,y1,u.1]) fun y3=>
    Z (.inl (y3.head.1,y3.head.2.1,y3.head.2.2.1,y3.head.2.2.2,y3.kids,u.2.1,u.2.2.1,u.2.2.2.1,u.2.2.2.2.1,u.2.2.2.2.2.1)))
   (fun v=>Z (.inr (v.1,v.2.1,v.2.2.1,v.2.2.2.1,v.2.2.2.2.1,v.2.2.2.2.2.1)))
def jO.c7s:Shape:=((jO.cd_s.s 7 tg27).o 18 tg47)
def jO.c7x1:Shape:=((((((((jO.cd_x1.d 0).d 1).d 2).d 3).d 4).d 5).d 6).o 18 tg47)
def jO.c7r:RC:=⟨jO.c7s,[(jO.c7s,0,[6,205,3,205]),(jO.c7x1,1000000,[303,11,205,101])],no,[1,2,3,4,5,11,12,13,14,15,16,17,18],@jO.c7,fun _ _ _ _ _ _ _ _ _ _ _ _ _ _ _=>jm fun _=>(jm fun _=>(jm fun _=>(Jw (fun _=>(jm fun _=>jd)) (fun _=>jd))))⟩
def jO (t:Int×(Z6×Int)) (ua:Z6) (ub:Int) (uc:Int) (ud:Z6) (ue:Int):Option ((Z8×Z6×Int×Int×Z6×Int×Unit)⊕(Int×Z6×Int×Int×Z6×Int×Unit)):=
  bnd (jJ ua ub uc ud ue) fun y=>
  sel y
   (fun u=>bnd (jO.cd_ [] u.2.1 u.2.2.1 u.2.2.2.1 u.2.2.2.2.1 u.2.2.2.2.2.1 some) fun y1=>
    sel y1
     (fun u_1=>bnd (Jo u_1.2.1 u_1.2.2.1 u_1.2.2.2.1 u_1.2.2.2.2.1 u_1.2.2.2.2.2) fun y2=>
      sel y2
       (fun u_2=>bnd (jO.c7 u_1.1 u_2.1 t.1 t.2.1 t.2.2 u.1.1 u.1.2.1 u.1.2.2 u_2.2.1 u_2.2.2.1 u_2.2.2.2.1 u_2.2.2.2.2.1 u_2.2.2.2.2.2.1 some) fun y3=>
        sel y3
         (fun u_3=>some (Sum.inl (Rose.mk (u_3.1,u_3.2.1,u_3.2.2.1,u_3.2.2.2.1) u_3.2.2.2.2.1,u_3.2.2.2.2.2.1,u_3.2.2.2.2.2.2.1,u_3.2.2.2.2.2.2.2.1,u_3.2.2.2.2.2.2.2.2.1,u_3.2.2.2.2.2.2.2.2.2,())))
         (fun v_3=>some (Sum.inr (v_3.1,v_3.2.1,v_3.2.2.1,v_3.2.2.2.1,v_3.2.2.2.2.1,v_3.2.2.2.2.2,()))))
       (fun v_2=>some (Sum.inr (v_2.1,v_2.2.1,v_2.2.2.1,v_2.2.2.2.1,v_2.2.2.2.2.1,v_2.2.2.2.2.2.1,()))))
     (fun v_1=>some (Sum.inr (v_1.2.1,v_1.2.2.1,v_1.2.2.2.1,v_1.2.2.2.2.1,v_1.2.2.2.2.2.1,v_1.2.2.2.2.2.2,()))))
   (fun v=>some (Sum.inr (v.1,v.2.1,v.2.2.1,v.2.2.2.1,v.2.2.2.2.1,v.2.2.2.2.2.1,())))
def jO.ma:MAlt:=⟨30,jO.pre,jO.post,true,jO.post2,fun X=>jO X.1 X.2.1 X.2.2.1 X.2.2.2.1 (q4 X).1 (q4 X).2.1⟩
def jO.G:EB Z9:=⟨tb,Tryz.f30,[⟨66,ky.ce,ky.ok⟩,⟨29,Jv.ce,Jv.ok⟩],[0,1,2,3,4,5,6,7,11],[2,1002,1000100],[(7,[(7,[1000100]),(8,[28]),(9,[28]),(10,[4])])],[(7,jO.c7r.ck),(212295,jO.cd_r.ck)],[⟨25,jq.mc,jq.ok⟩],[⟨26,jJ.ma,jJ.ok⟩,⟨63,Jn.ma,Jn.ok⟩,⟨27,jr.ma,jr.ok⟩,⟨67,kQ.ma,kQ.ok⟩,⟨1000019,Jo.ma,Jo.ok⟩]⟩
theorem jO.ok:AltOk Z9 30 jO.ma:=fnA jO.G (ma:=jO.ma) Tryz.func30 (m:=2) ⟨⟨trivial,kJ jO.cd_r⟩,kR jO.c7r⟩
def jS.pre:Shape:=⟨[(0,tg0)],[(1000100,tg2)]⟩
def jS.post:Shape:=⟨[(0,tg15)],[(1000100,tg2)]⟩
def jS.post2:Shape:=⟨[(0,tg12)],[(1000100,tg2)]⟩
def jS.cc_ (ua:Z6)(ub:Int)(uc:Int)(ud:Z6)(ue:Int)(Z:Bool×Z6×Int×Int×Z6×Int→Option ρ):Option ρ:=
  bnd (jq (Z5 [113,117,98,105,116]) ua ub uc ud ue) fun y=>
  br y.1
   (Z (y.1,y.2.1,y.2.2.1,y.2.2.2.1,y.2.2.2.2.1,y.2.2.2.2.2.1))
   (bnd (jq (Z5 [98,105,116]) y.2.1 y.2.2.1 y.2.2.2.1 y.2.2.2.2.1 y.2.2.2.2.2.1) fun y1=>
    Z (y1.1,y1.2.1,y1.2.2.1,y1.2.2.2.1,y1.2.2.2.2.1,y1.2.2.2.2.2.1))
def jS.cc_s:Shape:=((((jS.pre.s 2 tg9).s 3 tg10).o 2 tg19).o 3 tg11)
def jS.cc_x0:Shape:=(jS.cc_s.s 13 tg3)
def jS.cc_r:RC:=⟨jS.cc_s,[(jS.cc_x0,0,[101,8,205])],no,[8,9,10,11,12],@jS.cc_,fun _ _ _ _ _ _ _=>jm fun _=>(jN jd (jm fun _=>jd))⟩
def jS.cg_ (kind:Int)(t1:Z6)(Z:Int→Option ρ):Option ρ:=
  br (t1==Z5 [98,105,116])
   (Z (3:Int))
   (Z kind)
def jS.cg_s:Shape:=(jS.cc_x0.s 4 tg6)
def jS.cg_r:RC:=⟨jS.cg_s,[(jS.cg_s,0,[201])],no,[0,8],@jS.cg_,fun _ _ _ _=>jN jd jd⟩
def jS (ua:Z6) (ub:Int) (uc:Int) (ud:Z6) (ue:Int):Option ((Z8×Z6×Int×Int×Z6×Int×Unit)⊕(Int×Z6×Int×Int×Z6×Int×Unit)):=
  bnd (jS.cc_ ua ub uc ud ue some) fun y=>
  br y.1
   (bnd (jS.cg_ (2:Int) ud some) fun y1=>
    bnd (jJ y.2.1 y.2.2.1 y.2.2.2.1 y.2.2.2.2.1 y.2.2.2.2.2) fun y2=>
    sel y2
     (fun u=>bnd (jr (Z5 [91]) u.2.1 u.2.2.1 u.2.2.2.1 u.2.2.2.2.1 u.2.2.2.2.2.1) fun y3=>
      sel y3
       (fun u_1=>bnd (Jq (u_1.2.1,u_1.2.2.1,u_1.2.2.2.1,u_1.2.2.2.2.1,u_1.2.2.2.2.2.1,())) fun y4=>
        sel y4
         (fun u_2=>bnd (jr (Z5 [93]) u_2.2.1 u_2.2.2.1 u_2.2.2.2.1 u_2.2.2.2.2.1 u_2.2.2.2.2.2.1) fun y5=>
          sel y5
           (fun u_3=>bnd (jr (Z5 [59]) u_3.2.1 u_3.2.2.1 u_3.2.2.2.1 u_3.2.2.2.2.1 u_3.2.2.2.2.2.1) fun y6=>
            sel y6
             (fun u_4=>bnd (Jv y1 (uc,ud,ue) (u.1.1,u.1.2.1,u.1.2.2) [Rose.mk (u_2.1.head.1,u_2.1.head.2.1,u_2.1.head.2.2.1,u_2.1.head.2.2.2) u_2.1.kids]) fun y7=>
              some (Sum.inl (Rose.mk (y7.head.1,y7.head.2.1,y7.head.2.2.1,y7.head.2.2.2) y7.kids,u_4.2.1,u_4.2.2.1,u_4.2.2.2.1,u_4.2.2.2.2.1,u_4.2.2.2.2.2.1,())))
             (fun v_4=>some (Sum.inr (v_4.1,v_4.2.1,v_4.2.2.1,v_4.2.2.2.1,v_4.2.2.2.2.1,v_4.2.2.2.2.2.1,()))))
           (fun v_3=>some (Sum.inr (v_3.1,v_3.2.1,v_3.2.2.1,v_3.2.2.2.1,v_3.2.2.2.2.1,v_3.2.2.2.2.2.1,()))))
         (fun v_2=>some (Sum.inr (v_2.1,v_2.2.1,v_2.2.2.1,v_2.2.2.2.1,v_2.2.2.2.2.1,v_2.2.2.2.2.2.1,()))))
       (fun v_1=>some (Sum.inr (v_1.1,v_1.2.1,v_1.2.2.1,v_1.2.2.2.1,v_1.2.2.2.2.1,v_1.2.2.2.2.2.1,()))))
     (fun v=>some (Sum.inr (v.1,v.2.1,v.2.2.1,v.2.2.2.1,v.2.2.2.2.1,v.2.2.2.2.2.1,()))))
   (bnd (jq (Z5 [99,111,110,115,116]) y.2.1 y.2.2.1 y.2.2.2.1 y.2.2.2.2.1 y.2.2.2.2.2) fun y8=>
    br y8.1
     (bnd (jJ y8.2.1 y8.2.2.1 y8.2.2.2.1 y8.2.2.2.2.1 y8.2.2.2.2.2.1) fun y9=>
      sel y9
       (fun u_5=>bnd (jr (Z5 [61]) u_5.2.1 u_5.2.2.1 u_5.2.2.2.1 u_5.2.2.2.2.1 u_5.2.2.2.2.2.1) fun y10=>
        sel y10
         (fun u_6=>bnd (Jq (u_6.2.1,u_6.2.2.1,u_6.2.2.2.1,u_6.2.2.2.2.1,u_6.2.2.2.2.2.1,())) fun y11=>
          sel y11
           (fun u_7=>bnd (jr (Z5 [59]) u_7.2.1 u_7.2.2.1 u_7.2.2.2.1 u_7.2.2.2.2.1 u_7.2.2.2.2.2.1) fun y12=>
            sel y12
             (fun u_8=>bnd (Jv (4:Int) (uc,ud,ue) (u_5.1.1,u_5.1.2.1,u_5.1.2.2) [Rose.mk (u_7.1.head.1,u_7.1.head.2.1,u_7.1.head.2.2.1,u_7.1.head.2.2.2) u_7.1.kids]) fun y13=>
              some (Sum.inl (Rose.mk (y13.head.1,y13.head.2.1,y13.head.2.2.1,y13.head.2.2.2) y13.kids,u_8.2.1,u_8.2.2.1,u_8.2.2.2.1,u_8.2.2.2.2.1,u_8.2.2.2.2.2.1,())))
             (fun v_8=>some (Sum.inr (v_8.1,v_8.2.1,v_8.2.2.1,v_8.2.2.2.1,v_8.2.2.2.2.1,v_8.2.2.2.2.2.1,()))))
           (fun v_7=>some (Sum.inr (v_7.1,v_7.2.1,v_7.2.2.1,v_7.2.2.2.1,v_7.2.2.2.2.1,v_7.2.2.2.2.2.1,()))))
         (fun v_6=>some (Sum.inr (v_6.1,v_6.2.1,v_6.2.2.1,v_6.2.2.2.1,v_6.2.2.2.2.1,v_6.2.2.2.2.2.1,()))))
       (fun v_5=>some (Sum.inr (v_5.1,v_5.2.1,v_5.2.2.1,v_5.2.2.2.1,v_5.2.2.2.2.1,v_5.2.2.2.2.2.1,()))))
     (bnd (jq (Z5 [103,97,116,101]) y8.2.1 y8.2.2.1 y8.2.2.2.1 y8.2.2.2.2.1 y8.2.2.2.2.2.1) fun y14=>
      br y14.1
       (bnd (jO (uc,ud,ue) y14.2.1 y14.2.2.1 y14.2.2.2.1 y14.2.2.2.2.1 y14.2.2.2.2.2.1) fun y15=>
        sel y15
         (fun u_9=>some (Sum.inl (Rose.mk (u_9.1.head.1,u_9.1.head.2.1,u_9.1.head.2.2.1,u_9.1.head.2.2.2) u_9.1.kids,u_9.2.1,u_9.2.2.1,u_9.2.2.2.1,u_9.2.2.2.2.1,u_9.2.2.2.2.2.1,())))
         (fun v_9=>some (Sum.inr (v_9.1,v_9.2.1,v_9.2.2.1,v_9.2.2.2.1,v_9.2.2.2.2.1,v_9.2.2.2.2.2.1,()))))
       (bnd (ku (y14.2.1,y14.2.2.1,y14.2.2.2.1,y14.2.2.2.2.1,y14.2.2.2.2.2.1,())) fun y16=>
        sel y16
         (fun u_10=>some (Sum.inl (Rose.mk (u_10.1.head.1,u_10.1.head.2.1,u_10.1.head.2.2.1,u_10.1.head.2.2.2) u_10.1.kids,u_10.2.1,u_10.2.2.1,u_10.2.2.2.1,u_10.2.2.2.2.1,u_10.2.2.2.2.2.1,())))
         (fun v_10=>some (Sum.inr (v_10.1,v_10.2.1,v_10.2.2.1,v_10.2.2.2.1,v_10.2.2.2.2.1,v_10.2.2.2.2.2.1,()))))))
def jS.ma:MAlt:=⟨15,jS.pre,jS.post,true,jS.post2,fun X=>jS X.1 X.2.1 X.2.2.1 X.2.2.2.1 (q4 X).1⟩
def jS.G:EB Z9:=⟨tb,Tryz.f15,[⟨29,Jv.ce,Jv.ok⟩],[0,2,3,4,5,6,7,8,13,20,37,53],[1000100,1002081970013,2000000000013],[],[(220485,jS.cg_r.ck),(208197,jS.cc_r.ck)],[⟨25,jq.mc,jq.ok⟩],[⟨26,jJ.ma,jJ.ok⟩,⟨27,jr.ma,jr.ok⟩,⟨28,Jq.ma,Jq.ok⟩,⟨30,jO.ma,jO.ok⟩,⟨31,ku.ma,ku.ok⟩]⟩
theorem jS.ok:AltOk Z9 15 jS.ma:=fnA jS.G (ma:=jS.ma) Tryz.func15 (m:=2) ⟨⟨trivial,kJ jS.cc_r⟩,kJ jS.cg_r⟩
end
end W
end
