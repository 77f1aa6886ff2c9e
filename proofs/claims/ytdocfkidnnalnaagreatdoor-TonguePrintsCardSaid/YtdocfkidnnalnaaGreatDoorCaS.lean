/- Contracts of Go's library; the seat's types; what is known of its variables. -/
import Derived.Test.YtdocfkidnnalnaaGreatDoorProg
import Derived.WalkKit
import Derived.Shelf.LaysM
import Derived.Shelf.LaysC
import Derived.Shelf.Strings.OnBuilder
import Derived.Shelf.Strings.Repeat
import Derived.Shelf.Strconv.Itoa3
import Derived.Shelf.Strconv.Itoa4
import Derived.Shelf.Strconv.AtoiAll
import Derived.Ground.Names2Prog
import Derived.Test.YtdocfkidnnalnaaGreatDoorLfS
import Derived.Lib.Strings
import Derived.Lib.Slices
import Derived.Lib.Walk
import Derived.Lib.Builder
import Derived.Lib.AppendStr
import Derived.Lib.UnsafeStr
import Derived.Laws.Externs
import Derived.Shelf.RegionOpenPlain
set_option linter.all false
section
namespace Go.Proofs
open Go.Shelf
def Tryz.lays156_ren:Go.Shelf.Ren:=⟨fun | 156=>130 | 165=>87 | 166=>84 | 169=>22 | 240=>108 | 241=>112 | 276=>127 | 277=>128 | n=>n,fun | 31=>68 | 9=>9 | 3=>3 | 4=>4 | 0=>0 | 20=>20 | 72=>59 | 76=>89 | 70=>56 | 37=>57 | 75=>88 | 127=>75 | 164=>122 | 5=>5 | 80=>63 | n=>n,fun | n=>n⟩
def Tryz.lays156:Go.Proofs.Lays.n156 Tryz.prog Tryz.lays156_ren:={
 mixed:=by kernel_rfl
 f156:=Tryz.func130.trans (congrArg some (by kernel_rfl))
 f165:=Tryz.func87.trans (congrArg some (by kernel_rfl))
 f166:=Tryz.func84.trans (congrArg some (by kernel_rfl))
 f169:=Tryz.func22.trans (congrArg some (by kernel_rfl))
 f240:=Tryz.func108.trans (congrArg some (by kernel_rfl))
 f241:=Tryz.func112.trans (congrArg some (by kernel_rfl))
 f276:=Tryz.func127.trans (congrArg some (by kernel_rfl))
 f277:=Tryz.func128.trans (congrArg some (by kernel_rfl))
 t0:=Tryz.underlying0
 a0:=Tryz.isAgg0
 z0:=Tryz.sizeOf0
 v0:=Tryz.zeroValue0
 t3:=Tryz.underlying3
 a3:=Tryz.isAgg3
 z3:=Tryz.sizeOf3
 v3:=Tryz.zeroValue3
 t4:=Tryz.underlying4
 a4:=Tryz.isAgg4
 z4:=Tryz.sizeOf4
 v4:=Tryz.zeroValue4
 t9:=Tryz.underlying9
 a9:=Tryz.isAgg9
 z9:=Tryz.sizeOf9
 v9:=Tryz.zeroValue9
 t20:=Tryz.underlying20
 a20:=Tryz.isAgg20
 z20:=Tryz.sizeOf20
 v20:=Tryz.zeroValue20
 t31:=Tryz.underlying68
 a31:=Tryz.isAgg68
 z31:=Tryz.sizeOf68
 v31:=Tryz.zeroValue68
 t37:=Tryz.underlying57
 a37:=Tryz.isAgg57
 z37:=Tryz.sizeOf57
 v37:=Tryz.zeroValue57
 t70:=Tryz.underlying56
 a70:=Tryz.isAgg56
 z70:=Tryz.sizeOf56
 v70:=Tryz.zeroValue56
 t72:=Tryz.underlying59
 a72:=Tryz.isAgg59
 z72:=Tryz.sizeOf59
 v72:=Tryz.zeroValue59
 t75:=Tryz.underlying88
 a75:=Tryz.isAgg88
 z75:=Tryz.sizeOf88
 v75:=Tryz.zeroValue88
 t76:=Tryz.underlying89
 a76:=Tryz.isAgg89
 z76:=Tryz.sizeOf89
 v76:=Tryz.zeroValue89
 t127:=Tryz.underlying75
 a127:=Tryz.isAgg75
 z127:=Tryz.sizeOf75
 v127:=Tryz.zeroValue75
 t164:=Tryz.underlying122
 a164:=Tryz.isAgg122
 z164:=Tryz.sizeOf122
 v164:=Tryz.zeroValue122 }
def Tryz.Builder_Extra_156:Builder.Extra Tryz.prog Tryz.lays156_ren where
 sizeBuilder:=by kernel_rfl
 liesBuilder:=by kernel_rfl
 t5:=Tryz.underlying5
 a5:=Tryz.isAgg5
 z5:=Tryz.sizeOf5
 v5:=Tryz.zeroValue5
 infoByte:=by kernel_rfl
 cellsByte:=by kernel_rfl
 sizeByte:=by kernel_rfl
 neB5:=by decide
open Go.RowKit Go.Sort Go.Lib in
def Tryz.strings_Join_none (a:Option Addr) (c:Nat) (sep:ByteArray) (w:World) :
 Calls Tryz.prog 130 #[.slice a 0 c,.string sep] w fun e w'=>e=.returned (.string ⟨#[]⟩)∧w'=w:=Any.strings_Join_none Tryz.lays156 Tryz.Builder_Extra_156 a c sep w
open Go.RowKit Go.Sort Go.Lib in
def Tryz.strings_Join (bk o c:Nat) (xs:List ByteArray) (sep:ByteArray) (w:World) (hcells:∀(j:Nat) x,xs[j]?=some x→w.cell? ⟨bk,o+j,none⟩=some (.string x)) (hbk:bk<w.heap.size) (hN:xs.length≤140737488355328) (hcap:xs.length≤c) (hlen:(Lib.join (xs.map (·.data.toList)) sep.data.toList).length≤140737488355328) :
 Calls Tryz.prog 130 #[.slice (some ⟨bk,o,none⟩) xs.length c,.string sep] w fun e w'=>e=.returned (.string ⟨(Lib.join (xs.map (·.data.toList)) sep.data.toList).toArray⟩)∧Below w.heap.size w w':=Any.strings_Join Tryz.lays156 Tryz.Builder_Extra_156 bk o c xs sep w hcells hbk hN hcap hlen
def Tryz.laysM171_ren:Go.Shelf.Ren:=⟨fun | 171=>113 | 243=>129 | 246=>135 | 283=>139 | 284=>140 | 285=>141 | 286=>142 | 129=>149 | 317=>148 | 318=>150 | 319=>151 | 320=>152 | 337=>158 | 338=>159 | n=>n,fun | 3=>3 | 9=>9 | 2=>2 | 4=>4 | 171=>130 | 0=>0 | 53=>113 | 37=>57 | 5=>5 | 173=>133 | 212=>140 | 51=>110 | 20=>20 | 213=>141 | 46=>91 | 232=>157 | 233=>158 | n=>n,fun | 17=>1 | 18=>4 | 19=>5 | n=>n⟩
def Tryz.laysM171:Go.Proofs.LaysM.n171 Tryz.prog Tryz.laysM171_ren:={
 mixed:=by kernel_rfl
 f129:=Tryz.func149.trans (congrArg some (by kernel_rfl))
 f171:=Tryz.func113.trans (congrArg some (by kernel_rfl))
 f243:=Tryz.func129.trans (congrArg some (by kernel_rfl))
 f246:=Tryz.func135.trans (congrArg some (by kernel_rfl))
 f283:=Tryz.func139.trans (congrArg some (by kernel_rfl))
 f284:=Tryz.func140.trans (congrArg some (by kernel_rfl))
 f285:=Tryz.func141.trans (congrArg some (by kernel_rfl))
 f286:=Tryz.func142.trans (congrArg some (by kernel_rfl))
 f317:=Tryz.func148.trans (congrArg some (by kernel_rfl))
 f318:=Tryz.func150.trans (congrArg some (by kernel_rfl))
 f319:=Tryz.func151.trans (congrArg some (by kernel_rfl))
 f320:=Tryz.func152.trans (congrArg some (by kernel_rfl))
 f337:=Tryz.func158.trans (congrArg some (by kernel_rfl))
 f338:=Tryz.func159.trans (congrArg some (by kernel_rfl))
 t0:=Tryz.underlying0
 a0:=Tryz.isAgg0
 z0:=Tryz.sizeOf0
 v0:=Tryz.zeroValue0
 t2:=Tryz.underlying2
 a2:=Tryz.isAgg2
 z2:=Tryz.sizeOf2
 v2:=Tryz.zeroValue2
 t3:=Tryz.underlying3
 a3:=Tryz.isAgg3
 z3:=Tryz.sizeOf3
 v3:=Tryz.zeroValue3
 t4:=Tryz.underlying4
 a4:=Tryz.isAgg4
 z4:=Tryz.sizeOf4
 v4:=Tryz.zeroValue4
 t5:=Tryz.underlying5
 a5:=Tryz.isAgg5
 z5:=Tryz.sizeOf5
 v5:=Tryz.zeroValue5
 t9:=Tryz.underlying9
 a9:=Tryz.isAgg9
 z9:=Tryz.sizeOf9
 v9:=Tryz.zeroValue9
 t20:=Tryz.underlying20
 a20:=Tryz.isAgg20
 z20:=Tryz.sizeOf20
 v20:=Tryz.zeroValue20
 t37:=Tryz.underlying57
 a37:=Tryz.isAgg57
 z37:=Tryz.sizeOf57
 v37:=Tryz.zeroValue57
 t46:=Tryz.underlying91
 a46:=Tryz.isAgg91
 z46:=Tryz.sizeOf91
 v46:=Tryz.zeroValue91
 t51:=Tryz.underlying110
 a51:=Tryz.isAgg110
 z51:=Tryz.sizeOf110
 v51:=Tryz.zeroValue110
 t53:=Tryz.underlying113
 a53:=Tryz.isAgg113
 z53:=Tryz.sizeOf113
 v53:=Tryz.zeroValue113
 t171:=Tryz.underlying130
 a171:=Tryz.isAgg130
 z171:=Tryz.sizeOf130
 v171:=Tryz.zeroValue130
 t173:=Tryz.underlying133
 a173:=Tryz.isAgg133
 z173:=Tryz.sizeOf133
 v173:=Tryz.zeroValue133
 t212:=Tryz.underlying140
 a212:=Tryz.isAgg140
 z212:=Tryz.sizeOf140
 v212:=Tryz.zeroValue140
 t213:=Tryz.underlying141
 a213:=Tryz.isAgg141
 z213:=Tryz.sizeOf141
 t232:=Tryz.underlying157
 a232:=Tryz.isAgg157
 z232:=Tryz.sizeOf157
 v232:=Tryz.zeroValue157
 t233:=Tryz.underlying158
 a233:=Tryz.isAgg158
 z233:=Tryz.sizeOf158
 v233:=Tryz.zeroValue158
 g17:=by kernel_rfl
 g18:=by kernel_rfl
 g19:=by kernel_rfl
 i0:=by kernel_rfl
 i2:=by kernel_rfl
 i3:=by kernel_rfl
 i4:=by kernel_rfl
 i5:=by kernel_rfl
 i9:=by kernel_rfl
 i20:=by kernel_rfl
 i37:=by kernel_rfl
 i46:=by kernel_rfl
 i51:=by kernel_rfl
 i53:=by kernel_rfl
 i171:=by kernel_rfl
 i173:=by kernel_rfl
 i212:=by kernel_rfl
 i232:=by kernel_rfl
 i233:=by kernel_rfl
 m17:=by kernel_rfl
 m18:=by kernel_rfl
 m19:=by kernel_rfl }
open Go.RowKit Go.Sort Go.Lib in
def Tryz.strconv_Itoa (n : Int) (h0 : -9223372036854775808 ≤ n) (h1 : n ≤ 9223372036854775807) (w : World) (htab : Lib.TabIs Tryz.prog w "internal/strconv.uint64pow10" .u64 Lib.pow10Tab) :
 Calls Tryz.prog 113 #[.int .i64 n] w fun e w'=>e=.returned (.string ⟨(Lib.itoa n).toArray⟩) ∧ ∃k os,w'=grow (w.drewN k) os:=Any.strconv_Itoa Tryz.laysM171 n h0 h1 w htab
def Tryz.laysC172_ren:Go.Shelf.Ren:=⟨fun | 172=>136 | 244=>143 | 245=>144 | 247=>153 | 279=>154 | 280=>155 | 281=>156 | 282=>157 | 287=>160 | 316=>161 | 171=>113 | 205=>162 | 321=>163 | 322=>164 | 243=>129 | 246=>135 | 283=>139 | 284=>140 | 285=>141 | 286=>142 | 129=>149 | 317=>148 | 318=>150 | 319=>151 | 320=>152 | 337=>158 | 338=>159 | n=>n,fun | 9=>9 | 3=>3 | 75=>88 | 76=>89 | 4=>4 | 5=>5 | 167=>144 | 37=>57 | 0=>0 | 85=>145 | 2=>2 | 168=>147 | 53=>113 | 175=>151 | 46=>91 | 210=>155 | 127=>75 | 145=>162 | 143=>160 | 21=>21 | 171=>130 | 173=>133 | 212=>140 | 51=>110 | 20=>20 | 213=>141 | 232=>157 | 233=>158 | 80=>63 | n=>n,fun | 15=>2 | 16=>3 | 17=>1 | 18=>4 | 19=>5 | n=>n⟩
def Tryz.laysC172:Go.Proofs.LaysC.n172 Tryz.prog Tryz.laysC172_ren:={
 mixed:=by kernel_rfl
 f129:=Tryz.func149.trans (congrArg some (by kernel_rfl))
 f171:=Tryz.func113.trans (congrArg some (by kernel_rfl))
 f172:=Tryz.func136.trans (congrArg some (by kernel_rfl))
 f205:=Tryz.func162.trans (congrArg some (by kernel_rfl))
 f243:=Tryz.func129.trans (congrArg some (by kernel_rfl))
 f244:=Tryz.func143.trans (congrArg some (by kernel_rfl))
 f245:=Tryz.func144.trans (congrArg some (by kernel_rfl))
 f246:=Tryz.func135.trans (congrArg some (by kernel_rfl))
 f247:=Tryz.func153.trans (congrArg some (by kernel_rfl))
 f279:=Tryz.func154.trans (congrArg some (by kernel_rfl))
 f280:=Tryz.func155.trans (congrArg some (by kernel_rfl))
 f281:=Tryz.func156.trans (congrArg some (by kernel_rfl))
 f282:=Tryz.func157.trans (congrArg some (by kernel_rfl))
 f283:=Tryz.func139.trans (congrArg some (by kernel_rfl))
 f284:=Tryz.func140.trans (congrArg some (by kernel_rfl))
 f285:=Tryz.func141.trans (congrArg some (by kernel_rfl))
 f286:=Tryz.func142.trans (congrArg some (by kernel_rfl))
 f287:=Tryz.func160.trans (congrArg some (by kernel_rfl))
 f316:=Tryz.func161.trans (congrArg some (by kernel_rfl))
 f317:=Tryz.func148.trans (congrArg some (by kernel_rfl))
 f318:=Tryz.func150.trans (congrArg some (by kernel_rfl))
 f319:=Tryz.func151.trans (congrArg some (by kernel_rfl))
 f320:=Tryz.func152.trans (congrArg some (by kernel_rfl))
 f321:=Tryz.func163.trans (congrArg some (by kernel_rfl))
 f322:=Tryz.func164.trans (congrArg some (by kernel_rfl))
 f337:=Tryz.func158.trans (congrArg some (by kernel_rfl))
 f338:=Tryz.func159.trans (congrArg some (by kernel_rfl))
 t0:=Tryz.underlying0
 a0:=Tryz.isAgg0
 z0:=Tryz.sizeOf0
 v0:=Tryz.zeroValue0
 t2:=Tryz.underlying2
 a2:=Tryz.isAgg2
 z2:=Tryz.sizeOf2
 v2:=Tryz.zeroValue2
 t3:=Tryz.underlying3
 a3:=Tryz.isAgg3
 z3:=Tryz.sizeOf3
 v3:=Tryz.zeroValue3
 t4:=Tryz.underlying4
 a4:=Tryz.isAgg4
 z4:=Tryz.sizeOf4
 v4:=Tryz.zeroValue4
 t5:=Tryz.underlying5
 a5:=Tryz.isAgg5
 z5:=Tryz.sizeOf5
 v5:=Tryz.zeroValue5
 t9:=Tryz.underlying9
 a9:=Tryz.isAgg9
 z9:=Tryz.sizeOf9
 v9:=Tryz.zeroValue9
 t20:=Tryz.underlying20
 a20:=Tryz.isAgg20
 z20:=Tryz.sizeOf20
 v20:=Tryz.zeroValue20
 t21:=Tryz.underlying21
 a21:=Tryz.isAgg21
 z21:=Tryz.sizeOf21
 v21:=Tryz.zeroValue21
 t37:=Tryz.underlying57
 a37:=Tryz.isAgg57
 z37:=Tryz.sizeOf57
 v37:=Tryz.zeroValue57
 t46:=Tryz.underlying91
 a46:=Tryz.isAgg91
 z46:=Tryz.sizeOf91
 v46:=Tryz.zeroValue91
 t51:=Tryz.underlying110
 a51:=Tryz.isAgg110
 z51:=Tryz.sizeOf110
 v51:=Tryz.zeroValue110
 t53:=Tryz.underlying113
 a53:=Tryz.isAgg113
 z53:=Tryz.sizeOf113
 v53:=Tryz.zeroValue113
 t75:=Tryz.underlying88
 a75:=Tryz.isAgg88
 z75:=Tryz.sizeOf88
 v75:=Tryz.zeroValue88
 t76:=Tryz.underlying89
 a76:=Tryz.isAgg89
 z76:=Tryz.sizeOf89
 v76:=Tryz.zeroValue89
 t85:=Tryz.underlying145
 a85:=Tryz.isAgg145
 z85:=Tryz.sizeOf145
 v85:=Tryz.zeroValue145
 t127:=Tryz.underlying75
 a127:=Tryz.isAgg75
 z127:=Tryz.sizeOf75
 v127:=Tryz.zeroValue75
 t143:=Tryz.underlying160
 a143:=Tryz.isAgg160
 z143:=Tryz.sizeOf160
 v143:=Tryz.zeroValue160
 t145:=Tryz.underlying162
 a145:=Tryz.isAgg162
 z145:=Tryz.sizeOf162
 v145:=Tryz.zeroValue162
 t167:=Tryz.underlying144
 a167:=Tryz.isAgg144
 z167:=Tryz.sizeOf144
 v167:=Tryz.zeroValue144
 t168:=Tryz.underlying147
 a168:=Tryz.isAgg147
 z168:=Tryz.sizeOf147
 v168:=Tryz.zeroValue147
 t171:=Tryz.underlying130
 a171:=Tryz.isAgg130
 z171:=Tryz.sizeOf130
 v171:=Tryz.zeroValue130
 t173:=Tryz.underlying133
 a173:=Tryz.isAgg133
 z173:=Tryz.sizeOf133
 v173:=Tryz.zeroValue133
 t175:=Tryz.underlying151
 a175:=Tryz.isAgg151
 z175:=Tryz.sizeOf151
 v175:=Tryz.zeroValue151
 t210:=Tryz.underlying155
 a210:=Tryz.isAgg155
 z210:=Tryz.sizeOf155
 v210:=Tryz.zeroValue155
 t212:=Tryz.underlying140
 a212:=Tryz.isAgg140
 z212:=Tryz.sizeOf140
 v212:=Tryz.zeroValue140
 t213:=Tryz.underlying141
 a213:=Tryz.isAgg141
 z213:=Tryz.sizeOf141
 t232:=Tryz.underlying157
 a232:=Tryz.isAgg157
 z232:=Tryz.sizeOf157
 v232:=Tryz.zeroValue157
 t233:=Tryz.underlying158
 a233:=Tryz.isAgg158
 z233:=Tryz.sizeOf158
 v233:=Tryz.zeroValue158
 g15:=by kernel_rfl
 g16:=by kernel_rfl
 g17:=by kernel_rfl
 g18:=by kernel_rfl
 g19:=by kernel_rfl
 t80:=Tryz.underlying63
 a80:=Tryz.isAgg63
 z80:=Tryz.sizeOf63
 v80:=Tryz.zeroValue63
 i0:=by kernel_rfl
 i2:=by kernel_rfl
 i3:=by kernel_rfl
 i4:=by kernel_rfl
 i5:=by kernel_rfl
 i9:=by kernel_rfl
 i20:=by kernel_rfl
 i21:=by kernel_rfl
 i37:=by kernel_rfl
 i46:=by kernel_rfl
 i51:=by kernel_rfl
 i53:=by kernel_rfl
 i75:=by kernel_rfl
 i76:=by kernel_rfl
 i80:=by kernel_rfl
 i85:=by kernel_rfl
 i127:=by kernel_rfl
 i143:=by kernel_rfl
 i145:=by kernel_rfl
 i167:=by kernel_rfl
 i168:=by kernel_rfl
 i171:=by kernel_rfl
 i173:=by kernel_rfl
 i175:=by kernel_rfl
 i210:=by kernel_rfl
 i212:=by kernel_rfl
 i232:=by kernel_rfl
 i233:=by kernel_rfl
 m15:=by kernel_rfl
 m16:=by kernel_rfl
 m17:=by kernel_rfl
 m18:=by kernel_rfl
 m19:=by kernel_rfl
 c0:=by kernel_rfl
 c2:=by kernel_rfl
 c3:=by kernel_rfl
 c4:=by kernel_rfl
 c5:=by kernel_rfl
 c9:=by kernel_rfl
 c20:=by kernel_rfl
 c21:=by kernel_rfl
 c37:=by kernel_rfl
 c46:=by kernel_rfl
 c51:=by kernel_rfl
 c53:=by kernel_rfl
 c75:=by kernel_rfl
 c76:=by kernel_rfl
 c80:=by kernel_rfl
 c85:=by kernel_rfl
 c127:=by kernel_rfl
 c143:=by kernel_rfl
 c145:=by kernel_rfl
 c167:=by kernel_rfl
 c168:=by kernel_rfl
 c171:=by kernel_rfl
 c173:=by kernel_rfl
 c175:=by kernel_rfl
 c210:=by kernel_rfl
 c212:=by kernel_rfl
 c213:=by kernel_rfl
 c232:=by kernel_rfl
 c233:=by kernel_rfl }
open Go.RowKit Go.Sort Go.Lib in
def Tryz.strconv_Atoi_ok (s:ByteArray) (hmax:s.size≤9223372036854775806) (v:Int) (h:Lib.atoiAll s.data.toList=.ok v) (w:World) :
 Calls Tryz.prog 136 #[.string s] w fun e w'=>e=.returned (.tuple #[.int .i64 v,.nilIface])∧(w'=w ∨ ∃t,w'=Lib.bytesWorld w 5 t):=Any.strconv_Atoi_ok Tryz.laysC172 s hmax v h w
def Tryz.lays105_ren:Go.Shelf.Ren:=⟨fun | 105=>43 | 212=>85 | 99=>86 | 165=>87 | 166=>84 | 170=>88 | 169=>22 | 263=>109 | 264=>110 | 206=>111 | 240=>108 | 241=>112 | 276=>127 | 277=>128 | n=>n,fun | 9=>9 | 3=>3 | 4=>4 | 20=>20 | 0=>0 | 46=>91 | 109=>92 | 5=>5 | 72=>59 | 76=>89 | 51=>110 | 146=>111 | 53=>113 | 148=>114 | 70=>56 | 37=>57 | 75=>88 | 127=>75 | 164=>122 | 80=>63 | n=>n,fun | n=>n⟩
def Tryz.lays105:Go.Proofs.Lays.n105 Tryz.prog Tryz.lays105_ren:={
 mixed:=by kernel_rfl
 f99:=Tryz.func86.trans (congrArg some (by kernel_rfl))
 f105:=Tryz.func43.trans (congrArg some (by kernel_rfl))
 f165:=Tryz.func87.trans (congrArg some (by kernel_rfl))
 f166:=Tryz.func84.trans (congrArg some (by kernel_rfl))
 f169:=Tryz.func22.trans (congrArg some (by kernel_rfl))
 f170:=Tryz.func88.trans (congrArg some (by kernel_rfl))
 f206:=Tryz.func111.trans (congrArg some (by kernel_rfl))
 f212:=Tryz.func85.trans (congrArg some (by kernel_rfl))
 f240:=Tryz.func108.trans (congrArg some (by kernel_rfl))
 f241:=Tryz.func112.trans (congrArg some (by kernel_rfl))
 f263:=Tryz.func109.trans (congrArg some (by kernel_rfl))
 f264:=Tryz.func110.trans (congrArg some (by kernel_rfl))
 f276:=Tryz.func127.trans (congrArg some (by kernel_rfl))
 f277:=Tryz.func128.trans (congrArg some (by kernel_rfl))
 t0:=Tryz.underlying0
 a0:=Tryz.isAgg0
 z0:=Tryz.sizeOf0
 v0:=Tryz.zeroValue0
 t3:=Tryz.underlying3
 a3:=Tryz.isAgg3
 z3:=Tryz.sizeOf3
 v3:=Tryz.zeroValue3
 t4:=Tryz.underlying4
 a4:=Tryz.isAgg4
 z4:=Tryz.sizeOf4
 v4:=Tryz.zeroValue4
 t5:=Tryz.underlying5
 a5:=Tryz.isAgg5
 z5:=Tryz.sizeOf5
 v5:=Tryz.zeroValue5
 t9:=Tryz.underlying9
 a9:=Tryz.isAgg9
 z9:=Tryz.sizeOf9
 v9:=Tryz.zeroValue9
 t20:=Tryz.underlying20
 a20:=Tryz.isAgg20
 z20:=Tryz.sizeOf20
 v20:=Tryz.zeroValue20
 t37:=Tryz.underlying57
 a37:=Tryz.isAgg57
 z37:=Tryz.sizeOf57
 v37:=Tryz.zeroValue57
 t46:=Tryz.underlying91
 a46:=Tryz.isAgg91
 z46:=Tryz.sizeOf91
 v46:=Tryz.zeroValue91
 t51:=Tryz.underlying110
 a51:=Tryz.isAgg110
 z51:=Tryz.sizeOf110
 v51:=Tryz.zeroValue110
 t53:=Tryz.underlying113
 a53:=Tryz.isAgg113
 z53:=Tryz.sizeOf113
 v53:=Tryz.zeroValue113
 t70:=Tryz.underlying56
 a70:=Tryz.isAgg56
 z70:=Tryz.sizeOf56
 v70:=Tryz.zeroValue56
 t72:=Tryz.underlying59
 a72:=Tryz.isAgg59
 z72:=Tryz.sizeOf59
 v72:=Tryz.zeroValue59
 t75:=Tryz.underlying88
 a75:=Tryz.isAgg88
 z75:=Tryz.sizeOf88
 v75:=Tryz.zeroValue88
 t76:=Tryz.underlying89
 a76:=Tryz.isAgg89
 z76:=Tryz.sizeOf89
 v76:=Tryz.zeroValue89
 t109:=Tryz.underlying92
 a109:=Tryz.isAgg92
 z109:=Tryz.sizeOf92
 v109:=Tryz.zeroValue92
 t127:=Tryz.underlying75
 a127:=Tryz.isAgg75
 z127:=Tryz.sizeOf75
 v127:=Tryz.zeroValue75
 t146:=Tryz.underlying111
 a146:=Tryz.isAgg111
 z146:=Tryz.sizeOf111
 v146:=Tryz.zeroValue111
 t148:=Tryz.underlying114
 a148:=Tryz.isAgg114
 z148:=Tryz.sizeOf114
 v148:=Tryz.zeroValue114
 t164:=Tryz.underlying122
 a164:=Tryz.isAgg122
 z164:=Tryz.sizeOf122
 v164:=Tryz.zeroValue122 }
def Tryz.Builder_Extra_105:Builder.Extra Tryz.prog Tryz.lays105_ren where
 sizeBuilder:=by kernel_rfl
 liesBuilder:=by kernel_rfl
 t5:=Tryz.underlying5
 a5:=Tryz.isAgg5
 z5:=Tryz.sizeOf5
 v5:=Tryz.zeroValue5
 infoByte:=by kernel_rfl
 cellsByte:=by kernel_rfl
 sizeByte:=by kernel_rfl
 neB5:=by decide
open Go.RowKit Go.Sort Go.Lib in
def Tryz.strings_Repeat (s:ByteArray) (c:Nat) (w:World) (hc:c≤9223372036854775807) (hlen:s.size*c≤140737488355328) :
 Calls Tryz.prog 43 #[.string s,.int .i64 c] w fun e w'=>e=.returned (.string ⟨(Lib.repeatL s.data.toList c).toArray⟩)∧Below w.heap.size w w':=Any.strings_Repeat Tryz.lays105 Tryz.Builder_Extra_105 s c w hc hlen
end Go.Proofs
namespace Go.Proofs.YtdocfkidnnalnaaGreatDoor
open Go.RowKit Go.Proofs
def gPow : Tryz.prog.globalNamed "internal/strconv.uint64pow10" = some 1 := by kernel_rfl
def PowAt (w : World) : Prop := Lib.TabIs Tryz.prog w "internal/strconv.uint64pow10" .u64 Lib.pow10Tab
end Go.Proofs.YtdocfkidnnalnaaGreatDoor
end

section
set_option maxHeartbeats 4000000
set_option maxRecDepth 100000
namespace W
open Go Go.Ql
abbrev Zb := (Int×(Za×Int))
abbrev Zd := Rose (Int×Zb)
abbrev Ze := List Zd
abbrev Zf := List Zb
abbrev Zg := List Int
noncomputable abbrev Zh := Go.Proofs.Tryz.prog
noncomputable section
open Go.Proofs.YtdocfkidnnalnaaGreatDoor (PowAt)
def DI {w w':World} (h:∀b,b<2→w'.heap[b]?=w.heap[b]?) (ht:PowAt w):PowAt w':=by
 have h0:=h 1 (by omega)
 unfold PowAt Lib.TabIs World.var? at ht ⊢
 rw [Go.Proofs.YtdocfkidnnalnaaGreatDoor.gPow] at ht ⊢
 simp only [Option.bind_some,h0] at ht ⊢
 exact ht
def DJ {w:World} (ht:PowAt w):2≤w.heap.size:=by
 by_cases hs:2≤w.heap.size
 ·exact hs
 ·have h0:w.heap[1]?=none:=by rw [Array.getElem?_eq_none_iff];omega
  unfold PowAt Lib.TabIs World.var? at ht
  rw [Go.Proofs.YtdocfkidnnalnaaGreatDoor.gPow] at ht
  simp [h0] at ht
instance gInv:GInv:=⟨fun w=>PowAt w,2,fun h ht=>DI h ht,fun ht=>DJ ht⟩
def tab:List (Nat×TI):=[(2,⟨.int .i64,.scalar⟩),
 (3,⟨.int .i64,.scalar⟩),
 (4,⟨.bool,.scalar⟩),
 (5,⟨.int .u8,.scalar⟩),
 (6,⟨.int .u8,.scalar⟩),
 (7,⟨.st (.pair (.int .i64) (.pair (.int .i64) (.pair .bool (.int .u8)))),.struct [(0,2),(1,3),(2,4),(3,6)]⟩),
 (8,⟨.st (.pair (.int .i64) (.pair (.int .i64) (.pair .bool (.int .u8)))),.struct [(0,2),(1,3),(2,4),(3,6)]⟩),
 (9,⟨.str,.scalar⟩),
 (10,⟨.str,.scalar⟩),
 (11,⟨.str,.scalar⟩),
 (12,⟨.int .u64,.scalar⟩),
 (13,⟨.st (.pair .str (.int .u64)),.struct [(0,9),(1,12)]⟩),
 (14,⟨.st (.pair .str (.int .u64)),.struct [(0,9),(1,12)]⟩),
 (15,⟨.nilv 0,.nul⟩),
 (16,⟨.nilv 0,.nul⟩),
 (17,⟨.nilv 0,.nul⟩),
 (18,⟨.st (.nilv 0),.struct [(0,17)]⟩),
 (19,⟨.st (.nilv 0),.struct [(0,17)]⟩),
 (20,⟨.nilv 1,.nul⟩),
 (21,⟨.int .i32,.scalar⟩),
 (22,⟨.sl (.st (.node (.pair (.int .i64) (.pair (.int .i64) (.pair .str (.int .i64)))))),.slice 24 64⟩),
 (23,⟨.st (.node (.pair (.int .i64) (.pair (.int .i64) (.pair .str (.int .i64))))),.struct [(0,3),(1,3),(2,9),(3,3),(4,22)]⟩),
 (24,⟨.st (.node (.pair (.int .i64) (.pair (.int .i64) (.pair .str (.int .i64))))),.struct [(0,3),(1,3),(2,9),(3,3),(4,22)]⟩),
 (25,⟨.st (.pair (.int .i64) (.int .i64)),.struct [(0,3),(1,3)]⟩),
 (26,⟨.st (.pair (.int .i64) (.int .i64)),.struct [(0,3),(1,3)]⟩),
 (32,⟨.nilv 3,.nul⟩),
 (34,⟨.st (.int .i64),.struct [(0,3)]⟩),
 (35,⟨.st (.int .i64),.struct [(0,3)]⟩),
 (36,⟨.nilv 0,.nul⟩),
 (37,⟨.st (.pair .str (.int .i64)),.struct [(0,9),(1,3)]⟩),
 (38,⟨.st (.pair .str (.int .i64)),.struct [(0,9),(1,3)]⟩),
 (39,⟨.int .i64,.scalar⟩),
 (40,⟨.st (.pair (.int .i64) (.pair .str (.int .i64))),.struct [(0,39),(1,9),(2,3)]⟩),
 (41,⟨.st (.pair (.int .i64) (.pair .str (.int .i64))),.struct [(0,39),(1,9),(2,3)]⟩),
 (42,⟨.st (.pair (.st (.pair .str (.int .i64))) (.st (.pair (.int .i64) (.pair .str (.int .i64))))),.struct [(0,38),(2,41)]⟩),
 (43,⟨.st (.pair (.st (.pair .str (.int .i64))) (.st (.pair (.int .i64) (.pair .str (.int .i64))))),.struct [(0,38),(2,41)]⟩),
 (45,⟨.nilv 3,.nul⟩),
 (46,⟨.nilv 0,.nul⟩),
 (47,⟨.sl (.st (.pair (.int .i64) (.pair .str (.int .i64)))),.slice 52 32⟩),
 (49,⟨.st (.pair (.sl (.st (.pair (.int .i64) (.pair .str (.int .i64))))) (.pair (.int .i64) (.int .i64))),.struct [(0,47),(1,3),(2,3)]⟩),
 (50,⟨.st (.pair (.sl (.st (.pair (.int .i64) (.pair .str (.int .i64))))) (.pair (.int .i64) (.int .i64))),.struct [(0,47),(1,3),(2,3)]⟩),
 (51,⟨.st (.pair (.int .i64) (.pair .str (.int .i64))),.struct [(0,3),(1,9),(2,3)]⟩),
 (52,⟨.st (.pair (.int .i64) (.pair .str (.int .i64))),.struct [(0,3),(1,9),(2,3)]⟩),
 (55,⟨.nilv 0,.nul⟩),
 (56,⟨.nilv 0,.nul⟩),
 (57,⟨.sl (.int .u8),.slice 5 1⟩),
 (58,⟨.st (.pair (.nilv 0) (.sl (.int .u8))),.struct [(0,56),(1,57)]⟩),
 (59,⟨.st (.pair (.nilv 0) (.sl (.int .u8))),.struct [(0,56),(1,57)]⟩),
 (60,⟨.st (.pair (.st (.pair (.nilv 0) (.sl (.int .u8)))) (.int .i64)),.struct [(0,59),(2,3)]⟩),
 (61,⟨.st (.pair (.st (.pair (.nilv 0) (.sl (.int .u8)))) (.int .i64)),.struct [(0,59),(2,3)]⟩),
 (68,⟨.sl .str,.slice 9 16⟩),
 (69,⟨.nilv 3,.nul⟩),
 (74,⟨.nilv 3,.nul⟩),
 (75,⟨.nilv 0,.nul⟩),
 (76,⟨.nilv 0,.nul⟩),
 (87,⟨.nilv 1,.nul⟩),
 (88,⟨.nilv 1,.nul⟩),
 (91,⟨.int .u64,.scalar⟩),
 (106,⟨.sl (.int .i64),.slice 3 8⟩),
 (107,⟨.st (.pair .bool (.sl (.int .i64))),.struct [(0,4),(1,106)]⟩),
 (108,⟨.st (.pair .bool (.sl (.int .i64))),.struct [(0,4),(1,106)]⟩),
 (110,⟨.int .u32,.scalar⟩),
 (113,⟨.int .u64,.scalar⟩),
 (130,⟨.ar 24 (.int .u8),.arr 24 5⟩),
 (140,⟨.ar 20 (.int .u64),.arr 20 113⟩),
 (141,⟨.ar 65 (.int .u8),.arr 65 5⟩),
 (144,⟨.int .i64,.scalar⟩),
 (147,⟨.nilv 0,.nul⟩),
 (154,⟨.st (.pair .str (.pair .str (.nilv 1))),.struct [(0,9),(1,9),(2,88)]⟩),
 (155,⟨.st (.pair .str (.pair .str (.nilv 1))),.struct [(0,9),(1,9),(2,88)]⟩),
 (157,⟨.ar 32 (.int .u8),.arr 32 5⟩),
 (158,⟨.ar 64 (.int .u8),.arr 64 5⟩),
 (160,⟨.nilv 0,.nul⟩),
 (161,⟨.st .str,.struct [(0,9)]⟩),
 (162,⟨.st .str,.struct [(0,9)]⟩),
 (163,⟨.st (.pair (.nilv 0) (.pair (.nilv 0) (.pair (.nilv 0) .str))),.struct [(0,17),(1,17),(2,17),(3,9)]⟩),
 (164,⟨.st (.pair (.nilv 0) (.pair (.nilv 0) (.pair (.nilv 0) .str))),.struct [(0,17),(1,17),(2,17),(3,9)]⟩),
 (165,⟨.ar 0 (.nilv 0),.arr 0 16⟩),
 (166,⟨.st (.ar 0 (.nilv 0)),.struct [(0,165)]⟩),
 (167,⟨.st (.ar 0 (.nilv 0)),.struct [(0,165)]⟩),
 (168,⟨.int .u8,.scalar⟩),
 (169,⟨.int .u8,.scalar⟩),
 (171,⟨.int .i32,.scalar⟩),
 (172,⟨.int .i32,.scalar⟩),
 (173,⟨.st (.pair (.int .u64) (.pair (.int .u64) (.pair (.int .u32) (.pair (.int .u8) (.pair (.int .u8) (.pair (.int .u8) (.pair (.int .u8) (.pair (.nilv 3) (.pair (.nilv 0) (.pair (.int .i32) (.int .i32))))))))))),.struct [(0,12),(1,12),(2,110),(3,168),(4,5),(5,5),(6,169),(7,170),(8,75),(9,171),(10,172)]⟩),
 (174,⟨.st (.pair (.int .u64) (.pair (.int .u64) (.pair (.int .u32) (.pair (.int .u8) (.pair (.int .u8) (.pair (.int .u8) (.pair (.int .u8) (.pair (.nilv 3) (.pair (.nilv 0) (.pair (.int .i32) (.int .i32))))))))))),.struct [(0,12),(1,12),(2,110),(3,168),(4,5),(5,5),(6,169),(7,170),(8,75),(9,171),(10,172)]⟩)]
def mixed:Go.Proofs.Tryz.prog.follows .mixedOrders=true:=by kernel_rfl
def bM:Uv Go.Proofs.Tryz.prog tab:=B0 (by kernel_rfl)
def gQ:Eqs:=⟨[26],[]⟩
def dV:sA Go.Proofs.Tryz.prog tab gQ:=OX (by kernel_rfl)
def strconv_Itoa (x:Int):Option Za:=bif decide (-9223372036854775808≤x)&&decide (x≤9223372036854775807) then some (Go.Lib.itoa x) else none
def strconv_Itoa.ce:Go.Ql.Callee:=⟨[(.int .i64)],[.str],fun x_=>strconv_Itoa x_⟩
def strconv_Itoa.ok:vj Go.Proofs.Tryz.prog 113 strconv_Itoa.ce:=by
 refine ⟨⟨Go.Proofs.Tryz.f113,Go.Proofs.Tryz.func113,by kernel_rfl,by kernel_rfl⟩,fun w Z vs x r hg hZ ha hr=>?_⟩
 obtain ⟨v,rfl,hv⟩:=ha
 change [v]=[Value.int .i64 x] at hv
 obtain rfl:=List.cons.inj hv |>.1
 have hr:strconv_Itoa x=some r:=hr
 change Int at x
 unfold strconv_Itoa at hr
 cases hb:decide (-9223372036854775808≤x)&&decide (x≤9223372036854775807) with
 | false=>rw [hb] at hr;cases hr
 | true=>
   rw [hb] at hr
   simp only [ze,zn] at hb
   obtain rfl:=Option.some.inj hr
   refine (Go.Proofs.Tryz.strconv_Itoa x hb.1 hb.2 w hg).mono fun e w' ⟨he,k,os,hw⟩=>⟨_,he,?_,rfl⟩
   subst hw
   refine ⟨rfl,rfl,rfl,by simp [Go.Sort.grow,World.drewN],fun b hb=>?_⟩
   show (w.heap++os)[b]?=w.heap[b]?
   rw [Array.getElem?_append_left hb]
def strings_Join (xs:List Za) (sep:Za):Option Za:=
 bif decide (List.length xs≤140737488355328)&&decide (List.length (Go.Lib.join xs sep)≤140737488355328) then some (Go.Lib.join xs sep) else none
def strings_Join.ce:Go.Ql.Callee:=⟨[.sl .str,.str],[.str],fun x_=>strings_Join x_.1 x_.2⟩
def sX {w:World} {Z:Nat→Prop}:∀{xs:List Za} {cells:List Value},YF (kT w Z .str) cells xs→cells=xs.map fun x=>Value.string ⟨List.toArray x⟩
 | [],_,h=>h
 | x::r,_,⟨c1,c2,e,h1,h2⟩=>by
   have h1:c1=[.string ⟨List.toArray x⟩]:=h1
   rw [e,h1,sX h2];rfl
def strings_Join.ok:vj Go.Proofs.Tryz.prog 130 strings_Join.ce:=by
 refine ⟨⟨Go.Proofs.Tryz.f130,Go.Proofs.Tryz.func130,by kernel_rfl,by kernel_rfl⟩,?_⟩
 rintro w Z vs ⟨xs,sep⟩ r _ hZ hvs hF
 obtain ⟨v1,t1,rfl,h1,v2,rfl,h2⟩:∃v1 t1,vs=v1::t1∧Ux w Z (.sl .str) v1 xs ∧ ∃v2,t1=[v2]∧v2=.string ⟨List.toArray sep⟩:=by
  obtain ⟨v,t,e,hv,u,e2,hu⟩:=hvs
  exact ⟨v,t,e,hv,u,e2,(List.cons.inj hu).1⟩
 subst h2
 have hF:strings_Join xs sep=some r:=hF
 unfold strings_Join at hF
 cases hb:decide (List.length xs≤140737488355328)&&decide (List.length (Go.Lib.join xs sep)≤140737488355328) with
 | false=>rw [hb] at hF;cases hF
 | true=>
   rw [hb] at hF
   simp only [ze,zn] at hb
   obtain rfl:=Option.some.inj hF
   obtain ⟨v,hv,h1⟩:=h1
   obtain rfl:=List.cons.inj hv |>.1
   have none_case:∀ad c,xs=[]→Calls Go.Proofs.Tryz.prog 130 [Value.slice ad 0 c,.string ⟨List.toArray sep⟩].toArray w fun e w'=>∃v,e=.returned v∧Same w w'∧bV w' (aQ w w' Z) [.str] (Go.Lib.join xs sep) v:=by
    rintro ad c rfl
    refine (Go.Proofs.Tryz.strings_Join_none ad c _ w).mono ?_
    rintro e w' ⟨rfl,rfl⟩
    exact ⟨_,rfl,Same.refl _,rfl⟩
   rcases h1 with ⟨rfl,hx⟩ | ⟨b,off,cap,cells,rfl,hc,hm,hz,hr,hcl⟩ | ⟨ad,cap,rfl,hx,_⟩
   ·exact none_case none 0 hx
   ·have hcs:=sX hr
    have hmap:(xs.map fun x=>(⟨List.toArray x⟩:ByteArray)).map (·.data.toList)=xs:=by
     rw [List.map_map]
     conv=>rhs;rw [←List.map_id xs]
     rfl
    have key:=Go.Proofs.Tryz.strings_Join b off cap (xs.map fun x=>⟨List.toArray x⟩) ⟨List.toArray sep⟩ w (fun j x hx=>by
     refine hcl j _ ?_
     rw [hcs,List.getElem?_map]
     rw [List.getElem?_map,Z8] at hx
     obtain ⟨y,hy,rfl⟩:=hx
     rw [hy];rfl) (hZ b hz) (by simpa using hb.1) (by simpa using hc) (by rw [hmap];simpa using hb.2)
    rw [List.length_map,hmap] at key
    refine key.mono ?_
    rintro e w' ⟨rfl,hB⟩
    exact ⟨_,rfl,⟨hB.os,hB.tape,hB.output,hB.size,hB.block⟩,rfl⟩
   ·exact none_case (some ad) cap hx
def Un (s:Za):Option (Int×Bool):=
 bif decide (s.length≤281474976710656) then (match Go.Lib.atoiAll s with
  | .ok v=>some (v,false)
  | _=>none) else none
def Un.ce:Go.Ql.Callee:=⟨[.str],[.int .i64,.nn],fun x_=>Un x_⟩
def sK {w w':World} (hB:Go.RowKit.Below w.heap.size w w'):Same w w':=⟨hB.os,hB.tape,hB.output,hB.size,hB.block⟩
def AM {w w':World} (h:w'=w ∨ ∃t,w'=Lib.bytesWorld w 5 t):Go.RowKit.Below w.heap.size w w':=by
 rcases h with h | ⟨t,h⟩<;>subst h
 ·exact Go.RowKit.Below.refl _ _
 ·exact ⟨rfl,rfl,rfl,by rw [Lib.bytesWorld_size];omega,fun b hb=>Lib.bytesWorld_at_old w 5 _ b hb⟩
def Un.ok:vj Go.Proofs.Tryz.prog 136 Un.ce:=by
 refine ⟨⟨Go.Proofs.Tryz.f136,Go.Proofs.Tryz.func136,by kernel_rfl,by kernel_rfl⟩,fun w Z vs s r hg hZ ha hr=>?_⟩
 obtain ⟨v,rfl,hv⟩:=ha
 change [v]=[Value.string ⟨List.toArray s⟩] at hv
 obtain rfl:=List.cons.inj hv |>.1
 have hr:Un s=some r:=hr
 change Za at s
 unfold Un at hr
 cases hb:decide (List.length s≤281474976710656) with
 | false=>rw [hb] at hr;cases hr
 | true=>
   rw [hb] at hr
   have hl:=zw hb
   have hsz:(⟨List.toArray s⟩:ByteArray).size=List.length s:=rfl
   have hl':(⟨List.toArray s⟩:ByteArray).size≤281474976710656:=by rw [hsz];exact hl
   simp only [zj] at hr
   split at hr
   ·rename_i n ha
    obtain rfl:=Option.some.inj hr
    refine (Go.Proofs.Tryz.strconv_Atoi_ok ⟨List.toArray s⟩ (by omega) n ha w).mono ?_
    rintro e w' ⟨rfl,hw⟩
    exact ⟨_,rfl,sK (AM hw),⟨_,rfl,_,_,rfl,rfl,_,rfl,_,rfl,Or.inr ⟨rfl,rfl⟩⟩⟩
   ·cases hr
def strings_Repeat (s:Za) (c:Int):Option Za:=bif decide (0≤c)&&decide (c≤9223372036854775807)&&decide (s.length*c.toNat≤140737488355328) then some (Go.Lib.repeatL s c.toNat) else none
def strings_Repeat.ce:Go.Ql.Callee:=⟨[.str,(.int .i64)],[.str],fun x_=>strings_Repeat x_.1 x_.2⟩
def strings_Repeat.ok:vj Go.Proofs.Tryz.prog 43 strings_Repeat.ce:=by
 refine ⟨⟨Go.Proofs.Tryz.f43,Go.Proofs.Tryz.func43,by kernel_rfl,by kernel_rfl⟩,?_⟩
 rintro w Z vs ⟨s,c⟩ r hg hZ hvs hF
 obtain ⟨v1,t1,rfl,h1,v2,rfl,h2⟩:∃v1 t1,vs=v1::t1∧v1=.string ⟨List.toArray s⟩ ∧ ∃v2,t1=[v2]∧v2=.int .i64 c:=by
  obtain ⟨v,t,e,hv,u,e2,hu⟩:=hvs
  exact ⟨v,t,e,(List.cons.inj hv).1,u,e2,(List.cons.inj hu).1⟩
 subst h1;subst h2
 have hF:strings_Repeat s c=some r:=hF
 change Za at s
 change Int at c
 unfold strings_Repeat at hF
 cases hb:decide (0≤c)&&decide (c≤9223372036854775807)&&decide (List.length s*c.toNat≤140737488355328) with
 | false=>rw [hb] at hF;cases hF
 | true=>
   rw [hb] at hF
   simp only [ze,zn] at hb
   obtain rfl:=Option.some.inj hF
   obtain ⟨n,rfl⟩:=Int.eq_ofNat_of_zero_le hb.1.1
   have e:((n:Int)).toNat=n:=Int.toNat_natCast n
   rw [e] at hb ⊢
   have e2:(⟨List.toArray s⟩:ByteArray).size*n≤140737488355328:=hb.2
   refine (Go.Proofs.Tryz.strings_Repeat ⟨List.toArray s⟩ n w (by omega) e2).mono ?_
   rintro e w' ⟨rfl,hB⟩
   exact ⟨_,rfl,sK hB,rfl⟩
def tb:TB Go.Proofs.Tryz.prog:=⟨tab,gQ,bM,dV,mixed⟩
end
end W
end

section
namespace Go.Proofs.YtdocfkidnnalnaaGreatDoor
open Go.RowKit Go.Proofs Go.Shelf
set_option maxHeartbeats 1000000 in
set_option maxRecDepth 100000 in
def copyCheck_used (b:Nat) (w:World) (h0:w.cell? ⟨b,0,none⟩=some (.pointer (some ⟨b,0,none⟩))) :
 Calls Tryz.prog 108 #[.pointer (some ⟨b,0,none⟩)] w fun e w'=>e=.returned (.tuple #[])∧w'=w:=by
 obtain ⟨j,hj,_⟩:=Option.map_eq_some_iff.1 (show (Tryz.prog.info? 59).map (·.size)=some 2 by kernel_rfl)
 go_enter Tryz.func108,Tryz.ntmps108
 go_wp2
 rw [Lib.run_neq_ptr_same w _ Tryz.underlying56 hj]
 go_wp2
 go_end0
 exact ⟨rfl,rfl⟩
set_option maxHeartbeats 1000000 in
set_option maxRecDepth 100000 in
def copyCheck_fresh (b:Nat) (w:World) (h0:w.cell? ⟨b,0,none⟩=some (.pointer none)) (hsh:w.shape? b=some (61,3)) (hfz:w.frozen? ⟨b,0,none⟩=false) :
 Calls Tryz.prog 108 #[.pointer (some ⟨b,0,none⟩)] w fun e w'=>e=.returned (.tuple #[])∧w'=w.setCell ⟨b,0,none⟩ (.pointer (some ⟨b,0,none⟩)):=by
 obtain ⟨j,hj,hjs⟩:=Option.map_eq_some_iff.1 (show (Tryz.prog.info? 59).map (·.size)=some 2 by kernel_rfl)
 go_enter Tryz.func108,Tryz.ntmps108
 go_wp2
 rw [Lib.run_to_unsafe w ⟨b,0,none⟩ Tryz.underlying56 Tryz.underlying122 hj (by rw [hjs];decide) hsh (Nat.zero_lt_succ 2)]
 simp only [Result.andThen]
 rw [Oper.upon_value]
 go_wp2
 rw [run_callFunc_extern Tryz.func127 (by kernel_rfl) (by kernel_rfl) (by kernel_rfl) (e:=Extern.AbiNoEscape.same) (by kernel_rfl)]
 rw [Lib.run_noEscape]
 simp only [Result.andThen]
 rw [Oper.upon_value]
 go_wp2
 rw [Lib.run_from_unsafe w ⟨b,0,none⟩ Tryz.underlying122 Tryz.underlying56 hj hsh (by kernel_rfl)]
 simp only [Result.andThen]
 rw [Oper.upon_value]
 go_wp2
 go_end0
 exact ⟨rfl,rfl⟩
set_option maxHeartbeats 1000000 in
set_option maxRecDepth 100000 in
def builder_String (b g cap:Nat) (p q:Value) (cur:Array Value) (l:List UInt8) (w:World) (hbk:w.heap[b]?=some (.cells #[p,.slice (some ⟨g,0,none⟩) l.length cap,q] 61 (0,0))) (fz:Nat×Nat) (hg:w.heap[g]?=some (.cells cur 5 fz))
 (hnc:l.length≤cap) (hcm:cap≤maxLen) (hcs:cur.size=cap) (htake:cur.toList.take l.length=Lib.byteCells l) (h0:l≠[]) :
 Calls Tryz.prog 22 #[.pointer (some ⟨b,0,none⟩)] w fun e w'=>e=.returned (.string ⟨l.toArray⟩)∧w'=w.drew.freeze ⟨g,0,none⟩ l.length:=by
 have hl0:l.length≠0:=by simpa using h0
 have c1:w.drew.cell? ⟨b,1,none⟩=some (.slice (some ⟨g,0,none⟩) l.length cap):=by
  have:w.drew.heap[b]?=some (.cells #[p,.slice (some ⟨g,0,none⟩) l.length cap,q] 61 (0,0)):=hbk
  rw [Lib.cell_of_heap this];rfl
 have hSD:(Builtin.unsafeSliceData_ #[57] 75 #[.slice (some ⟨g,0,none⟩) l.length cap]).run Tryz.prog w.drew=.ok (.pointer (some ⟨g,0,none⟩)) w.drew:=
  Lib.run_unsafeSliceData_row _ _ _ _ _ _ (by omega)
 have hUS:(Builtin.unsafeString_ #[75,3] 9 #[.pointer (some ⟨g,0,none⟩),.int .i64 l.length]).run Tryz.prog w.drew=.ok (.string ⟨l.toArray⟩) (w.drew.freeze ⟨g,0,none⟩ l.length):=by
  refine Lib.run_unsafeString_row w.drew 75 3 9 5 Tryz.underlying75 (by kernel_rfl) g cur.size (by have hg':w.drew.heap[g]?=some (.cells cur 5 fz):=hg;simp [World.shape?,hg']) l h0 (by omega) (by unfold maxLen at hcm;omega) ?_
  intro j x hx
  have hj:j<l.length:=(List.getElem?_eq_some_iff.1 hx).1
  have h1:(cur.toList.take l.length)[j]?=some (.int .u8 x.toNat):=by rw [htake];simp [Lib.byteCells,hx]
  rw [List.getElem?_take_of_lt hj] at h1
  have hg':w.drew.heap[g]?=some (.cells cur 5 fz):=hg
  rw [Addr.add_lit,Nat.zero_add,Lib.cell_of_heap hg']
  simpa using h1
 have mixed:Tryz.prog.follows .mixedOrders=true:=by kernel_rfl
 go_enter Tryz.func22,Tryz.ntmps22
 go_wp2
 go_region_o
 all_goals (go_wp2;go_ret;exact ⟨rfl,rfl⟩)
set_option maxHeartbeats 1000000 in
set_option maxRecDepth 100000 in
def builder_String_empty (b cap:Nat) (p q:Value) (a r:Option Addr) (w w1:World) (hbk:w.heap[b]?=some (.cells #[p,.slice a 0 cap,q] 61 (0,0)))
 (hSD:(Builtin.unsafeSliceData_ #[57] 75 #[.slice a 0 cap]).run Tryz.prog w.drew=.ok (.pointer r) w1) (hbk1:w1.heap[b]?=some (.cells #[p,.slice a 0 cap,q] 61 (0,0))) :
 Calls Tryz.prog 22 #[.pointer (some ⟨b,0,none⟩)] w fun e w'=>e=.returned (.string ⟨#[]⟩)∧w'=w1:=by
 have c1:w.drew.cell? ⟨b,1,none⟩=some (.slice a 0 cap):=by
  have:w.drew.heap[b]?=some (.cells #[p,.slice a 0 cap,q] 61 (0,0)):=hbk
  rw [Lib.cell_of_heap this];rfl
 have c2:w1.cell? ⟨b,1,none⟩=some (.slice a 0 cap):=by
  rw [Lib.cell_of_heap hbk1];rfl
 have hUS:(Builtin.unsafeString_ #[75,3] 9 #[.pointer r,.int .i64 0]).run Tryz.prog w1=.ok (.string ⟨#[]⟩) w1:=Lib.run_unsafeString_none (P:=Tryz.prog) (w:=w1) 75 3 9 r
 have mixed:Tryz.prog.follows .mixedOrders=true:=by kernel_rfl
 go_enter Tryz.func22,Tryz.ntmps22
 go_wp2
 go_region_o
 all_goals (go_wp2;go_ret;exact ⟨rfl,rfl⟩)
end Go.Proofs.YtdocfkidnnalnaaGreatDoor
end

section
set_option maxHeartbeats 4000000
set_option maxRecDepth 100000
namespace W
open Go Go.Ql
noncomputable section
def kU.pre:Sj:=⟨[(0,.one (.ref 1000000 0))],[(1000000,.box [.selfp 1000000 61,.own 1000001 0,.val (.int .i64)]),(1000001,.arr 0 false 5 (.int .u8))]⟩
def kU.post:Sj:=⟨[],[(1000001,.arr 0 false 5 (.int .u8)),(1000000,.box [.selfp 1000000 61,.own 1000001 0,.val (.int .i64)])]⟩
def kU (d:Int) (l:List Int):Option (List Int×Int×Unit):=some (l,d,())
def kU.mc:xj:=⟨108,kU.pre,kU.post,fun x_=>kU x_.1 x_.2.1⟩
abbrev Hn (l:List Int) (d:Int):List (Nat×Ob):=[(1000000,.box [.selfp 1000000 61,.own 1000001 0,.val (.int .i64) d]),(1000001,.arr 0 false 5 (.int .u8) l)]
def xI {w:World} {Z:Nat→Prop} {nm:JY} {l:List Int} {d:Int} {v:Value}
 (hv:Vf w Z nm (Hn l d) (.one (.ref 1000000 0)) v) (hb:hY w Z nm (Hn l d) 1000000 (.box [.selfp 1000000 61,.own 1000001 0,.val (.int .i64) d])) :
 ∃b u,nm 1000000=.pointer (some ⟨b,0,none⟩)∧v=.pointer (some ⟨b,0,none⟩)∧w.heap[b]?=some (.cells #[u,nm 1000001,.int .i64 d] 61 (0,0))∧(u=.pointer none∨u=.pointer (some ⟨b,0,none⟩))∧(nm 1000001).oneCell'=true:=by
 obtain ⟨b,vs,T,h1,h2,⟨h3,h4⟩,h5,h6⟩:=hb
 obtain ⟨b',h7,h8⟩:=hv.2 _ rfl
 have hT:61=T:=h6 61 (by simp)
 subst hT
 rw [h1] at h7
 injection h7 with h7
 injection h7 with h7
 injection h7 with h7
 subst h7
 obtain ⟨l'⟩:=vs
 match l',h3 with
 | [u,v',v2],_=>
   have q0:=h4 0 _ u rfl rfl
   have q1:=h4 1 _ v' rfl rfl
   have q2:[v2]=[Value.int .i64 d]:=h4 2 _ v2 rfl rfl
   obtain rfl:=(List.cons.inj q2).1
   have e1:v'=nm 1000001:=q1.2 _ _ _ _ rfl
   have e0:=q0.2 _ rfl
   rw [h1] at e0
   exact ⟨b,u,h1,h8,by rw [h2,e1],e0,by rw [←e1];exact q1.1⟩
def EO {w w':World} {Z Z':Nat→Prop} {nm:JY} {l:List Int} {d:Int} {b:Nat} {u:Value} (hk:Kept w w' Z Z') (hn:nm 1000000=.pointer (some ⟨b,0,none⟩))
 (hh:w'.heap[b]?=some (.cells #[.pointer (some ⟨b,0,none⟩),nm 1000001,.int .i64 d] 61 (0,0))) (ho:(nm 1000001).oneCell'=true)
 (hx:∀k,k≠b→w'.heap[k]?=w.heap[k]?) (hne:∀k,kV (nm 1000001)=some k→k≠b)
 (ha:hY w Z nm (Hn l d) 1000001 (.arr 0 false 5 (.int .u8) l)) :
 ∀id ob,look (Hn l d) id=some ob→hY w' Z' nm (Hn l d) id ob:=by
 intro id ob hl
 by_cases h0:id=1000000
 ·subst h0
  have hl:some (Ob.box [.selfp 1000000 61,.own 1000001 0,.val (.int .i64) d])=some ob:=hl
  injection hl with hl
  subst hl
  refine ⟨b,_,61,hn,hh,⟨rfl,fun i a v h1 h2=>?_⟩,?_,?_⟩
  ·match i with
   | 0=>
     have h1:some (At.selfp 1000000 61)=some a:=h1
     have h2:some (Value.pointer (some ⟨b,0,none⟩))=some v:=h2
     injection h1 with h1;injection h2 with h2
     subst h1;subst h2
     exact ⟨rfl,fun _ _=>.inr hn.symm⟩
   | 1=>
     have h1:some (At.own 1000001 0)=some a:=h1
     have h2:some (nm 1000001)=some v:=h2
     injection h1 with h1;injection h2 with h2
     subst h1;subst h2
     exact ⟨ho,fun _ _ _ _ _=>rfl⟩
   | 2=>
     have h1:some (At.val (.int .i64) d)=some a:=h1
     have h2:some (Value.int .i64 d)=some v:=h2
     injection h1 with h1;injection h2 with h2
     subst h1;subst h2
     exact rfl
   | i+3=>cases h1
  ·intro u hu
   rcases Z5.1 hu with rfl | hu
   ·rfl
   ·rcases Z5.1 hu with rfl | hu
    ·exact ho
    ·rcases Z5.1 hu with rfl | hu
     ·rfl
     ·cases hu
  ·intro T' hT
   rcases Z5.1 hT with hT | hT
   ·injection hT with _ hT
   ·rcases Z5.1 hT with hT | hT
    ·cases hT
    ·rcases Z5.1 hT with hT | hT
     ·cases hT
     ·cases hT
 ·by_cases h1:id=1000001
  ·subst h1
   have hl:some (Ob.arr 0 false 5 (.int .u8) l)=some ob:=hl
   injection hl with hl
   subst hl
   exact Hh hk rfl (fun k hk=>hx k (hne k hk)) trivial ha
  ·have n1:Nat.beq 1000000 id=false:=Bool.eq_false_iff.2 fun e=>h0 (zm e).symm
   have n2:Nat.beq 1000001 id=false:=Bool.eq_false_iff.2 fun e=>h1 (zm e).symm
   simp [Go.Ql.look,n1,n2,Hn] at hl
abbrev nY (l:List Int) (d:Int):List (Nat×Ob):=[(1000001,.arr 0 false 5 (.int .u8) l),(1000000,.box [.selfp 1000000 61,.own 1000001 0,.val (.int .i64) d])]
def B9 (l:List Int) (d:Int):Go.Ql.look (nY l d)=Go.Ql.look (Hn l d):=by
 funext id
 by_cases h0:id=1000000
 ·subst h0;rfl
 ·have n1:Nat.beq 1000000 id=false:=Bool.eq_false_iff.2 fun e=>h0 (zm e).symm
  simp only [Go.Ql.look,n1,zk]
def wB {w w':World} {B:Bs} {nm':JY} {l:List Int} {d:Int} {v:Value} (h:Post w w' B nm' ⟨[],Hn l d⟩ v):Post w w' B nm' ⟨[],nY l d⟩ v:=by
 have e:=B9 l d
 have ez:Zc w B nm' (nY l d) w'=Zc w B nm' (Hn l d) w':=by funext k;simp only [Zc,bT,e]
 obtain ⟨a1,⟨vs,a2,a3,_⟩,a4,a5,a6,a7,a8⟩:=h
 refine ⟨a1,⟨vs,a2,a3,fun i p u h=>by cases h⟩,fun id ob hl=>?_,?_,?_,?_,?_⟩
 ·have hl:Go.Ql.look (Hn l d) id=some ob:=by rw [←e];exact hl
  show hY w' (Zc w B nm' (nY l d) w') nm' (nY l d) id ob
  rw [ez]
  refine Hh (Kept.weak fun b hb=>⟨hb,rfl⟩) rfl (fun _ _=>rfl) ?_ (a4 id ob hl)
  have hr:=ObOk.refl nm' (Hn l d) ob
  cases ob with
  | box cs=>intro a ha i hi;rw [e];exact hr a ha i hi
  | arr=>trivial
  | gone=>trivial
  | clo f x y=>exact ⟨fun a ha i hi=>by rw [e];exact hr.1 a ha i hi,fun a ha i hi=>by rw [e];exact hr.2 a ha i hi⟩
 ·intro id ob b hl;exact a5 id ob b (by rw [←e];exact hl)
 ·intro id id' ob ob' b hl hl';exact a6 id id' ob ob' b (by rw [←e];exact hl) (by rw [←e];exact hl')
 ·intro id ob hg hl;exact a7 id ob hg (by rw [←e];exact hl)
 ·intro id ob hl hn;exact a8 id ob (by rw [←e];exact hl) hn
def kU.ok:MOk Go.Proofs.Tryz.prog 108 kU.mc:=by
 refine ⟨⟨Go.Proofs.Tryz.f108,Go.Proofs.Tryz.func108,by kernel_rfl,by kernel_rfl⟩,fun w Z nm vs x y hp hy=>?_⟩
 obtain ⟨d,l,⟨⟩⟩:=x
 have hy:some (l,d,())=some y:=hy
 injection hy with hy
 subst hy
 change Pre w Z nm ⟨[(0,.one (.ref 1000000 0))],Hn l d⟩ vs at hp
 obtain ⟨len,mj,sj,lt,inj,zlt,mine,glob⟩:=hp
 match vs,len with
 | [v],_=>
   obtain ⟨b,u,h1,h2,h3,h4,h5⟩:=xI (mj 0 _ v rfl rfl) (sj 1000000 _ rfl)
   have hne:∀k,kV (nm 1000001)=some k→k≠b:=fun k hk he=>by
    have:=inj 1000000 1000001 _ _ b rfl rfl (by rw [h1];rfl) (by rw [hk,he])
    cases this
   subst h2
   have c0:w.cell? ⟨b,0,none⟩=some u:=by rw [Lib.cell_of_heap h3];rfl
   have hbl:b<w.heap.size:=lt 1000000 _ b rfl (by rw [h1];rfl)
   have hold:bT nm (Hn l d) b:=⟨1000000,_,rfl,rfl,by rw [h1];rfl⟩
   rcases h4 with rfl | rfl
   ·refine (Go.Proofs.YtdocfkidnnalnaaGreatDoor.copyCheck_fresh b w c0 (by simp [World.shape?,h3]) (by simp [World.frozen?,h3])).mono fun e w' ⟨he,hw⟩=>?_
    subst hw
    have hx:∀k,k≠b→(w.setCell ⟨b,0,none⟩ (.pointer (some ⟨b,0,none⟩))).heap[k]?=w.heap[k]?:=fun k hk=>heap_setCell_other w ⟨b,0,none⟩ k _ hk
    have hsz:(w.setCell ⟨b,0,none⟩ (.pointer (some ⟨b,0,none⟩))).heap.size=w.heap.size:=by simp [World.setCell]
    refine ⟨.tuple #[],nm,he,wB ⟨⟨rfl,rfl,rfl,by rw [hsz];exact zx _,fun k _ hm=>hx k fun e=>hm (e▸hold)⟩,⟨#[],rfl,rfl,fun i p u h=>by cases h⟩,?_,?_,inj,fun _ _ _ _ _=>rfl,fun id ob hl _=>mine id ob hl⟩⟩
    ·refine EO (w:=w) (Z:=Zc w (Bs.of Z nm (Hn l d)) nm (Hn l d) w) (u:=.pointer none) (fun k hk=>⟨⟨by rw [hsz];exact hk.1,hk.2⟩,hx k fun e=>hk.2.2 (e▸hold)⟩) h1 ?_ h5 hx hne (sj 1000001 _ rfl)
     exact Go.heap_setCell_same w b 0 _ 61 _ h3
    ·intro id ob k hl hk
     exact ⟨.inr ⟨id,ob,hl,mine id ob hl,hk⟩,by rw [hsz];exact lt id ob k hl hk⟩
   ·refine (Go.Proofs.YtdocfkidnnalnaaGreatDoor.copyCheck_used b w c0).mono fun e w' ⟨he,hw⟩=>?_
    subst hw
    exact ⟨.tuple #[],nm,he,wB ⟨SameBut.refl _ _,⟨#[],rfl,rfl,fun i p u h=>by cases h⟩,sj,fun id ob k hl hk=>⟨.inr ⟨id,ob,hl,mine id ob hl,hk⟩,lt id ob k hl hk⟩,inj,fun _ _ _ _ _=>rfl,fun id ob hl _=>mine id ob hl⟩⟩
def kF.pre:Sj:=⟨[(0,.one (.ref 1000000 0))],[(1000000,.box [.selfp 1000000 61,.own 1000001 0,.val (.int .i64)]),(1000001,.arr 0 false 5 (.int .u8))]⟩
def kF.post:Sj:=⟨[(0,.one (.val .str))],[(1000000,.box [.selfp 1000000 61,.own 1000001 0,.val (.int .i64)]),(1000001,.gone)]⟩
def kF (d:Int) (l:List Int):Option (Za×Int×Unit):=
 bif List.all l (fun n=>decide (0≤n)&&decide (n<256)) then some (List.map (fun n=>UInt8.ofNat n.toNat) l,d,()) else none
def kF.mc:xj:=⟨22,kF.pre,kF.post,fun x_=>kF x_.1 x_.2.1⟩
abbrev wU (d:Int):List (Nat×Ob):=[(1000000,.box [.selfp 1000000 61,.own 1000001 0,.val (.int .i64) d]),(1000001,.gone)]
def iN:∀{l:List Int},(∀n∈l,0≤n∧n<256)→Lib.byteCells (l.map fun n=>UInt8.ofNat n.toNat)=l.map (Value.int .u8)
 | [],_=>rfl
 | x::l,h=>by
   have hx:=h x (by simp)
   obtain ⟨k,rfl⟩:=Int.eq_ofNat_of_zero_le hx.1
   have hk:k<256:=by omega
   have ih:=iN (l:=l) fun n hn=>h n (zz _ hn)
   simp only [Lib.byteCells,List.map_cons,List.map_map] at ih ⊢
   rw [ih]
   congr 2
   simp only [Int.toNat_natCast,UInt8.toNat_ofNat']
   have:k % 2^8=k:=Nat.mod_eq_of_lt hk
   omega
def qM (w:World) (a:Addr) (n k:Nat) (h:k≠a.block):(w.freeze a n).heap[k]?=w.heap[k]?:=by
 unfold World.freeze
 split
 ·rfl
 ·simp [Array.getElem?_modify,Ne.symm h]
def bR {id:Nat} {ob:Ob} {d:Int} (l:List Int) (h:Go.Ql.look (wU d) id=some ob):∃ob',Go.Ql.look (Hn l d) id=some ob'∧ob'.mine=true:=by
 by_cases h0:id=1000000
 ·subst h0;exact ⟨_,rfl,rfl⟩
 ·by_cases h1:id=1000001
  ·subst h1;exact ⟨_,rfl,rfl⟩
  ·have n1:Nat.beq 1000000 id=false:=Bool.eq_false_iff.2 fun e=>h0 (zm e).symm
   have n2:Nat.beq 1000001 id=false:=Bool.eq_false_iff.2 fun e=>h1 (zm e).symm
   simp [Go.Ql.look,n1,n2,wU] at h
def eT {id:Nat} {ob:Ob} {d:Int} (h:Go.Ql.look (wU d) id=some ob):(id=1000000∧ob=.box [.selfp 1000000 61,.own 1000001 0,.val (.int .i64) d])∨ob=.gone:=by
 by_cases h0:id=1000000
 ·subst h0;exact .inl ⟨rfl,(Option.some.inj h).symm⟩
 ·by_cases h1:id=1000001
  ·subst h1;exact .inr (Option.some.inj h).symm
  ·have n1:Nat.beq 1000000 id=false:=Bool.eq_false_iff.2 fun e=>h0 (zm e).symm
   have n2:Nat.beq 1000001 id=false:=Bool.eq_false_iff.2 fun e=>h1 (zm e).symm
   simp [Go.Ql.look,n1,n2,wU] at h
def kF.ok:MOk Go.Proofs.Tryz.prog 22 kF.mc:=by
 refine ⟨⟨Go.Proofs.Tryz.f22,Go.Proofs.Tryz.func22,by kernel_rfl,by kernel_rfl⟩,fun w Z nm vs x y hp hy=>?_⟩
 obtain ⟨d,l,⟨⟩⟩:=x
 have hy:kF d l=some y:=hy
 unfold kF at hy
 cases hc:List.all l (fun n=>decide (0≤n)&&decide (n<256)) with
 | false=>rw [hc] at hy;cases hy
 | true=>
 rw [hc] at hy
 have hy:=Option.some.inj hy
 subst hy
 simp only [ze,Z3,zy,zn] at hc
 have hc1:=hc
 change Pre w Z nm ⟨[(0,.one (.ref 1000000 0))],Hn l d⟩ vs at hp
 obtain ⟨len,mj,sj,lt,inj,zlt,mine,glob⟩:=hp
 match vs,len with
 | [v],_=>
   obtain ⟨b,u,h1,h2,h3,h4,h5⟩:=xI (mj 0 _ v rfl rfl) (sj 1000000 _ rfl)
   have hne:∀k,kV (nm 1000001)=some k→k≠b:=fun k hk he=>by
    have:=inj 1000000 1000001 _ _ b rfl rfl (by rw [h1];rfl) (by rw [hk,he])
    cases this
   subst h2
   obtain ⟨_,cells,⟨q1,q2⟩,q3⟩:=(sj 1000001 (.arr 0 false 5 (.int .u8) l) rfl).resolve_right fun h=>by obtain ⟨j,u,l1,e,_⟩:=h;injection e with e1;exact absurd e1 (by simp [C9])
   have q3:cells=l.map (Value.int .u8):=oX q3
   subst q3
   by_cases hl0:l=[]
   ·subst hl0
    have hbs:b<w.heap.size:=by
     rw [Array.getElem?_eq_some_iff] at h3;exact h3.1
    have fin:∀(w1:World) (a:Option Addr) (cap:Nat) (r:Option Addr),nm 1000001=.slice a 0 cap→(∀k,k<w.heap.size→w1.heap[k]?=w.heap[k]?)→w.heap.size≤w1.heap.size →
     (w1.os=w.os∧w1.tape=w.tape∧w1.output=w.output)→(Builtin.unsafeSliceData_ #[57] 75 #[.slice a 0 cap]).run Go.Proofs.Tryz.prog w.drew=.ok (.pointer r) w1 →
     Calls Go.Proofs.Tryz.prog 22 #[.pointer (some ⟨b,0,none⟩)] w fun e w'=>∃v nm',e=.returned v∧Post w w' (Bs.of Z nm (Hn [] d)) nm' (kF.post.inj ([],d,())) v:=by
     intro w1 a cap r hnm hx hsz hos hSD
     refine (Go.Proofs.YtdocfkidnnalnaaGreatDoor.builder_String_empty b cap u (.int .i64 d) a r w w1 (by rw [h3,hnm]) hSD (by rw [hx b hbs,h3,hnm])).mono fun e w' ⟨he,hw⟩=>?_
     subst hw
     refine ⟨.string ⟨#[]⟩,nm,he,⟨⟨hos.1,hos.2.1,hos.2.2,hsz,fun k hk _=>hx k hk⟩,rfl,?_,?_,?_,fun _ _ _ _ _=>rfl,?_⟩⟩
     ·intro id ob hl
      rcases eT hl with ⟨rfl,rfl⟩ | rfl
      ·refine ⟨b,_,61,h1,(hx b hbs).trans h3,⟨rfl,fun i a v e1 e2=>?_⟩,?_,?_⟩
       ·match i with
        | 0=>
          have e1:some (At.selfp 1000000 61)=some a:=e1
          have e2:some u=some v:=e2
          injection e1 with e1;injection e2 with e2
          subst e1;subst e2
          refine ⟨?_,fun _ _=>?_⟩
          ·rcases h4 with rfl | rfl<;>rfl
          ·rw [h1];exact h4
        | 1=>
          have e1:some (At.own 1000001 0)=some a:=e1
          have e2:some (nm 1000001)=some v:=e2
          injection e1 with e1;injection e2 with e2
          subst e1;subst e2
          exact ⟨h5,fun _ _ _ _ e=>by cases e⟩
        | 2=>
          have e1:some (At.val (.int .i64) d)=some a:=e1
          have e2:some (Value.int .i64 d)=some v:=e2
          injection e1 with e1;injection e2 with e2
          subst e1;subst e2
          exact rfl
        | i+3=>cases e1
       ·intro u' hu
        rcases Z5.1 hu with rfl | hu
        ·rcases h4 with rfl | rfl<;>rfl
        ·rcases Z5.1 hu with rfl | hu
         ·exact h5
         ·rcases Z5.1 hu with rfl | hu
          ·rfl
          ·cases hu
       ·intro T' hT
        rcases Z5.1 hT with hT | hT
        ·injection hT with _ hT
        ·rcases Z5.1 hT with hT | hT
         ·cases hT
         ·rcases Z5.1 hT with hT | hT
          ·cases hT
          ·cases hT
      ·trivial
     ·intro id ob k hl hk
      obtain ⟨ob',hl',hm'⟩:=bR [] hl
      exact ⟨.inr ⟨id,ob',hl',hm',hk⟩,Z2 (lt id ob' k hl' hk) hsz⟩
     ·intro id id' ob ob' k hl hl' hk hk'
      obtain ⟨o1,r1,_⟩:=bR [] hl
      obtain ⟨o2,r2,_⟩:=bR [] hl'
      exact inj id id' o1 o2 k r1 r2 hk hk'
     ·intro id ob hl hn
      rcases eT hl with ⟨_,rfl⟩ | rfl
      ·rfl
      ·exact absurd rfl hn
    rcases q2 with ⟨hv,q2⟩ | ⟨g,cap,cur,hv,⟨fz,hg,_⟩,hnc,hcm,hcs,htk⟩
    ·exact fin w.drew none 0 none (by rw [hv]) (fun k _=>rfl) (zx _) ⟨rfl,rfl,rfl⟩ (Lib.run_unsafeSliceData_nil _ _ _ _ _)
    ·cases hcz:cap with
     | zero=>
       have hsh:w.drew.shape? g=some (5,cur.size):=by have hg':w.drew.heap[g]?=some (.cells cur 5 fz):=hg;simp [World.shape?,hg']
       exact fin (w.drew.alloc (.view ⟨g,0,none⟩ 5)) (some ⟨g,0,none⟩) 0 _ (by rw [hv,hcz];rfl) (fun k hk=>by show (w.heap.push _)[k]?=_;rw [Array.getElem?_push_lt hk];simp [Array.getElem?_eq_getElem hk]) (by show w.heap.size≤(w.heap.push _).size;simp) ⟨rfl,rfl,rfl⟩ (Lib.run_unsafeSliceData_zero #[57] 75 5 (P:=Go.Proofs.Tryz.prog) (w:=w.drew) (hp:=Go.Proofs.Tryz.underlying75) (a:=⟨g,0,none⟩) (n:=0) (sh:=_) hsh)
     | succ c=>exact fin w.drew _ (c+1) _ (by rw [hv,hcz];rfl) (fun k _=>rfl) (zx _) ⟨rfl,rfl,rfl⟩ (Lib.run_unsafeSliceData_row _ _ _ _ _ _ (by omega))
   have hlen:0<List.length l:=List.length_pos_iff.2 hl0
   rcases q2 with ⟨_,q2⟩ | ⟨g,cap,cur,hv,⟨fz,hg,_⟩,hnc,hcm,hcs,htk⟩
   ·have q2:List.length l=0:=q2
    omega
   ·have hgb:g≠b:=hne g (by rw [hv];rfl)
    have hgo:bT nm (Hn l d) g:=⟨1000001,_,rfl,rfl,by rw [hv];rfl⟩
    have hll:(l.map fun n=>UInt8.ofNat n.toNat).length=List.length l:=List.length_map ..
    have hcell:(Ty.int IntKind.u8).cells=1:=rfl
    rw [hcell,Nat.mul_one] at hcs htk
    refine (Go.Proofs.YtdocfkidnnalnaaGreatDoor.builder_String b g cap u (.int .i64 d) cur (l.map fun n=>UInt8.ofNat n.toNat) w (by rw [h3,hv,hll]) fz hg (by rw [hll];exact hnc) hcm hcs (by rw [hll,iN hc1];exact htk) (by intro e;exact hl0 (List.map_eq_nil_iff.1 e))).mono fun e w' ⟨he,hw⟩=>?_
    subst hw
    have hx:∀k,k≠g→(w.drew.freeze ⟨g,0,none⟩ (l.map fun n=>UInt8.ofNat n.toNat).length).heap[k]?=w.heap[k]?:=fun k hk=>qM w.drew ⟨g,0,none⟩ _ k hk
    have hsz:(w.drew.freeze ⟨g,0,none⟩ (l.map fun n=>UInt8.ofNat n.toNat).length).heap.size=w.heap.size:=by
     unfold World.freeze
     split
     ·rfl
     ·exact Array.size_modify
    have hos:(w.drew.freeze ⟨g,0,none⟩ (l.map fun n=>UInt8.ofNat n.toNat).length).os=w.os∧(w.drew.freeze ⟨g,0,none⟩ (l.map fun n=>UInt8.ofNat n.toNat).length).tape=w.tape∧(w.drew.freeze ⟨g,0,none⟩ (l.map fun n=>UInt8.ofNat n.toNat).length).output=w.output:=by
     unfold World.freeze
     split<;>exact ⟨rfl,rfl,rfl⟩
    refine ⟨.string ⟨(l.map fun n=>UInt8.ofNat n.toNat).toArray⟩,nm,he,⟨⟨hos.1,hos.2.1,hos.2.2,by rw [hsz];exact zx _,fun k _ hm=>hx k fun e=>hm (e▸hgo)⟩,rfl,?_,?_,?_,fun _ _ _ _ _=>rfl,?_⟩⟩
    ·intro id ob hl
     rcases eT hl with ⟨rfl,rfl⟩ | rfl
     ·refine ⟨b,_,61,h1,(hx b (Ne.symm hgb)).trans h3,⟨rfl,fun i a v e1 e2=>?_⟩,?_,?_⟩
      ·match i with
       | 0=>
         have e1:some (At.selfp 1000000 61)=some a:=e1
         have e2:some u=some v:=e2
         injection e1 with e1;injection e2 with e2
         subst e1;subst e2
         refine ⟨?_,fun _ _=>?_⟩
         ·rcases h4 with rfl | rfl<;>rfl
         ·rw [h1];exact h4
       | 1=>
         have e1:some (At.own 1000001 0)=some a:=e1
         have e2:some (nm 1000001)=some v:=e2
         injection e1 with e1;injection e2 with e2
         subst e1;subst e2
         exact ⟨h5,fun _ _ _ _ e=>by cases e⟩
       | 2=>
         have e1:some (At.val (.int .i64) d)=some a:=e1
         have e2:some (Value.int .i64 d)=some v:=e2
         injection e1 with e1;injection e2 with e2
         subst e1;subst e2
         exact rfl
       | i+3=>cases e1
      ·intro u' hu
       rcases Z5.1 hu with rfl | hu
       ·rcases h4 with rfl | rfl<;>rfl
       ·rcases Z5.1 hu with rfl | hu
        ·exact h5
        ·rcases Z5.1 hu with rfl | hu
         ·rfl
         ·cases hu
      ·intro T' hT
       rcases Z5.1 hT with hT | hT
       ·injection hT with _ hT
       ·rcases Z5.1 hT with hT | hT
        ·cases hT
        ·rcases Z5.1 hT with hT | hT
         ·cases hT
         ·cases hT
     ·trivial
    ·intro id ob k hl hk
     obtain ⟨ob',hl',hm'⟩:=bR l hl
     exact ⟨.inr ⟨id,ob',hl',hm',hk⟩,by rw [hsz];exact lt id ob' k hl' hk⟩
    ·intro id id' ob ob' k hl hl' hk hk'
     obtain ⟨o1,r1,_⟩:=bR l hl
     obtain ⟨o2,r2,_⟩:=bR l hl'
     exact inj id id' o1 o2 k r1 r2 hk hk'
    ·intro id ob hl hn
     rcases eT hl with ⟨_,rfl⟩ | rfl
     ·rfl
     ·exact absurd rfl hn
end
end W
end
