/- Contracts of Go's library; the seat's types; what is known of its variables. -/
import Derived.Test.YtjlmpaffhddmdaaGreatDoorProg
import Derived.WalkKit
import Derived.Shelf.Spec.TrailingZeros
import Derived.Shelf.LaysM
import Derived.Shelf.Strings.OnBuilder
import Derived.Shelf.Strconv.Itoa3
import Derived.Shelf.Strconv.Itoa4
import Derived.Ground.Names2Prog
import Derived.Shelf.Strconv.AtoiAll
import Derived.Shelf.Strconv.ErrVarAll
import Derived.Shelf.LaysC
import Derived.Test.YtjlmpaffhddmdaaGreatDoorLf
set_option linter.all false
section
namespace Go.Proofs
open Go.Shelf
def Tryz.lays156_ren:Go.Shelf.Ren:=⟨fun | 156=>40 | 165=>71 | 166=>72 | 169=>73 | 240=>93 | 241=>94 | 276=>114 | 277=>115 | n=>n,fun | 31=>64 | 9=>9 | 3=>3 | 4=>4 | 0=>0 | 20=>20 | 72=>120 | 76=>74 | 70=>118 | 37=>113 | 75=>73 | 127=>135 | 164=>156 | 5=>5 | 80=>41 | n=>n,fun | n=>n⟩
theorem Tryz.lays156:Go.Proofs.Lays.n156 Tryz.prog Tryz.lays156_ren:={
 mixed:=by kernel_rfl
 f156:=Tryz.func40.trans (congrArg some (by kernel_rfl))
 f165:=Tryz.func71.trans (congrArg some (by kernel_rfl))
 f166:=Tryz.func72.trans (congrArg some (by kernel_rfl))
 f169:=Tryz.func73.trans (congrArg some (by kernel_rfl))
 f240:=Tryz.func93.trans (congrArg some (by kernel_rfl))
 f241:=Tryz.func94.trans (congrArg some (by kernel_rfl))
 f276:=Tryz.func114.trans (congrArg some (by kernel_rfl))
 f277:=Tryz.func115.trans (congrArg some (by kernel_rfl))
 t0:=Tryz.underlying0
 a0:=Tryz.isAgg0
 z0:=Tryz.sizeOf0
 v0:=Tryz.zeroValue0
 t3:=Tryz.underlying3
 a3:=Tryz.isAgg3
 z3:=Tryz.sizeOf3
 v3:=Tryz.zeroValue3
 t4:=Tryz.underlying4
 a4:=Tryz.isAgg4
 z4:=Tryz.sizeOf4
 v4:=Tryz.zeroValue4
 t9:=Tryz.underlying9
 a9:=Tryz.isAgg9
 z9:=Tryz.sizeOf9
 v9:=Tryz.zeroValue9
 t20:=Tryz.underlying20
 a20:=Tryz.isAgg20
 z20:=Tryz.sizeOf20
 v20:=Tryz.zeroValue20
 t31:=Tryz.underlying64
 a31:=Tryz.isAgg64
 z31:=Tryz.sizeOf64
 v31:=Tryz.zeroValue64
 t37:=Tryz.underlying113
 a37:=Tryz.isAgg113
 z37:=Tryz.sizeOf113
 v37:=Tryz.zeroValue113
 t70:=Tryz.underlying118
 a70:=Tryz.isAgg118
 z70:=Tryz.sizeOf118
 v70:=Tryz.zeroValue118
 t72:=Tryz.underlying120
 a72:=Tryz.isAgg120
 z72:=Tryz.sizeOf120
 v72:=Tryz.zeroValue120
 t75:=Tryz.underlying73
 a75:=Tryz.isAgg73
 z75:=Tryz.sizeOf73
 v75:=Tryz.zeroValue73
 t76:=Tryz.underlying74
 a76:=Tryz.isAgg74
 z76:=Tryz.sizeOf74
 v76:=Tryz.zeroValue74
 t127:=Tryz.underlying135
 a127:=Tryz.isAgg135
 z127:=Tryz.sizeOf135
 v127:=Tryz.zeroValue135
 t164:=Tryz.underlying156
 a164:=Tryz.isAgg156
 z164:=Tryz.sizeOf156
 v164:=Tryz.zeroValue156 }
theorem Tryz.Builder_Extra_156:Builder.Extra Tryz.prog Tryz.lays156_ren where
 sizeBuilder:=by kernel_rfl
 liesBuilder:=by kernel_rfl
 t5:=Tryz.underlying5
 a5:=Tryz.isAgg5
 z5:=Tryz.sizeOf5
 v5:=Tryz.zeroValue5
 infoByte:=by kernel_rfl
 cellsByte:=by kernel_rfl
 sizeByte:=by kernel_rfl
 neB5:=by decide
open Go.RowKit in
theorem Tryz.strings_Join_none (a:Option Addr) (c:Nat) (sep:ByteArray) (w:World) :
 Calls Tryz.prog 40 #[.slice a 0 c,.string sep] w fun e w'=>e=.returned (.string ⟨#[]⟩)∧w'=w:=Any.strings_Join_none Tryz.lays156 Tryz.Builder_Extra_156 a c sep w
open Go.RowKit in
theorem Tryz.strings_Join (bk o c:Nat) (xs:List ByteArray) (sep:ByteArray) (w:World) (hcells:∀(j:Nat) x,xs[j]?=some x→w.cell? ⟨bk,o+j,none⟩=some (.string x)) (hbk:bk<w.heap.size) (hN:xs.length≤140737488355328) (hcap:xs.length≤c) (hlen:(Lib.join (xs.map (·.data.toList)) sep.data.toList).length≤140737488355328) :
 Calls Tryz.prog 40 #[.slice (some ⟨bk,o,none⟩) xs.length c,.string sep] w fun e w'=>e=.returned (.string ⟨(Lib.join (xs.map (·.data.toList)) sep.data.toList).toArray⟩)∧Below w.heap.size w w':=Any.strings_Join Tryz.lays156 Tryz.Builder_Extra_156 bk o c xs sep w hcells hbk hN hcap hlen
def Tryz.laysM171_ren:Go.Shelf.Ren:=⟨fun | 171=>41 | 243=>74 | 246=>95 | 283=>116 | 284=>117 | 285=>118 | 286=>119 | 129=>129 | 317=>128 | 318=>130 | 319=>131 | 320=>132 | 337=>91 | 338=>139 | n=>n,fun | 3=>3 | 9=>9 | 2=>2 | 4=>4 | 171=>159 | 0=>0 | 53=>109 | 37=>113 | 5=>5 | 173=>162 | 212=>179 | 51=>115 | 20=>20 | 213=>180 | 46=>116 | 232=>153 | 233=>186 | n=>n,fun | 17=>4 | 18=>2 | 19=>6 | n=>n⟩
theorem Tryz.laysM171:Go.Proofs.LaysM.n171 Tryz.prog Tryz.laysM171_ren:={
 mixed:=by kernel_rfl
 f129:=Tryz.func129.trans (congrArg some (by kernel_rfl))
 f171:=Tryz.func41.trans (congrArg some (by kernel_rfl))
 f243:=Tryz.func74.trans (congrArg some (by kernel_rfl))
 f246:=Tryz.func95.trans (congrArg some (by kernel_rfl))
 f283:=Tryz.func116.trans (congrArg some (by kernel_rfl))
 f284:=Tryz.func117.trans (congrArg some (by kernel_rfl))
 f285:=Tryz.func118.trans (congrArg some (by kernel_rfl))
 f286:=Tryz.func119.trans (congrArg some (by kernel_rfl))
 f317:=Tryz.func128.trans (congrArg some (by kernel_rfl))
 f318:=Tryz.func130.trans (congrArg some (by kernel_rfl))
 f319:=Tryz.func131.trans (congrArg some (by kernel_rfl))
 f320:=Tryz.func132.trans (congrArg some (by kernel_rfl))
 f337:=Tryz.func91.trans (congrArg some (by kernel_rfl))
 f338:=Tryz.func139.trans (congrArg some (by kernel_rfl))
 t0:=Tryz.underlying0
 a0:=Tryz.isAgg0
 z0:=Tryz.sizeOf0
 v0:=Tryz.zeroValue0
 t2:=Tryz.underlying2
 a2:=Tryz.isAgg2
 z2:=Tryz.sizeOf2
 v2:=Tryz.zeroValue2
 t3:=Tryz.underlying3
 a3:=Tryz.isAgg3
 z3:=Tryz.sizeOf3
 v3:=Tryz.zeroValue3
 t4:=Tryz.underlying4
 a4:=Tryz.isAgg4
 z4:=Tryz.sizeOf4
 v4:=Tryz.zeroValue4
 t5:=Tryz.underlying5
 a5:=Tryz.isAgg5
 z5:=Tryz.sizeOf5
 v5:=Tryz.zeroValue5
 t9:=Tryz.underlying9
 a9:=Tryz.isAgg9
 z9:=Tryz.sizeOf9
 v9:=Tryz.zeroValue9
 t20:=Tryz.underlying20
 a20:=Tryz.isAgg20
 z20:=Tryz.sizeOf20
 v20:=Tryz.zeroValue20
 t37:=Tryz.underlying113
 a37:=Tryz.isAgg113
 z37:=Tryz.sizeOf113
 v37:=Tryz.zeroValue113
 t46:=Tryz.underlying116
 a46:=Tryz.isAgg116
 z46:=Tryz.sizeOf116
 v46:=Tryz.zeroValue116
 t51:=Tryz.underlying115
 a51:=Tryz.isAgg115
 z51:=Tryz.sizeOf115
 v51:=Tryz.zeroValue115
 t53:=Tryz.underlying109
 a53:=Tryz.isAgg109
 z53:=Tryz.sizeOf109
 v53:=Tryz.zeroValue109
 t171:=Tryz.underlying159
 a171:=Tryz.isAgg159
 z171:=Tryz.sizeOf159
 v171:=Tryz.zeroValue159
 t173:=Tryz.underlying162
 a173:=Tryz.isAgg162
 z173:=Tryz.sizeOf162
 v173:=Tryz.zeroValue162
 t212:=Tryz.underlying179
 a212:=Tryz.isAgg179
 z212:=Tryz.sizeOf179
 v212:=Tryz.zeroValue179
 t213:=Tryz.underlying180
 a213:=Tryz.isAgg180
 z213:=Tryz.sizeOf180
 t232:=Tryz.underlying153
 a232:=Tryz.isAgg153
 z232:=Tryz.sizeOf153
 v232:=Tryz.zeroValue153
 t233:=Tryz.underlying186
 a233:=Tryz.isAgg186
 z233:=Tryz.sizeOf186
 v233:=Tryz.zeroValue186
 g17:=by kernel_rfl
 g18:=by kernel_rfl
 g19:=by kernel_rfl
 i0:=by kernel_rfl
 i2:=by kernel_rfl
 i3:=by kernel_rfl
 i4:=by kernel_rfl
 i5:=by kernel_rfl
 i9:=by kernel_rfl
 i20:=by kernel_rfl
 i37:=by kernel_rfl
 i46:=by kernel_rfl
 i51:=by kernel_rfl
 i53:=by kernel_rfl
 i171:=by kernel_rfl
 i173:=by kernel_rfl
 i212:=by kernel_rfl
 i232:=by kernel_rfl
 i233:=by kernel_rfl
 m17:=by kernel_rfl
 m18:=by kernel_rfl
 m19:=by kernel_rfl }
open Go.RowKit Go.Sort Go.Lib in
theorem Tryz.strconv_Itoa (n : Int) (h0 : -9223372036854775808 ≤ n) (h1 : n ≤ 9223372036854775807) (w : World) (htab : Lib.TabIs Tryz.prog w "internal/strconv.uint64pow10" .u64 Lib.pow10Tab) :
 Calls Tryz.prog 41 #[.int .i64 n] w fun e w'=>e=.returned (.string ⟨(Lib.itoa n).toArray⟩) ∧ ∃k os,w'=grow (w.drewN k) os:=Any.strconv_Itoa Tryz.laysM171 n h0 h1 w htab
def Tryz.laysC172_ren:Go.Shelf.Ren:=⟨fun | 172=>28 | 244=>61 | 245=>62 | 247=>86 | 279=>87 | 280=>88 | 281=>89 | 282=>90 | 287=>108 | 316=>109 | 171=>41 | 205=>110 | 321=>126 | 322=>127 | 243=>74 | 246=>95 | 283=>116 | 284=>117 | 285=>118 | 286=>119 | 129=>129 | 317=>128 | 318=>130 | 319=>131 | 320=>132 | 337=>91 | 338=>139 | n=>n,fun | 9=>9 | 3=>3 | 75=>73 | 76=>74 | 4=>4 | 5=>5 | 167=>128 | 37=>113 | 0=>0 | 85=>129 | 2=>2 | 168=>131 | 53=>109 | 175=>147 | 46=>116 | 210=>151 | 127=>135 | 145=>176 | 143=>174 | 21=>21 | 171=>159 | 173=>162 | 212=>179 | 51=>115 | 20=>20 | 213=>180 | 232=>153 | 233=>186 | 80=>41 | n=>n,fun | 15=>0 | 16=>1 | 17=>4 | 18=>2 | 19=>6 | n=>n⟩
theorem Tryz.laysC172:Go.Proofs.LaysC.n172 Tryz.prog Tryz.laysC172_ren:={
 mixed:=by kernel_rfl
 f129:=Tryz.func129.trans (congrArg some (by kernel_rfl))
 f171:=Tryz.func41.trans (congrArg some (by kernel_rfl))
 f172:=Tryz.func28.trans (congrArg some (by kernel_rfl))
 f205:=Tryz.func110.trans (congrArg some (by kernel_rfl))
 f243:=Tryz.func74.trans (congrArg some (by kernel_rfl))
 f244:=Tryz.func61.trans (congrArg some (by kernel_rfl))
 f245:=Tryz.func62.trans (congrArg some (by kernel_rfl))
 f246:=Tryz.func95.trans (congrArg some (by kernel_rfl))
 f247:=Tryz.func86.trans (congrArg some (by kernel_rfl))
 f279:=Tryz.func87.trans (congrArg some (by kernel_rfl))
 f280:=Tryz.func88.trans (congrArg some (by kernel_rfl))
 f281:=Tryz.func89.trans (congrArg some (by kernel_rfl))
 f282:=Tryz.func90.trans (congrArg some (by kernel_rfl))
 f283:=Tryz.func116.trans (congrArg some (by kernel_rfl))
 f284:=Tryz.func117.trans (congrArg some (by kernel_rfl))
 f285:=Tryz.func118.trans (congrArg some (by kernel_rfl))
 f286:=Tryz.func119.trans (congrArg some (by kernel_rfl))
 f287:=Tryz.func108.trans (congrArg some (by kernel_rfl))
 f316:=Tryz.func109.trans (congrArg some (by kernel_rfl))
 f317:=Tryz.func128.trans (congrArg some (by kernel_rfl))
 f318:=Tryz.func130.trans (congrArg some (by kernel_rfl))
 f319:=Tryz.func131.trans (congrArg some (by kernel_rfl))
 f320:=Tryz.func132.trans (congrArg some (by kernel_rfl))
 f321:=Tryz.func126.trans (congrArg some (by kernel_rfl))
 f322:=Tryz.func127.trans (congrArg some (by kernel_rfl))
 f337:=Tryz.func91.trans (congrArg some (by kernel_rfl))
 f338:=Tryz.func139.trans (congrArg some (by kernel_rfl))
 t0:=Tryz.underlying0
 a0:=Tryz.isAgg0
 z0:=Tryz.sizeOf0
 v0:=Tryz.zeroValue0
 t2:=Tryz.underlying2
 a2:=Tryz.isAgg2
 z2:=Tryz.sizeOf2
 v2:=Tryz.zeroValue2
 t3:=Tryz.underlying3
 a3:=Tryz.isAgg3
 z3:=Tryz.sizeOf3
 v3:=Tryz.zeroValue3
 t4:=Tryz.underlying4
 a4:=Tryz.isAgg4
 z4:=Tryz.sizeOf4
 v4:=Tryz.zeroValue4
 t5:=Tryz.underlying5
 a5:=Tryz.isAgg5
 z5:=Tryz.sizeOf5
 v5:=Tryz.zeroValue5
 t9:=Tryz.underlying9
 a9:=Tryz.isAgg9
 z9:=Tryz.sizeOf9
 v9:=Tryz.zeroValue9
 t20:=Tryz.underlying20
 a20:=Tryz.isAgg20
 z20:=Tryz.sizeOf20
 v20:=Tryz.zeroValue20
 t21:=Tryz.underlying21
 a21:=Tryz.isAgg21
 z21:=Tryz.sizeOf21
 v21:=Tryz.zeroValue21
 t37:=Tryz.underlying113
 a37:=Tryz.isAgg113
 z37:=Tryz.sizeOf113
 v37:=Tryz.zeroValue113
 t46:=Tryz.underlying116
 a46:=Tryz.isAgg116
 z46:=Tryz.sizeOf116
 v46:=Tryz.zeroValue116
 t51:=Tryz.underlying115
 a51:=Tryz.isAgg115
 z51:=Tryz.sizeOf115
 v51:=Tryz.zeroValue115
 t53:=Tryz.underlying109
 a53:=Tryz.isAgg109
 z53:=Tryz.sizeOf109
 v53:=Tryz.zeroValue109
 t75:=Tryz.underlying73
 a75:=Tryz.isAgg73
 z75:=Tryz.sizeOf73
 v75:=Tryz.zeroValue73
 t76:=Tryz.underlying74
 a76:=Tryz.isAgg74
 z76:=Tryz.sizeOf74
 v76:=Tryz.zeroValue74
 t85:=Tryz.underlying129
 a85:=Tryz.isAgg129
 z85:=Tryz.sizeOf129
 v85:=Tryz.zeroValue129
 t127:=Tryz.underlying135
 a127:=Tryz.isAgg135
 z127:=Tryz.sizeOf135
 v127:=Tryz.zeroValue135
 t143:=Tryz.underlying174
 a143:=Tryz.isAgg174
 z143:=Tryz.sizeOf174
 v143:=Tryz.zeroValue174
 t145:=Tryz.underlying176
 a145:=Tryz.isAgg176
 z145:=Tryz.sizeOf176
 v145:=Tryz.zeroValue176
 t167:=Tryz.underlying128
 a167:=Tryz.isAgg128
 z167:=Tryz.sizeOf128
 v167:=Tryz.zeroValue128
 t168:=Tryz.underlying131
 a168:=Tryz.isAgg131
 z168:=Tryz.sizeOf131
 v168:=Tryz.zeroValue131
 t171:=Tryz.underlying159
 a171:=Tryz.isAgg159
 z171:=Tryz.sizeOf159
 v171:=Tryz.zeroValue159
 t173:=Tryz.underlying162
 a173:=Tryz.isAgg162
 z173:=Tryz.sizeOf162
 v173:=Tryz.zeroValue162
 t175:=Tryz.underlying147
 a175:=Tryz.isAgg147
 z175:=Tryz.sizeOf147
 v175:=Tryz.zeroValue147
 t210:=Tryz.underlying151
 a210:=Tryz.isAgg151
 z210:=Tryz.sizeOf151
 v210:=Tryz.zeroValue151
 t212:=Tryz.underlying179
 a212:=Tryz.isAgg179
 z212:=Tryz.sizeOf179
 v212:=Tryz.zeroValue179
 t213:=Tryz.underlying180
 a213:=Tryz.isAgg180
 z213:=Tryz.sizeOf180
 t232:=Tryz.underlying153
 a232:=Tryz.isAgg153
 z232:=Tryz.sizeOf153
 v232:=Tryz.zeroValue153
 t233:=Tryz.underlying186
 a233:=Tryz.isAgg186
 z233:=Tryz.sizeOf186
 v233:=Tryz.zeroValue186
 g15:=by kernel_rfl
 g16:=by kernel_rfl
 g17:=by kernel_rfl
 g18:=by kernel_rfl
 g19:=by kernel_rfl
 t80:=Tryz.underlying41
 a80:=Tryz.isAgg41
 z80:=Tryz.sizeOf41
 v80:=Tryz.zeroValue41
 i0:=by kernel_rfl
 i2:=by kernel_rfl
 i3:=by kernel_rfl
 i4:=by kernel_rfl
 i5:=by kernel_rfl
 i9:=by kernel_rfl
 i20:=by kernel_rfl
 i21:=by kernel_rfl
 i37:=by kernel_rfl
 i46:=by kernel_rfl
 i51:=by kernel_rfl
 i53:=by kernel_rfl
 i75:=by kernel_rfl
 i76:=by kernel_rfl
 i80:=by kernel_rfl
 i85:=by kernel_rfl
 i127:=by kernel_rfl
 i143:=by kernel_rfl
 i145:=by kernel_rfl
 i167:=by kernel_rfl
 i168:=by kernel_rfl
 i171:=by kernel_rfl
 i173:=by kernel_rfl
 i175:=by kernel_rfl
 i210:=by kernel_rfl
 i212:=by kernel_rfl
 i232:=by kernel_rfl
 i233:=by kernel_rfl
 m15:=by kernel_rfl
 m16:=by kernel_rfl
 m17:=by kernel_rfl
 m18:=by kernel_rfl
 m19:=by kernel_rfl
 c0:=by kernel_rfl
 c2:=by kernel_rfl
 c3:=by kernel_rfl
 c4:=by kernel_rfl
 c5:=by kernel_rfl
 c9:=by kernel_rfl
 c20:=by kernel_rfl
 c21:=by kernel_rfl
 c37:=by kernel_rfl
 c46:=by kernel_rfl
 c51:=by kernel_rfl
 c53:=by kernel_rfl
 c75:=by kernel_rfl
 c76:=by kernel_rfl
 c80:=by kernel_rfl
 c85:=by kernel_rfl
 c127:=by kernel_rfl
 c143:=by kernel_rfl
 c145:=by kernel_rfl
 c167:=by kernel_rfl
 c168:=by kernel_rfl
 c171:=by kernel_rfl
 c173:=by kernel_rfl
 c175:=by kernel_rfl
 c210:=by kernel_rfl
 c212:=by kernel_rfl
 c213:=by kernel_rfl
 c232:=by kernel_rfl
 c233:=by kernel_rfl }
open Go.RowKit Go.Sort Go.Lib in
theorem Tryz.strconv_Atoi_ok (s:ByteArray) (hmax:s.size≤9223372036854775806) (v:Int) (h:Lib.atoiAll s.data.toList=.ok v) (w:World) :
 Calls Tryz.prog 28 #[.string s] w fun e w'=>e=.returned (.tuple #[.int .i64 v,.nilIface])∧(w'=w ∨ ∃t,w'=Lib.bytesWorld w 5 t):=Any.strconv_Atoi_ok Tryz.laysC172 s hmax v h w
open Go.RowKit Go.Sort Go.Lib in
theorem Tryz.strconv_Atoi_syntax_var (s : ByteArray) (hlim : s.size ≤ 281474976710656) (h1 : ∀ v, Lib.atoiAll s.data.toList ≠ .ok v) (h2 : Lib.atoiAll s.data.toList ≠ .range) (tp : TypeId) (p : Value) (w : World) (hvar : w.var? Tryz.prog "strconv.ErrSyntax" = some #[.iface tp p]) :
 Calls Tryz.prog 28 #[.string s] w fun e w'=>∃N,e=.returned (.tuple #[.int .i64 0,.iface 131 (.pointer (some ⟨N,0,none⟩))])∧w.heap.size≤N∧w'.heap[N]?=some (.cells #[.string ⟨#[65,116,111,105]⟩,.string s,.iface tp p] 151 (0,0))∧Below w.heap.size w w':=Any.strconv_Atoi_syntax_var Tryz.laysC172 s hlim (by cases hx:Lib.atoiAll s.data.toList;exact absurd hx (h1 _);rfl;exact absurd hx h2) tp p w hvar
open Go.RowKit Go.Sort Go.Lib in
theorem Tryz.strconv_Atoi_range_var (s : ByteArray) (hlim : s.size ≤ 281474976710656) (h : Lib.atoiAll s.data.toList = .range) (tp : TypeId) (p : Value) (w : World) (hvar : w.var? Tryz.prog "strconv.ErrRange" = some #[.iface tp p]) :
 Calls Tryz.prog 28 #[.string s] w fun e w'=>∃N,e=.returned (.tuple #[.int .i64 (Lib.atoiSat s.data.toList),.iface 131 (.pointer (some ⟨N,0,none⟩))])∧w.heap.size≤N∧w'.heap[N]?=some (.cells #[.string ⟨#[65,116,111,105]⟩,.string s,.iface tp p] 151 (0,0))∧Below w.heap.size w w':=Any.strconv_Atoi_range_var Tryz.laysC172 s hlim h tp p w hvar
end Go.Proofs
namespace Go.Proofs.YtjlmpaffhddmdaaGreatDoor
open Go.RowKit Go.Proofs
theorem gPow : Tryz.prog.globalNamed "internal/strconv.uint64pow10" = some 4 := by kernel_rfl
set_option maxHeartbeats 1000000 in
theorem tz32_core (x k idx:Nat) (w:World) (hx0:((x:Int)==0)=false)
 (key:bits BinOp.and IntKind.u32 (x:Int) (-(x:Int) % 4294967296)*125613361 % 4294967296 / 134217728=(idx:Int))
 (hi:idx<32) (hk:k<32) (hcell:w.cell? ⟨2,idx,none⟩=some (.int .u8 k)) :
 Calls Tryz.prog 91 #[.int .u32 x] w fun e w'=>e=.returned (.int .i64 k)∧w'=w:=by
 go_enter Tryz.func91,Tryz.ntmps91
 go_wp2_with (simp only [key])
 go_ret
 exact ⟨rfl,rfl⟩
theorem tz32_zero (w:World) :
 Calls Tryz.prog 91 #[.int .u32 0] w fun e w'=>e=.returned (.int .i64 32)∧w'=w:=by
 go_enter Tryz.func91,Tryz.ntmps91
 go_wp2
 go_ret
 exact ⟨rfl,rfl⟩
theorem tz32 (x:Nat) (hx:x<4294967296) (w:World) (hT:TabAt 2 Lib.deBruijn32tab w) :
 Calls Tryz.prog 91 #[.int .u32 x] w fun e w'=>e=.returned (.int .i64 (Lib.ctz 32 x))∧w'=w:=by
 by_cases hx0:x=0
 ·subst hx0
  exact tz32_zero w
 ·obtain ⟨hlow,hk⟩:=Lib.lowest_bit 32 x hx0 hx
  obtain ⟨hi,htab⟩:=Lib.deBruijn32_at _ hk
  have hcell:=hT _ hi
  rw [htab] at hcell
  exact tz32_core x _ _ w (by simp;omega) (tz32_key x _ hx hx0 hlow) hi hk hcell
theorem gSyn : Tryz.prog.globalNamed "strconv.ErrSyntax" = some 0 := by kernel_rfl
theorem gRan : Tryz.prog.globalNamed "strconv.ErrRange" = some 1 := by kernel_rfl
def ErrAt (n:String) (w:World):Prop:=∃tp p,w.var? Tryz.prog n=some #[.iface tp p]
def PowAt (w : World) : Prop := Lib.TabIs Tryz.prog w "internal/strconv.uint64pow10" .u64 Lib.pow10Tab
end Go.Proofs.YtjlmpaffhddmdaaGreatDoor
end

section
set_option maxHeartbeats 4000000
set_option maxRecDepth 100000
namespace W
open Go Go.Ql
noncomputable section
open Go.Proofs.YtjlmpaffhddmdaaGreatDoor (PowAt ErrAt)
theorem tabAt_keep {w w':World} {tab:List Nat} (h:∀b,b<5→w'.heap[b]?=w.heap[b]?) (ht:Go.Proofs.TabAt 2 tab w):Go.Proofs.TabAt 2 tab w':=by
 intro j hj
 have h0:=h 2 (by omega)
 have:=ht j hj
 simp only [World.cell?,h0] at this ⊢
 exact this
theorem powAt_keep {w w':World} (h:∀b,b<5→w'.heap[b]?=w.heap[b]?) (ht:PowAt w):PowAt w':=by
 have h0:=h 4 (by omega)
 unfold PowAt Lib.TabIs World.var? at ht ⊢
 rw [Go.Proofs.YtjlmpaffhddmdaaGreatDoor.gPow] at ht ⊢
 simp only [Option.bind_some,h0] at ht ⊢
 exact ht
theorem errAt_keep {w w':World} {s:String} {g:Nat} (hg:Go.Proofs.Tryz.prog.globalNamed s=some g) (hn:g<5) (h:∀b,b<5→w'.heap[b]?=w.heap[b]?) (ht:ErrAt s w):ErrAt s w':=by
 have h0:=h g hn
 unfold ErrAt World.var? at ht ⊢
 rw [hg] at ht ⊢
 simp only [Option.bind_some,h0] at ht ⊢
 exact ht
theorem powAt_lt {w:World} (ht:PowAt w):4<w.heap.size:=by
 by_cases hs:4<w.heap.size
 ·exact hs
 ·have h0:w.heap[4]?=none:=by rw [Array.getElem?_eq_none_iff];omega
  unfold PowAt Lib.TabIs World.var? at ht
  rw [Go.Proofs.YtjlmpaffhddmdaaGreatDoor.gPow] at ht
  simp [h0] at ht
theorem errAt_lt {w:World} {s:String} {g:Nat} (hg:Go.Proofs.Tryz.prog.globalNamed s=some g) (ht:ErrAt s w):g<w.heap.size:=by
 by_cases hs:g<w.heap.size
 ·exact hs
 ·have h0:w.heap[g]?=none:=by rw [Array.getElem?_eq_none_iff];omega
  obtain ⟨tp,p,ht⟩:=ht
  unfold World.var? at ht
  rw [hg] at ht
  simp [h0] at ht
theorem size_of {w : World} (ht : (Go.Proofs.TabAt 2 Go.Lib.deBruijn32tab w ∧ PowAt w) ∧ (ErrAt "strconv.ErrSyntax" w ∧ ErrAt "strconv.ErrRange" w)) : 5 ≤ w.heap.size := by
 have h1:=powAt_lt ht.1.2
 have h2:=errAt_lt Go.Proofs.YtjlmpaffhddmdaaGreatDoor.gSyn ht.2.1
 have h3:=errAt_lt Go.Proofs.YtjlmpaffhddmdaaGreatDoor.gRan ht.2.2
 omega
instance gInv : GInv := ⟨fun w => (Go.Proofs.TabAt 2 Go.Lib.deBruijn32tab w ∧ PowAt w) ∧ (ErrAt "strconv.ErrSyntax" w ∧ ErrAt "strconv.ErrRange" w), 5,
 fun h ht=>⟨⟨tabAt_keep h ht.1.1,powAt_keep h ht.1.2⟩,⟨errAt_keep Go.Proofs.YtjlmpaffhddmdaaGreatDoor.gSyn (by omega) h ht.2.1,errAt_keep Go.Proofs.YtjlmpaffhddmdaaGreatDoor.gRan (by omega) h ht.2.2⟩⟩,fun ht=>size_of ht⟩
def tab:List (Nat×TI):=[(2,⟨.int .i64,.scalar⟩),
 (3,⟨.int .i64,.scalar⟩),
 (4,⟨.bool,.scalar⟩),
 (5,⟨.int .u8,.scalar⟩),
 (6,⟨.int .u8,.scalar⟩),
 (7,⟨.st (.pair (.int .i64) (.pair (.int .i64) (.pair .bool (.int .u8)))),.struct [(0,2),(1,3),(2,4),(3,6)]⟩),
 (8,⟨.st (.pair (.int .i64) (.pair (.int .i64) (.pair .bool (.int .u8)))),.struct [(0,2),(1,3),(2,4),(3,6)]⟩),
 (9,⟨.str,.scalar⟩),
 (10,⟨.str,.scalar⟩),
 (11,⟨.str,.scalar⟩),
 (12,⟨.int .u64,.scalar⟩),
 (13,⟨.st (.pair .str (.int .u64)),.struct [(0,9),(1,12)]⟩),
 (14,⟨.st (.pair .str (.int .u64)),.struct [(0,9),(1,12)]⟩),
 (15,⟨.nilv 0,.nul⟩),
 (16,⟨.nilv 0,.nul⟩),
 (17,⟨.nilv 0,.nul⟩),
 (18,⟨.st (.nilv 0),.struct [(0,17)]⟩),
 (19,⟨.st (.nilv 0),.struct [(0,17)]⟩),
 (20,⟨.nilv 1,.nul⟩),
 (21,⟨.int .i32,.scalar⟩),
 (22,⟨.sl (.int .u32),.slice 115 4⟩),
 (23,⟨.st (.pair .bool (.sl (.int .u32))),.struct [(0,4),(1,22)]⟩),
 (24,⟨.st (.pair .bool (.sl (.int .u32))),.struct [(0,4),(1,22)]⟩),
 (25,⟨.ar 8 (.st (.pair .bool (.sl (.int .u32)))),.arr 8 24⟩),
 (26,⟨.st (.pair (.ar 8 (.st (.pair .bool (.sl (.int .u32))))) (.int .i64)),.struct [(0,25),(16,3)]⟩),
 (27,⟨.st (.pair (.ar 8 (.st (.pair .bool (.sl (.int .u32))))) (.int .i64)),.struct [(0,25),(16,3)]⟩),
 (28,⟨.st (.pair (.int .i64) (.int .i64)),.struct [(0,3),(1,3)]⟩),
 (29,⟨.st (.pair (.int .i64) (.int .i64)),.struct [(0,3),(1,3)]⟩),
 (32,⟨.sl (.int .i64),.slice 3 8⟩),
 (33,⟨.st (.pair .bool (.sl (.int .i64))),.struct [(0,4),(1,32)]⟩),
 (34,⟨.st (.pair .bool (.sl (.int .i64))),.struct [(0,4),(1,32)]⟩),
 (35,⟨.ar 8 (.st (.pair .bool (.sl (.int .i64)))),.arr 8 34⟩),
 (36,⟨.st (.pair (.ar 8 (.st (.pair .bool (.sl (.int .i64))))) (.int .i64)),.struct [(0,35),(16,3)]⟩),
 (37,⟨.st (.pair (.ar 8 (.st (.pair .bool (.sl (.int .i64))))) (.int .i64)),.struct [(0,35),(16,3)]⟩),
 (43,⟨.st (.pair (.st (.pair .bool (.sl (.int .u32)))) (.st (.pair .bool (.sl (.int .u32))))),.struct [(0,24),(2,24)]⟩),
 (44,⟨.st (.pair (.st (.pair .bool (.sl (.int .u32)))) (.st (.pair .bool (.sl (.int .u32))))),.struct [(0,24),(2,24)]⟩),
 (47,⟨.st (.pair (.st (.pair .bool (.sl (.int .i64)))) (.st (.pair .bool (.sl (.int .i64))))),.struct [(0,34),(2,34)]⟩),
 (48,⟨.st (.pair (.st (.pair .bool (.sl (.int .i64)))) (.st (.pair .bool (.sl (.int .i64))))),.struct [(0,34),(2,34)]⟩),
 (61,⟨.st (.st (.pair (.int .i64) (.int .i64))),.struct [(0,29)]⟩),
 (62,⟨.st (.st (.pair (.int .i64) (.int .i64))),.struct [(0,29)]⟩),
 (64,⟨.sl .str,.slice 9 16⟩),
 (66,⟨.nilv 0,.nul⟩),
 (67,⟨.st (.pair .str (.int .i64)),.struct [(0,9),(1,3)]⟩),
 (68,⟨.st (.pair .str (.int .i64)),.struct [(0,9),(1,3)]⟩),
 (72,⟨.nilv 1,.nul⟩),
 (73,⟨.nilv 1,.nul⟩),
 (84,⟨.sl (.st (.pair .bool (.sl (.int .u32)))),.slice 24 32⟩),
 (90,⟨.nilv 0,.nul⟩),
 (109,⟨.int .u64,.scalar⟩),
 (113,⟨.sl (.int .u8),.slice 5 1⟩),
 (115,⟨.int .u32,.scalar⟩),
 (116,⟨.int .u64,.scalar⟩),
 (118,⟨.nilv 0,.nul⟩),
 (119,⟨.st (.pair (.nilv 0) (.sl (.int .u8))),.struct [(0,118),(1,113)]⟩),
 (120,⟨.st (.pair (.nilv 0) (.sl (.int .u8))),.struct [(0,118),(1,113)]⟩),
 (128,⟨.int .i64,.scalar⟩),
 (131,⟨.nilv 0,.nul⟩),
 (135,⟨.nilv 0,.nul⟩),
 (150,⟨.st (.pair .str (.pair .str (.nilv 1))),.struct [(0,9),(1,9),(2,73)]⟩),
 (151,⟨.st (.pair .str (.pair .str (.nilv 1))),.struct [(0,9),(1,9),(2,73)]⟩),
 (153,⟨.ar 32 (.int .u8),.arr 32 5⟩),
 (159,⟨.ar 24 (.int .u8),.arr 24 5⟩),
 (174,⟨.nilv 0,.nul⟩),
 (175,⟨.st .str,.struct [(0,9)]⟩),
 (176,⟨.st .str,.struct [(0,9)]⟩),
 (179,⟨.ar 20 (.int .u64),.arr 20 109⟩),
 (180,⟨.ar 65 (.int .u8),.arr 65 5⟩),
 (186,⟨.ar 64 (.int .u8),.arr 64 5⟩),
 (187,⟨.st (.pair (.nilv 0) (.pair (.nilv 0) (.pair (.nilv 0) .str))),.struct [(0,17),(1,17),(2,17),(3,9)]⟩),
 (188,⟨.st (.pair (.nilv 0) (.pair (.nilv 0) (.pair (.nilv 0) .str))),.struct [(0,17),(1,17),(2,17),(3,9)]⟩),
 (189,⟨.ar 0 (.nilv 0),.arr 0 16⟩),
 (190,⟨.st (.ar 0 (.nilv 0)),.struct [(0,189)]⟩),
 (191,⟨.st (.ar 0 (.nilv 0)),.struct [(0,189)]⟩),
 (192,⟨.int .u8,.scalar⟩),
 (193,⟨.int .u8,.scalar⟩),
 (195,⟨.int .i32,.scalar⟩),
 (196,⟨.int .i32,.scalar⟩),
 (197,⟨.st (.pair (.int .u64) (.pair (.int .u64) (.pair (.int .u32) (.pair (.int .u8) (.pair (.int .u8) (.pair (.int .u8) (.pair (.int .u8) (.pair (.nilv 3) (.pair (.nilv 0) (.pair (.int .i32) (.int .i32))))))))))),.struct [(0,12),(1,12),(2,115),(3,192),(4,5),(5,5),(6,193),(7,194),(8,135),(9,195),(10,196)]⟩),
 (198,⟨.st (.pair (.int .u64) (.pair (.int .u64) (.pair (.int .u32) (.pair (.int .u8) (.pair (.int .u8) (.pair (.int .u8) (.pair (.int .u8) (.pair (.nilv 3) (.pair (.nilv 0) (.pair (.int .i32) (.int .i32))))))))))),.struct [(0,12),(1,12),(2,115),(3,192),(4,5),(5,5),(6,193),(7,194),(8,135),(9,195),(10,196)]⟩)]
theorem mixed:Go.Proofs.Tryz.prog.follows .mixedOrders=true:=by kernel_rfl
theorem jM:TabOk Go.Proofs.Tryz.prog tab:=tabB_ok (by kernel_rfl)
def jE:List Nat:=[29]
theorem jo:EqsOk Go.Proofs.Tryz.prog tab jE:=eqsB_ok (by kernel_rfl)
def JF (x:Int):Option Int:=bif decide (0≤x)&&decide (x<4294967296) then some (Go.Lib.ctz 32 x.toNat:Int) else none
def JF.ce:Go.Ql.Callee:=⟨[(.int .u32)],[(.int .i64)],fun x_=>JF x_⟩
theorem JF.some {x r:Int} (h:JF x=Option.some r):∃n:Nat,x=n∧n<4294967296∧r=(Go.Lib.ctz 32 n:Int):=by
 unfold JF at h
 cases hb:decide (0≤x)&&decide (x<4294967296) with
 | false=>rw [hb] at h;cases h
 | true=>
   rw [hb] at h
   simp only [Bool.and_eq_true,decide_eq_true_eq] at hb
   obtain ⟨n,rfl⟩:=Int.eq_ofNat_of_zero_le hb.1
   have h:=Option.some.inj h
   exact ⟨n,rfl,by omega,by rw [←h,Int.toNat_natCast]⟩
theorem JF.ok:CalleeOk Go.Proofs.Tryz.prog 91 JF.ce:=by
 refine ⟨⟨Go.Proofs.Tryz.f91,Go.Proofs.Tryz.func91,by kernel_rfl,by kernel_rfl⟩,fun w Z vs x r hg hZ ha hr=>?_⟩
 obtain ⟨v,rfl,hv⟩:=ha
 change [v]=[Value.int .u32 x] at hv
 obtain rfl:=List.cons.inj hv |>.1
 obtain ⟨n,hn,hx,hr'⟩:=JF.some hr
 subst hr'
 have hn':Value.int .u32 x=Value.int .u32 (n:Int):=congrArg _ hn
 rw [hn']
 exact (Go.Proofs.YtjlmpaffhddmdaaGreatDoor.tz32 n hx w hg.1.1).mono fun e w' ⟨he,hw⟩=>⟨_,he,hw▸Same.refl w,rfl⟩
def strconv_Itoa (x:Int):Option (List UInt8):=bif decide (-9223372036854775808≤x)&&decide (x≤9223372036854775807) then some (Go.Lib.itoa x) else none
def strconv_Itoa.ce:Go.Ql.Callee:=⟨[(.int .i64)],[.str],fun x_=>strconv_Itoa x_⟩
theorem strconv_Itoa.ok:CalleeOk Go.Proofs.Tryz.prog 41 strconv_Itoa.ce:=by
 refine ⟨⟨Go.Proofs.Tryz.f41,Go.Proofs.Tryz.func41,by kernel_rfl,by kernel_rfl⟩,fun w Z vs x r hg hZ ha hr=>?_⟩
 obtain ⟨v,rfl,hv⟩:=ha
 change [v]=[Value.int .i64 x] at hv
 obtain rfl:=List.cons.inj hv |>.1
 have hr:strconv_Itoa x=some r:=hr
 change Int at x
 unfold strconv_Itoa at hr
 cases hb:decide (-9223372036854775808≤x)&&decide (x≤9223372036854775807) with
 | false=>rw [hb] at hr;cases hr
 | true=>
   rw [hb] at hr
   simp only [Bool.and_eq_true,decide_eq_true_eq] at hb
   obtain rfl:=Option.some.inj hr
   refine (Go.Proofs.Tryz.strconv_Itoa x hb.1 hb.2 w hg.1.2).mono fun e w' ⟨he,k,os,hw⟩=>⟨_,he,?_,rfl⟩
   subst hw
   refine ⟨rfl,rfl,rfl,by simp [Go.Sort.grow,World.drewN],fun b hb=>?_⟩
   show (w.heap++os)[b]?=w.heap[b]?
   rw [Array.getElem?_append_left hb]
def strings_Join (xs:List (List UInt8)) (sep:List UInt8):Option (List UInt8):=
 bif decide (List.length xs≤140737488355328)&&decide (List.length (Go.Lib.join xs sep)≤140737488355328) then some (Go.Lib.join xs sep) else none
def strings_Join.ce:Go.Ql.Callee:=⟨[.sl .str,.str],[.str],fun x_=>strings_Join x_.1 x_.2⟩
theorem join_cells {w:World} {Z:Nat→Prop}:∀{xs:List (List UInt8)} {cells:List Value},rdAll (rdC w Z .str) cells xs→cells=xs.map fun x=>Value.string ⟨List.toArray x⟩
 | [],_,h=>h
 | x::r,_,⟨c1,c2,e,h1,h2⟩=>by
   have h1:c1=[.string ⟨List.toArray x⟩]:=h1
   rw [e,h1,join_cells h2];rfl
theorem strings_Join.ok:CalleeOk Go.Proofs.Tryz.prog 40 strings_Join.ce:=by
 refine ⟨⟨Go.Proofs.Tryz.f40,Go.Proofs.Tryz.func40,by kernel_rfl,by kernel_rfl⟩,?_⟩
 rintro w Z vs ⟨xs,sep⟩ r _ hZ hvs hF
 obtain ⟨v1,t1,rfl,h1,v2,rfl,h2⟩:∃v1 t1,vs=v1::t1∧rdV w Z (.sl .str) v1 xs ∧ ∃v2,t1=[v2]∧v2=.string ⟨List.toArray sep⟩:=by
  obtain ⟨v,t,e,hv,u,e2,hu⟩:=hvs
  exact ⟨v,t,e,hv,u,e2,(List.cons.inj hu).1⟩
 subst h2
 have hF:strings_Join xs sep=some r:=hF
 unfold strings_Join at hF
 cases hb:decide (List.length xs≤140737488355328)&&decide (List.length (Go.Lib.join xs sep)≤140737488355328) with
 | false=>rw [hb] at hF;cases hF
 | true=>
   rw [hb] at hF
   simp only [Bool.and_eq_true,decide_eq_true_eq] at hb
   obtain rfl:=Option.some.inj hF
   obtain ⟨v,hv,h1⟩:=h1
   obtain rfl:=List.cons.inj hv |>.1
   have none_case:∀ad c,xs=[]→Calls Go.Proofs.Tryz.prog 40 [Value.slice ad 0 c,.string ⟨List.toArray sep⟩].toArray w fun e w'=>∃v,e=.returned v∧Same w w'∧rdRes w' (Vu w w' Z) [.str] (Go.Lib.join xs sep) v:=by
    rintro ad c rfl
    refine (Go.Proofs.Tryz.strings_Join_none ad c _ w).mono ?_
    rintro e w' ⟨rfl,rfl⟩
    exact ⟨_,rfl,Same.refl _,rfl⟩
   rcases h1 with ⟨rfl,hx⟩ | ⟨b,off,cap,cells,rfl,hc,hm,hz,hr,hcl⟩ | ⟨ad,cap,rfl,hx,_⟩
   ·exact none_case none 0 hx
   ·have hcs:=join_cells hr
    have hmap:(xs.map fun x=>(⟨List.toArray x⟩:ByteArray)).map (·.data.toList)=xs:=by
     rw [List.map_map]
     conv=>rhs;rw [←List.map_id xs]
     rfl
    have key:=Go.Proofs.Tryz.strings_Join b off cap (xs.map fun x=>⟨List.toArray x⟩) ⟨List.toArray sep⟩ w (fun j x hx=>by
     refine hcl j _ ?_
     rw [hcs,List.getElem?_map]
     rw [List.getElem?_map,Option.map_eq_some_iff] at hx
     obtain ⟨y,hy,rfl⟩:=hx
     rw [hy];rfl) (hZ b hz) (by simpa using hb.1) (by simpa using hc) (by rw [hmap];simpa using hb.2)
    rw [List.length_map,hmap] at key
    refine key.mono ?_
    rintro e w' ⟨rfl,hB⟩
    exact ⟨_,rfl,⟨hB.os,hB.tape,hB.output,hB.size,hB.block⟩,rfl⟩
   ·exact none_case (some ad) cap hx
def ky (s:List UInt8):Option (Int×Bool):=
 bif decide (s.length≤281474976710656) then some (match Go.Lib.atoiAll s with
  | .ok v=>(v,false)
  | .range=>(Go.Lib.atoiSat s,true)
  | _=>(0,true)) else none
def ky.ce:Go.Ql.Callee:=⟨[.str],[.int .i64,.nn],fun x_=>ky x_⟩
theorem below_same {w w':World} (hB:Go.RowKit.Below w.heap.size w w'):Same w w':=⟨hB.os,hB.tape,hB.output,hB.size,hB.block⟩
theorem below_bytes {w w':World} (h:w'=w ∨ ∃t,w'=Lib.bytesWorld w 5 t):Go.RowKit.Below w.heap.size w w':=by
 rcases h with h | ⟨t,h⟩<;>subst h
 ·exact Go.RowKit.Below.refl _ _
 ·exact ⟨rfl,rfl,rfl,by rw [Lib.bytesWorld_size];omega,fun b hb=>Lib.bytesWorld_at_old w 5 _ b hb⟩
theorem ky.ok:CalleeOk Go.Proofs.Tryz.prog 28 ky.ce:=by
 refine ⟨⟨Go.Proofs.Tryz.f28,Go.Proofs.Tryz.func28,by kernel_rfl,by kernel_rfl⟩,fun w Z vs s r hg hZ ha hr=>?_⟩
 obtain ⟨v,rfl,hv⟩:=ha
 change [v]=[Value.string ⟨List.toArray s⟩] at hv
 obtain rfl:=List.cons.inj hv |>.1
 have hr:ky s=some r:=hr
 change List UInt8 at s
 unfold ky at hr
 cases hb:decide (List.length s≤281474976710656) with
 | false=>rw [hb] at hr;cases hr
 | true=>
   rw [hb] at hr
   have hl:=of_decide_eq_true hb
   have hsz:(⟨List.toArray s⟩:ByteArray).size=List.length s:=rfl
   have hl':(⟨List.toArray s⟩:ByteArray).size≤281474976710656:=by rw [hsz];exact hl
   simp only [cond_true] at hr
   obtain rfl:=Option.some.inj hr
   split
   ·rename_i n ha
    refine (Go.Proofs.Tryz.strconv_Atoi_ok ⟨List.toArray s⟩ (by omega) n ha w).mono ?_
    rintro e w' ⟨rfl,hw⟩
    exact ⟨_,rfl,below_same (below_bytes hw),⟨_,rfl,_,_,rfl,rfl,_,rfl,_,rfl,Or.inr ⟨rfl,rfl⟩⟩⟩
   ·rename_i ha
    obtain ⟨tp,p,hvar⟩:=hg.2.2
    refine (Go.Proofs.Tryz.strconv_Atoi_range_var ⟨List.toArray s⟩ hl' ha tp p w hvar).mono ?_
    rintro e w' ⟨N,rfl,_,_,hw⟩
    exact ⟨_,rfl,below_same hw,⟨_,rfl,_,_,rfl,rfl,_,rfl,_,rfl,Or.inl ⟨rfl,_,_,rfl⟩⟩⟩
   ·rename_i hq1 hq2
    obtain ⟨tp,p,hvar⟩:=hg.2.1
    refine (Go.Proofs.Tryz.strconv_Atoi_syntax_var ⟨List.toArray s⟩ hl' hq1 hq2 tp p w hvar).mono ?_
    rintro e w' ⟨N,rfl,_,_,hw⟩
    exact ⟨_,rfl,below_same hw,⟨_,rfl,_,_,rfl,rfl,_,rfl,_,rfl,Or.inl ⟨rfl,_,_,rfl⟩⟩⟩
def tb:TB Go.Proofs.Tryz.prog:=⟨tab,jE,jM,jo,mixed⟩
end
end W
end
