/- Contracts of Go's library; the seat's types; what is known of its variables. -/
import Derived.Test.YtjlmpaffhddmdaaDoorProg
import Derived.WalkKit
import Derived.Shelf.Spec.TrailingZeros
import Derived.Shelf.LaysM
import Derived.Shelf.Strings.OnBuilder
import Derived.Shelf.Strconv.Itoa3
import Derived.Shelf.Strconv.Itoa4
import Derived.Ground.Names2Prog
import Derived.Shelf.Strconv.AtoiAll
import Derived.Shelf.Strconv.ErrVarAll
import Derived.Shelf.LaysC
import Derived.Test.YtjlmpaffhddmdaaDoorLf
set_option linter.all false
section
namespace Go.Proofs
open Go.Shelf
def Tryd.lays156_ren : Go.Shelf.Ren := ⟨fun | 156 => 30 | 165 => 45 | 166 => 46 | 169 => 47 | 240 => 64 | 241 => 65 | 276 => 75 | 277 => 76 | n => n, fun | 31 => 49 | 9 => 9 | 3 => 3 | 4 => 4 | 0 => 0 | 20 => 20 | 72 => 80 | 76 => 65 | 70 => 78 | 37 => 75 | 75 => 64 | 127 => 97 | 164 => 108 | 5 => 5 | 80 => 38 | n => n, fun | n => n⟩
theorem Tryd.lays156 : Go.Proofs.Lays.n156 Tryd.prog Tryd.lays156_ren := {
  mixed := by kernel_rfl
  f156 := Tryd.func30.trans (congrArg some (by kernel_rfl))
  f165 := Tryd.func45.trans (congrArg some (by kernel_rfl))
  f166 := Tryd.func46.trans (congrArg some (by kernel_rfl))
  f169 := Tryd.func47.trans (congrArg some (by kernel_rfl))
  f240 := Tryd.func64.trans (congrArg some (by kernel_rfl))
  f241 := Tryd.func65.trans (congrArg some (by kernel_rfl))
  f276 := Tryd.func75.trans (congrArg some (by kernel_rfl))
  f277 := Tryd.func76.trans (congrArg some (by kernel_rfl))
  t0 := Tryd.underlying0
  a0 := Tryd.isAgg0
  z0 := Tryd.sizeOf0
  v0 := Tryd.zeroValue0
  t3 := Tryd.underlying3
  a3 := Tryd.isAgg3
  z3 := Tryd.sizeOf3
  v3 := Tryd.zeroValue3
  t4 := Tryd.underlying4
  a4 := Tryd.isAgg4
  z4 := Tryd.sizeOf4
  v4 := Tryd.zeroValue4
  t9 := Tryd.underlying9
  a9 := Tryd.isAgg9
  z9 := Tryd.sizeOf9
  v9 := Tryd.zeroValue9
  t20 := Tryd.underlying20
  a20 := Tryd.isAgg20
  z20 := Tryd.sizeOf20
  v20 := Tryd.zeroValue20
  t31 := Tryd.underlying49
  a31 := Tryd.isAgg49
  z31 := Tryd.sizeOf49
  v31 := Tryd.zeroValue49
  t37 := Tryd.underlying75
  a37 := Tryd.isAgg75
  z37 := Tryd.sizeOf75
  v37 := Tryd.zeroValue75
  t70 := Tryd.underlying78
  a70 := Tryd.isAgg78
  z70 := Tryd.sizeOf78
  v70 := Tryd.zeroValue78
  t72 := Tryd.underlying80
  a72 := Tryd.isAgg80
  z72 := Tryd.sizeOf80
  v72 := Tryd.zeroValue80
  t75 := Tryd.underlying64
  a75 := Tryd.isAgg64
  z75 := Tryd.sizeOf64
  v75 := Tryd.zeroValue64
  t76 := Tryd.underlying65
  a76 := Tryd.isAgg65
  z76 := Tryd.sizeOf65
  v76 := Tryd.zeroValue65
  t127 := Tryd.underlying97
  a127 := Tryd.isAgg97
  z127 := Tryd.sizeOf97
  v127 := Tryd.zeroValue97
  t164 := Tryd.underlying108
  a164 := Tryd.isAgg108
  z164 := Tryd.sizeOf108
  v164 := Tryd.zeroValue108 }
theorem Tryd.Builder_Extra_156 : Builder.Extra Tryd.prog Tryd.lays156_ren where
  sizeBuilder := by kernel_rfl
  liesBuilder := by kernel_rfl
  t5 := Tryd.underlying5
  a5 := Tryd.isAgg5
  z5 := Tryd.sizeOf5
  v5 := Tryd.zeroValue5
  infoByte := by kernel_rfl
  cellsByte := by kernel_rfl
  sizeByte := by kernel_rfl
  neB5 := by decide
open Go.RowKit in
theorem Tryd.strings_Join_none (a : Option Addr) (c : Nat) (sep : ByteArray) (w : World) :
    Calls Tryd.prog 30 #[.slice a 0 c, .string sep] w fun e w' => e = .returned (.string ⟨#[]⟩) ∧ w' = w := Any.strings_Join_none Tryd.lays156 Tryd.Builder_Extra_156 a c sep w
open Go.RowKit in
theorem Tryd.strings_Join (bk o c : Nat) (xs : List ByteArray) (sep : ByteArray) (w : World) (hcells : ∀ (j : Nat) x, xs[j]? = some x → w.cell? ⟨bk, o + j, none⟩ = some (.string x)) (hbk : bk < w.heap.size) (hN : xs.length ≤ 140737488355328) (hcap : xs.length ≤ c) (hlen : (Lib.join (xs.map (·.data.toList)) sep.data.toList).length ≤ 140737488355328) :
    Calls Tryd.prog 30 #[.slice (some ⟨bk, o, none⟩) xs.length c, .string sep] w fun e w' => e = .returned (.string ⟨(Lib.join (xs.map (·.data.toList)) sep.data.toList).toArray⟩) ∧ Below w.heap.size w w' := Any.strings_Join Tryd.lays156 Tryd.Builder_Extra_156 bk o c xs sep w hcells hbk hN hcap hlen
def Tryd.laysM171_ren : Go.Shelf.Ren := ⟨fun | 171 => 31 | 243 => 48 | 246 => 66 | 283 => 77 | 284 => 78 | 285 => 79 | 286 => 80 | 129 => 86 | 317 => 85 | 318 => 87 | 319 => 88 | 320 => 89 | 337 => 59 | 338 => 92 | n => n, fun | 3 => 3 | 9 => 9 | 2 => 2 | 4 => 4 | 171 => 111 | 0 => 0 | 53 => 67 | 37 => 75 | 5 => 5 | 173 => 114 | 212 => 124 | 51 => 69 | 20 => 20 | 213 => 125 | 46 => 70 | 232 => 107 | 233 => 132 | n => n, fun | 17 => 4 | 18 => 0 | 19 => 5 | n => n⟩
theorem Tryd.laysM171 : Go.Proofs.LaysM.n171 Tryd.prog Tryd.laysM171_ren := {
  mixed := by kernel_rfl
  f129 := Tryd.func86.trans (congrArg some (by kernel_rfl))
  f171 := Tryd.func31.trans (congrArg some (by kernel_rfl))
  f243 := Tryd.func48.trans (congrArg some (by kernel_rfl))
  f246 := Tryd.func66.trans (congrArg some (by kernel_rfl))
  f283 := Tryd.func77.trans (congrArg some (by kernel_rfl))
  f284 := Tryd.func78.trans (congrArg some (by kernel_rfl))
  f285 := Tryd.func79.trans (congrArg some (by kernel_rfl))
  f286 := Tryd.func80.trans (congrArg some (by kernel_rfl))
  f317 := Tryd.func85.trans (congrArg some (by kernel_rfl))
  f318 := Tryd.func87.trans (congrArg some (by kernel_rfl))
  f319 := Tryd.func88.trans (congrArg some (by kernel_rfl))
  f320 := Tryd.func89.trans (congrArg some (by kernel_rfl))
  f337 := Tryd.func59.trans (congrArg some (by kernel_rfl))
  f338 := Tryd.func92.trans (congrArg some (by kernel_rfl))
  t0 := Tryd.underlying0
  a0 := Tryd.isAgg0
  z0 := Tryd.sizeOf0
  v0 := Tryd.zeroValue0
  t2 := Tryd.underlying2
  a2 := Tryd.isAgg2
  z2 := Tryd.sizeOf2
  v2 := Tryd.zeroValue2
  t3 := Tryd.underlying3
  a3 := Tryd.isAgg3
  z3 := Tryd.sizeOf3
  v3 := Tryd.zeroValue3
  t4 := Tryd.underlying4
  a4 := Tryd.isAgg4
  z4 := Tryd.sizeOf4
  v4 := Tryd.zeroValue4
  t5 := Tryd.underlying5
  a5 := Tryd.isAgg5
  z5 := Tryd.sizeOf5
  v5 := Tryd.zeroValue5
  t9 := Tryd.underlying9
  a9 := Tryd.isAgg9
  z9 := Tryd.sizeOf9
  v9 := Tryd.zeroValue9
  t20 := Tryd.underlying20
  a20 := Tryd.isAgg20
  z20 := Tryd.sizeOf20
  v20 := Tryd.zeroValue20
  t37 := Tryd.underlying75
  a37 := Tryd.isAgg75
  z37 := Tryd.sizeOf75
  v37 := Tryd.zeroValue75
  t46 := Tryd.underlying70
  a46 := Tryd.isAgg70
  z46 := Tryd.sizeOf70
  v46 := Tryd.zeroValue70
  t51 := Tryd.underlying69
  a51 := Tryd.isAgg69
  z51 := Tryd.sizeOf69
  v51 := Tryd.zeroValue69
  t53 := Tryd.underlying67
  a53 := Tryd.isAgg67
  z53 := Tryd.sizeOf67
  v53 := Tryd.zeroValue67
  t171 := Tryd.underlying111
  a171 := Tryd.isAgg111
  z171 := Tryd.sizeOf111
  v171 := Tryd.zeroValue111
  t173 := Tryd.underlying114
  a173 := Tryd.isAgg114
  z173 := Tryd.sizeOf114
  v173 := Tryd.zeroValue114
  t212 := Tryd.underlying124
  a212 := Tryd.isAgg124
  z212 := Tryd.sizeOf124
  v212 := Tryd.zeroValue124
  t213 := Tryd.underlying125
  a213 := Tryd.isAgg125
  z213 := Tryd.sizeOf125
  t232 := Tryd.underlying107
  a232 := Tryd.isAgg107
  z232 := Tryd.sizeOf107
  v232 := Tryd.zeroValue107
  t233 := Tryd.underlying132
  a233 := Tryd.isAgg132
  z233 := Tryd.sizeOf132
  v233 := Tryd.zeroValue132
  g17 := by kernel_rfl
  g18 := by kernel_rfl
  g19 := by kernel_rfl
  i0 := by kernel_rfl
  i2 := by kernel_rfl
  i3 := by kernel_rfl
  i4 := by kernel_rfl
  i5 := by kernel_rfl
  i9 := by kernel_rfl
  i20 := by kernel_rfl
  i37 := by kernel_rfl
  i46 := by kernel_rfl
  i51 := by kernel_rfl
  i53 := by kernel_rfl
  i171 := by kernel_rfl
  i173 := by kernel_rfl
  i212 := by kernel_rfl
  i232 := by kernel_rfl
  i233 := by kernel_rfl
  m17 := by kernel_rfl
  m18 := by kernel_rfl
  m19 := by kernel_rfl }
open Go.RowKit Go.Sort Go.Lib in
theorem Tryd.strconv_Itoa (n : Int) (h0 : -9223372036854775808 ≤ n) (h1 : n ≤ 9223372036854775807) (w : World) (htab : Lib.TabIs Tryd.prog w "internal/strconv.uint64pow10" .u64 Lib.pow10Tab) :
    Calls Tryd.prog 31 #[.int .i64 n] w fun e w' => e = .returned (.string ⟨(Lib.itoa n).toArray⟩) ∧ ∃ k os, w' = grow (w.drewN k) os := Any.strconv_Itoa Tryd.laysM171 n h0 h1 w htab
def Tryd.laysC172_ren : Go.Shelf.Ren := ⟨fun | 172 => 35 | 244 => 54 | 245 => 55 | 247 => 69 | 279 => 70 | 280 => 71 | 281 => 72 | 282 => 73 | 287 => 82 | 316 => 83 | 171 => 31 | 205 => 84 | 321 => 90 | 322 => 91 | 243 => 48 | 246 => 66 | 283 => 77 | 284 => 78 | 285 => 79 | 286 => 80 | 129 => 86 | 317 => 85 | 318 => 87 | 319 => 88 | 320 => 89 | 337 => 59 | 338 => 92 | n => n, fun | 9 => 9 | 3 => 3 | 75 => 64 | 76 => 65 | 4 => 4 | 5 => 5 | 167 => 100 | 37 => 75 | 0 => 0 | 85 => 101 | 2 => 2 | 168 => 103 | 53 => 67 | 175 => 116 | 46 => 70 | 210 => 120 | 127 => 97 | 145 => 131 | 143 => 129 | 21 => 21 | 171 => 111 | 173 => 114 | 212 => 124 | 51 => 69 | 20 => 20 | 213 => 125 | 232 => 107 | 233 => 132 | 80 => 38 | n => n, fun | 15 => 1 | 16 => 2 | 17 => 4 | 18 => 0 | 19 => 5 | n => n⟩
theorem Tryd.laysC172 : Go.Proofs.LaysC.n172 Tryd.prog Tryd.laysC172_ren := {
  mixed := by kernel_rfl
  f129 := Tryd.func86.trans (congrArg some (by kernel_rfl))
  f171 := Tryd.func31.trans (congrArg some (by kernel_rfl))
  f172 := Tryd.func35.trans (congrArg some (by kernel_rfl))
  f205 := Tryd.func84.trans (congrArg some (by kernel_rfl))
  f243 := Tryd.func48.trans (congrArg some (by kernel_rfl))
  f244 := Tryd.func54.trans (congrArg some (by kernel_rfl))
  f245 := Tryd.func55.trans (congrArg some (by kernel_rfl))
  f246 := Tryd.func66.trans (congrArg some (by kernel_rfl))
  f247 := Tryd.func69.trans (congrArg some (by kernel_rfl))
  f279 := Tryd.func70.trans (congrArg some (by kernel_rfl))
  f280 := Tryd.func71.trans (congrArg some (by kernel_rfl))
  f281 := Tryd.func72.trans (congrArg some (by kernel_rfl))
  f282 := Tryd.func73.trans (congrArg some (by kernel_rfl))
  f283 := Tryd.func77.trans (congrArg some (by kernel_rfl))
  f284 := Tryd.func78.trans (congrArg some (by kernel_rfl))
  f285 := Tryd.func79.trans (congrArg some (by kernel_rfl))
  f286 := Tryd.func80.trans (congrArg some (by kernel_rfl))
  f287 := Tryd.func82.trans (congrArg some (by kernel_rfl))
  f316 := Tryd.func83.trans (congrArg some (by kernel_rfl))
  f317 := Tryd.func85.trans (congrArg some (by kernel_rfl))
  f318 := Tryd.func87.trans (congrArg some (by kernel_rfl))
  f319 := Tryd.func88.trans (congrArg some (by kernel_rfl))
  f320 := Tryd.func89.trans (congrArg some (by kernel_rfl))
  f321 := Tryd.func90.trans (congrArg some (by kernel_rfl))
  f322 := Tryd.func91.trans (congrArg some (by kernel_rfl))
  f337 := Tryd.func59.trans (congrArg some (by kernel_rfl))
  f338 := Tryd.func92.trans (congrArg some (by kernel_rfl))
  t0 := Tryd.underlying0
  a0 := Tryd.isAgg0
  z0 := Tryd.sizeOf0
  v0 := Tryd.zeroValue0
  t2 := Tryd.underlying2
  a2 := Tryd.isAgg2
  z2 := Tryd.sizeOf2
  v2 := Tryd.zeroValue2
  t3 := Tryd.underlying3
  a3 := Tryd.isAgg3
  z3 := Tryd.sizeOf3
  v3 := Tryd.zeroValue3
  t4 := Tryd.underlying4
  a4 := Tryd.isAgg4
  z4 := Tryd.sizeOf4
  v4 := Tryd.zeroValue4
  t5 := Tryd.underlying5
  a5 := Tryd.isAgg5
  z5 := Tryd.sizeOf5
  v5 := Tryd.zeroValue5
  t9 := Tryd.underlying9
  a9 := Tryd.isAgg9
  z9 := Tryd.sizeOf9
  v9 := Tryd.zeroValue9
  t20 := Tryd.underlying20
  a20 := Tryd.isAgg20
  z20 := Tryd.sizeOf20
  v20 := Tryd.zeroValue20
  t21 := Tryd.underlying21
  a21 := Tryd.isAgg21
  z21 := Tryd.sizeOf21
  v21 := Tryd.zeroValue21
  t37 := Tryd.underlying75
  a37 := Tryd.isAgg75
  z37 := Tryd.sizeOf75
  v37 := Tryd.zeroValue75
  t46 := Tryd.underlying70
  a46 := Tryd.isAgg70
  z46 := Tryd.sizeOf70
  v46 := Tryd.zeroValue70
  t51 := Tryd.underlying69
  a51 := Tryd.isAgg69
  z51 := Tryd.sizeOf69
  v51 := Tryd.zeroValue69
  t53 := Tryd.underlying67
  a53 := Tryd.isAgg67
  z53 := Tryd.sizeOf67
  v53 := Tryd.zeroValue67
  t75 := Tryd.underlying64
  a75 := Tryd.isAgg64
  z75 := Tryd.sizeOf64
  v75 := Tryd.zeroValue64
  t76 := Tryd.underlying65
  a76 := Tryd.isAgg65
  z76 := Tryd.sizeOf65
  v76 := Tryd.zeroValue65
  t85 := Tryd.underlying101
  a85 := Tryd.isAgg101
  z85 := Tryd.sizeOf101
  v85 := Tryd.zeroValue101
  t127 := Tryd.underlying97
  a127 := Tryd.isAgg97
  z127 := Tryd.sizeOf97
  v127 := Tryd.zeroValue97
  t143 := Tryd.underlying129
  a143 := Tryd.isAgg129
  z143 := Tryd.sizeOf129
  v143 := Tryd.zeroValue129
  t145 := Tryd.underlying131
  a145 := Tryd.isAgg131
  z145 := Tryd.sizeOf131
  v145 := Tryd.zeroValue131
  t167 := Tryd.underlying100
  a167 := Tryd.isAgg100
  z167 := Tryd.sizeOf100
  v167 := Tryd.zeroValue100
  t168 := Tryd.underlying103
  a168 := Tryd.isAgg103
  z168 := Tryd.sizeOf103
  v168 := Tryd.zeroValue103
  t171 := Tryd.underlying111
  a171 := Tryd.isAgg111
  z171 := Tryd.sizeOf111
  v171 := Tryd.zeroValue111
  t173 := Tryd.underlying114
  a173 := Tryd.isAgg114
  z173 := Tryd.sizeOf114
  v173 := Tryd.zeroValue114
  t175 := Tryd.underlying116
  a175 := Tryd.isAgg116
  z175 := Tryd.sizeOf116
  v175 := Tryd.zeroValue116
  t210 := Tryd.underlying120
  a210 := Tryd.isAgg120
  z210 := Tryd.sizeOf120
  v210 := Tryd.zeroValue120
  t212 := Tryd.underlying124
  a212 := Tryd.isAgg124
  z212 := Tryd.sizeOf124
  v212 := Tryd.zeroValue124
  t213 := Tryd.underlying125
  a213 := Tryd.isAgg125
  z213 := Tryd.sizeOf125
  t232 := Tryd.underlying107
  a232 := Tryd.isAgg107
  z232 := Tryd.sizeOf107
  v232 := Tryd.zeroValue107
  t233 := Tryd.underlying132
  a233 := Tryd.isAgg132
  z233 := Tryd.sizeOf132
  v233 := Tryd.zeroValue132
  g15 := by kernel_rfl
  g16 := by kernel_rfl
  g17 := by kernel_rfl
  g18 := by kernel_rfl
  g19 := by kernel_rfl
  t80 := Tryd.underlying38
  a80 := Tryd.isAgg38
  z80 := Tryd.sizeOf38
  v80 := Tryd.zeroValue38
  i0 := by kernel_rfl
  i2 := by kernel_rfl
  i3 := by kernel_rfl
  i4 := by kernel_rfl
  i5 := by kernel_rfl
  i9 := by kernel_rfl
  i20 := by kernel_rfl
  i21 := by kernel_rfl
  i37 := by kernel_rfl
  i46 := by kernel_rfl
  i51 := by kernel_rfl
  i53 := by kernel_rfl
  i75 := by kernel_rfl
  i76 := by kernel_rfl
  i80 := by kernel_rfl
  i85 := by kernel_rfl
  i127 := by kernel_rfl
  i143 := by kernel_rfl
  i145 := by kernel_rfl
  i167 := by kernel_rfl
  i168 := by kernel_rfl
  i171 := by kernel_rfl
  i173 := by kernel_rfl
  i175 := by kernel_rfl
  i210 := by kernel_rfl
  i212 := by kernel_rfl
  i232 := by kernel_rfl
  i233 := by kernel_rfl
  m15 := by kernel_rfl
  m16 := by kernel_rfl
  m17 := by kernel_rfl
  m18 := by kernel_rfl
  m19 := by kernel_rfl
  c0 := by kernel_rfl
  c2 := by kernel_rfl
  c3 := by kernel_rfl
  c4 := by kernel_rfl
  c5 := by kernel_rfl
  c9 := by kernel_rfl
  c20 := by kernel_rfl
  c21 := by kernel_rfl
  c37 := by kernel_rfl
  c46 := by kernel_rfl
  c51 := by kernel_rfl
  c53 := by kernel_rfl
  c75 := by kernel_rfl
  c76 := by kernel_rfl
  c80 := by kernel_rfl
  c85 := by kernel_rfl
  c127 := by kernel_rfl
  c143 := by kernel_rfl
  c145 := by kernel_rfl
  c167 := by kernel_rfl
  c168 := by kernel_rfl
  c171 := by kernel_rfl
  c173 := by kernel_rfl
  c175 := by kernel_rfl
  c210 := by kernel_rfl
  c212 := by kernel_rfl
  c213 := by kernel_rfl
  c232 := by kernel_rfl
  c233 := by kernel_rfl }
open Go.RowKit Go.Sort Go.Lib in
theorem Tryd.strconv_Atoi_ok (s : ByteArray) (hmax : s.size ≤ 9223372036854775806) (v : Int) (h : Lib.atoiAll s.data.toList = .ok v) (w : World) :
    Calls Tryd.prog 35 #[.string s] w fun e w' => e = .returned (.tuple #[.int .i64 v, .nilIface]) ∧ (w' = w ∨ ∃ t, w' = Lib.bytesWorld w 5 t) := Any.strconv_Atoi_ok Tryd.laysC172 s hmax v h w
open Go.RowKit Go.Sort Go.Lib in
theorem Tryd.strconv_Atoi_syntax_var (s : ByteArray) (hlim : s.size ≤ 281474976710656) (h1 : ∀ v, Lib.atoiAll s.data.toList ≠ .ok v) (h2 : Lib.atoiAll s.data.toList ≠ .range) (tp : TypeId) (p : Value) (w : World) (hvar : w.var? Tryd.prog "strconv.ErrSyntax" = some #[.iface tp p]) :
    Calls Tryd.prog 35 #[.string s] w fun e w' => ∃ N, e = .returned (.tuple #[.int .i64 0, .iface 103 (.pointer (some ⟨N, 0, none⟩))]) ∧ w.heap.size ≤ N ∧ w'.heap[N]? = some (.cells #[.string ⟨#[65, 116, 111, 105]⟩, .string s, .iface tp p] 120 (0, 0)) ∧ Below w.heap.size w w' := Any.strconv_Atoi_syntax_var Tryd.laysC172 s hlim (by cases hx : Lib.atoiAll s.data.toList; exact absurd hx (h1 _); rfl; exact absurd hx h2) tp p w hvar
open Go.RowKit Go.Sort Go.Lib in
theorem Tryd.strconv_Atoi_range_var (s : ByteArray) (hlim : s.size ≤ 281474976710656) (h : Lib.atoiAll s.data.toList = .range) (tp : TypeId) (p : Value) (w : World) (hvar : w.var? Tryd.prog "strconv.ErrRange" = some #[.iface tp p]) :
    Calls Tryd.prog 35 #[.string s] w fun e w' => ∃ N, e = .returned (.tuple #[.int .i64 (Lib.atoiSat s.data.toList), .iface 103 (.pointer (some ⟨N, 0, none⟩))]) ∧ w.heap.size ≤ N ∧ w'.heap[N]? = some (.cells #[.string ⟨#[65, 116, 111, 105]⟩, .string s, .iface tp p] 120 (0, 0)) ∧ Below w.heap.size w w' := Any.strconv_Atoi_range_var Tryd.laysC172 s hlim h tp p w hvar
end Go.Proofs
namespace Go.Proofs.YtjlmpaffhddmdaaDoor
open Go.RowKit Go.Proofs
theorem gPow : Tryd.prog.globalNamed "internal/strconv.uint64pow10" = some 4 := by kernel_rfl
set_option maxHeartbeats 1000000 in
theorem tz32_core (x k idx : Nat) (w : World) (hx0 : ((x : Int) == 0) = false)
    (key : bits BinOp.and IntKind.u32 (x : Int) (-(x : Int) % 4294967296) * 125613361 % 4294967296 / 134217728 = (idx : Int))
    (hi : idx < 32) (hk : k < 32) (hcell : w.cell? ⟨0, idx, none⟩ = some (.int .u8 k)) :
    Calls Tryd.prog 59 #[.int .u32 x] w fun e w' => e = .returned (.int .i64 k) ∧ w' = w := by
  go_enter Tryd.func59, Tryd.ntmps59
  go_wp2_with (simp only [key])
  go_ret
  exact ⟨rfl, rfl⟩
theorem tz32_zero (w : World) :
    Calls Tryd.prog 59 #[.int .u32 0] w fun e w' => e = .returned (.int .i64 32) ∧ w' = w := by
  go_enter Tryd.func59, Tryd.ntmps59
  go_wp2
  go_ret
  exact ⟨rfl, rfl⟩
theorem tz32 (x : Nat) (hx : x < 4294967296) (w : World) (hT : TabAt 0 Lib.deBruijn32tab w) :
    Calls Tryd.prog 59 #[.int .u32 x] w fun e w' => e = .returned (.int .i64 (Lib.ctz 32 x)) ∧ w' = w := by
  by_cases hx0 : x = 0
  · subst hx0
    exact tz32_zero w
  · obtain ⟨hlow, hk⟩ := Lib.lowest_bit 32 x hx0 hx
    obtain ⟨hi, htab⟩ := Lib.deBruijn32_at _ hk
    have hcell := hT _ hi
    rw [htab] at hcell
    exact tz32_core x _ _ w (by simp; omega) (tz32_key x _ hx hx0 hlow) hi hk hcell
theorem gSyn : Tryd.prog.globalNamed "strconv.ErrSyntax" = some 1 := by kernel_rfl
theorem gRan : Tryd.prog.globalNamed "strconv.ErrRange" = some 2 := by kernel_rfl
def ErrAt (n : String) (w : World) : Prop := ∃ tp p, w.var? Tryd.prog n = some #[.iface tp p]
def PowAt (w : World) : Prop := Lib.TabIs Tryd.prog w "internal/strconv.uint64pow10" .u64 Lib.pow10Tab
end Go.Proofs.YtjlmpaffhddmdaaDoor
end

section
set_option maxHeartbeats 4000000
set_option maxRecDepth 100000
set_option linter.unusedVariables false
namespace W
open Go Go.Ql
noncomputable section
open Go.Proofs.YtjlmpaffhddmdaaDoor (PowAt ErrAt)
theorem tabAt_keep {w w' : World} {tab : List Nat} (h : ∀ b, b < 5 → w'.heap[b]? = w.heap[b]?) (ht : Go.Proofs.TabAt 0 tab w) : Go.Proofs.TabAt 0 tab w' := by
  intro j hj
  have h0 := h 0 (by omega)
  have := ht j hj
  simp only [World.cell?, h0] at this ⊢
  exact this
theorem powAt_keep {w w' : World} (h : ∀ b, b < 5 → w'.heap[b]? = w.heap[b]?) (ht : PowAt w) : PowAt w' := by
  have h0 := h 4 (by omega)
  unfold PowAt Lib.TabIs World.var? at ht ⊢
  rw [Go.Proofs.YtjlmpaffhddmdaaDoor.gPow] at ht ⊢
  simp only [Option.bind_some, h0] at ht ⊢
  exact ht
theorem errAt_keep {w w' : World} {s : String} {g : Nat} (hg : Go.Proofs.Tryd.prog.globalNamed s = some g) (hn : g < 5) (h : ∀ b, b < 5 → w'.heap[b]? = w.heap[b]?) (ht : ErrAt s w) : ErrAt s w' := by
  have h0 := h g hn
  unfold ErrAt World.var? at ht ⊢
  rw [hg] at ht ⊢
  simp only [Option.bind_some, h0] at ht ⊢
  exact ht
theorem powAt_lt {w : World} (ht : PowAt w) : 4 < w.heap.size := by
  by_cases hs : 4 < w.heap.size
  · exact hs
  · have h0 : w.heap[4]? = none := by rw [Array.getElem?_eq_none_iff]; omega
    unfold PowAt Lib.TabIs World.var? at ht
    rw [Go.Proofs.YtjlmpaffhddmdaaDoor.gPow] at ht
    simp [h0] at ht
theorem errAt_lt {w : World} {s : String} {g : Nat} (hg : Go.Proofs.Tryd.prog.globalNamed s = some g) (ht : ErrAt s w) : g < w.heap.size := by
  by_cases hs : g < w.heap.size
  · exact hs
  · have h0 : w.heap[g]? = none := by rw [Array.getElem?_eq_none_iff]; omega
    obtain ⟨tp, p, ht⟩ := ht
    unfold World.var? at ht
    rw [hg] at ht
    simp [h0] at ht
theorem size_of {w : World} (ht : (Go.Proofs.TabAt 0 Go.Lib.deBruijn32tab w ∧ PowAt w) ∧ (ErrAt "strconv.ErrSyntax" w ∧ ErrAt "strconv.ErrRange" w)) : 5 ≤ w.heap.size := by
  have h1 := powAt_lt ht.1.2
  have h2 := errAt_lt Go.Proofs.YtjlmpaffhddmdaaDoor.gSyn ht.2.1
  have h3 := errAt_lt Go.Proofs.YtjlmpaffhddmdaaDoor.gRan ht.2.2
  omega
instance gInv : GInv := ⟨fun w => (Go.Proofs.TabAt 0 Go.Lib.deBruijn32tab w ∧ PowAt w) ∧ (ErrAt "strconv.ErrSyntax" w ∧ ErrAt "strconv.ErrRange" w), 5,
  fun h ht => ⟨⟨tabAt_keep h ht.1.1, powAt_keep h ht.1.2⟩, ⟨errAt_keep Go.Proofs.YtjlmpaffhddmdaaDoor.gSyn (by omega) h ht.2.1, errAt_keep Go.Proofs.YtjlmpaffhddmdaaDoor.gRan (by omega) h ht.2.2⟩⟩, fun ht => size_of ht⟩
def tab : List (Nat × TI) := [(2, ⟨.int .i64, .scalar⟩),
 (3, ⟨.int .i64, .scalar⟩),
 (4, ⟨.bool, .scalar⟩),
 (5, ⟨.int .u8, .scalar⟩),
 (6, ⟨.int .u8, .scalar⟩),
 (7, ⟨.st (.pair (.int .i64) (.pair (.int .i64) (.pair .bool (.int .u8)))), .struct [(0, 2), (1, 3), (2, 4), (3, 6)]⟩),
 (8, ⟨.st (.pair (.int .i64) (.pair (.int .i64) (.pair .bool (.int .u8)))), .struct [(0, 2), (1, 3), (2, 4), (3, 6)]⟩),
 (9, ⟨.str, .scalar⟩),
 (10, ⟨.str, .scalar⟩),
 (11, ⟨.str, .scalar⟩),
 (12, ⟨.int .u64, .scalar⟩),
 (13, ⟨.st (.pair .str (.int .u64)), .struct [(0, 9), (1, 12)]⟩),
 (14, ⟨.st (.pair .str (.int .u64)), .struct [(0, 9), (1, 12)]⟩),
 (15, ⟨.nilv 0, .nul⟩),
 (16, ⟨.nilv 0, .nul⟩),
 (17, ⟨.nilv 0, .nul⟩),
 (18, ⟨.st (.nilv 0), .struct [(0, 17)]⟩),
 (19, ⟨.st (.nilv 0), .struct [(0, 17)]⟩),
 (20, ⟨.nilv 1, .nul⟩),
 (21, ⟨.int .i32, .scalar⟩),
 (22, ⟨.sl (.int .i64), .slice 3 8⟩),
 (23, ⟨.sl (.int .u32), .slice 69 4⟩),
 (24, ⟨.st (.pair .bool (.sl (.int .u32))), .struct [(0, 4), (1, 23)]⟩),
 (25, ⟨.st (.pair .bool (.sl (.int .u32))), .struct [(0, 4), (1, 23)]⟩),
 (26, ⟨.ar 8 (.st (.pair .bool (.sl (.int .u32)))), .arr 8 25⟩),
 (27, ⟨.st (.pair (.ar 8 (.st (.pair .bool (.sl (.int .u32))))) (.int .i64)), .struct [(0, 26), (16, 3)]⟩),
 (28, ⟨.st (.pair (.ar 8 (.st (.pair .bool (.sl (.int .u32))))) (.int .i64)), .struct [(0, 26), (16, 3)]⟩),
 (29, ⟨.st (.pair (.int .i64) (.int .i64)), .struct [(0, 3), (1, 3)]⟩),
 (30, ⟨.st (.pair (.int .i64) (.int .i64)), .struct [(0, 3), (1, 3)]⟩),
 (46, ⟨.nilv 0, .nul⟩),
 (49, ⟨.sl .str, .slice 9 16⟩),
 (50, ⟨.sl (.st (.pair .bool (.sl (.int .u32)))), .slice 25 32⟩),
 (53, ⟨.st (.st (.pair (.int .i64) (.int .i64))), .struct [(0, 30)]⟩),
 (54, ⟨.st (.st (.pair (.int .i64) (.int .i64))), .struct [(0, 30)]⟩),
 (57, ⟨.nilv 0, .nul⟩),
 (58, ⟨.st (.pair .str (.int .i64)), .struct [(0, 9), (1, 3)]⟩),
 (59, ⟨.st (.pair .str (.int .i64)), .struct [(0, 9), (1, 3)]⟩),
 (63, ⟨.nilv 1, .nul⟩),
 (64, ⟨.nilv 1, .nul⟩),
 (67, ⟨.int .u64, .scalar⟩),
 (69, ⟨.int .u32, .scalar⟩),
 (70, ⟨.int .u64, .scalar⟩),
 (75, ⟨.sl (.int .u8), .slice 5 1⟩),
 (78, ⟨.nilv 0, .nul⟩),
 (79, ⟨.st (.pair (.nilv 0) (.sl (.int .u8))), .struct [(0, 78), (1, 75)]⟩),
 (80, ⟨.st (.pair (.nilv 0) (.sl (.int .u8))), .struct [(0, 78), (1, 75)]⟩),
 (97, ⟨.nilv 0, .nul⟩),
 (100, ⟨.int .i64, .scalar⟩),
 (103, ⟨.nilv 0, .nul⟩),
 (107, ⟨.ar 32 (.int .u8), .arr 32 5⟩),
 (111, ⟨.ar 24 (.int .u8), .arr 24 5⟩),
 (119, ⟨.st (.pair .str (.pair .str (.nilv 1))), .struct [(0, 9), (1, 9), (2, 64)]⟩),
 (120, ⟨.st (.pair .str (.pair .str (.nilv 1))), .struct [(0, 9), (1, 9), (2, 64)]⟩),
 (124, ⟨.ar 20 (.int .u64), .arr 20 67⟩),
 (125, ⟨.ar 65 (.int .u8), .arr 65 5⟩),
 (129, ⟨.nilv 0, .nul⟩),
 (130, ⟨.st .str, .struct [(0, 9)]⟩),
 (131, ⟨.st .str, .struct [(0, 9)]⟩),
 (132, ⟨.ar 64 (.int .u8), .arr 64 5⟩),
 (133, ⟨.st (.pair (.nilv 0) (.pair (.nilv 0) (.pair (.nilv 0) .str))), .struct [(0, 17), (1, 17), (2, 17), (3, 9)]⟩),
 (134, ⟨.st (.pair (.nilv 0) (.pair (.nilv 0) (.pair (.nilv 0) .str))), .struct [(0, 17), (1, 17), (2, 17), (3, 9)]⟩),
 (135, ⟨.ar 0 (.nilv 0), .arr 0 16⟩),
 (136, ⟨.st (.ar 0 (.nilv 0)), .struct [(0, 135)]⟩),
 (137, ⟨.st (.ar 0 (.nilv 0)), .struct [(0, 135)]⟩),
 (138, ⟨.int .u8, .scalar⟩),
 (139, ⟨.int .u8, .scalar⟩),
 (141, ⟨.int .i32, .scalar⟩),
 (142, ⟨.int .i32, .scalar⟩),
 (143, ⟨.st (.pair (.int .u64) (.pair (.int .u64) (.pair (.int .u32) (.pair (.int .u8) (.pair (.int .u8) (.pair (.int .u8) (.pair (.int .u8) (.pair (.nilv 3) (.pair (.nilv 0) (.pair (.int .i32) (.int .i32))))))))))), .struct [(0, 12), (1, 12), (2, 69), (3, 138), (4, 5), (5, 5), (6, 139), (7, 140), (8, 97), (9, 141), (10, 142)]⟩),
 (144, ⟨.st (.pair (.int .u64) (.pair (.int .u64) (.pair (.int .u32) (.pair (.int .u8) (.pair (.int .u8) (.pair (.int .u8) (.pair (.int .u8) (.pair (.nilv 3) (.pair (.nilv 0) (.pair (.int .i32) (.int .i32))))))))))), .struct [(0, 12), (1, 12), (2, 69), (3, 138), (4, 5), (5, 5), (6, 139), (7, 140), (8, 97), (9, 141), (10, 142)]⟩)]
theorem mixed : Go.Proofs.Tryd.prog.follows .mixedOrders = true := by kernel_rfl
theorem tab_ok : TabOk Go.Proofs.Tryd.prog tab := tabB_ok (by kernel_rfl)
def tab_eqs : List Nat := []
theorem tab_eqs_ok : EqsOk Go.Proofs.Tryd.prog tab tab_eqs := eqsB_ok (by kernel_rfl)
def bits_TrailingZeros32 (x : Int) : Option Int := bif decide (0 ≤ x) && decide (x < 4294967296) then some (Go.Lib.ctz 32 x.toNat : Int) else none
def bits_TrailingZeros32.ce : Go.Ql.Callee := ⟨[(.int .u32)], [(.int .i64)], fun x_ => bits_TrailingZeros32 x_⟩
theorem bits_TrailingZeros32.some {x r : Int} (h : bits_TrailingZeros32 x = Option.some r) : ∃ n : Nat, x = n ∧ n < 4294967296 ∧ r = (Go.Lib.ctz 32 n : Int) := by
  unfold bits_TrailingZeros32 at h
  cases hb : decide (0 ≤ x) && decide (x < 4294967296) with
  | false => rw [hb] at h; cases h
  | true =>
    rw [hb] at h
    simp only [Bool.and_eq_true, decide_eq_true_eq] at hb
    obtain ⟨n, rfl⟩ := Int.eq_ofNat_of_zero_le hb.1
    have h := Option.some.inj h
    exact ⟨n, rfl, by omega, by rw [← h, Int.toNat_natCast]⟩
theorem bits_TrailingZeros32.ok : CalleeOk Go.Proofs.Tryd.prog 59 bits_TrailingZeros32.ce := by
  refine ⟨⟨Go.Proofs.Tryd.f59, Go.Proofs.Tryd.func59, by kernel_rfl, by kernel_rfl⟩, fun w Z vs x r hg hZ ha hr => ?_⟩
  obtain ⟨v, rfl, hv⟩ := ha
  change [v] = [Value.int .u32 x] at hv
  obtain rfl := List.cons.inj hv |>.1
  obtain ⟨n, hn, hx, hr'⟩ := bits_TrailingZeros32.some hr
  subst hr'
  have hn' : Value.int .u32 x = Value.int .u32 (n : Int) := congrArg _ hn
  rw [hn']
  exact (Go.Proofs.YtjlmpaffhddmdaaDoor.tz32 n hx w hg.1.1).mono fun e w' ⟨he, hw⟩ => ⟨_, he, hw ▸ Same.refl w, rfl⟩
def strconv_Itoa (x : Int) : Option (List UInt8) := bif decide (-9223372036854775808 ≤ x) && decide (x ≤ 9223372036854775807) then some (Go.Lib.itoa x) else none
def strconv_Itoa.ce : Go.Ql.Callee := ⟨[(.int .i64)], [.str], fun x_ => strconv_Itoa x_⟩
theorem strconv_Itoa.ok : CalleeOk Go.Proofs.Tryd.prog 31 strconv_Itoa.ce := by
  refine ⟨⟨Go.Proofs.Tryd.f31, Go.Proofs.Tryd.func31, by kernel_rfl, by kernel_rfl⟩, fun w Z vs x r hg hZ ha hr => ?_⟩
  obtain ⟨v, rfl, hv⟩ := ha
  change [v] = [Value.int .i64 x] at hv
  obtain rfl := List.cons.inj hv |>.1
  have hr : strconv_Itoa x = some r := hr
  change Int at x
  unfold strconv_Itoa at hr
  cases hb : decide (-9223372036854775808 ≤ x) && decide (x ≤ 9223372036854775807) with
  | false => rw [hb] at hr; cases hr
  | true =>
    rw [hb] at hr
    simp only [Bool.and_eq_true, decide_eq_true_eq] at hb
    obtain rfl := Option.some.inj hr
    refine (Go.Proofs.Tryd.strconv_Itoa x hb.1 hb.2 w hg.1.2).mono fun e w' ⟨he, k, os, hw⟩ => ⟨_, he, ?_, rfl⟩
    subst hw
    refine ⟨rfl, rfl, rfl, by simp [Go.Sort.grow, World.drewN], fun b hb => ?_⟩
    show (w.heap ++ os)[b]? = w.heap[b]?
    rw [Array.getElem?_append_left hb]
def strings_Join (xs : List (List UInt8)) (sep : List UInt8) : Option (List UInt8) :=
  bif decide (List.length xs ≤ 140737488355328) && decide (List.length (Go.Lib.join xs sep) ≤ 140737488355328) then some (Go.Lib.join xs sep) else none
def strings_Join.ce : Go.Ql.Callee := ⟨[.sl .str, .str], [.str], fun x_ => strings_Join x_.1 x_.2⟩
theorem join_cells {w : World} {Z : Nat → Prop} : ∀ {xs : List (List UInt8)} {cells : List Value}, rdAll (rdC w Z .str) cells xs → cells = xs.map fun x => Value.string ⟨List.toArray x⟩
  | [], _, h => h
  | x :: r, _, ⟨c1, c2, e, h1, h2⟩ => by
    have h1 : c1 = [.string ⟨List.toArray x⟩] := h1
    rw [e, h1, join_cells h2]; rfl
theorem strings_Join.ok : CalleeOk Go.Proofs.Tryd.prog 30 strings_Join.ce := by
  refine ⟨⟨Go.Proofs.Tryd.f30, Go.Proofs.Tryd.func30, by kernel_rfl, by kernel_rfl⟩, ?_⟩
  rintro w Z vs ⟨xs, sep⟩ r _ hZ hvs hF
  obtain ⟨v1, t1, rfl, h1, v2, rfl, h2⟩ : ∃ v1 t1, vs = v1 :: t1 ∧ rdV w Z (.sl .str) v1 xs ∧ ∃ v2, t1 = [v2] ∧ v2 = .string ⟨List.toArray sep⟩ := by
    obtain ⟨v, t, e, hv, u, e2, hu⟩ := hvs
    exact ⟨v, t, e, hv, u, e2, (List.cons.inj hu).1⟩
  subst h2
  have hF : strings_Join xs sep = some r := hF
  unfold strings_Join at hF
  cases hb : decide (List.length xs ≤ 140737488355328) && decide (List.length (Go.Lib.join xs sep) ≤ 140737488355328) with
  | false => rw [hb] at hF; cases hF
  | true =>
    rw [hb] at hF
    simp only [Bool.and_eq_true, decide_eq_true_eq] at hb
    obtain rfl := Option.some.inj hF
    obtain ⟨v, hv, h1⟩ := h1
    obtain rfl := List.cons.inj hv |>.1
    have none_case : ∀ ad c, xs = [] → Calls Go.Proofs.Tryd.prog 30 [Value.slice ad 0 c, .string ⟨List.toArray sep⟩].toArray w fun e w' => ∃ v, e = .returned v ∧ Same w w' ∧ rdRes w' (withNew w w' Z) [.str] (Go.Lib.join xs sep) v := by
      rintro ad c rfl
      refine (Go.Proofs.Tryd.strings_Join_none ad c _ w).mono ?_
      rintro e w' ⟨rfl, rfl⟩
      exact ⟨_, rfl, Same.refl _, rfl⟩
    rcases h1 with ⟨rfl, hx⟩ | ⟨b, off, cap, cells, rfl, hc, hm, hz, hr, hcl⟩ | ⟨ad, cap, rfl, hx, _⟩
    · exact none_case none 0 hx
    · have hcs := join_cells hr
      have hmap : (xs.map fun x => (⟨List.toArray x⟩ : ByteArray)).map (·.data.toList) = xs := by
        rw [List.map_map]
        conv => rhs; rw [← List.map_id xs]
        rfl
      have key := Go.Proofs.Tryd.strings_Join b off cap (xs.map fun x => ⟨List.toArray x⟩) ⟨List.toArray sep⟩ w (fun j x hx => by
        refine hcl j _ ?_
        rw [hcs, List.getElem?_map]
        rw [List.getElem?_map, Option.map_eq_some_iff] at hx
        obtain ⟨y, hy, rfl⟩ := hx
        rw [hy]; rfl) (hZ b hz) (by simpa using hb.1) (by simpa using hc) (by rw [hmap]; simpa using hb.2)
      rw [List.length_map, hmap] at key
      refine key.mono ?_
      rintro e w' ⟨rfl, hB⟩
      exact ⟨_, rfl, ⟨hB.os, hB.tape, hB.output, hB.size, hB.block⟩, rfl⟩
    · exact none_case (some ad) cap hx
def strconv_Atoi (s : List UInt8) : Option (Int × Bool) :=
  bif decide (s.length ≤ 281474976710656) then some (match Go.Lib.atoiAll s with
    | .ok v => (v, false)
    | .range => (Go.Lib.atoiSat s, true)
    | _ => (0, true)) else none
def strconv_Atoi.ce : Go.Ql.Callee := ⟨[.str], [.int .i64, .nn], fun x_ => strconv_Atoi x_⟩
theorem below_same {w w' : World} (hB : Go.RowKit.Below w.heap.size w w') : Same w w' := ⟨hB.os, hB.tape, hB.output, hB.size, hB.block⟩
theorem below_bytes {w w' : World} (h : w' = w ∨ ∃ t, w' = Lib.bytesWorld w 5 t) : Go.RowKit.Below w.heap.size w w' := by
  rcases h with h | ⟨t, h⟩ <;> subst h
  · exact Go.RowKit.Below.refl _ _
  · exact ⟨rfl, rfl, rfl, by rw [Lib.bytesWorld_size]; omega, fun b hb => Lib.bytesWorld_at_old w 5 _ b hb⟩
theorem strconv_Atoi.ok : CalleeOk Go.Proofs.Tryd.prog 35 strconv_Atoi.ce := by
  refine ⟨⟨Go.Proofs.Tryd.f35, Go.Proofs.Tryd.func35, by kernel_rfl, by kernel_rfl⟩, fun w Z vs s r hg hZ ha hr => ?_⟩
  obtain ⟨v, rfl, hv⟩ := ha
  change [v] = [Value.string ⟨List.toArray s⟩] at hv
  obtain rfl := List.cons.inj hv |>.1
  have hr : strconv_Atoi s = some r := hr
  change List UInt8 at s
  unfold strconv_Atoi at hr
  cases hb : decide (List.length s ≤ 281474976710656) with
  | false => rw [hb] at hr; cases hr
  | true =>
    rw [hb] at hr
    have hl := of_decide_eq_true hb
    have hsz : (⟨List.toArray s⟩ : ByteArray).size = List.length s := rfl
    have hl' : (⟨List.toArray s⟩ : ByteArray).size ≤ 281474976710656 := by rw [hsz]; exact hl
    simp only [cond_true] at hr
    obtain rfl := Option.some.inj hr
    split
    · rename_i n ha
      refine (Go.Proofs.Tryd.strconv_Atoi_ok ⟨List.toArray s⟩ (by omega) n ha w).mono ?_
      rintro e w' ⟨rfl, hw⟩
      exact ⟨_, rfl, below_same (below_bytes hw), ⟨_, rfl, _, _, rfl, rfl, _, rfl, _, rfl, Or.inr ⟨rfl, rfl⟩⟩⟩
    · rename_i ha
      obtain ⟨tp, p, hvar⟩ := hg.2.2
      refine (Go.Proofs.Tryd.strconv_Atoi_range_var ⟨List.toArray s⟩ hl' ha tp p w hvar).mono ?_
      rintro e w' ⟨N, rfl, _, _, hw⟩
      exact ⟨_, rfl, below_same hw, ⟨_, rfl, _, _, rfl, rfl, _, rfl, _, rfl, Or.inl ⟨rfl, _, _, rfl⟩⟩⟩
    · rename_i hq1 hq2
      obtain ⟨tp, p, hvar⟩ := hg.2.1
      refine (Go.Proofs.Tryd.strconv_Atoi_syntax_var ⟨List.toArray s⟩ hl' hq1 hq2 tp p w hvar).mono ?_
      rintro e w' ⟨N, rfl, _, _, hw⟩
      exact ⟨_, rfl, below_same hw, ⟨_, rfl, _, _, rfl, rfl, _, rfl, _, rfl, Or.inl ⟨rfl, _, _, rfl⟩⟩⟩
def tb : TB Go.Proofs.Tryd.prog := ⟨tab, tab_eqs, tab_ok, tab_eqs_ok, mixed⟩
end
end W
end
