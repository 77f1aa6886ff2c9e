/- Contracts of Go's library; the seat's types; what is known of its variables. -/
import Derived.Test.YtbnknipedhokjaaDoorProg
import Derived.WalkKit
import Derived.Shelf.Spec.TrailingZeros
import Derived.Shelf.LaysM
import Derived.Shelf.Strings.OnBuilder
import Derived.Shelf.Strconv.Itoa3
import Derived.Shelf.Strconv.Itoa4
import Derived.Ground.Names2Prog
import Derived.Test.YtbnknipedhokjaaDoorLf
set_option linter.all false
section
namespace Go.Proofs
open Go.Shelf
def Tryd.lays156_ren : Go.Shelf.Ren := ⟨fun | 156 => 43 | 165 => 69 | 166 => 70 | 169 => 71 | 240 => 89 | 241 => 90 | 276 => 104 | 277 => 105 | n => n, fun | 31 => 63 | 9 => 9 | 3 => 3 | 4 => 4 | 0 => 0 | 20 => 20 | 72 => 102 | 76 => 90 | 70 => 100 | 37 => 97 | 75 => 89 | 127 => 119 | 164 => 134 | 5 => 5 | 80 => 41 | n => n, fun | n => n⟩
theorem Tryd.lays156 : Go.Proofs.Lays.n156 Tryd.prog Tryd.lays156_ren := {
  mixed := by kernel_rfl
  f156 := Tryd.func43.trans (congrArg some (by kernel_rfl))
  f165 := Tryd.func69.trans (congrArg some (by kernel_rfl))
  f166 := Tryd.func70.trans (congrArg some (by kernel_rfl))
  f169 := Tryd.func71.trans (congrArg some (by kernel_rfl))
  f240 := Tryd.func89.trans (congrArg some (by kernel_rfl))
  f241 := Tryd.func90.trans (congrArg some (by kernel_rfl))
  f276 := Tryd.func104.trans (congrArg some (by kernel_rfl))
  f277 := Tryd.func105.trans (congrArg some (by kernel_rfl))
  t0 := Tryd.underlying0
  a0 := Tryd.isAgg0
  z0 := Tryd.sizeOf0
  v0 := Tryd.zeroValue0
  t3 := Tryd.underlying3
  a3 := Tryd.isAgg3
  z3 := Tryd.sizeOf3
  v3 := Tryd.zeroValue3
  t4 := Tryd.underlying4
  a4 := Tryd.isAgg4
  z4 := Tryd.sizeOf4
  v4 := Tryd.zeroValue4
  t9 := Tryd.underlying9
  a9 := Tryd.isAgg9
  z9 := Tryd.sizeOf9
  v9 := Tryd.zeroValue9
  t20 := Tryd.underlying20
  a20 := Tryd.isAgg20
  z20 := Tryd.sizeOf20
  v20 := Tryd.zeroValue20
  t31 := Tryd.underlying63
  a31 := Tryd.isAgg63
  z31 := Tryd.sizeOf63
  v31 := Tryd.zeroValue63
  t37 := Tryd.underlying97
  a37 := Tryd.isAgg97
  z37 := Tryd.sizeOf97
  v37 := Tryd.zeroValue97
  t70 := Tryd.underlying100
  a70 := Tryd.isAgg100
  z70 := Tryd.sizeOf100
  v70 := Tryd.zeroValue100
  t72 := Tryd.underlying102
  a72 := Tryd.isAgg102
  z72 := Tryd.sizeOf102
  v72 := Tryd.zeroValue102
  t75 := Tryd.underlying89
  a75 := Tryd.isAgg89
  z75 := Tryd.sizeOf89
  v75 := Tryd.zeroValue89
  t76 := Tryd.underlying90
  a76 := Tryd.isAgg90
  z76 := Tryd.sizeOf90
  v76 := Tryd.zeroValue90
  t127 := Tryd.underlying119
  a127 := Tryd.isAgg119
  z127 := Tryd.sizeOf119
  v127 := Tryd.zeroValue119
  t164 := Tryd.underlying134
  a164 := Tryd.isAgg134
  z164 := Tryd.sizeOf134
  v164 := Tryd.zeroValue134 }
theorem Tryd.Builder_Extra_156 : Builder.Extra Tryd.prog Tryd.lays156_ren where
  sizeBuilder := by kernel_rfl
  liesBuilder := by kernel_rfl
  t5 := Tryd.underlying5
  a5 := Tryd.isAgg5
  z5 := Tryd.sizeOf5
  v5 := Tryd.zeroValue5
  infoByte := by kernel_rfl
  cellsByte := by kernel_rfl
  sizeByte := by kernel_rfl
  neB5 := by decide
open Go.RowKit in
theorem Tryd.strings_Join_none (a : Option Addr) (c : Nat) (sep : ByteArray) (w : World) :
    Calls Tryd.prog 43 #[.slice a 0 c, .string sep] w fun e w' => e = .returned (.string ⟨#[]⟩) ∧ w' = w := Any.strings_Join_none Tryd.lays156 Tryd.Builder_Extra_156 a c sep w
open Go.RowKit in
theorem Tryd.strings_Join (bk o c : Nat) (xs : List ByteArray) (sep : ByteArray) (w : World) (hcells : ∀ (j : Nat) x, xs[j]? = some x → w.cell? ⟨bk, o + j, none⟩ = some (.string x)) (hbk : bk < w.heap.size) (hN : xs.length ≤ 140737488355328) (hcap : xs.length ≤ c) (hlen : (Lib.join (xs.map (·.data.toList)) sep.data.toList).length ≤ 140737488355328) :
    Calls Tryd.prog 43 #[.slice (some ⟨bk, o, none⟩) xs.length c, .string sep] w fun e w' => e = .returned (.string ⟨(Lib.join (xs.map (·.data.toList)) sep.data.toList).toArray⟩) ∧ Below w.heap.size w w' := Any.strings_Join Tryd.lays156 Tryd.Builder_Extra_156 bk o c xs sep w hcells hbk hN hcap hlen
def Tryd.laysM171_ren : Go.Shelf.Ren := ⟨fun | 171 => 44 | 243 => 72 | 246 => 91 | 283 => 106 | 284 => 107 | 285 => 108 | 286 => 109 | 129 => 115 | 317 => 114 | 318 => 116 | 319 => 117 | 320 => 118 | 337 => 88 | 338 => 121 | n => n, fun | 3 => 3 | 9 => 9 | 2 => 2 | 4 => 4 | 171 => 137 | 0 => 0 | 53 => 73 | 37 => 97 | 5 => 5 | 173 => 140 | 212 => 150 | 51 => 75 | 20 => 20 | 213 => 151 | 46 => 76 | 232 => 133 | 233 => 158 | n => n, fun | 17 => 4 | 18 => 0 | 19 => 5 | n => n⟩
theorem Tryd.laysM171 : Go.Proofs.LaysM.n171 Tryd.prog Tryd.laysM171_ren := {
  mixed := by kernel_rfl
  f129 := Tryd.func115.trans (congrArg some (by kernel_rfl))
  f171 := Tryd.func44.trans (congrArg some (by kernel_rfl))
  f243 := Tryd.func72.trans (congrArg some (by kernel_rfl))
  f246 := Tryd.func91.trans (congrArg some (by kernel_rfl))
  f283 := Tryd.func106.trans (congrArg some (by kernel_rfl))
  f284 := Tryd.func107.trans (congrArg some (by kernel_rfl))
  f285 := Tryd.func108.trans (congrArg some (by kernel_rfl))
  f286 := Tryd.func109.trans (congrArg some (by kernel_rfl))
  f317 := Tryd.func114.trans (congrArg some (by kernel_rfl))
  f318 := Tryd.func116.trans (congrArg some (by kernel_rfl))
  f319 := Tryd.func117.trans (congrArg some (by kernel_rfl))
  f320 := Tryd.func118.trans (congrArg some (by kernel_rfl))
  f337 := Tryd.func88.trans (congrArg some (by kernel_rfl))
  f338 := Tryd.func121.trans (congrArg some (by kernel_rfl))
  t0 := Tryd.underlying0
  a0 := Tryd.isAgg0
  z0 := Tryd.sizeOf0
  v0 := Tryd.zeroValue0
  t2 := Tryd.underlying2
  a2 := Tryd.isAgg2
  z2 := Tryd.sizeOf2
  v2 := Tryd.zeroValue2
  t3 := Tryd.underlying3
  a3 := Tryd.isAgg3
  z3 := Tryd.sizeOf3
  v3 := Tryd.zeroValue3
  t4 := Tryd.underlying4
  a4 := Tryd.isAgg4
  z4 := Tryd.sizeOf4
  v4 := Tryd.zeroValue4
  t5 := Tryd.underlying5
  a5 := Tryd.isAgg5
  z5 := Tryd.sizeOf5
  v5 := Tryd.zeroValue5
  t9 := Tryd.underlying9
  a9 := Tryd.isAgg9
  z9 := Tryd.sizeOf9
  v9 := Tryd.zeroValue9
  t20 := Tryd.underlying20
  a20 := Tryd.isAgg20
  z20 := Tryd.sizeOf20
  v20 := Tryd.zeroValue20
  t37 := Tryd.underlying97
  a37 := Tryd.isAgg97
  z37 := Tryd.sizeOf97
  v37 := Tryd.zeroValue97
  t46 := Tryd.underlying76
  a46 := Tryd.isAgg76
  z46 := Tryd.sizeOf76
  v46 := Tryd.zeroValue76
  t51 := Tryd.underlying75
  a51 := Tryd.isAgg75
  z51 := Tryd.sizeOf75
  v51 := Tryd.zeroValue75
  t53 := Tryd.underlying73
  a53 := Tryd.isAgg73
  z53 := Tryd.sizeOf73
  v53 := Tryd.zeroValue73
  t171 := Tryd.underlying137
  a171 := Tryd.isAgg137
  z171 := Tryd.sizeOf137
  v171 := Tryd.zeroValue137
  t173 := Tryd.underlying140
  a173 := Tryd.isAgg140
  z173 := Tryd.sizeOf140
  v173 := Tryd.zeroValue140
  t212 := Tryd.underlying150
  a212 := Tryd.isAgg150
  z212 := Tryd.sizeOf150
  v212 := Tryd.zeroValue150
  t213 := Tryd.underlying151
  a213 := Tryd.isAgg151
  z213 := Tryd.sizeOf151
  t232 := Tryd.underlying133
  a232 := Tryd.isAgg133
  z232 := Tryd.sizeOf133
  v232 := Tryd.zeroValue133
  t233 := Tryd.underlying158
  a233 := Tryd.isAgg158
  z233 := Tryd.sizeOf158
  v233 := Tryd.zeroValue158
  g17 := by kernel_rfl
  g18 := by kernel_rfl
  g19 := by kernel_rfl
  i0 := by kernel_rfl
  i2 := by kernel_rfl
  i3 := by kernel_rfl
  i4 := by kernel_rfl
  i5 := by kernel_rfl
  i9 := by kernel_rfl
  i20 := by kernel_rfl
  i37 := by kernel_rfl
  i46 := by kernel_rfl
  i51 := by kernel_rfl
  i53 := by kernel_rfl
  i171 := by kernel_rfl
  i173 := by kernel_rfl
  i212 := by kernel_rfl
  i232 := by kernel_rfl
  i233 := by kernel_rfl
  m17 := by kernel_rfl
  m18 := by kernel_rfl
  m19 := by kernel_rfl }
open Go.RowKit Go.Sort Go.Lib in
theorem Tryd.strconv_Itoa (n : Int) (h0 : -9223372036854775808 ≤ n) (h1 : n ≤ 9223372036854775807) (w : World) (htab : Lib.TabIs Tryd.prog w "internal/strconv.uint64pow10" .u64 Lib.pow10Tab) :
    Calls Tryd.prog 44 #[.int .i64 n] w fun e w' => e = .returned (.string ⟨(Lib.itoa n).toArray⟩) ∧ ∃ k os, w' = grow (w.drewN k) os := Any.strconv_Itoa Tryd.laysM171 n h0 h1 w htab
end Go.Proofs
namespace Go.Proofs.YtbnknipedhokjaaDoor
open Go.RowKit Go.Proofs
theorem gPow : Tryd.prog.globalNamed "internal/strconv.uint64pow10" = some 4 := by kernel_rfl
set_option maxHeartbeats 1000000 in
theorem tz32_core (x k idx : Nat) (w : World) (hx0 : ((x : Int) == 0) = false)
    (key : bits BinOp.and IntKind.u32 (x : Int) (-(x : Int) % 4294967296) * 125613361 % 4294967296 / 134217728 = (idx : Int))
    (hi : idx < 32) (hk : k < 32) (hcell : w.cell? ⟨0, idx, none⟩ = some (.int .u8 k)) :
    Calls Tryd.prog 88 #[.int .u32 x] w fun e w' => e = .returned (.int .i64 k) ∧ w' = w := by
  go_enter Tryd.func88, Tryd.ntmps88
  go_wp2_with (simp only [key])
  go_ret
  exact ⟨rfl, rfl⟩
theorem tz32_zero (w : World) :
    Calls Tryd.prog 88 #[.int .u32 0] w fun e w' => e = .returned (.int .i64 32) ∧ w' = w := by
  go_enter Tryd.func88, Tryd.ntmps88
  go_wp2
  go_ret
  exact ⟨rfl, rfl⟩
theorem tz32 (x : Nat) (hx : x < 4294967296) (w : World) (hT : TabAt 0 Lib.deBruijn32tab w) :
    Calls Tryd.prog 88 #[.int .u32 x] w fun e w' => e = .returned (.int .i64 (Lib.ctz 32 x)) ∧ w' = w := by
  by_cases hx0 : x = 0
  · subst hx0
    exact tz32_zero w
  · obtain ⟨hlow, hk⟩ := Lib.lowest_bit 32 x hx0 hx
    obtain ⟨hi, htab⟩ := Lib.deBruijn32_at _ hk
    have hcell := hT _ hi
    rw [htab] at hcell
    exact tz32_core x _ _ w (by simp; omega) (tz32_key x _ hx hx0 hlow) hi hk hcell
def PowAt (w : World) : Prop := Lib.TabIs Tryd.prog w "internal/strconv.uint64pow10" .u64 Lib.pow10Tab
end Go.Proofs.YtbnknipedhokjaaDoor
end

section
set_option maxHeartbeats 4000000
set_option maxRecDepth 100000
set_option linter.unusedVariables false
namespace W
open Go Go.Ql
noncomputable section
open Go.Proofs.YtbnknipedhokjaaDoor (PowAt)
theorem tabAt_keep {w w' : World} {tab : List Nat} (h : ∀ b, b < 5 → w'.heap[b]? = w.heap[b]?) (ht : Go.Proofs.TabAt 0 tab w) : Go.Proofs.TabAt 0 tab w' := by
  intro j hj
  have h0 := h 0 (by omega)
  have := ht j hj
  simp only [World.cell?, h0] at this ⊢
  exact this
theorem powAt_keep {w w' : World} (h : ∀ b, b < 5 → w'.heap[b]? = w.heap[b]?) (ht : PowAt w) : PowAt w' := by
  have h0 := h 4 (by omega)
  unfold PowAt Lib.TabIs World.var? at ht ⊢
  rw [Go.Proofs.YtbnknipedhokjaaDoor.gPow] at ht ⊢
  simp only [Option.bind_some, h0] at ht ⊢
  exact ht
theorem powAt_size {w : World} (ht : PowAt w) : 5 ≤ w.heap.size := by
  by_cases hs : 5 ≤ w.heap.size
  · exact hs
  · have h0 : w.heap[4]? = none := by rw [Array.getElem?_eq_none_iff]; omega
    unfold PowAt Lib.TabIs World.var? at ht
    rw [Go.Proofs.YtbnknipedhokjaaDoor.gPow] at ht
    simp [h0] at ht
instance gInv : GInv := ⟨fun w => Go.Proofs.TabAt 0 Go.Lib.deBruijn32tab w ∧ PowAt w, 5, fun h ht => ⟨tabAt_keep h ht.1, powAt_keep h ht.2⟩, fun ht => powAt_size ht.2⟩
def tab : List (Nat × TI) := [(2, ⟨.int .i64, .scalar⟩),
 (3, ⟨.int .i64, .scalar⟩),
 (4, ⟨.bool, .scalar⟩),
 (5, ⟨.int .u8, .scalar⟩),
 (6, ⟨.int .u8, .scalar⟩),
 (7, ⟨.st (.pair (.int .i64) (.pair (.int .i64) (.pair .bool (.int .u8)))), .struct [(0, 2), (1, 3), (2, 4), (3, 6)]⟩),
 (8, ⟨.st (.pair (.int .i64) (.pair (.int .i64) (.pair .bool (.int .u8)))), .struct [(0, 2), (1, 3), (2, 4), (3, 6)]⟩),
 (9, ⟨.str, .scalar⟩),
 (10, ⟨.str, .scalar⟩),
 (11, ⟨.str, .scalar⟩),
 (12, ⟨.int .u64, .scalar⟩),
 (13, ⟨.st (.pair .str (.int .u64)), .struct [(0, 9), (1, 12)]⟩),
 (14, ⟨.st (.pair .str (.int .u64)), .struct [(0, 9), (1, 12)]⟩),
 (15, ⟨.nilv 0, .nul⟩),
 (16, ⟨.nilv 0, .nul⟩),
 (17, ⟨.nilv 0, .nul⟩),
 (18, ⟨.st (.nilv 0), .struct [(0, 17)]⟩),
 (19, ⟨.st (.nilv 0), .struct [(0, 17)]⟩),
 (20, ⟨.nilv 1, .nul⟩),
 (21, ⟨.int .i32, .scalar⟩),
 (22, ⟨.sl (.int .i64), .slice 3 8⟩),
 (23, ⟨.sl (.int .u32), .slice 75 4⟩),
 (24, ⟨.st (.pair .bool (.sl (.int .u32))), .struct [(0, 4), (1, 23)]⟩),
 (25, ⟨.st (.pair .bool (.sl (.int .u32))), .struct [(0, 4), (1, 23)]⟩),
 (26, ⟨.ar 8 (.st (.pair .bool (.sl (.int .u32)))), .arr 8 25⟩),
 (27, ⟨.st (.pair (.ar 8 (.st (.pair .bool (.sl (.int .u32))))) (.int .i64)), .struct [(0, 26), (16, 3)]⟩),
 (28, ⟨.st (.pair (.ar 8 (.st (.pair .bool (.sl (.int .u32))))) (.int .i64)), .struct [(0, 26), (16, 3)]⟩),
 (29, ⟨.st (.pair (.int .i64) (.int .i64)), .struct [(0, 3), (1, 3)]⟩),
 (30, ⟨.st (.pair (.int .i64) (.int .i64)), .struct [(0, 3), (1, 3)]⟩),
 (33, ⟨.st (.pair .bool (.sl (.int .i64))), .struct [(0, 4), (1, 22)]⟩),
 (34, ⟨.st (.pair .bool (.sl (.int .i64))), .struct [(0, 4), (1, 22)]⟩),
 (35, ⟨.ar 8 (.st (.pair .bool (.sl (.int .i64)))), .arr 8 34⟩),
 (36, ⟨.st (.pair (.ar 8 (.st (.pair .bool (.sl (.int .i64))))) (.int .i64)), .struct [(0, 35), (16, 3)]⟩),
 (37, ⟨.st (.pair (.ar 8 (.st (.pair .bool (.sl (.int .i64))))) (.int .i64)), .struct [(0, 35), (16, 3)]⟩),
 (63, ⟨.sl .str, .slice 9 16⟩),
 (64, ⟨.sl (.st (.pair .bool (.sl (.int .u32)))), .slice 25 32⟩),
 (69, ⟨.nilv 0, .nul⟩),
 (73, ⟨.int .u64, .scalar⟩),
 (75, ⟨.int .u32, .scalar⟩),
 (76, ⟨.int .u64, .scalar⟩),
 (78, ⟨.st (.st (.pair (.int .i64) (.int .i64))), .struct [(0, 30)]⟩),
 (79, ⟨.st (.st (.pair (.int .i64) (.int .i64))), .struct [(0, 30)]⟩),
 (82, ⟨.nilv 0, .nul⟩),
 (83, ⟨.st (.pair .str (.int .i64)), .struct [(0, 9), (1, 3)]⟩),
 (84, ⟨.st (.pair .str (.int .i64)), .struct [(0, 9), (1, 3)]⟩),
 (88, ⟨.nilv 1, .nul⟩),
 (89, ⟨.nilv 1, .nul⟩),
 (97, ⟨.sl (.int .u8), .slice 5 1⟩),
 (100, ⟨.nilv 0, .nul⟩),
 (101, ⟨.st (.pair (.nilv 0) (.sl (.int .u8))), .struct [(0, 100), (1, 97)]⟩),
 (102, ⟨.st (.pair (.nilv 0) (.sl (.int .u8))), .struct [(0, 100), (1, 97)]⟩),
 (119, ⟨.nilv 0, .nul⟩),
 (126, ⟨.int .i64, .scalar⟩),
 (129, ⟨.nilv 0, .nul⟩),
 (133, ⟨.ar 32 (.int .u8), .arr 32 5⟩),
 (137, ⟨.ar 24 (.int .u8), .arr 24 5⟩),
 (145, ⟨.st (.pair .str (.pair .str (.nilv 1))), .struct [(0, 9), (1, 9), (2, 89)]⟩),
 (146, ⟨.st (.pair .str (.pair .str (.nilv 1))), .struct [(0, 9), (1, 9), (2, 89)]⟩),
 (150, ⟨.ar 20 (.int .u64), .arr 20 73⟩),
 (151, ⟨.ar 65 (.int .u8), .arr 65 5⟩),
 (155, ⟨.nilv 0, .nul⟩),
 (156, ⟨.st .str, .struct [(0, 9)]⟩),
 (157, ⟨.st .str, .struct [(0, 9)]⟩),
 (158, ⟨.ar 64 (.int .u8), .arr 64 5⟩),
 (159, ⟨.st (.pair (.nilv 0) (.pair (.nilv 0) (.pair (.nilv 0) .str))), .struct [(0, 17), (1, 17), (2, 17), (3, 9)]⟩),
 (160, ⟨.st (.pair (.nilv 0) (.pair (.nilv 0) (.pair (.nilv 0) .str))), .struct [(0, 17), (1, 17), (2, 17), (3, 9)]⟩),
 (161, ⟨.ar 0 (.nilv 0), .arr 0 16⟩),
 (162, ⟨.st (.ar 0 (.nilv 0)), .struct [(0, 161)]⟩),
 (163, ⟨.st (.ar 0 (.nilv 0)), .struct [(0, 161)]⟩),
 (164, ⟨.int .u8, .scalar⟩),
 (165, ⟨.int .u8, .scalar⟩),
 (167, ⟨.int .i32, .scalar⟩),
 (168, ⟨.int .i32, .scalar⟩),
 (169, ⟨.st (.pair (.int .u64) (.pair (.int .u64) (.pair (.int .u32) (.pair (.int .u8) (.pair (.int .u8) (.pair (.int .u8) (.pair (.int .u8) (.pair (.nilv 3) (.pair (.nilv 0) (.pair (.int .i32) (.int .i32))))))))))), .struct [(0, 12), (1, 12), (2, 75), (3, 164), (4, 5), (5, 5), (6, 165), (7, 166), (8, 119), (9, 167), (10, 168)]⟩),
 (170, ⟨.st (.pair (.int .u64) (.pair (.int .u64) (.pair (.int .u32) (.pair (.int .u8) (.pair (.int .u8) (.pair (.int .u8) (.pair (.int .u8) (.pair (.nilv 3) (.pair (.nilv 0) (.pair (.int .i32) (.int .i32))))))))))), .struct [(0, 12), (1, 12), (2, 75), (3, 164), (4, 5), (5, 5), (6, 165), (7, 166), (8, 119), (9, 167), (10, 168)]⟩)]
theorem mixed : Go.Proofs.Tryd.prog.follows .mixedOrders = true := by kernel_rfl
theorem tab_ok : TabOk Go.Proofs.Tryd.prog tab := tabB_ok (by kernel_rfl)
def tab_eqs : List Nat := [30]
theorem tab_eqs_ok : EqsOk Go.Proofs.Tryd.prog tab tab_eqs := eqsB_ok (by kernel_rfl)
def bits_TrailingZeros32 (x : Int) : Option Int := bif decide (0 ≤ x) && decide (x < 4294967296) then some (Go.Lib.ctz 32 x.toNat : Int) else none
def bits_TrailingZeros32.ce : Go.Ql.Callee := ⟨[(.int .u32)], [(.int .i64)], fun x_ => bits_TrailingZeros32 x_⟩
theorem bits_TrailingZeros32.some {x r : Int} (h : bits_TrailingZeros32 x = Option.some r) : ∃ n : Nat, x = n ∧ n < 4294967296 ∧ r = (Go.Lib.ctz 32 n : Int) := by
  unfold bits_TrailingZeros32 at h
  cases hb : decide (0 ≤ x) && decide (x < 4294967296) with
  | false => rw [hb] at h; cases h
  | true =>
    rw [hb] at h
    simp only [Bool.and_eq_true, decide_eq_true_eq] at hb
    obtain ⟨n, rfl⟩ := Int.eq_ofNat_of_zero_le hb.1
    have h := Option.some.inj h
    exact ⟨n, rfl, by omega, by rw [← h, Int.toNat_natCast]⟩
theorem bits_TrailingZeros32.ok : CalleeOk Go.Proofs.Tryd.prog 88 bits_TrailingZeros32.ce := by
  refine ⟨⟨Go.Proofs.Tryd.f88, Go.Proofs.Tryd.func88, by kernel_rfl, by kernel_rfl⟩, fun w Z vs x r hg hZ ha hr => ?_⟩
  obtain ⟨v, rfl, hv⟩ := ha
  change [v] = [Value.int .u32 x] at hv
  obtain rfl := List.cons.inj hv |>.1
  obtain ⟨n, hn, hx, hr'⟩ := bits_TrailingZeros32.some hr
  subst hr'
  have hn' : Value.int .u32 x = Value.int .u32 (n : Int) := congrArg _ hn
  rw [hn']
  exact (Go.Proofs.YtbnknipedhokjaaDoor.tz32 n hx w hg.1).mono fun e w' ⟨he, hw⟩ => ⟨_, he, hw ▸ Same.refl w, rfl⟩
def strconv_Itoa (x : Int) : Option (List UInt8) := bif decide (-9223372036854775808 ≤ x) && decide (x ≤ 9223372036854775807) then some (Go.Lib.itoa x) else none
def strconv_Itoa.ce : Go.Ql.Callee := ⟨[(.int .i64)], [.str], fun x_ => strconv_Itoa x_⟩
theorem strconv_Itoa.ok : CalleeOk Go.Proofs.Tryd.prog 44 strconv_Itoa.ce := by
  refine ⟨⟨Go.Proofs.Tryd.f44, Go.Proofs.Tryd.func44, by kernel_rfl, by kernel_rfl⟩, fun w Z vs x r hg hZ ha hr => ?_⟩
  obtain ⟨v, rfl, hv⟩ := ha
  change [v] = [Value.int .i64 x] at hv
  obtain rfl := List.cons.inj hv |>.1
  have hr : strconv_Itoa x = some r := hr
  change Int at x
  unfold strconv_Itoa at hr
  cases hb : decide (-9223372036854775808 ≤ x) && decide (x ≤ 9223372036854775807) with
  | false => rw [hb] at hr; cases hr
  | true =>
    rw [hb] at hr
    simp only [Bool.and_eq_true, decide_eq_true_eq] at hb
    obtain rfl := Option.some.inj hr
    refine (Go.Proofs.Tryd.strconv_Itoa x hb.1 hb.2 w hg.2).mono fun e w' ⟨he, k, os, hw⟩ => ⟨_, he, ?_, rfl⟩
    subst hw
    refine ⟨rfl, rfl, rfl, by simp [Go.Sort.grow, World.drewN], fun b hb => ?_⟩
    show (w.heap ++ os)[b]? = w.heap[b]?
    rw [Array.getElem?_append_left hb]
def strings_Join (xs : List (List UInt8)) (sep : List UInt8) : Option (List UInt8) :=
  bif decide (List.length xs ≤ 140737488355328) && decide (List.length (Go.Lib.join xs sep) ≤ 140737488355328) then some (Go.Lib.join xs sep) else none
def strings_Join.ce : Go.Ql.Callee := ⟨[.sl .str, .str], [.str], fun x_ => strings_Join x_.1 x_.2⟩
theorem join_cells {w : World} {Z : Nat → Prop} : ∀ {xs : List (List UInt8)} {cells : List Value}, rdAll (rdC w Z .str) cells xs → cells = xs.map fun x => Value.string ⟨List.toArray x⟩
  | [], _, h => h
  | x :: r, _, ⟨c1, c2, e, h1, h2⟩ => by
    have h1 : c1 = [.string ⟨List.toArray x⟩] := h1
    rw [e, h1, join_cells h2]; rfl
theorem strings_Join.ok : CalleeOk Go.Proofs.Tryd.prog 43 strings_Join.ce := by
  refine ⟨⟨Go.Proofs.Tryd.f43, Go.Proofs.Tryd.func43, by kernel_rfl, by kernel_rfl⟩, ?_⟩
  rintro w Z vs ⟨xs, sep⟩ r _ hZ hvs hF
  obtain ⟨v1, t1, rfl, h1, v2, rfl, h2⟩ : ∃ v1 t1, vs = v1 :: t1 ∧ rdV w Z (.sl .str) v1 xs ∧ ∃ v2, t1 = [v2] ∧ v2 = .string ⟨List.toArray sep⟩ := by
    obtain ⟨v, t, e, hv, u, e2, hu⟩ := hvs
    exact ⟨v, t, e, hv, u, e2, (List.cons.inj hu).1⟩
  subst h2
  have hF : strings_Join xs sep = some r := hF
  unfold strings_Join at hF
  cases hb : decide (List.length xs ≤ 140737488355328) && decide (List.length (Go.Lib.join xs sep) ≤ 140737488355328) with
  | false => rw [hb] at hF; cases hF
  | true =>
    rw [hb] at hF
    simp only [Bool.and_eq_true, decide_eq_true_eq] at hb
    obtain rfl := Option.some.inj hF
    obtain ⟨v, hv, h1⟩ := h1
    obtain rfl := List.cons.inj hv |>.1
    have none_case : ∀ ad c, xs = [] → Calls Go.Proofs.Tryd.prog 43 [Value.slice ad 0 c, .string ⟨List.toArray sep⟩].toArray w fun e w' => ∃ v, e = .returned v ∧ Same w w' ∧ rdRes w' (withNew w w' Z) [.str] (Go.Lib.join xs sep) v := by
      rintro ad c rfl
      refine (Go.Proofs.Tryd.strings_Join_none ad c _ w).mono ?_
      rintro e w' ⟨rfl, rfl⟩
      exact ⟨_, rfl, Same.refl _, rfl⟩
    rcases h1 with ⟨rfl, hx⟩ | ⟨b, off, cap, cells, rfl, hc, hm, hz, hr, hcl⟩ | ⟨ad, cap, rfl, hx, _⟩
    · exact none_case none 0 hx
    · have hcs := join_cells hr
      have hmap : (xs.map fun x => (⟨List.toArray x⟩ : ByteArray)).map (·.data.toList) = xs := by
        rw [List.map_map]
        conv => rhs; rw [← List.map_id xs]
        rfl
      have key := Go.Proofs.Tryd.strings_Join b off cap (xs.map fun x => ⟨List.toArray x⟩) ⟨List.toArray sep⟩ w (fun j x hx => by
        refine hcl j _ ?_
        rw [hcs, List.getElem?_map]
        rw [List.getElem?_map, Option.map_eq_some_iff] at hx
        obtain ⟨y, hy, rfl⟩ := hx
        rw [hy]; rfl) (hZ b hz) (by simpa using hb.1) (by simpa using hc) (by rw [hmap]; simpa using hb.2)
      rw [List.length_map, hmap] at key
      refine key.mono ?_
      rintro e w' ⟨rfl, hB⟩
      exact ⟨_, rfl, ⟨hB.os, hB.tape, hB.output, hB.size, hB.block⟩, rfl⟩
    · exact none_case (some ad) cap hx
end
end W
end
