/-
  DERIVED: THE SHELF's CONTRACTS AT THIS DUMP, IN PLAIN WORDS (tools/lay-plain.mjs out of 'YtklinldidfdnjaaDoorShSplit.lean', which tools/lay-shelf.mjs wrote): THE SAME DECLARATIONS UNDER THE SAME NAMES: 'import', 'namespace', 'open', 'def', 'theorem' AND NOTHING ELSE: no command of the shelf's: FOR A HAND-IN. Each laying: the table of numbers ('.._ren') and one theorem, a field a fact of the dump's own or the kernel's comparison; each contract: ONE APPLICATION.
-/
import Derived.Shelf.Lays
import Derived.Test.YtklinldidfdnjaaDoorProg
import Derived.Shelf.Strings.Split
namespace Go.Proofs
open Go.Shelf
def Tryd.lays146_ren : Go.Shelf.Ren := ⟨fun | 146 => 33 | 221 => 71 | 268 => 88 | 138 => 89 | 143 => 90 | 195 => 99 | 197 => 100 | 218 => 101 | 219 => 102 | 260 => 116 | 217 => 92 | 225 => 105 | 224 => 104 | 267 => 117 | 266 => 106 | 314 => 128 | n => n, fun | 9 => 9 | 31 => 31 | 3 => 3 | 4 => 4 | 0 => 0 | 105 => 109 | 21 => 21 | 5 => 5 | 46 => 93 | 119 => 135 | 139 => 138 | 138 => 137 | 146 => 139 | 51 => 131 | n => n, fun | 1 => 0 | 3 => 4 | 4 => 5 | n => n⟩
theorem Tryd.lays146 : Go.Proofs.Lays.n146 Tryd.prog Tryd.lays146_ren := {
  mixed := by kernel_rfl
  f138 := Tryd.func89.trans (congrArg some (by kernel_rfl))
  f143 := Tryd.func90.trans (congrArg some (by kernel_rfl))
  f146 := Tryd.func33.trans (congrArg some (by kernel_rfl))
  f195 := Tryd.func99.trans (congrArg some (by kernel_rfl))
  f197 := Tryd.func100.trans (congrArg some (by kernel_rfl))
  f217 := Tryd.func92.trans (congrArg some (by kernel_rfl))
  f218 := Tryd.func101.trans (congrArg some (by kernel_rfl))
  f219 := Tryd.func102.trans (congrArg some (by kernel_rfl))
  f221 := Tryd.func71.trans (congrArg some (by kernel_rfl))
  f224 := Tryd.func104.trans (congrArg some (by kernel_rfl))
  f225 := Tryd.func105.trans (congrArg some (by kernel_rfl))
  f260 := Tryd.func116.trans (congrArg some (by kernel_rfl))
  f266 := Tryd.func106.trans (congrArg some (by kernel_rfl))
  f267 := Tryd.func117.trans (congrArg some (by kernel_rfl))
  f268 := Tryd.func88.trans (congrArg some (by kernel_rfl))
  f314 := Tryd.func128.trans (congrArg some (by kernel_rfl))
  t0 := Tryd.underlying0
  a0 := Tryd.isAgg0
  z0 := Tryd.sizeOf0
  v0 := Tryd.zeroValue0
  t3 := Tryd.underlying3
  a3 := Tryd.isAgg3
  z3 := Tryd.sizeOf3
  v3 := Tryd.zeroValue3
  t4 := Tryd.underlying4
  a4 := Tryd.isAgg4
  z4 := Tryd.sizeOf4
  v4 := Tryd.zeroValue4
  t5 := Tryd.underlying5
  a5 := Tryd.isAgg5
  z5 := Tryd.sizeOf5
  v5 := Tryd.zeroValue5
  t9 := Tryd.underlying9
  a9 := Tryd.isAgg9
  z9 := Tryd.sizeOf9
  v9 := Tryd.zeroValue9
  t21 := Tryd.underlying21
  a21 := Tryd.isAgg21
  z21 := Tryd.sizeOf21
  v21 := Tryd.zeroValue21
  t31 := Tryd.underlying31
  a31 := Tryd.isAgg31
  z31 := Tryd.sizeOf31
  v31 := Tryd.zeroValue31
  t46 := Tryd.underlying93
  a46 := Tryd.isAgg93
  z46 := Tryd.sizeOf93
  v46 := Tryd.zeroValue93
  t51 := Tryd.underlying131
  a51 := Tryd.isAgg131
  z51 := Tryd.sizeOf131
  v51 := Tryd.zeroValue131
  t105 := Tryd.underlying109
  a105 := Tryd.isAgg109
  z105 := Tryd.sizeOf109
  v105 := Tryd.zeroValue109
  t119 := Tryd.underlying135
  a119 := Tryd.isAgg135
  z119 := Tryd.sizeOf135
  t138 := Tryd.underlying137
  a138 := Tryd.isAgg137
  z138 := Tryd.sizeOf137
  v138 := Tryd.zeroValue137
  t139 := Tryd.underlying138
  a139 := Tryd.isAgg138
  z139 := Tryd.sizeOf138
  v139 := Tryd.zeroValue138
  t146 := Tryd.underlying139
  a146 := Tryd.isAgg139
  z146 := Tryd.sizeOf139
  v146 := Tryd.zeroValue139
  g1 := by kernel_rfl
  g3 := by kernel_rfl
  g4 := by kernel_rfl }
end Go.Proofs
