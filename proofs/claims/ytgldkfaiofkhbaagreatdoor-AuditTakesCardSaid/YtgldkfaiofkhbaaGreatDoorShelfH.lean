/-
  DERIVED: THE SHELF's CONTRACTS AT THIS DUMP, IN PLAIN WORDS (tools/lay-plain.mjs out of 'TryzShelfH.lean', which tools/lay-shelf.mjs wrote): THE SAME DECLARATIONS UNDER THE SAME NAMES: 'import', 'namespace', 'open', 'def', 'theorem' AND NOTHING ELSE: no command of the shelf's: FOR A HAND-IN. Each laying: the table of numbers ('.._ren') and one theorem, a field a fact of the dump's own or the kernel's comparison; each contract: ONE APPLICATION.
-/
import Derived.Shelf.SlGeneric
import Derived.Shelf.SlSortCmp.WholeK
import Derived.Ground.SlsfProg
import Derived.Test.YtgldkfaiofkhbaaGreatDoorProg
namespace Go.Proofs
open Go.Shelf
def Tryz.sortHeld_ren : Go.Shelf.Ren := ⟨fun | 6 => 64 | 15 => 124 | 14 => 123 | 28 => 207 | 29 => 208 | 20 => 199 | 21 => 200 | 22 => 201 | 23 => 202 | 24 => 203 | 25 => 204 | 26 => 205 | 27 => 206 | 46 => 257 | 47 => 258 | 48 => 259 | 49 => 260 | 50 => 261 | 57 => 283 | n => n, fun | 22 => 137 | 24 => 142 | 25 => 144 | 3 => 3 | 39 => 167 | 0 => 0 | 53 => 266 | 55 => 258 | 4 => 4 | 46 => 297 | 45 => 296 | 50 => 225 | 5 => 5 | 9 => 9 | 66 => 369 | 70 => 373 | 76 => 392 | 77 => 393 | n => n, fun | n => n⟩
theorem Tryz.sortHeld : Go.Proofs.SlLaysF0.n6 Tryz.prog Tryz.sortHeld_ren := {
  mixed := by kernel_rfl
  f6 := ⟨Tryz.f64.name, by decide, Tryz.func64.trans (congrArg some (by kernel_rfl))⟩
  f14 := ⟨Tryz.f123.name, by decide, Tryz.func123.trans (congrArg some (by kernel_rfl))⟩
  f15 := Tryz.func124.trans (congrArg some (by kernel_rfl))
  f20 := ⟨Tryz.f199.name, by decide, Tryz.func199.trans (congrArg some (by kernel_rfl))⟩
  f21 := ⟨Tryz.f200.name, by decide, Tryz.func200.trans (congrArg some (by kernel_rfl))⟩
  f22 := ⟨Tryz.f201.name, by decide, Tryz.func201.trans (congrArg some (by kernel_rfl))⟩
  f23 := ⟨Tryz.f202.name, by decide, Tryz.func202.trans (congrArg some (by kernel_rfl))⟩
  f24 := ⟨Tryz.f203.name, by decide, Tryz.func203.trans (congrArg some (by kernel_rfl))⟩
  f25 := ⟨Tryz.f204.name, by decide, Tryz.func204.trans (congrArg some (by kernel_rfl))⟩
  f26 := ⟨Tryz.f205.name, by decide, Tryz.func205.trans (congrArg some (by kernel_rfl))⟩
  f27 := ⟨Tryz.f206.name, by decide, Tryz.func206.trans (congrArg some (by kernel_rfl))⟩
  f28 := Tryz.func207.trans (congrArg some (by kernel_rfl))
  f29 := Tryz.func208.trans (congrArg some (by kernel_rfl))
  f46 := ⟨Tryz.f257.name, by decide, Tryz.func257.trans (congrArg some (by kernel_rfl))⟩
  f47 := Tryz.func258.trans (congrArg some (by kernel_rfl))
  f48 := Tryz.func259.trans (congrArg some (by kernel_rfl))
  f49 := ⟨Tryz.f260.name, by decide, Tryz.func260.trans (congrArg some (by kernel_rfl))⟩
  f50 := ⟨Tryz.f261.name, by decide, Tryz.func261.trans (congrArg some (by kernel_rfl))⟩
  f57 := ⟨Tryz.f283.name, by decide, Tryz.func283.trans (congrArg some (by kernel_rfl))⟩
  t0 := Tryz.underlying0
  a0 := Tryz.isAgg0
  z0 := Tryz.sizeOf0
  v0 := Tryz.zeroValue0
  t3 := Tryz.underlying3
  a3 := Tryz.isAgg3
  z3 := Tryz.sizeOf3
  v3 := Tryz.zeroValue3
  t4 := Tryz.underlying4
  a4 := Tryz.isAgg4
  z4 := Tryz.sizeOf4
  v4 := Tryz.zeroValue4
  t5 := Tryz.underlying5
  a5 := Tryz.isAgg5
  z5 := Tryz.sizeOf5
  v5 := Tryz.zeroValue5
  t9 := Tryz.underlying9
  a9 := Tryz.isAgg9
  z9 := Tryz.sizeOf9
  v9 := Tryz.zeroValue9
  t22 := Tryz.underlying137
  a22 := Tryz.isAgg137
  z22 := Tryz.sizeOf137
  v22 := Tryz.zeroValue137
  t25 := Tryz.underlying144
  a25 := Tryz.isAgg144
  z25 := Tryz.sizeOf144
  v25 := Tryz.zeroValue144
  t39 := Tryz.underlying167
  a39 := Tryz.isAgg167
  z39 := Tryz.sizeOf167
  v39 := Tryz.zeroValue167
  t45 := Tryz.underlying296
  a45 := Tryz.isAgg296
  z45 := Tryz.sizeOf296
  v45 := Tryz.zeroValue296
  t46 := Tryz.underlying297
  a46 := Tryz.isAgg297
  z46 := Tryz.sizeOf297
  v46 := Tryz.zeroValue297
  t50 := Tryz.underlying225
  a50 := Tryz.isAgg225
  z50 := Tryz.sizeOf225
  v50 := Tryz.zeroValue225
  t53 := Tryz.underlying266
  a53 := Tryz.isAgg266
  z53 := Tryz.sizeOf266
  v53 := Tryz.zeroValue266
  t55 := Tryz.underlying258
  a55 := Tryz.isAgg258
  z55 := Tryz.sizeOf258
  v55 := Tryz.zeroValue258
  t66 := Tryz.underlying369
  a66 := Tryz.isAgg369
  z66 := Tryz.sizeOf369
  v66 := Tryz.zeroValue369
  t70 := Tryz.underlying373
  a70 := Tryz.isAgg373
  z70 := Tryz.sizeOf373
  v70 := Tryz.zeroValue373
  t76 := Tryz.underlying392
  a76 := Tryz.isAgg392
  z76 := Tryz.sizeOf392
  v76 := Tryz.zeroValue392
  t77 := Tryz.underlying393
  a77 := Tryz.isAgg393
  z77 := Tryz.sizeOf393
  v77 := Tryz.zeroValue393 }
end Go.Proofs
