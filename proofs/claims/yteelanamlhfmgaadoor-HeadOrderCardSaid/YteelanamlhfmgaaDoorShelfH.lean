/-
  DERIVED: THE SHELF's CONTRACTS AT THIS DUMP, IN PLAIN WORDS (tools/lay-plain.mjs out of 'TrydShelfH.lean', which tools/lay-shelf.mjs wrote): THE SAME DECLARATIONS UNDER THE SAME NAMES: 'import', 'namespace', 'open', 'def', 'theorem' AND NOTHING ELSE: no command of the shelf's: FOR A HAND-IN. Each laying: the table of numbers ('.._ren') and one theorem, a field a fact of the dump's own or the kernel's comparison; each contract: ONE APPLICATION.
-/
import Derived.Shelf.SlGeneric
import Derived.Shelf.SlSortCmp.WholeK
import Derived.Ground.SlsfProg
import Derived.Test.YteelanamlhfmgaaDoorProg
namespace Go.Proofs
open Go.Shelf
def Tryd.sortHeld_ren : Go.Shelf.Ren := ⟨fun | 6 => 44 | 15 => 63 | 14 => 62 | 28 => 83 | 29 => 84 | 20 => 75 | 21 => 76 | 22 => 77 | 23 => 78 | 24 => 79 | 25 => 80 | 26 => 81 | 27 => 82 | 46 => 101 | 47 => 102 | 48 => 103 | 49 => 104 | 50 => 105 | 57 => 109 | n => n, fun | 22 => 81 | 24 => 86 | 25 => 88 | 3 => 3 | 39 => 95 | 0 => 0 | 53 => 116 | 55 => 108 | 4 => 4 | 46 => 126 | 45 => 125 | 50 => 65 | 5 => 5 | 9 => 9 | 66 => 147 | 70 => 151 | 76 => 155 | 77 => 156 | n => n, fun | n => n⟩
theorem Tryd.sortHeld : Go.Proofs.SlLaysF0.n6 Tryd.prog Tryd.sortHeld_ren := {
  mixed := by kernel_rfl
  f6 := ⟨Tryd.f44.name, by decide, Tryd.func44.trans (congrArg some (by kernel_rfl))⟩
  f14 := ⟨Tryd.f62.name, by decide, Tryd.func62.trans (congrArg some (by kernel_rfl))⟩
  f15 := Tryd.func63.trans (congrArg some (by kernel_rfl))
  f20 := ⟨Tryd.f75.name, by decide, Tryd.func75.trans (congrArg some (by kernel_rfl))⟩
  f21 := ⟨Tryd.f76.name, by decide, Tryd.func76.trans (congrArg some (by kernel_rfl))⟩
  f22 := ⟨Tryd.f77.name, by decide, Tryd.func77.trans (congrArg some (by kernel_rfl))⟩
  f23 := ⟨Tryd.f78.name, by decide, Tryd.func78.trans (congrArg some (by kernel_rfl))⟩
  f24 := ⟨Tryd.f79.name, by decide, Tryd.func79.trans (congrArg some (by kernel_rfl))⟩
  f25 := ⟨Tryd.f80.name, by decide, Tryd.func80.trans (congrArg some (by kernel_rfl))⟩
  f26 := ⟨Tryd.f81.name, by decide, Tryd.func81.trans (congrArg some (by kernel_rfl))⟩
  f27 := ⟨Tryd.f82.name, by decide, Tryd.func82.trans (congrArg some (by kernel_rfl))⟩
  f28 := Tryd.func83.trans (congrArg some (by kernel_rfl))
  f29 := Tryd.func84.trans (congrArg some (by kernel_rfl))
  f46 := ⟨Tryd.f101.name, by decide, Tryd.func101.trans (congrArg some (by kernel_rfl))⟩
  f47 := Tryd.func102.trans (congrArg some (by kernel_rfl))
  f48 := Tryd.func103.trans (congrArg some (by kernel_rfl))
  f49 := ⟨Tryd.f104.name, by decide, Tryd.func104.trans (congrArg some (by kernel_rfl))⟩
  f50 := ⟨Tryd.f105.name, by decide, Tryd.func105.trans (congrArg some (by kernel_rfl))⟩
  f57 := ⟨Tryd.f109.name, by decide, Tryd.func109.trans (congrArg some (by kernel_rfl))⟩
  t0 := Tryd.underlying0
  a0 := Tryd.isAgg0
  z0 := Tryd.sizeOf0
  v0 := Tryd.zeroValue0
  t3 := Tryd.underlying3
  a3 := Tryd.isAgg3
  z3 := Tryd.sizeOf3
  v3 := Tryd.zeroValue3
  t4 := Tryd.underlying4
  a4 := Tryd.isAgg4
  z4 := Tryd.sizeOf4
  v4 := Tryd.zeroValue4
  t5 := Tryd.underlying5
  a5 := Tryd.isAgg5
  z5 := Tryd.sizeOf5
  v5 := Tryd.zeroValue5
  t9 := Tryd.underlying9
  a9 := Tryd.isAgg9
  z9 := Tryd.sizeOf9
  v9 := Tryd.zeroValue9
  t22 := Tryd.underlying81
  a22 := Tryd.isAgg81
  z22 := Tryd.sizeOf81
  v22 := Tryd.zeroValue81
  t25 := Tryd.underlying88
  a25 := Tryd.isAgg88
  z25 := Tryd.sizeOf88
  v25 := Tryd.zeroValue88
  t39 := Tryd.underlying95
  a39 := Tryd.isAgg95
  z39 := Tryd.sizeOf95
  v39 := Tryd.zeroValue95
  t45 := Tryd.underlying125
  a45 := Tryd.isAgg125
  z45 := Tryd.sizeOf125
  v45 := Tryd.zeroValue125
  t46 := Tryd.underlying126
  a46 := Tryd.isAgg126
  z46 := Tryd.sizeOf126
  v46 := Tryd.zeroValue126
  t50 := Tryd.underlying65
  a50 := Tryd.isAgg65
  z50 := Tryd.sizeOf65
  v50 := Tryd.zeroValue65
  t53 := Tryd.underlying116
  a53 := Tryd.isAgg116
  z53 := Tryd.sizeOf116
  v53 := Tryd.zeroValue116
  t55 := Tryd.underlying108
  a55 := Tryd.isAgg108
  z55 := Tryd.sizeOf108
  v55 := Tryd.zeroValue108
  t66 := Tryd.underlying147
  a66 := Tryd.isAgg147
  z66 := Tryd.sizeOf147
  v66 := Tryd.zeroValue147
  t70 := Tryd.underlying151
  a70 := Tryd.isAgg151
  z70 := Tryd.sizeOf151
  v70 := Tryd.zeroValue151
  t76 := Tryd.underlying155
  a76 := Tryd.isAgg155
  z76 := Tryd.sizeOf155
  v76 := Tryd.zeroValue155
  t77 := Tryd.underlying156
  a77 := Tryd.isAgg156
  z77 := Tryd.sizeOf156
  v77 := Tryd.zeroValue156 }
end Go.Proofs
