/-
  DERIVED: THE SHELF's CONTRACTS AT THIS DUMP, IN PLAIN WORDS (tools/lay-plain.mjs out of 'TrydShelfH.lean', which tools/lay-shelf.mjs wrote): THE SAME DECLARATIONS UNDER THE SAME NAMES: 'import', 'namespace', 'open', 'def', 'theorem' AND NOTHING ELSE: no command of the shelf's: FOR A HAND-IN. Each laying: the table of numbers ('.._ren') and one theorem, a field a fact of the dump's own or the kernel's comparison; each contract: ONE APPLICATION.
-/
import Derived.Shelf.SlGeneric
import Derived.Shelf.SlSortCmp.WholeK
import Derived.Ground.SlsfProg
import Derived.Test.YtgldkfaiofkhbaaDoorProg
namespace Go.Proofs
open Go.Shelf
def Tryd.sortHeld_ren : Go.Shelf.Ren := ⟨fun | 6 => 49 | 15 => 96 | 14 => 95 | 28 => 148 | 29 => 149 | 20 => 140 | 21 => 141 | 22 => 142 | 23 => 143 | 24 => 144 | 25 => 145 | 26 => 146 | 27 => 147 | 46 => 173 | 47 => 174 | 48 => 175 | 49 => 176 | 50 => 177 | 57 => 185 | n => n, fun | 22 => 98 | 24 => 103 | 25 => 105 | 3 => 3 | 39 => 161 | 0 => 0 | 53 => 152 | 55 => 173 | 4 => 4 | 46 => 210 | 45 => 209 | 50 => 117 | 5 => 5 | 9 => 9 | 66 => 245 | 70 => 249 | 76 => 260 | 77 => 261 | n => n, fun | n => n⟩
theorem Tryd.sortHeld : Go.Proofs.SlLaysF0.n6 Tryd.prog Tryd.sortHeld_ren := {
  mixed := by kernel_rfl
  f6 := ⟨Tryd.f49.name, by decide, Tryd.func49.trans (congrArg some (by kernel_rfl))⟩
  f14 := ⟨Tryd.f95.name, by decide, Tryd.func95.trans (congrArg some (by kernel_rfl))⟩
  f15 := Tryd.func96.trans (congrArg some (by kernel_rfl))
  f20 := ⟨Tryd.f140.name, by decide, Tryd.func140.trans (congrArg some (by kernel_rfl))⟩
  f21 := ⟨Tryd.f141.name, by decide, Tryd.func141.trans (congrArg some (by kernel_rfl))⟩
  f22 := ⟨Tryd.f142.name, by decide, Tryd.func142.trans (congrArg some (by kernel_rfl))⟩
  f23 := ⟨Tryd.f143.name, by decide, Tryd.func143.trans (congrArg some (by kernel_rfl))⟩
  f24 := ⟨Tryd.f144.name, by decide, Tryd.func144.trans (congrArg some (by kernel_rfl))⟩
  f25 := ⟨Tryd.f145.name, by decide, Tryd.func145.trans (congrArg some (by kernel_rfl))⟩
  f26 := ⟨Tryd.f146.name, by decide, Tryd.func146.trans (congrArg some (by kernel_rfl))⟩
  f27 := ⟨Tryd.f147.name, by decide, Tryd.func147.trans (congrArg some (by kernel_rfl))⟩
  f28 := Tryd.func148.trans (congrArg some (by kernel_rfl))
  f29 := Tryd.func149.trans (congrArg some (by kernel_rfl))
  f46 := ⟨Tryd.f173.name, by decide, Tryd.func173.trans (congrArg some (by kernel_rfl))⟩
  f47 := Tryd.func174.trans (congrArg some (by kernel_rfl))
  f48 := Tryd.func175.trans (congrArg some (by kernel_rfl))
  f49 := ⟨Tryd.f176.name, by decide, Tryd.func176.trans (congrArg some (by kernel_rfl))⟩
  f50 := ⟨Tryd.f177.name, by decide, Tryd.func177.trans (congrArg some (by kernel_rfl))⟩
  f57 := ⟨Tryd.f185.name, by decide, Tryd.func185.trans (congrArg some (by kernel_rfl))⟩
  t0 := Tryd.underlying0
  a0 := Tryd.isAgg0
  z0 := Tryd.sizeOf0
  v0 := Tryd.zeroValue0
  t3 := Tryd.underlying3
  a3 := Tryd.isAgg3
  z3 := Tryd.sizeOf3
  v3 := Tryd.zeroValue3
  t4 := Tryd.underlying4
  a4 := Tryd.isAgg4
  z4 := Tryd.sizeOf4
  v4 := Tryd.zeroValue4
  t5 := Tryd.underlying5
  a5 := Tryd.isAgg5
  z5 := Tryd.sizeOf5
  v5 := Tryd.zeroValue5
  t9 := Tryd.underlying9
  a9 := Tryd.isAgg9
  z9 := Tryd.sizeOf9
  v9 := Tryd.zeroValue9
  t22 := Tryd.underlying98
  a22 := Tryd.isAgg98
  z22 := Tryd.sizeOf98
  v22 := Tryd.zeroValue98
  t25 := Tryd.underlying105
  a25 := Tryd.isAgg105
  z25 := Tryd.sizeOf105
  v25 := Tryd.zeroValue105
  t39 := Tryd.underlying161
  a39 := Tryd.isAgg161
  z39 := Tryd.sizeOf161
  v39 := Tryd.zeroValue161
  t45 := Tryd.underlying209
  a45 := Tryd.isAgg209
  z45 := Tryd.sizeOf209
  v45 := Tryd.zeroValue209
  t46 := Tryd.underlying210
  a46 := Tryd.isAgg210
  z46 := Tryd.sizeOf210
  v46 := Tryd.zeroValue210
  t50 := Tryd.underlying117
  a50 := Tryd.isAgg117
  z50 := Tryd.sizeOf117
  v50 := Tryd.zeroValue117
  t53 := Tryd.underlying152
  a53 := Tryd.isAgg152
  z53 := Tryd.sizeOf152
  v53 := Tryd.zeroValue152
  t55 := Tryd.underlying173
  a55 := Tryd.isAgg173
  z55 := Tryd.sizeOf173
  v55 := Tryd.zeroValue173
  t66 := Tryd.underlying245
  a66 := Tryd.isAgg245
  z66 := Tryd.sizeOf245
  v66 := Tryd.zeroValue245
  t70 := Tryd.underlying249
  a70 := Tryd.isAgg249
  z70 := Tryd.sizeOf249
  v70 := Tryd.zeroValue249
  t76 := Tryd.underlying260
  a76 := Tryd.isAgg260
  z76 := Tryd.sizeOf260
  v76 := Tryd.zeroValue260
  t77 := Tryd.underlying261
  a77 := Tryd.isAgg261
  z77 := Tryd.sizeOf261
  v77 := Tryd.zeroValue261 }
end Go.Proofs
