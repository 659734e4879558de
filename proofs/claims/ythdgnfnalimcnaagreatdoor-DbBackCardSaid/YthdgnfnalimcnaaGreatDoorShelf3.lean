/- Lemmas of this proof. No condition beyond each theorem's own. -/
import Derived.Shelf.SlGeneric
import Derived.Shelf.SlSortCmp.WholeK
import Derived.Shelf.SlSortCmp.NoneTotal
import Derived.Ground.SlsfProg
import Derived.Test.YthdgnfnalimcnaaGreatDoorProg
set_option linter.unusedSimpArgs false
set_option linter.unusedVariables false
set_option linter.unusedSectionVars false
/-
  DERIVED: THE SHELF's CONTRACTS AT THIS DUMP, IN PLAIN WORDS (tools/lay-plain.mjs out of 'TryzShelfC.lean', which tools/lay-shelf.mjs wrote): THE SAME DECLARATIONS UNDER THE SAME NAMES: 'import', 'namespace', 'open', 'def', 'theorem' AND NOTHING ELSE: no command of the shelf's: FOR A HAND-IN. Each laying: the table of numbers ('.._ren') and one theorem, a field a fact of the dump's own or the kernel's comparison; each contract: ONE APPLICATION.
-/
namespace Go.Proofs
open Go.Shelf
def Tryz.sortD_ren : Go.Shelf.Ren := ⟨fun | 6 => 76 | 15 => 98 | 14 => 97 | 28 => 118 | 29 => 119 | 20 => 110 | 21 => 111 | 22 => 112 | 23 => 113 | 24 => 114 | 25 => 115 | 26 => 116 | 27 => 117 | 46 => 134 | 47 => 135 | 48 => 136 | 49 => 137 | 50 => 138 | 57 => 150 | n => n, fun | 22 => 50 | 24 => 30 | 25 => 85 | 3 => 3 | 39 => 141 | 0 => 0 | 53 => 164 | 55 => 148 | 4 => 4 | 46 => 157 | 45 => 156 | 50 => 161 | 5 => 5 | 9 => 9 | 66 => 179 | 70 => 183 | 76 => 194 | 77 => 195 | n => n, fun | n => n⟩
theorem Tryz.sortD : Go.Proofs.SlLaysF0.n6 Tryz.prog Tryz.sortD_ren := {
  mixed := by kernel_rfl
  f6 := ⟨Tryz.f76.name, by decide, Tryz.func76.trans (congrArg some (by kernel_rfl))⟩
  f14 := ⟨Tryz.f97.name, by decide, Tryz.func97.trans (congrArg some (by kernel_rfl))⟩
  f15 := Tryz.func98.trans (congrArg some (by kernel_rfl))
  f20 := ⟨Tryz.f110.name, by decide, Tryz.func110.trans (congrArg some (by kernel_rfl))⟩
  f21 := ⟨Tryz.f111.name, by decide, Tryz.func111.trans (congrArg some (by kernel_rfl))⟩
  f22 := ⟨Tryz.f112.name, by decide, Tryz.func112.trans (congrArg some (by kernel_rfl))⟩
  f23 := ⟨Tryz.f113.name, by decide, Tryz.func113.trans (congrArg some (by kernel_rfl))⟩
  f24 := ⟨Tryz.f114.name, by decide, Tryz.func114.trans (congrArg some (by kernel_rfl))⟩
  f25 := ⟨Tryz.f115.name, by decide, Tryz.func115.trans (congrArg some (by kernel_rfl))⟩
  f26 := ⟨Tryz.f116.name, by decide, Tryz.func116.trans (congrArg some (by kernel_rfl))⟩
  f27 := ⟨Tryz.f117.name, by decide, Tryz.func117.trans (congrArg some (by kernel_rfl))⟩
  f28 := Tryz.func118.trans (congrArg some (by kernel_rfl))
  f29 := Tryz.func119.trans (congrArg some (by kernel_rfl))
  f46 := ⟨Tryz.f134.name, by decide, Tryz.func134.trans (congrArg some (by kernel_rfl))⟩
  f47 := Tryz.func135.trans (congrArg some (by kernel_rfl))
  f48 := Tryz.func136.trans (congrArg some (by kernel_rfl))
  f49 := ⟨Tryz.f137.name, by decide, Tryz.func137.trans (congrArg some (by kernel_rfl))⟩
  f50 := ⟨Tryz.f138.name, by decide, Tryz.func138.trans (congrArg some (by kernel_rfl))⟩
  f57 := ⟨Tryz.f150.name, by decide, Tryz.func150.trans (congrArg some (by kernel_rfl))⟩
  t0 := Tryz.underlying0
  a0 := Tryz.isAgg0
  z0 := Tryz.sizeOf0
  v0 := Tryz.zeroValue0
  t3 := Tryz.underlying3
  a3 := Tryz.isAgg3
  z3 := Tryz.sizeOf3
  v3 := Tryz.zeroValue3
  t4 := Tryz.underlying4
  a4 := Tryz.isAgg4
  z4 := Tryz.sizeOf4
  v4 := Tryz.zeroValue4
  t5 := Tryz.underlying5
  a5 := Tryz.isAgg5
  z5 := Tryz.sizeOf5
  v5 := Tryz.zeroValue5
  t9 := Tryz.underlying9
  a9 := Tryz.isAgg9
  z9 := Tryz.sizeOf9
  v9 := Tryz.zeroValue9
  t22 := Tryz.underlying50
  a22 := Tryz.isAgg50
  z22 := Tryz.sizeOf50
  v22 := Tryz.zeroValue50
  t25 := Tryz.underlying85
  a25 := Tryz.isAgg85
  z25 := Tryz.sizeOf85
  v25 := Tryz.zeroValue85
  t39 := Tryz.underlying141
  a39 := Tryz.isAgg141
  z39 := Tryz.sizeOf141
  v39 := Tryz.zeroValue141
  t45 := Tryz.underlying156
  a45 := Tryz.isAgg156
  z45 := Tryz.sizeOf156
  v45 := Tryz.zeroValue156
  t46 := Tryz.underlying157
  a46 := Tryz.isAgg157
  z46 := Tryz.sizeOf157
  v46 := Tryz.zeroValue157
  t50 := Tryz.underlying161
  a50 := Tryz.isAgg161
  z50 := Tryz.sizeOf161
  v50 := Tryz.zeroValue161
  t53 := Tryz.underlying164
  a53 := Tryz.isAgg164
  z53 := Tryz.sizeOf164
  v53 := Tryz.zeroValue164
  t55 := Tryz.underlying148
  a55 := Tryz.isAgg148
  z55 := Tryz.sizeOf148
  v55 := Tryz.zeroValue148
  t66 := Tryz.underlying179
  a66 := Tryz.isAgg179
  z66 := Tryz.sizeOf179
  v66 := Tryz.zeroValue179
  t70 := Tryz.underlying183
  a70 := Tryz.isAgg183
  z70 := Tryz.sizeOf183
  v70 := Tryz.zeroValue183
  t76 := Tryz.underlying194
  a76 := Tryz.isAgg194
  z76 := Tryz.sizeOf194
  v76 := Tryz.zeroValue194
  t77 := Tryz.underlying195
  a77 := Tryz.isAgg195
  z77 := Tryz.sizeOf195
  v77 := Tryz.zeroValue195 }
end Go.Proofs
