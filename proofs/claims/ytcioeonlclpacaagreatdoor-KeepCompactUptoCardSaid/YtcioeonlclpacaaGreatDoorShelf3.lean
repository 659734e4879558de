/- Lemmas of this proof. No condition beyond each theorem's own. -/
import Derived.Shelf.SlGeneric
import Derived.Shelf.SlSortCmp.WholeK
import Derived.Shelf.SlSortCmp.NoneTotal
import Derived.Ground.SlsfProg
import Derived.Test.YtcioeonlclpacaaGreatDoorProg
set_option linter.unusedSimpArgs false
set_option linter.unusedVariables false
set_option linter.unusedSectionVars false
/-
  DERIVED: THE SHELF's CONTRACTS AT THIS DUMP, IN PLAIN WORDS (tools/lay-plain.mjs out of 'TryzShelfC.lean', which tools/lay-shelf.mjs wrote): THE SAME DECLARATIONS UNDER THE SAME NAMES: 'import', 'namespace', 'open', 'def', 'theorem' AND NOTHING ELSE: no command of the shelf's: FOR A HAND-IN. Each laying: the table of numbers ('.._ren') and one theorem, a field a fact of the dump's own or the kernel's comparison; each contract: ONE APPLICATION.
-/
namespace Go.Proofs
open Go.Shelf
def Tryz.sortD_ren:Go.Shelf.Ren:=⟨fun|6=>130|15=>175|14=>174|28=>205|29=>206|20=>197|21=>198|22=>199|23=>200|24=>201|25=>202|26=>203|27=>204|46=>230|47=>231|48=>232|49=>233|50=>234|57=>250|n=>n,fun|22=>67|24=>46|25=>145|3=>3|39=>232|0=>0|53=>170|55=>228|4=>4|46=>273|45=>272|50=>277|5=>5|9=>9|66=>298|70=>302|76=>318|77=>59|n=>n,fun|n=>n⟩
theorem Tryz.sortD:Go.Proofs.SlLaysF0.n6 Tryz.prog Tryz.sortD_ren:={
 mixed:=by kernel_rfl
 f6:=⟨Tryz.f130.name,by decide,Tryz.func130.trans (congrArg some (by kernel_rfl))⟩
 f14:=⟨Tryz.f174.name,by decide,Tryz.func174.trans (congrArg some (by kernel_rfl))⟩
 f15:=Tryz.func175.trans (congrArg some (by kernel_rfl))
 f20:=⟨Tryz.f197.name,by decide,Tryz.func197.trans (congrArg some (by kernel_rfl))⟩
 f21:=⟨Tryz.f198.name,by decide,Tryz.func198.trans (congrArg some (by kernel_rfl))⟩
 f22:=⟨Tryz.f199.name,by decide,Tryz.func199.trans (congrArg some (by kernel_rfl))⟩
 f23:=⟨Tryz.f200.name,by decide,Tryz.func200.trans (congrArg some (by kernel_rfl))⟩
 f24:=⟨Tryz.f201.name,by decide,Tryz.func201.trans (congrArg some (by kernel_rfl))⟩
 f25:=⟨Tryz.f202.name,by decide,Tryz.func202.trans (congrArg some (by kernel_rfl))⟩
 f26:=⟨Tryz.f203.name,by decide,Tryz.func203.trans (congrArg some (by kernel_rfl))⟩
 f27:=⟨Tryz.f204.name,by decide,Tryz.func204.trans (congrArg some (by kernel_rfl))⟩
 f28:=Tryz.func205.trans (congrArg some (by kernel_rfl))
 f29:=Tryz.func206.trans (congrArg some (by kernel_rfl))
 f46:=⟨Tryz.f230.name,by decide,Tryz.func230.trans (congrArg some (by kernel_rfl))⟩
 f47:=Tryz.func231.trans (congrArg some (by kernel_rfl))
 f48:=Tryz.func232.trans (congrArg some (by kernel_rfl))
 f49:=⟨Tryz.f233.name,by decide,Tryz.func233.trans (congrArg some (by kernel_rfl))⟩
 f50:=⟨Tryz.f234.name,by decide,Tryz.func234.trans (congrArg some (by kernel_rfl))⟩
 f57:=⟨Tryz.f250.name,by decide,Tryz.func250.trans (congrArg some (by kernel_rfl))⟩
 t0:=Tryz.underlying0
 a0:=Tryz.isAgg0
 z0:=Tryz.sizeOf0
 v0:=Tryz.zeroValue0
 t3:=Tryz.underlying3
 a3:=Tryz.isAgg3
 z3:=Tryz.sizeOf3
 v3:=Tryz.zeroValue3
 t4:=Tryz.underlying4
 a4:=Tryz.isAgg4
 z4:=Tryz.sizeOf4
 v4:=Tryz.zeroValue4
 t5:=Tryz.underlying5
 a5:=Tryz.isAgg5
 z5:=Tryz.sizeOf5
 v5:=Tryz.zeroValue5
 t9:=Tryz.underlying9
 a9:=Tryz.isAgg9
 z9:=Tryz.sizeOf9
 v9:=Tryz.zeroValue9
 t22:=Tryz.underlying67
 a22:=Tryz.isAgg67
 z22:=Tryz.sizeOf67
 v22:=Tryz.zeroValue67
 t25:=Tryz.underlying145
 a25:=Tryz.isAgg145
 z25:=Tryz.sizeOf145
 v25:=Tryz.zeroValue145
 t39:=Tryz.underlying232
 a39:=Tryz.isAgg232
 z39:=Tryz.sizeOf232
 v39:=Tryz.zeroValue232
 t45:=Tryz.underlying272
 a45:=Tryz.isAgg272
 z45:=Tryz.sizeOf272
 v45:=Tryz.zeroValue272
 t46:=Tryz.underlying273
 a46:=Tryz.isAgg273
 z46:=Tryz.sizeOf273
 v46:=Tryz.zeroValue273
 t50:=Tryz.underlying277
 a50:=Tryz.isAgg277
 z50:=Tryz.sizeOf277
 v50:=Tryz.zeroValue277
 t53:=Tryz.underlying170
 a53:=Tryz.isAgg170
 z53:=Tryz.sizeOf170
 v53:=Tryz.zeroValue170
 t55:=Tryz.underlying228
 a55:=Tryz.isAgg228
 z55:=Tryz.sizeOf228
 v55:=Tryz.zeroValue228
 t66:=Tryz.underlying298
 a66:=Tryz.isAgg298
 z66:=Tryz.sizeOf298
 v66:=Tryz.zeroValue298
 t70:=Tryz.underlying302
 a70:=Tryz.isAgg302
 z70:=Tryz.sizeOf302
 v70:=Tryz.zeroValue302
 t76:=Tryz.underlying318
 a76:=Tryz.isAgg318
 z76:=Tryz.sizeOf318
 v76:=Tryz.zeroValue318
 t77:=Tryz.underlying59
 a77:=Tryz.isAgg59
 z77:=Tryz.sizeOf59
 v77:=Tryz.zeroValue59 }
end Go.Proofs
