/- Lemmas of this proof. No condition. -/
import Derived.Shelf.SlSortCmp.NoneTotal
import Derived.Test.YtognnffjdckalaaGreatDoorProg
/-
  DERIVED: THE SHELF's CONTRACTS AT THIS DUMP, IN PLAIN WORDS (tools/lay-plain.mjs out of 'TryzShelfC.lean', which tools/lay-shelf.mjs wrote): THE SAME DECLARATIONS UNDER THE SAME NAMES: 'import', 'namespace', 'open', 'def', 'theorem' AND NOTHING ELSE: no command of the shelf's: FOR A HAND-IN. Each laying: the table of numbers ('.._ren') and one theorem, a field a fact of the dump's own or the kernel's comparison; each contract: ONE APPLICATION.
-/
namespace Go.Proofs
open Go.Shelf
def Tryz.sortD_ren:Go.Shelf.Ren:=⟨fun|6=>166|15=>178|14=>187|28=>198|29=>199|20=>211|21=>212|22=>213|23=>214|24=>215|25=>216|26=>217|27=>218|46=>236|47=>221|48=>222|49=>237|50=>238|57=>249|n=>n,fun|22=>128|24=>53|25=>202|3=>3|39=>222|0=>0|53=>166|55=>218|4=>4|46=>263|45=>262|50=>267|5=>5|9=>9|66=>288|70=>292|76=>305|77=>78|n=>n,fun|n=>n⟩
theorem Tryz.sortD:Go.Proofs.SlLaysF0.n6 Tryz.prog Tryz.sortD_ren:={
 mixed:=by kernel_rfl
 f6:=⟨Tryz.f166.name,by decide,Tryz.func166.trans (congrArg some (by kernel_rfl))⟩
 f14:=⟨Tryz.f187.name,by decide,Tryz.func187.trans (congrArg some (by kernel_rfl))⟩
 f15:=Tryz.func178.trans (congrArg some (by kernel_rfl))
 f20:=⟨Tryz.f211.name,by decide,Tryz.func211.trans (congrArg some (by kernel_rfl))⟩
 f21:=⟨Tryz.f212.name,by decide,Tryz.func212.trans (congrArg some (by kernel_rfl))⟩
 f22:=⟨Tryz.f213.name,by decide,Tryz.func213.trans (congrArg some (by kernel_rfl))⟩
 f23:=⟨Tryz.f214.name,by decide,Tryz.func214.trans (congrArg some (by kernel_rfl))⟩
 f24:=⟨Tryz.f215.name,by decide,Tryz.func215.trans (congrArg some (by kernel_rfl))⟩
 f25:=⟨Tryz.f216.name,by decide,Tryz.func216.trans (congrArg some (by kernel_rfl))⟩
 f26:=⟨Tryz.f217.name,by decide,Tryz.func217.trans (congrArg some (by kernel_rfl))⟩
 f27:=⟨Tryz.f218.name,by decide,Tryz.func218.trans (congrArg some (by kernel_rfl))⟩
 f28:=Tryz.func198.trans (congrArg some (by kernel_rfl))
 f29:=Tryz.func199.trans (congrArg some (by kernel_rfl))
 f46:=⟨Tryz.f236.name,by decide,Tryz.func236.trans (congrArg some (by kernel_rfl))⟩
 f47:=Tryz.func221.trans (congrArg some (by kernel_rfl))
 f48:=Tryz.func222.trans (congrArg some (by kernel_rfl))
 f49:=⟨Tryz.f237.name,by decide,Tryz.func237.trans (congrArg some (by kernel_rfl))⟩
 f50:=⟨Tryz.f238.name,by decide,Tryz.func238.trans (congrArg some (by kernel_rfl))⟩
 f57:=⟨Tryz.f249.name,by decide,Tryz.func249.trans (congrArg some (by kernel_rfl))⟩
 t0:=Tryz.underlying0
 a0:=Tryz.isAgg0
 z0:=Tryz.sizeOf0
 v0:=Tryz.zeroValue0
 t3:=Tryz.underlying3
 a3:=Tryz.isAgg3
 z3:=Tryz.sizeOf3
 v3:=Tryz.zeroValue3
 t4:=Tryz.underlying4
 a4:=Tryz.isAgg4
 z4:=Tryz.sizeOf4
 v4:=Tryz.zeroValue4
 t5:=Tryz.underlying5
 a5:=Tryz.isAgg5
 z5:=Tryz.sizeOf5
 v5:=Tryz.zeroValue5
 t9:=Tryz.underlying9
 a9:=Tryz.isAgg9
 z9:=Tryz.sizeOf9
 v9:=Tryz.zeroValue9
 t22:=Tryz.underlying128
 a22:=Tryz.isAgg128
 z22:=Tryz.sizeOf128
 v22:=Tryz.zeroValue128
 t25:=Tryz.underlying202
 a25:=Tryz.isAgg202
 z25:=Tryz.sizeOf202
 v25:=Tryz.zeroValue202
 t39:=Tryz.underlying222
 a39:=Tryz.isAgg222
 z39:=Tryz.sizeOf222
 v39:=Tryz.zeroValue222
 t45:=Tryz.underlying262
 a45:=Tryz.isAgg262
 z45:=Tryz.sizeOf262
 v45:=Tryz.zeroValue262
 t46:=Tryz.underlying263
 a46:=Tryz.isAgg263
 z46:=Tryz.sizeOf263
 v46:=Tryz.zeroValue263
 t50:=Tryz.underlying267
 a50:=Tryz.isAgg267
 z50:=Tryz.sizeOf267
 v50:=Tryz.zeroValue267
 t53:=Tryz.underlying166
 a53:=Tryz.isAgg166
 z53:=Tryz.sizeOf166
 v53:=Tryz.zeroValue166
 t55:=Tryz.underlying218
 a55:=Tryz.isAgg218
 z55:=Tryz.sizeOf218
 v55:=Tryz.zeroValue218
 t66:=Tryz.underlying288
 a66:=Tryz.isAgg288
 z66:=Tryz.sizeOf288
 v66:=Tryz.zeroValue288
 t70:=Tryz.underlying292
 a70:=Tryz.isAgg292
 z70:=Tryz.sizeOf292
 v70:=Tryz.zeroValue292
 t76:=Tryz.underlying305
 a76:=Tryz.isAgg305
 z76:=Tryz.sizeOf305
 v76:=Tryz.zeroValue305
 t77:=Tryz.underlying78
 a77:=Tryz.isAgg78
 z77:=Tryz.sizeOf78
 v77:=Tryz.zeroValue78 }
end Go.Proofs
