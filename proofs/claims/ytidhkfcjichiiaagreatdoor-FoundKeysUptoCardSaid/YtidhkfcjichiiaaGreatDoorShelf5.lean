/- Lemmas of this proof. No condition beyond each theorem's own. -/
import Derived.Shelf.Lays
import Derived.Shelf.Sort.Plain
import Derived.Shelf.Slices.In.SortNone
import Derived.Test.YtidhkfcjichiiaaGreatDoorProg
set_option linter.unusedSimpArgs false
set_option linter.unusedVariables false
set_option linter.unusedSectionVars false
/-
  DERIVED: THE SHELF's CONTRACTS AT THIS DUMP, IN PLAIN WORDS (tools/lay-plain.mjs out of 'TryzShelfE.lean', which tools/lay-shelf.mjs wrote): THE SAME DECLARATIONS UNDER THE SAME NAMES: 'import', 'namespace', 'open', 'def', 'theorem' AND NOTHING ELSE: no command of the shelf's: FOR A HAND-IN. Each laying: the table of numbers ('.._ren') and one theorem, a field a fact of the dump's own or the kernel's comparison; each contract: ONE APPLICATION.
-/
namespace Go.Proofs
open Go.Shelf
def Tryz.lays190_ren:Go.Shelf.Ren:=⟨fun|190=>124|125=>178|258=>177|128=>222|129=>223|302=>213|303=>214|304=>215|305=>216|306=>217|307=>218|308=>219|309=>220|310=>221|333=>257|329=>258|330=>259|334=>260|335=>261|336=>262|344=>281|n=>n,fun|31=>25|9=>9|3=>3|46=>250|0=>0|51=>193|53=>198|4=>4|183=>280|182=>279|131=>241|5=>5|218=>312|222=>316|228=>333|229=>334|n=>n,fun|n=>n⟩
theorem Tryz.lays190:Go.Proofs.Lays.n190 Tryz.prog Tryz.lays190_ren:={
 mixed:=by kernel_rfl
 f125:=Tryz.func178.trans (congrArg some (by kernel_rfl))
 f128:=Tryz.func222.trans (congrArg some (by kernel_rfl))
 f129:=Tryz.func223.trans (congrArg some (by kernel_rfl))
 f190:=Tryz.func124.trans (congrArg some (by kernel_rfl))
 f258:=Tryz.func177.trans (congrArg some (by kernel_rfl))
 f302:=Tryz.func213.trans (congrArg some (by kernel_rfl))
 f303:=Tryz.func214.trans (congrArg some (by kernel_rfl))
 f304:=Tryz.func215.trans (congrArg some (by kernel_rfl))
 f305:=Tryz.func216.trans (congrArg some (by kernel_rfl))
 f306:=Tryz.func217.trans (congrArg some (by kernel_rfl))
 f307:=Tryz.func218.trans (congrArg some (by kernel_rfl))
 f308:=Tryz.func219.trans (congrArg some (by kernel_rfl))
 f309:=Tryz.func220.trans (congrArg some (by kernel_rfl))
 f310:=Tryz.func221.trans (congrArg some (by kernel_rfl))
 f329:=Tryz.func258.trans (congrArg some (by kernel_rfl))
 f330:=Tryz.func259.trans (congrArg some (by kernel_rfl))
 f333:=Tryz.func257.trans (congrArg some (by kernel_rfl))
 f334:=Tryz.func260.trans (congrArg some (by kernel_rfl))
 f335:=Tryz.func261.trans (congrArg some (by kernel_rfl))
 f336:=Tryz.func262.trans (congrArg some (by kernel_rfl))
 f344:=Tryz.func281.trans (congrArg some (by kernel_rfl))
 t0:=Tryz.underlying0
 a0:=Tryz.isAgg0
 z0:=Tryz.sizeOf0
 v0:=Tryz.zeroValue0
 t3:=Tryz.underlying3
 a3:=Tryz.isAgg3
 z3:=Tryz.sizeOf3
 v3:=Tryz.zeroValue3
 t4:=Tryz.underlying4
 a4:=Tryz.isAgg4
 z4:=Tryz.sizeOf4
 v4:=Tryz.zeroValue4
 t5:=Tryz.underlying5
 a5:=Tryz.isAgg5
 z5:=Tryz.sizeOf5
 v5:=Tryz.zeroValue5
 t9:=Tryz.underlying9
 a9:=Tryz.isAgg9
 z9:=Tryz.sizeOf9
 v9:=Tryz.zeroValue9
 t31:=Tryz.underlying25
 a31:=Tryz.isAgg25
 z31:=Tryz.sizeOf25
 v31:=Tryz.zeroValue25
 t46:=Tryz.underlying250
 a46:=Tryz.isAgg250
 z46:=Tryz.sizeOf250
 v46:=Tryz.zeroValue250
 t51:=Tryz.underlying193
 a51:=Tryz.isAgg193
 z51:=Tryz.sizeOf193
 v51:=Tryz.zeroValue193
 t53:=Tryz.underlying198
 a53:=Tryz.isAgg198
 z53:=Tryz.sizeOf198
 v53:=Tryz.zeroValue198
 t131:=Tryz.underlying241
 a131:=Tryz.isAgg241
 z131:=Tryz.sizeOf241
 v131:=Tryz.zeroValue241
 t182:=Tryz.underlying279
 a182:=Tryz.isAgg279
 z182:=Tryz.sizeOf279
 v182:=Tryz.zeroValue279
 t183:=Tryz.underlying280
 a183:=Tryz.isAgg280
 z183:=Tryz.sizeOf280
 v183:=Tryz.zeroValue280
 t218:=Tryz.underlying312
 a218:=Tryz.isAgg312
 z218:=Tryz.sizeOf312
 v218:=Tryz.zeroValue312
 t222:=Tryz.underlying316
 a222:=Tryz.isAgg316
 z222:=Tryz.sizeOf316
 v222:=Tryz.zeroValue316
 t228:=Tryz.underlying333
 a228:=Tryz.isAgg333
 z228:=Tryz.sizeOf333
 v228:=Tryz.zeroValue333
 t229:=Tryz.underlying334
 a229:=Tryz.isAgg334
 z229:=Tryz.sizeOf334
 v229:=Tryz.zeroValue334 }
open Go.Sort Go.RowKit in
theorem Tryz.slices_Sort_string (blk off cap:Nat) (ss:List (List UInt8)) (w:World) (hH:Holds encStr w blk off ss.toArray) (hblk:blk<w.heap.size) (hsz:ss.length<4611686018427387904) :
  Calls Tryz.prog 124 #[.slice (some ⟨blk,off,none⟩) ss.length cap] w fun e w' =>
   e=.returned (.tuple #[])∧∃n os,w'=grow (putRow encStr (Sort.ahead w n) blk off (ss.mergeSort fun x y=>decide (x≤y)).toArray) os:=Any.slices_Sort_string Tryz.lays190 blk off cap ss w hH hblk hsz
open Go.RowKit Go.Sort in
theorem Tryz.slices_Sort_string_none (p:Option Addr) (cap:Nat) (w:World) :
  Calls Tryz.prog 124 #[.slice p 0 cap] w fun e w'=>e=.returned (.tuple #[])∧w'=w:=Any.slices_Sort_string_none Tryz.lays190 p cap w
end Go.Proofs
