/- Lemmas of this proof. No condition beyond each theorem's own. -/
import Derived.Shelf.Lays
import Derived.Shelf.Sort.Plain
import Derived.Shelf.Slices.In.SortNone
import Derived.Test.YthgocigdldgpgaaGreatDoorProg
set_option linter.unusedSimpArgs false
set_option linter.unusedVariables false
set_option linter.unusedSectionVars false
/-
  DERIVED: THE SHELF's CONTRACTS AT THIS DUMP, IN PLAIN WORDS (tools/lay-plain.mjs out of 'TryzShelfE.lean', which tools/lay-shelf.mjs wrote): THE SAME DECLARATIONS UNDER THE SAME NAMES: 'import', 'namespace', 'open', 'def', 'theorem' AND NOTHING ELSE: no command of the shelf's: FOR A HAND-IN. Each laying: the table of numbers ('.._ren') and one theorem, a field a fact of the dump's own or the kernel's comparison; each contract: ONE APPLICATION.
-/
namespace Go.Proofs
open Go.Shelf
def Tryz.lays190_ren:Go.Shelf.Ren:=⟨fun|190=>101|125=>140|258=>139|128=>190|129=>191|302=>181|303=>182|304=>183|305=>184|306=>185|307=>186|308=>187|309=>188|310=>189|333=>222|329=>223|330=>224|334=>225|335=>226|336=>227|344=>245|n=>n,fun|31=>25|9=>9|3=>3|46=>207|0=>0|51=>185|53=>200|4=>4|183=>248|182=>247|131=>210|5=>5|218=>271|222=>275|228=>290|229=>291|n=>n,fun|n=>n⟩
theorem Tryz.lays190:Go.Proofs.Lays.n190 Tryz.prog Tryz.lays190_ren:={
 mixed:=by kernel_rfl
 f125:=Tryz.func140.trans (congrArg some (by kernel_rfl))
 f128:=Tryz.func190.trans (congrArg some (by kernel_rfl))
 f129:=Tryz.func191.trans (congrArg some (by kernel_rfl))
 f190:=Tryz.func101.trans (congrArg some (by kernel_rfl))
 f258:=Tryz.func139.trans (congrArg some (by kernel_rfl))
 f302:=Tryz.func181.trans (congrArg some (by kernel_rfl))
 f303:=Tryz.func182.trans (congrArg some (by kernel_rfl))
 f304:=Tryz.func183.trans (congrArg some (by kernel_rfl))
 f305:=Tryz.func184.trans (congrArg some (by kernel_rfl))
 f306:=Tryz.func185.trans (congrArg some (by kernel_rfl))
 f307:=Tryz.func186.trans (congrArg some (by kernel_rfl))
 f308:=Tryz.func187.trans (congrArg some (by kernel_rfl))
 f309:=Tryz.func188.trans (congrArg some (by kernel_rfl))
 f310:=Tryz.func189.trans (congrArg some (by kernel_rfl))
 f329:=Tryz.func223.trans (congrArg some (by kernel_rfl))
 f330:=Tryz.func224.trans (congrArg some (by kernel_rfl))
 f333:=Tryz.func222.trans (congrArg some (by kernel_rfl))
 f334:=Tryz.func225.trans (congrArg some (by kernel_rfl))
 f335:=Tryz.func226.trans (congrArg some (by kernel_rfl))
 f336:=Tryz.func227.trans (congrArg some (by kernel_rfl))
 f344:=Tryz.func245.trans (congrArg some (by kernel_rfl))
 t0:=Tryz.underlying0
 a0:=Tryz.isAgg0
 z0:=Tryz.sizeOf0
 v0:=Tryz.zeroValue0
 t3:=Tryz.underlying3
 a3:=Tryz.isAgg3
 z3:=Tryz.sizeOf3
 v3:=Tryz.zeroValue3
 t4:=Tryz.underlying4
 a4:=Tryz.isAgg4
 z4:=Tryz.sizeOf4
 v4:=Tryz.zeroValue4
 t5:=Tryz.underlying5
 a5:=Tryz.isAgg5
 z5:=Tryz.sizeOf5
 v5:=Tryz.zeroValue5
 t9:=Tryz.underlying9
 a9:=Tryz.isAgg9
 z9:=Tryz.sizeOf9
 v9:=Tryz.zeroValue9
 t31:=Tryz.underlying25
 a31:=Tryz.isAgg25
 z31:=Tryz.sizeOf25
 v31:=Tryz.zeroValue25
 t46:=Tryz.underlying207
 a46:=Tryz.isAgg207
 z46:=Tryz.sizeOf207
 v46:=Tryz.zeroValue207
 t51:=Tryz.underlying185
 a51:=Tryz.isAgg185
 z51:=Tryz.sizeOf185
 v51:=Tryz.zeroValue185
 t53:=Tryz.underlying200
 a53:=Tryz.isAgg200
 z53:=Tryz.sizeOf200
 v53:=Tryz.zeroValue200
 t131:=Tryz.underlying210
 a131:=Tryz.isAgg210
 z131:=Tryz.sizeOf210
 v131:=Tryz.zeroValue210
 t182:=Tryz.underlying247
 a182:=Tryz.isAgg247
 z182:=Tryz.sizeOf247
 v182:=Tryz.zeroValue247
 t183:=Tryz.underlying248
 a183:=Tryz.isAgg248
 z183:=Tryz.sizeOf248
 v183:=Tryz.zeroValue248
 t218:=Tryz.underlying271
 a218:=Tryz.isAgg271
 z218:=Tryz.sizeOf271
 v218:=Tryz.zeroValue271
 t222:=Tryz.underlying275
 a222:=Tryz.isAgg275
 z222:=Tryz.sizeOf275
 v222:=Tryz.zeroValue275
 t228:=Tryz.underlying290
 a228:=Tryz.isAgg290
 z228:=Tryz.sizeOf290
 v228:=Tryz.zeroValue290
 t229:=Tryz.underlying291
 a229:=Tryz.isAgg291
 z229:=Tryz.sizeOf291
 v229:=Tryz.zeroValue291 }
open Go.Sort Go.RowKit in
theorem Tryz.slices_Sort_string (blk off cap:Nat) (ss:List (List UInt8)) (w:World) (hH:Holds encStr w blk off ss.toArray) (hblk:blk<w.heap.size) (hsz:ss.length<4611686018427387904) :
  Calls Tryz.prog 101 #[.slice (some ⟨blk,off,none⟩) ss.length cap] w fun e w' =>
   e=.returned (.tuple #[])∧∃n os,w'=grow (putRow encStr (Sort.ahead w n) blk off (ss.mergeSort fun x y=>decide (x≤y)).toArray) os:=Any.slices_Sort_string Tryz.lays190 blk off cap ss w hH hblk hsz
open Go.RowKit Go.Sort in
theorem Tryz.slices_Sort_string_none (p:Option Addr) (cap:Nat) (w:World) :
  Calls Tryz.prog 101 #[.slice p 0 cap] w fun e w'=>e=.returned (.tuple #[])∧w'=w:=Any.slices_Sort_string_none Tryz.lays190 p cap w
end Go.Proofs
