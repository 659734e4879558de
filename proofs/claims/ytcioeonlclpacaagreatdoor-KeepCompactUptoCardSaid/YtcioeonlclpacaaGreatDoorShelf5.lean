/- Lemmas of this proof. No condition beyond each theorem's own. -/
import Derived.Shelf.Lays
import Derived.Shelf.Sort.Plain
import Derived.Shelf.Slices.In.SortNone
import Derived.Test.YtcioeonlclpacaaGreatDoorProg
set_option linter.unusedSimpArgs false
set_option linter.unusedVariables false
set_option linter.unusedSectionVars false
/-
  DERIVED: THE SHELF's CONTRACTS AT THIS DUMP, IN PLAIN WORDS (tools/lay-plain.mjs out of 'TryzShelfE.lean', which tools/lay-shelf.mjs wrote): THE SAME DECLARATIONS UNDER THE SAME NAMES: 'import', 'namespace', 'open', 'def', 'theorem' AND NOTHING ELSE: no command of the shelf's: FOR A HAND-IN. Each laying: the table of numbers ('.._ren') and one theorem, a field a fact of the dump's own or the kernel's comparison; each contract: ONE APPLICATION.
-/
namespace Go.Proofs
open Go.Shelf
def Tryz.lays190_ren:Go.Shelf.Ren:=⟨fun|190=>166|125=>175|258=>192|128=>205|129=>206|302=>216|303=>217|304=>218|305=>219|306=>220|307=>221|308=>222|309=>223|310=>224|333=>241|329=>231|330=>232|334=>242|335=>243|336=>244|344=>255|n=>n,fun|31=>34|9=>9|3=>3|46=>232|0=>0|51=>170|53=>228|4=>4|183=>273|182=>272|131=>277|5=>5|218=>298|222=>302|228=>318|229=>59|n=>n,fun|n=>n⟩
theorem Tryz.lays190:Go.Proofs.Lays.n190 Tryz.prog Tryz.lays190_ren:={
 mixed:=by kernel_rfl
 f125:=Tryz.func175.trans (congrArg some (by kernel_rfl))
 f128:=Tryz.func205.trans (congrArg some (by kernel_rfl))
 f129:=Tryz.func206.trans (congrArg some (by kernel_rfl))
 f190:=Tryz.func166.trans (congrArg some (by kernel_rfl))
 f258:=Tryz.func192.trans (congrArg some (by kernel_rfl))
 f302:=Tryz.func216.trans (congrArg some (by kernel_rfl))
 f303:=Tryz.func217.trans (congrArg some (by kernel_rfl))
 f304:=Tryz.func218.trans (congrArg some (by kernel_rfl))
 f305:=Tryz.func219.trans (congrArg some (by kernel_rfl))
 f306:=Tryz.func220.trans (congrArg some (by kernel_rfl))
 f307:=Tryz.func221.trans (congrArg some (by kernel_rfl))
 f308:=Tryz.func222.trans (congrArg some (by kernel_rfl))
 f309:=Tryz.func223.trans (congrArg some (by kernel_rfl))
 f310:=Tryz.func224.trans (congrArg some (by kernel_rfl))
 f329:=Tryz.func231.trans (congrArg some (by kernel_rfl))
 f330:=Tryz.func232.trans (congrArg some (by kernel_rfl))
 f333:=Tryz.func241.trans (congrArg some (by kernel_rfl))
 f334:=Tryz.func242.trans (congrArg some (by kernel_rfl))
 f335:=Tryz.func243.trans (congrArg some (by kernel_rfl))
 f336:=Tryz.func244.trans (congrArg some (by kernel_rfl))
 f344:=Tryz.func255.trans (congrArg some (by kernel_rfl))
 t0:=Tryz.underlying0
 a0:=Tryz.isAgg0
 z0:=Tryz.sizeOf0
 v0:=Tryz.zeroValue0
 t3:=Tryz.underlying3
 a3:=Tryz.isAgg3
 z3:=Tryz.sizeOf3
 v3:=Tryz.zeroValue3
 t4:=Tryz.underlying4
 a4:=Tryz.isAgg4
 z4:=Tryz.sizeOf4
 v4:=Tryz.zeroValue4
 t5:=Tryz.underlying5
 a5:=Tryz.isAgg5
 z5:=Tryz.sizeOf5
 v5:=Tryz.zeroValue5
 t9:=Tryz.underlying9
 a9:=Tryz.isAgg9
 z9:=Tryz.sizeOf9
 v9:=Tryz.zeroValue9
 t31:=Tryz.underlying34
 a31:=Tryz.isAgg34
 z31:=Tryz.sizeOf34
 v31:=Tryz.zeroValue34
 t46:=Tryz.underlying232
 a46:=Tryz.isAgg232
 z46:=Tryz.sizeOf232
 v46:=Tryz.zeroValue232
 t51:=Tryz.underlying170
 a51:=Tryz.isAgg170
 z51:=Tryz.sizeOf170
 v51:=Tryz.zeroValue170
 t53:=Tryz.underlying228
 a53:=Tryz.isAgg228
 z53:=Tryz.sizeOf228
 v53:=Tryz.zeroValue228
 t131:=Tryz.underlying277
 a131:=Tryz.isAgg277
 z131:=Tryz.sizeOf277
 v131:=Tryz.zeroValue277
 t182:=Tryz.underlying272
 a182:=Tryz.isAgg272
 z182:=Tryz.sizeOf272
 v182:=Tryz.zeroValue272
 t183:=Tryz.underlying273
 a183:=Tryz.isAgg273
 z183:=Tryz.sizeOf273
 v183:=Tryz.zeroValue273
 t218:=Tryz.underlying298
 a218:=Tryz.isAgg298
 z218:=Tryz.sizeOf298
 v218:=Tryz.zeroValue298
 t222:=Tryz.underlying302
 a222:=Tryz.isAgg302
 z222:=Tryz.sizeOf302
 v222:=Tryz.zeroValue302
 t228:=Tryz.underlying318
 a228:=Tryz.isAgg318
 z228:=Tryz.sizeOf318
 v228:=Tryz.zeroValue318
 t229:=Tryz.underlying59
 a229:=Tryz.isAgg59
 z229:=Tryz.sizeOf59
 v229:=Tryz.zeroValue59 }
open Go.Sort Go.RowKit in
theorem Tryz.slices_Sort_string (blk off cap:Nat) (ss:List (List UInt8)) (w:World) (hH:Holds encStr w blk off ss.toArray) (hblk:blk<w.heap.size) (hsz:ss.length<4611686018427387904) :
  Calls Tryz.prog 166 #[.slice (some ⟨blk,off,none⟩) ss.length cap] w fun e w' =>
   e=.returned (.tuple #[])∧∃n os,w'=grow (putRow encStr (Sort.ahead w n) blk off (ss.mergeSort fun x y=>decide (x≤y)).toArray) os:=Any.slices_Sort_string Tryz.lays190 blk off cap ss w hH hblk hsz
open Go.RowKit Go.Sort in
theorem Tryz.slices_Sort_string_none (p:Option Addr) (cap:Nat) (w:World) :
  Calls Tryz.prog 166 #[.slice p 0 cap] w fun e w'=>e=.returned (.tuple #[])∧w'=w:=Any.slices_Sort_string_none Tryz.lays190 p cap w
end Go.Proofs
