/- Lemmas of this proof. No condition. -/
import Derived.Shelf.Sort.Plain
import Derived.Shelf.Slices.In.SortNone
import Derived.Test.YtognnffjdckalaaGreatDoorProg
/-
  DERIVED: THE SHELF's CONTRACTS AT THIS DUMP, IN PLAIN WORDS (tools/lay-plain.mjs out of 'TryzShelfE.lean', which tools/lay-shelf.mjs wrote): THE SAME DECLARATIONS UNDER THE SAME NAMES: 'import', 'namespace', 'open', 'def', 'theorem' AND NOTHING ELSE: no command of the shelf's: FOR A HAND-IN. Each laying: the table of numbers ('.._ren') and one theorem, a field a fact of the dump's own or the kernel's comparison; each contract: ONE APPLICATION.
-/
namespace Go.Proofs
open Go.Shelf
def Tryz.lays190_ren:Go.Shelf.Ren:=⟨fun|190=>139|125=>178|258=>177|128=>198|129=>199|302=>189|303=>190|304=>191|305=>192|306=>193|307=>194|308=>195|309=>196|310=>197|333=>220|329=>221|330=>222|334=>223|335=>224|336=>225|344=>241|n=>n,fun|31=>90|9=>9|3=>3|46=>222|0=>0|51=>166|53=>218|4=>4|183=>263|182=>262|131=>267|5=>5|218=>288|222=>292|228=>305|229=>78|n=>n,fun|n=>n⟩
theorem Tryz.lays190:Go.Proofs.Lays.n190 Tryz.prog Tryz.lays190_ren:={
 mixed:=by kernel_rfl
 f125:=Tryz.func178.trans (congrArg some (by kernel_rfl))
 f128:=Tryz.func198.trans (congrArg some (by kernel_rfl))
 f129:=Tryz.func199.trans (congrArg some (by kernel_rfl))
 f190:=Tryz.func139.trans (congrArg some (by kernel_rfl))
 f258:=Tryz.func177.trans (congrArg some (by kernel_rfl))
 f302:=Tryz.func189.trans (congrArg some (by kernel_rfl))
 f303:=Tryz.func190.trans (congrArg some (by kernel_rfl))
 f304:=Tryz.func191.trans (congrArg some (by kernel_rfl))
 f305:=Tryz.func192.trans (congrArg some (by kernel_rfl))
 f306:=Tryz.func193.trans (congrArg some (by kernel_rfl))
 f307:=Tryz.func194.trans (congrArg some (by kernel_rfl))
 f308:=Tryz.func195.trans (congrArg some (by kernel_rfl))
 f309:=Tryz.func196.trans (congrArg some (by kernel_rfl))
 f310:=Tryz.func197.trans (congrArg some (by kernel_rfl))
 f329:=Tryz.func221.trans (congrArg some (by kernel_rfl))
 f330:=Tryz.func222.trans (congrArg some (by kernel_rfl))
 f333:=Tryz.func220.trans (congrArg some (by kernel_rfl))
 f334:=Tryz.func223.trans (congrArg some (by kernel_rfl))
 f335:=Tryz.func224.trans (congrArg some (by kernel_rfl))
 f336:=Tryz.func225.trans (congrArg some (by kernel_rfl))
 f344:=Tryz.func241.trans (congrArg some (by kernel_rfl))
 t0:=Tryz.underlying0
 a0:=Tryz.isAgg0
 z0:=Tryz.sizeOf0
 v0:=Tryz.zeroValue0
 t3:=Tryz.underlying3
 a3:=Tryz.isAgg3
 z3:=Tryz.sizeOf3
 v3:=Tryz.zeroValue3
 t4:=Tryz.underlying4
 a4:=Tryz.isAgg4
 z4:=Tryz.sizeOf4
 v4:=Tryz.zeroValue4
 t5:=Tryz.underlying5
 a5:=Tryz.isAgg5
 z5:=Tryz.sizeOf5
 v5:=Tryz.zeroValue5
 t9:=Tryz.underlying9
 a9:=Tryz.isAgg9
 z9:=Tryz.sizeOf9
 v9:=Tryz.zeroValue9
 t31:=Tryz.underlying90
 a31:=Tryz.isAgg90
 z31:=Tryz.sizeOf90
 v31:=Tryz.zeroValue90
 t46:=Tryz.underlying222
 a46:=Tryz.isAgg222
 z46:=Tryz.sizeOf222
 v46:=Tryz.zeroValue222
 t51:=Tryz.underlying166
 a51:=Tryz.isAgg166
 z51:=Tryz.sizeOf166
 v51:=Tryz.zeroValue166
 t53:=Tryz.underlying218
 a53:=Tryz.isAgg218
 z53:=Tryz.sizeOf218
 v53:=Tryz.zeroValue218
 t131:=Tryz.underlying267
 a131:=Tryz.isAgg267
 z131:=Tryz.sizeOf267
 v131:=Tryz.zeroValue267
 t182:=Tryz.underlying262
 a182:=Tryz.isAgg262
 z182:=Tryz.sizeOf262
 v182:=Tryz.zeroValue262
 t183:=Tryz.underlying263
 a183:=Tryz.isAgg263
 z183:=Tryz.sizeOf263
 v183:=Tryz.zeroValue263
 t218:=Tryz.underlying288
 a218:=Tryz.isAgg288
 z218:=Tryz.sizeOf288
 v218:=Tryz.zeroValue288
 t222:=Tryz.underlying292
 a222:=Tryz.isAgg292
 z222:=Tryz.sizeOf292
 v222:=Tryz.zeroValue292
 t228:=Tryz.underlying305
 a228:=Tryz.isAgg305
 z228:=Tryz.sizeOf305
 v228:=Tryz.zeroValue305
 t229:=Tryz.underlying78
 a229:=Tryz.isAgg78
 z229:=Tryz.sizeOf78
 v229:=Tryz.zeroValue78 }
open Go.Sort Go.RowKit in
theorem Tryz.slices_Sort_string (blk off cap:Nat) (ss:List (List UInt8)) (w:World) (hH:Holds encStr w blk off ss.toArray) (hblk:blk<w.heap.size) (hsz:ss.length<4611686018427387904) :
  Calls Tryz.prog 139 #[.slice (some ⟨blk,off,none⟩) ss.length cap] w fun e w' =>
   e=.returned (.tuple #[])/\∃n os,w'=grow (putRow encStr (Sort.ahead w n) blk off (ss.mergeSort fun x y=>decide (x<=y)).toArray) os:=Any.slices_Sort_string Tryz.lays190 blk off cap ss w hH hblk hsz
open Go.RowKit Go.Sort in
theorem Tryz.slices_Sort_string_none (p:Option Addr) (cap:Nat) (w:World) :
  Calls Tryz.prog 139 #[.slice p 0 cap] w fun e w'=>e=.returned (.tuple #[])/\w'=w:=Any.slices_Sort_string_none Tryz.lays190 p cap w
end Go.Proofs
