/- Lemmas of this proof. No condition. -/
import Derived.Shelf.Sort.Plain
import Derived.Shelf.Slices.In.SortNone
import Derived.Test.YtfkcpballfhddaaGreatDoorProg
/-
  DERIVED: THE SHELF's CONTRACTS AT THIS DUMP, IN PLAIN WORDS (tools/lay-plain.mjs out of 'TryzShelfE.lean', which tools/lay-shelf.mjs wrote): THE SAME DECLARATIONS UNDER THE SAME NAMES: 'import', 'namespace', 'open', 'def', 'theorem' AND NOTHING ELSE: no command of the shelf's: FOR A HAND-IN. Each laying: the table of numbers ('.._ren') and one theorem, a field a fact of the dump's own or the kernel's comparison; each contract: ONE APPLICATION.
-/
namespace Go.Proofs
open Go.Shelf
def Tryz.lays190_ren:Go.Shelf.Ren:=⟨fun|190=>22|125=>43|258=>42|128=>72|129=>73|302=>63|303=>64|304=>65|305=>66|306=>67|307=>68|308=>69|309=>70|310=>71|333=>103|329=>104|330=>105|334=>106|335=>107|336=>108|344=>135|n=>n,fun|31=>24|9=>9|3=>3|46=>94|0=>0|51=>126|53=>128|4=>4|183=>120|182=>119|131=>80|5=>5|218=>152|222=>156|228=>186|229=>59|n=>n,fun|n=>n⟩
theorem Tryz.lays190:Go.Proofs.Lays.n190 Tryz.prog Tryz.lays190_ren:={
 mixed:=by kernel_rfl
 f125:=Tryz.func43.trans (congrArg some (by kernel_rfl))
 f128:=Tryz.func72.trans (congrArg some (by kernel_rfl))
 f129:=Tryz.func73.trans (congrArg some (by kernel_rfl))
 f190:=Tryz.func22.trans (congrArg some (by kernel_rfl))
 f258:=Tryz.func42.trans (congrArg some (by kernel_rfl))
 f302:=Tryz.func63.trans (congrArg some (by kernel_rfl))
 f303:=Tryz.func64.trans (congrArg some (by kernel_rfl))
 f304:=Tryz.func65.trans (congrArg some (by kernel_rfl))
 f305:=Tryz.func66.trans (congrArg some (by kernel_rfl))
 f306:=Tryz.func67.trans (congrArg some (by kernel_rfl))
 f307:=Tryz.func68.trans (congrArg some (by kernel_rfl))
 f308:=Tryz.func69.trans (congrArg some (by kernel_rfl))
 f309:=Tryz.func70.trans (congrArg some (by kernel_rfl))
 f310:=Tryz.func71.trans (congrArg some (by kernel_rfl))
 f329:=Tryz.func104.trans (congrArg some (by kernel_rfl))
 f330:=Tryz.func105.trans (congrArg some (by kernel_rfl))
 f333:=Tryz.func103.trans (congrArg some (by kernel_rfl))
 f334:=Tryz.func106.trans (congrArg some (by kernel_rfl))
 f335:=Tryz.func107.trans (congrArg some (by kernel_rfl))
 f336:=Tryz.func108.trans (congrArg some (by kernel_rfl))
 f344:=Tryz.func135.trans (congrArg some (by kernel_rfl))
 t0:=Tryz.underlying0
 a0:=Tryz.isAgg0
 z0:=Tryz.sizeOf0
 v0:=Tryz.zeroValue0
 t3:=Tryz.underlying3
 a3:=Tryz.isAgg3
 z3:=Tryz.sizeOf3
 v3:=Tryz.zeroValue3
 t4:=Tryz.underlying4
 a4:=Tryz.isAgg4
 z4:=Tryz.sizeOf4
 v4:=Tryz.zeroValue4
 t5:=Tryz.underlying5
 a5:=Tryz.isAgg5
 z5:=Tryz.sizeOf5
 v5:=Tryz.zeroValue5
 t9:=Tryz.underlying9
 a9:=Tryz.isAgg9
 z9:=Tryz.sizeOf9
 v9:=Tryz.zeroValue9
 t31:=Tryz.underlying24
 a31:=Tryz.isAgg24
 z31:=Tryz.sizeOf24
 v31:=Tryz.zeroValue24
 t46:=Tryz.underlying94
 a46:=Tryz.isAgg94
 z46:=Tryz.sizeOf94
 v46:=Tryz.zeroValue94
 t51:=Tryz.underlying126
 a51:=Tryz.isAgg126
 z51:=Tryz.sizeOf126
 v51:=Tryz.zeroValue126
 t53:=Tryz.underlying128
 a53:=Tryz.isAgg128
 z53:=Tryz.sizeOf128
 v53:=Tryz.zeroValue128
 t131:=Tryz.underlying80
 a131:=Tryz.isAgg80
 z131:=Tryz.sizeOf80
 v131:=Tryz.zeroValue80
 t182:=Tryz.underlying119
 a182:=Tryz.isAgg119
 z182:=Tryz.sizeOf119
 v182:=Tryz.zeroValue119
 t183:=Tryz.underlying120
 a183:=Tryz.isAgg120
 z183:=Tryz.sizeOf120
 v183:=Tryz.zeroValue120
 t218:=Tryz.underlying152
 a218:=Tryz.isAgg152
 z218:=Tryz.sizeOf152
 v218:=Tryz.zeroValue152
 t222:=Tryz.underlying156
 a222:=Tryz.isAgg156
 z222:=Tryz.sizeOf156
 v222:=Tryz.zeroValue156
 t228:=Tryz.underlying186
 a228:=Tryz.isAgg186
 z228:=Tryz.sizeOf186
 v228:=Tryz.zeroValue186
 t229:=Tryz.underlying59
 a229:=Tryz.isAgg59
 z229:=Tryz.sizeOf59
 v229:=Tryz.zeroValue59 }
open Go.Sort Go.RowKit in
theorem Tryz.slices_Sort_string (blk off cap:Nat) (ss:List (List UInt8)) (w:World) (hH:Holds encStr w blk off ss.toArray) (hblk:blk<w.heap.size) (hsz:ss.length<4611686018427387904) :
  Calls Tryz.prog 22 #[.slice (some ⟨blk,off,none⟩) ss.length cap] w fun e w' =>
   e=.returned (.tuple #[])/\∃n os,w'=grow (putRow encStr (Sort.ahead w n) blk off (ss.mergeSort fun x y=>decide (x<=y)).toArray) os:=Any.slices_Sort_string Tryz.lays190 blk off cap ss w hH hblk hsz
open Go.RowKit Go.Sort in
theorem Tryz.slices_Sort_string_none (p:Option Addr) (cap:Nat) (w:World) :
  Calls Tryz.prog 22 #[.slice p 0 cap] w fun e w'=>e=.returned (.tuple #[])/\w'=w:=Any.slices_Sort_string_none Tryz.lays190 p cap w
end Go.Proofs
