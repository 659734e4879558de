/- Lemmas of this proof. No condition. -/
import Derived.Shelf.Sort.Plain
import Derived.Shelf.Slices.In.SortNone
import Derived.Test.YtdkieabmeiojjaaGreatDoorProg
/-
  DERIVED: THE SHELF's CONTRACTS AT THIS DUMP, IN PLAIN WORDS (tools/lay-plain.mjs out of 'TryzShelfE.lean', which tools/lay-shelf.mjs wrote): THE SAME DECLARATIONS UNDER THE SAME NAMES: 'import', 'namespace', 'open', 'def', 'theorem' AND NOTHING ELSE: no command of the shelf's: FOR A HAND-IN. Each laying: the table of numbers ('.._ren') and one theorem, a field a fact of the dump's own or the kernel's comparison; each contract: ONE APPLICATION.
-/
namespace Go.Proofs
open Go.Shelf
def Tryz.lays190_ren:Go.Shelf.Ren:=⟨fun|190=>33|125=>55|258=>54|128=>88|129=>89|302=>79|303=>80|304=>81|305=>82|306=>83|307=>84|308=>85|309=>86|310=>87|333=>124|329=>125|330=>126|334=>127|335=>128|336=>129|344=>159|n=>n,fun|31=>35|9=>9|3=>3|46=>114|0=>0|51=>152|53=>154|4=>4|183=>146|182=>145|131=>88|5=>5|218=>182|222=>186|228=>217|229=>57|n=>n,fun|n=>n⟩
theorem Tryz.lays190:Go.Proofs.Lays.n190 Tryz.prog Tryz.lays190_ren:={
 mixed:=by kernel_rfl
 f125:=Tryz.func55.trans (congrArg some (by kernel_rfl))
 f128:=Tryz.func88.trans (congrArg some (by kernel_rfl))
 f129:=Tryz.func89.trans (congrArg some (by kernel_rfl))
 f190:=Tryz.func33.trans (congrArg some (by kernel_rfl))
 f258:=Tryz.func54.trans (congrArg some (by kernel_rfl))
 f302:=Tryz.func79.trans (congrArg some (by kernel_rfl))
 f303:=Tryz.func80.trans (congrArg some (by kernel_rfl))
 f304:=Tryz.func81.trans (congrArg some (by kernel_rfl))
 f305:=Tryz.func82.trans (congrArg some (by kernel_rfl))
 f306:=Tryz.func83.trans (congrArg some (by kernel_rfl))
 f307:=Tryz.func84.trans (congrArg some (by kernel_rfl))
 f308:=Tryz.func85.trans (congrArg some (by kernel_rfl))
 f309:=Tryz.func86.trans (congrArg some (by kernel_rfl))
 f310:=Tryz.func87.trans (congrArg some (by kernel_rfl))
 f329:=Tryz.func125.trans (congrArg some (by kernel_rfl))
 f330:=Tryz.func126.trans (congrArg some (by kernel_rfl))
 f333:=Tryz.func124.trans (congrArg some (by kernel_rfl))
 f334:=Tryz.func127.trans (congrArg some (by kernel_rfl))
 f335:=Tryz.func128.trans (congrArg some (by kernel_rfl))
 f336:=Tryz.func129.trans (congrArg some (by kernel_rfl))
 f344:=Tryz.func159.trans (congrArg some (by kernel_rfl))
 t0:=Tryz.underlying0
 a0:=Tryz.isAgg0
 z0:=Tryz.sizeOf0
 v0:=Tryz.zeroValue0
 t3:=Tryz.underlying3
 a3:=Tryz.isAgg3
 z3:=Tryz.sizeOf3
 v3:=Tryz.zeroValue3
 t4:=Tryz.underlying4
 a4:=Tryz.isAgg4
 z4:=Tryz.sizeOf4
 v4:=Tryz.zeroValue4
 t5:=Tryz.underlying5
 a5:=Tryz.isAgg5
 z5:=Tryz.sizeOf5
 v5:=Tryz.zeroValue5
 t9:=Tryz.underlying9
 a9:=Tryz.isAgg9
 z9:=Tryz.sizeOf9
 v9:=Tryz.zeroValue9
 t31:=Tryz.underlying35
 a31:=Tryz.isAgg35
 z31:=Tryz.sizeOf35
 v31:=Tryz.zeroValue35
 t46:=Tryz.underlying114
 a46:=Tryz.isAgg114
 z46:=Tryz.sizeOf114
 v46:=Tryz.zeroValue114
 t51:=Tryz.underlying152
 a51:=Tryz.isAgg152
 z51:=Tryz.sizeOf152
 v51:=Tryz.zeroValue152
 t53:=Tryz.underlying154
 a53:=Tryz.isAgg154
 z53:=Tryz.sizeOf154
 v53:=Tryz.zeroValue154
 t131:=Tryz.underlying88
 a131:=Tryz.isAgg88
 z131:=Tryz.sizeOf88
 v131:=Tryz.zeroValue88
 t182:=Tryz.underlying145
 a182:=Tryz.isAgg145
 z182:=Tryz.sizeOf145
 v182:=Tryz.zeroValue145
 t183:=Tryz.underlying146
 a183:=Tryz.isAgg146
 z183:=Tryz.sizeOf146
 v183:=Tryz.zeroValue146
 t218:=Tryz.underlying182
 a218:=Tryz.isAgg182
 z218:=Tryz.sizeOf182
 v218:=Tryz.zeroValue182
 t222:=Tryz.underlying186
 a222:=Tryz.isAgg186
 z222:=Tryz.sizeOf186
 v222:=Tryz.zeroValue186
 t228:=Tryz.underlying217
 a228:=Tryz.isAgg217
 z228:=Tryz.sizeOf217
 v228:=Tryz.zeroValue217
 t229:=Tryz.underlying57
 a229:=Tryz.isAgg57
 z229:=Tryz.sizeOf57
 v229:=Tryz.zeroValue57 }
open Go.Sort Go.RowKit in
theorem Tryz.slices_Sort_string (blk off cap:Nat) (ss:List (List UInt8)) (w:World) (hH:Holds encStr w blk off ss.toArray) (hblk:blk<w.heap.size) (hsz:ss.length<4611686018427387904) :
  Calls Tryz.prog 33 #[.slice (some ⟨blk,off,none⟩) ss.length cap] w fun e w' =>
   e=.returned (.tuple #[])/\∃n os,w'=grow (putRow encStr (Sort.ahead w n) blk off (ss.mergeSort fun x y=>decide (x<=y)).toArray) os:=Any.slices_Sort_string Tryz.lays190 blk off cap ss w hH hblk hsz
open Go.RowKit Go.Sort in
theorem Tryz.slices_Sort_string_none (p:Option Addr) (cap:Nat) (w:World) :
  Calls Tryz.prog 33 #[.slice p 0 cap] w fun e w'=>e=.returned (.tuple #[])/\w'=w:=Any.slices_Sort_string_none Tryz.lays190 p cap w
end Go.Proofs
