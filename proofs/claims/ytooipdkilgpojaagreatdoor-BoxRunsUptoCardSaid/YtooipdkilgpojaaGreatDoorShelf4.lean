/- Lemmas of this proof. No condition beyond each theorem's own. -/
import Derived.Shelf.Lays
import Derived.Shelf.Strings.Search3
import Derived.Test.YtooipdkilgpojaaGreatDoorProg
set_option linter.unusedSimpArgs false
set_option linter.unusedVariables false
set_option linter.unusedSectionVars false
/-
  DERIVED: THE SHELF's CONTRACTS AT THIS DUMP, IN PLAIN WORDS (tools/lay-plain.mjs out of 'TryzShelfD.lean', which tools/lay-shelf.mjs wrote): THE SAME DECLARATIONS UNDER THE SAME NAMES: 'import', 'namespace', 'open', 'def', 'theorem' AND NOTHING ELSE: no command of the shelf's: FOR A HAND-IN. Each laying: the table of numbers ('.._ren') and one theorem, a field a fact of the dump's own or the kernel's comparison; each contract: ONE APPLICATION.
-/
namespace Go.Proofs
open Go.Shelf
def Tryz.lays143_ren:Go.Shelf.Ren:=⟨fun|143=>123|219=>167|217=>208|225=>209|224=>210|267=>211|266=>231|314=>232|n=>n,fun|9=>9|3=>3|4=>4|5=>5|46=>208|146=>282|51=>174|n=>n,fun|1=>0|n=>n⟩
theorem Tryz.lays143:Go.Proofs.Lays.n143 Tryz.prog Tryz.lays143_ren:={
 mixed:=by kernel_rfl
 f143:=Tryz.func123.trans (congrArg some (by kernel_rfl))
 f217:=Tryz.func208.trans (congrArg some (by kernel_rfl))
 f219:=Tryz.func167.trans (congrArg some (by kernel_rfl))
 f224:=Tryz.func210.trans (congrArg some (by kernel_rfl))
 f225:=Tryz.func209.trans (congrArg some (by kernel_rfl))
 f266:=Tryz.func231.trans (congrArg some (by kernel_rfl))
 f267:=Tryz.func211.trans (congrArg some (by kernel_rfl))
 f314:=Tryz.func232.trans (congrArg some (by kernel_rfl))
 t3:=Tryz.underlying3
 a3:=Tryz.isAgg3
 z3:=Tryz.sizeOf3
 v3:=Tryz.zeroValue3
 t4:=Tryz.underlying4
 a4:=Tryz.isAgg4
 z4:=Tryz.sizeOf4
 v4:=Tryz.zeroValue4
 t5:=Tryz.underlying5
 a5:=Tryz.isAgg5
 z5:=Tryz.sizeOf5
 v5:=Tryz.zeroValue5
 t9:=Tryz.underlying9
 a9:=Tryz.isAgg9
 z9:=Tryz.sizeOf9
 v9:=Tryz.zeroValue9
 t46:=Tryz.underlying208
 a46:=Tryz.isAgg208
 z46:=Tryz.sizeOf208
 v46:=Tryz.zeroValue208
 t51:=Tryz.underlying174
 a51:=Tryz.isAgg174
 z51:=Tryz.sizeOf174
 v51:=Tryz.zeroValue174
 t146:=Tryz.underlying282
 a146:=Tryz.isAgg282
 z146:=Tryz.sizeOf282
 v146:=Tryz.zeroValue282
 g1:=by kernel_rfl }
open Go.RowKit Go.Lib in
theorem Tryz.strings_Index (s sub:ByteArray) (m:Int) (w:World) (hs:s.size<4294967281) (hm:w.cell? ⟨0,0,none⟩=some (.int .i64 m)) :
  Calls Tryz.prog 123 #[.string s,.string sub] w fun e w'=>e=.returned (.int .i64 (Lib.index s.data.toList sub.data.toList))∧w'=w:=Any.strings_Index Tryz.lays143 s sub m w hs hm
def Tryz.lays144_ren:Go.Shelf.Ren:=⟨fun|144=>88|143=>123|219=>167|217=>208|225=>209|224=>210|267=>211|266=>231|314=>232|n=>n,fun|9=>9|4=>4|3=>3|5=>5|46=>208|146=>282|51=>174|n=>n,fun|1=>0|n=>n⟩
theorem Tryz.lays144:Go.Proofs.Lays.n144 Tryz.prog Tryz.lays144_ren:={
 mixed:=by kernel_rfl
 f143:=Tryz.func123.trans (congrArg some (by kernel_rfl))
 f144:=Tryz.func88.trans (congrArg some (by kernel_rfl))
 f217:=Tryz.func208.trans (congrArg some (by kernel_rfl))
 f219:=Tryz.func167.trans (congrArg some (by kernel_rfl))
 f224:=Tryz.func210.trans (congrArg some (by kernel_rfl))
 f225:=Tryz.func209.trans (congrArg some (by kernel_rfl))
 f266:=Tryz.func231.trans (congrArg some (by kernel_rfl))
 f267:=Tryz.func211.trans (congrArg some (by kernel_rfl))
 f314:=Tryz.func232.trans (congrArg some (by kernel_rfl))
 t3:=Tryz.underlying3
 a3:=Tryz.isAgg3
 z3:=Tryz.sizeOf3
 v3:=Tryz.zeroValue3
 t4:=Tryz.underlying4
 a4:=Tryz.isAgg4
 z4:=Tryz.sizeOf4
 v4:=Tryz.zeroValue4
 t5:=Tryz.underlying5
 a5:=Tryz.isAgg5
 z5:=Tryz.sizeOf5
 v5:=Tryz.zeroValue5
 t9:=Tryz.underlying9
 a9:=Tryz.isAgg9
 z9:=Tryz.sizeOf9
 v9:=Tryz.zeroValue9
 t46:=Tryz.underlying208
 a46:=Tryz.isAgg208
 z46:=Tryz.sizeOf208
 v46:=Tryz.zeroValue208
 t51:=Tryz.underlying174
 a51:=Tryz.isAgg174
 z51:=Tryz.sizeOf174
 v51:=Tryz.zeroValue174
 t146:=Tryz.underlying282
 a146:=Tryz.isAgg282
 z146:=Tryz.sizeOf282
 v146:=Tryz.zeroValue282
 g1:=by kernel_rfl }
open Go.RowKit Go.Lib in
theorem Tryz.strings_Contains (s sub:ByteArray) (m:Int) (w:World) (hs:s.size<4294967281) (hm:w.cell? ⟨0,0,none⟩=some (.int .i64 m)) :
  Calls Tryz.prog 88 #[.string s,.string sub] w fun e w'=>e=.returned (.bool (Lib.contains s.data.toList sub.data.toList))∧w'=w:=Any.strings_Contains Tryz.lays144 s sub m w hs hm
end Go.Proofs
