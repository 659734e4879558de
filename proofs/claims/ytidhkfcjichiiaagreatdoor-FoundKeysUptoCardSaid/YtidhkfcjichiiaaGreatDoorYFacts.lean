/- Closed facts on this seat's types and functions. Printed by a program (wip/tools/facts.py). No condition beyond each theorem's own. -/
import Derived.Test.YtidhkfcjichiiaaGreatDoorChecked
import Derived.Test.YtidhkfcjichiiaaGreatDoorAbSToSk
import Derived.Test.YtidhkfcjichiiaaGreatDoorAbXToY
set_option linter.unusedSimpArgs false
set_option linter.unusedVariables false
set_option linter.unusedSectionVars false
set_option maxRecDepth 100000
/-! Closed facts on this seat's types and functions. Printed by a program (wip/tools/facts.py). -/
namespace Go.Proofs.YtidhkfcjichiiaaGreatDoor
open Go Go.Ab
theorem laid:laidOutB Tryz.prog=true:=by kernel_rfl
theorem mixed:Tryz.prog.follows .mixedOrders=true:=by kernel_rfl
@[simp] theorem ty1:qD Tryz.prog 1=.func:=by kernel_rfl
@[simp] theorem po1:jX Tryz.prog 1=true:=by kernel_rfl
@[simp] theorem by1:Tryz.prog.bytesOf 1=8:=by kernel_rfl
@[simp] theorem ce1:Tryz.prog.cellsOf 1=1:=by kernel_rfl
@[simp] theorem zb1:zB Tryz.prog 1=true:=by kernel_rfl
@[simp] theorem zt1:zT Tryz.prog 1=.nilfn:=by kernel_rfl
@[simp] theorem ty3:qD Tryz.prog 3=.int .i64:=by kernel_rfl
@[simp] theorem po3:jX Tryz.prog 3=true:=by kernel_rfl
@[simp] theorem zb3:zB Tryz.prog 3=true:=by kernel_rfl
@[simp] theorem zt3:zT Tryz.prog 3=.i .i64 0:=by kernel_rfl
@[simp] theorem ty4:qD Tryz.prog 4=.bool:=by kernel_rfl
@[simp] theorem po4:jX Tryz.prog 4=true:=by kernel_rfl
@[simp] theorem zb4:zB Tryz.prog 4=true:=by kernel_rfl
@[simp] theorem zt4:zT Tryz.prog 4=.b false:=by kernel_rfl
@[simp] theorem cm4:JS Tryz.prog 8 4=true:=by kernel_rfl
@[simp] theorem ty5:qD Tryz.prog 5=.int .u8:=by kernel_rfl
@[simp] theorem po5:jX Tryz.prog 5=true:=by kernel_rfl
@[simp] theorem by5:Tryz.prog.bytesOf 5=1:=by kernel_rfl
@[simp] theorem ce5:Tryz.prog.cellsOf 5=1:=by kernel_rfl
@[simp] theorem zb5:zB Tryz.prog 5=true:=by kernel_rfl
@[simp] theorem zt5:zT Tryz.prog 5=.i .u8 0:=by kernel_rfl
@[simp] theorem ty9:qD Tryz.prog 9=.str:=by kernel_rfl
@[simp] theorem po9:jX Tryz.prog 9=true:=by kernel_rfl
@[simp] theorem by9:Tryz.prog.bytesOf 9=16:=by kernel_rfl
@[simp] theorem ce9:Tryz.prog.cellsOf 9=1:=by kernel_rfl
@[simp] theorem zb9:zB Tryz.prog 9=true:=by kernel_rfl
@[simp] theorem zt9:zT Tryz.prog 9=.s []:=by kernel_rfl
@[simp] theorem zuD:qD Tryz.prog 21=.int .i32:=by kernel_rfl
@[simp] theorem zrY:qD Tryz.prog 23=.struct [9,9]:=by kernel_rfl
@[simp] theorem zu6:zT Tryz.prog 23=.agg [.s [],.s []]:=by kernel_rfl
@[simp] theorem zrx:qD Tryz.prog 24=.slice 103:=by kernel_rfl
@[simp] theorem zuh:jX Tryz.prog 24=true:=by kernel_rfl
@[simp] theorem zse:qD Tryz.prog 25=.slice 9:=by kernel_rfl
@[simp] theorem zuo:jX Tryz.prog 25=true:=by kernel_rfl
@[simp] theorem zuB:Tryz.prog.cellsOf 25=1:=by kernel_rfl
@[simp] theorem zua:zB Tryz.prog 25=true:=by kernel_rfl
@[simp] theorem zuc:zT Tryz.prog 25=.sl .full []:=by kernel_rfl
@[simp] theorem zkh:qD Tryz.prog 27=.struct [23,9,24,25,25,25]:=by kernel_rfl
@[simp] theorem zuH:zB Tryz.prog 27=true:=by kernel_rfl
@[simp] theorem zut:zT Tryz.prog 27=.agg [zT Tryz.prog 23,.s [],.sl .full [],.sl .full [],.sl .full [],.sl .full []]:=by kernel_rfl
@[simp] theorem zmf:qD Tryz.prog 28=.slice 57:=by kernel_rfl
@[simp] theorem zub:qD Tryz.prog 32=.ptr:=by kernel_rfl
@[simp] theorem ztQ:qD Tryz.prog 33=.int .i64:=by kernel_rfl
@[simp] theorem zuy:jX Tryz.prog 33=true:=by kernel_rfl
@[simp] theorem ztN:JS Tryz.prog 8 33=true:=by kernel_rfl
@[simp] theorem ztT:qD Tryz.prog 38=.slice 63:=by kernel_rfl
@[simp] theorem zu9:jX Tryz.prog 38=true:=by kernel_rfl
@[simp] theorem zup:qD Tryz.prog 39=.slice 80:=by kernel_rfl
@[simp] theorem zu1:jX Tryz.prog 39=true:=by kernel_rfl
@[simp] theorem ztP:qD Tryz.prog 41=.struct [3,33,38,39]:=by kernel_rfl
@[simp] theorem zux:zB Tryz.prog 41=true:=by kernel_rfl
@[simp] theorem zuE:zT Tryz.prog 41=.agg [.i .i64 0,.i .i64 0,.sl .full [],.sl .full []]:=by kernel_rfl
@[simp] theorem ztS:qD Tryz.prog 48=.ptr:=by kernel_rfl
@[simp] theorem zCy:jX Tryz.prog 48=true:=by kernel_rfl
@[simp] theorem zCK:zB Tryz.prog 48=true:=by kernel_rfl
@[simp] theorem zCD:zT Tryz.prog 48=.nilptr:=by kernel_rfl
@[simp] theorem zCI:qD Tryz.prog 51=.map 9 9:=by kernel_rfl
@[simp] theorem zCH:jX Tryz.prog 51=true:=by kernel_rfl
@[simp] theorem zCS:zB Tryz.prog 51=true:=by kernel_rfl
@[simp] theorem zCR:zT Tryz.prog 51=.map none:=by kernel_rfl
@[simp] theorem zCz:qD Tryz.prog 53=.struct [3,9,9,33]:=by kernel_rfl
@[simp] theorem zCA:jX Tryz.prog 53=true:=by kernel_rfl
@[simp] theorem zCv:zB Tryz.prog 53=true:=by kernel_rfl
@[simp] theorem zCx:zT Tryz.prog 53=.agg [.i .i64 0,.s [],.s [],.i .i64 0]:=by kernel_rfl
@[simp] theorem zCM:qD Tryz.prog 57=.struct [9,4,9]:=by kernel_rfl
@[simp] theorem zCt:jX Tryz.prog 57=true:=by kernel_rfl
@[simp] theorem zCB:Tryz.prog.cellsOf 57=3:=by kernel_rfl
@[simp] theorem zCw:zB Tryz.prog 57=true:=by kernel_rfl
@[simp] theorem zCG:zT Tryz.prog 57=.agg [.s [],.b false,.s []]:=by kernel_rfl
@[simp] theorem zBr:qD Tryz.prog 63=.struct [9,9]:=by kernel_rfl
@[simp] theorem zCQ:jX Tryz.prog 63=true:=by kernel_rfl
@[simp] theorem zCN:Tryz.prog.bytesOf 63=32:=by kernel_rfl
@[simp] theorem zCs:Tryz.prog.cellsOf 63=2:=by kernel_rfl
@[simp] theorem zCE:zB Tryz.prog 63=true:=by kernel_rfl
@[simp] theorem zCL:zT Tryz.prog 63=.agg [.s [],.s []]:=by kernel_rfl
@[simp] theorem zCC:JS Tryz.prog 8 63=true:=by kernel_rfl
@[simp] theorem zuf:qD Tryz.prog 66=.arr 32 5:=by kernel_rfl
@[simp] theorem zuu:jX Tryz.prog 66=true:=by kernel_rfl
@[simp] theorem zuz:zB Tryz.prog 66=true:=by kernel_rfl
@[simp] theorem ztW:zT Tryz.prog 66=.agg (List.replicate 32 (.i .u8 0)):=by kernel_rfl
@[simp] theorem zxE:qD Tryz.prog 76=.struct [3,9,3]:=by kernel_rfl
@[simp] theorem zxH:zB Tryz.prog 76=true:=by kernel_rfl
@[simp] theorem zxG:zT Tryz.prog 76=.agg [.i .i64 0,.s [],.i .i64 0]:=by kernel_rfl
@[simp] theorem zxD:JS Tryz.prog 8 76=true:=by kernel_rfl
@[simp] theorem zCu:qD Tryz.prog 80=.struct [9,4,66]:=by kernel_rfl
@[simp] theorem zCO:jX Tryz.prog 80=true:=by kernel_rfl
@[simp] theorem zCJ:Tryz.prog.bytesOf 80=56:=by kernel_rfl
@[simp] theorem zCr:Tryz.prog.cellsOf 80=34:=by kernel_rfl
@[simp] theorem zCq:zB Tryz.prog 80=true:=by kernel_rfl
@[simp] theorem zCP:zT Tryz.prog 80=.agg [.s [],.b false,zT Tryz.prog 66]:=by kernel_rfl
@[simp] theorem zCF:JS Tryz.prog 8 80=true:=by kernel_rfl
@[simp] theorem zpE:qD Tryz.prog 101=.slice 25:=by kernel_rfl
@[simp] theorem ztv:qD Tryz.prog 103=.struct [9,9]:=by kernel_rfl
@[simp] theorem zt0:jX Tryz.prog 103=true:=by kernel_rfl
@[simp] theorem zBF:Tryz.prog.cellsOf 103=2:=by kernel_rfl
@[simp] theorem zBu:zB Tryz.prog 103=true:=by kernel_rfl
@[simp] theorem zCe:zT Tryz.prog 103=.agg [.s [],.s []]:=by kernel_rfl
@[simp] theorem zsJ:qD Tryz.prog 106=.func:=by kernel_rfl
@[simp] theorem zBH:jX Tryz.prog 106=true:=by kernel_rfl
@[simp] theorem zCg:qD Tryz.prog 109=.struct [48,25,106,51,39,9,4,33]:=by kernel_rfl
@[simp] theorem zC2:zB Tryz.prog 109=true:=by kernel_rfl
@[simp] theorem zCp:zT Tryz.prog 109=.agg [.nilptr,.sl .full [],.nilfn,.map none,.sl .full [],.s [],.b false,.i .i64 0]:=by kernel_rfl
@[simp] theorem zBI:qD Tryz.prog 119=.slice 130:=by kernel_rfl
@[simp] theorem zto:qD Tryz.prog 122=.map 9 57:=by kernel_rfl
@[simp] theorem zBE:jX Tryz.prog 122=true:=by kernel_rfl
@[simp] theorem zCn:qD Tryz.prog 123=.slice 1:=by kernel_rfl
@[simp] theorem zCc:jX Tryz.prog 123=true:=by kernel_rfl
@[simp] theorem zC5:qD Tryz.prog 125=.struct [123,24,9,122,9,4,53]:=by kernel_rfl
@[simp] theorem zBR:zB Tryz.prog 125=true:=by kernel_rfl
@[simp] theorem zBT:zT Tryz.prog 125=.agg [.sl .full [],.sl .full [],.s [],.map none,.s [],.b false,zT Tryz.prog 53]:=by kernel_rfl
@[simp] theorem ztj:qD Tryz.prog 127=.func:=by kernel_rfl
@[simp] theorem zsw:qD Tryz.prog 130=.struct [25,9]:=by kernel_rfl
@[simp] theorem zC8:jX Tryz.prog 130=true:=by kernel_rfl
@[simp] theorem zBS:Tryz.prog.cellsOf 130=2:=by kernel_rfl
@[simp] theorem ztg:zB Tryz.prog 130=true:=by kernel_rfl
@[simp] theorem zti:zT Tryz.prog 130=.agg [.sl .full [],.s []]:=by kernel_rfl
@[simp] theorem zCd:qD Tryz.prog 136=.func:=by kernel_rfl
@[simp] theorem zCm:qD Tryz.prog 141=.ptr:=by kernel_rfl
@[simp] theorem zBJ:qD Tryz.prog 143=.func:=by kernel_rfl
@[simp] theorem zBt:qD Tryz.prog 180=.ptr:=by kernel_rfl
@[simp] theorem ztp:qD Tryz.prog 185=.func:=by kernel_rfl
@[simp] theorem zCa:qD Tryz.prog 188=.map 9 4:=by kernel_rfl
@[simp] theorem zsD:qD Tryz.prog 193=.int .u32:=by kernel_rfl
@[simp] theorem zCi:jX Tryz.prog 193=true:=by kernel_rfl
@[simp] theorem zBW:qD Tryz.prog 195=.arr 8 193:=by kernel_rfl
@[simp] theorem zC3:jX Tryz.prog 195=true:=by kernel_rfl
@[simp] theorem zBB:zB Tryz.prog 195=true:=by kernel_rfl
@[simp] theorem zBQ:zT Tryz.prog 195=.agg (List.replicate 8 (.i .u32 0)):=by kernel_rfl
@[simp] theorem zCl:qD Tryz.prog 197=.slice 5:=by kernel_rfl
@[simp] theorem zBL:jX Tryz.prog 197=true:=by kernel_rfl
@[simp] theorem ztJ:qD Tryz.prog 198=.int .u64:=by kernel_rfl
@[simp] theorem zsE:jX Tryz.prog 198=true:=by kernel_rfl
@[simp] theorem zC7:Tryz.prog.cellsOf 198=1:=by kernel_rfl
@[simp] theorem ztk:qD Tryz.prog 200=.struct [195,197,198]:=by kernel_rfl
@[simp] theorem zBZ:zB Tryz.prog 200=true:=by kernel_rfl
@[simp] theorem zCh:zT Tryz.prog 200=.agg [zT Tryz.prog 195,.sl .full [],.i .u64 0]:=by kernel_rfl
@[simp] theorem zBD:qD Tryz.prog 216=.ptr:=by kernel_rfl
@[simp] theorem zBX:jX Tryz.prog 216=true:=by kernel_rfl
@[simp] theorem zBM:qD Tryz.prog 218=.struct [216,197]:=by kernel_rfl
@[simp] theorem zBx:zB Tryz.prog 218=true:=by kernel_rfl
@[simp] theorem zBv:zT Tryz.prog 218=.agg [.nilptr,.sl .full []]:=by kernel_rfl
@[simp] theorem zBY:qD Tryz.prog 220=.iface:=by kernel_rfl
@[simp] theorem zBy:qD Tryz.prog 232=.map 234 4:=by kernel_rfl
@[simp] theorem zC9:zB Tryz.prog 232=true:=by kernel_rfl
@[simp] theorem zBP:zT Tryz.prog 232=.map none:=by kernel_rfl
@[simp] theorem zBV:qD Tryz.prog 233=.func:=by kernel_rfl
@[simp] theorem zBw:zB Tryz.prog 233=true:=by kernel_rfl
@[simp] theorem zCo:zT Tryz.prog 233=.nilfn:=by kernel_rfl
@[simp] theorem zC1:qD Tryz.prog 234=.arr 2 3:=by kernel_rfl
@[simp] theorem zCf:zB Tryz.prog 234=true:=by kernel_rfl
@[simp] theorem zCk:zT Tryz.prog 234=.agg (List.replicate 2 (.i .i64 0)):=by kernel_rfl
@[simp] theorem zBK:qD Tryz.prog 244=.func:=by kernel_rfl
@[simp] theorem zBO:qD Tryz.prog 250=.int .u64:=by kernel_rfl
@[simp] theorem zC4:qD Tryz.prog 252=.arr 64 193:=by kernel_rfl
@[simp] theorem zBC:zB Tryz.prog 252=true:=by kernel_rfl
@[simp] theorem zCb:zT Tryz.prog 252=.agg (List.replicate 64 (.i .u32 0)):=by kernel_rfl
@[simp] theorem zBz:qD Tryz.prog 257=.func:=by kernel_rfl
@[simp] theorem zBG:qD Tryz.prog 308=.slice 310:=by kernel_rfl
@[simp] theorem zBA:qD Tryz.prog 310=.struct [3,3]:=by kernel_rfl
@[simp] theorem zC0:jX Tryz.prog 310=true:=by kernel_rfl
@[simp] theorem zCj:Tryz.prog.bytesOf 310=16:=by kernel_rfl
@[simp] theorem zC6:Tryz.prog.cellsOf 310=2:=by kernel_rfl
@[simp] theorem zBN:zB Tryz.prog 310=true:=by kernel_rfl
@[simp] theorem zBU:zT Tryz.prog 310=.agg [.i .i64 0,.i .i64 0]:=by kernel_rfl
end Go.Proofs.YtidhkfcjichiiaaGreatDoor
