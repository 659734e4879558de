/- Closed facts on this seat's types and functions. Printed by a program (wip/tools/facts.py). No condition beyond each theorem's own. -/
import Derived.Test.YtooipdkilgpojaaGreatDoorChecked
import Derived.Test.YtooipdkilgpojaaGreatDoorAbSToSk
import Derived.Test.YtooipdkilgpojaaGreatDoorAbXToY
set_option linter.unusedSimpArgs false
set_option linter.unusedVariables false
set_option linter.unusedSectionVars false
set_option maxRecDepth 100000
/-! Closed facts on this seat's types and functions. Printed by a program (wip/tools/facts.py). -/
namespace Go.Proofs.YtooipdkilgpojaaGreatDoor
open Go Go.Ab
theorem laid:laidOutB Tryz.prog=true:=by kernel_rfl
theorem mixed:Tryz.prog.follows .mixedOrders=true:=by kernel_rfl
@[simp] theorem ty1:qD Tryz.prog 1=.func:=by kernel_rfl
@[simp] theorem po1:jX Tryz.prog 1=true:=by kernel_rfl
@[simp] theorem by1:Tryz.prog.bytesOf 1=8:=by kernel_rfl
@[simp] theorem ce1:Tryz.prog.cellsOf 1=1:=by kernel_rfl
@[simp] theorem zb1:zB Tryz.prog 1=true:=by kernel_rfl
@[simp] theorem zt1:zT Tryz.prog 1=.nilfn:=by kernel_rfl
@[simp] theorem ty3:qD Tryz.prog 3=.int .i64:=by kernel_rfl
@[simp] theorem po3:jX Tryz.prog 3=true:=by kernel_rfl
@[simp] theorem zb3:zB Tryz.prog 3=true:=by kernel_rfl
@[simp] theorem zt3:zT Tryz.prog 3=.i .i64 0:=by kernel_rfl
@[simp] theorem ty4:qD Tryz.prog 4=.bool:=by kernel_rfl
@[simp] theorem po4:jX Tryz.prog 4=true:=by kernel_rfl
@[simp] theorem by4:Tryz.prog.bytesOf 4=1:=by kernel_rfl
@[simp] theorem zb4:zB Tryz.prog 4=true:=by kernel_rfl
@[simp] theorem zt4:zT Tryz.prog 4=.b false:=by kernel_rfl
@[simp] theorem cm4:JS Tryz.prog 8 4=true:=by kernel_rfl
@[simp] theorem ty5:qD Tryz.prog 5=.int .u8:=by kernel_rfl
@[simp] theorem po5:jX Tryz.prog 5=true:=by kernel_rfl
@[simp] theorem by5:Tryz.prog.bytesOf 5=1:=by kernel_rfl
@[simp] theorem ce5:Tryz.prog.cellsOf 5=1:=by kernel_rfl
@[simp] theorem zb5:zB Tryz.prog 5=true:=by kernel_rfl
@[simp] theorem zt5:zT Tryz.prog 5=.i .u8 0:=by kernel_rfl
@[simp] theorem ty9:qD Tryz.prog 9=.str:=by kernel_rfl
@[simp] theorem po9:jX Tryz.prog 9=true:=by kernel_rfl
@[simp] theorem by9:Tryz.prog.bytesOf 9=16:=by kernel_rfl
@[simp] theorem ce9:Tryz.prog.cellsOf 9=1:=by kernel_rfl
@[simp] theorem zb9:zB Tryz.prog 9=true:=by kernel_rfl
@[simp] theorem zt9:zT Tryz.prog 9=.s []:=by kernel_rfl
@[simp] theorem cm9:JS Tryz.prog 8 9=true:=by kernel_rfl
@[simp] theorem zuD:qD Tryz.prog 21=.int .i32:=by kernel_rfl
@[simp] theorem zrY:qD Tryz.prog 23=.struct [9,9]:=by kernel_rfl
@[simp] theorem zu6:zT Tryz.prog 23=.agg [.s [],.s []]:=by kernel_rfl
@[simp] theorem zrx:qD Tryz.prog 24=.slice 85:=by kernel_rfl
@[simp] theorem zuh:jX Tryz.prog 24=true:=by kernel_rfl
@[simp] theorem zse:qD Tryz.prog 25=.slice 9:=by kernel_rfl
@[simp] theorem zuo:jX Tryz.prog 25=true:=by kernel_rfl
@[simp] theorem zuB:Tryz.prog.cellsOf 25=1:=by kernel_rfl
@[simp] theorem zua:zB Tryz.prog 25=true:=by kernel_rfl
@[simp] theorem zuc:zT Tryz.prog 25=.sl .full []:=by kernel_rfl
@[simp] theorem zkh:qD Tryz.prog 27=.struct [23,9,24,25,25,25]:=by kernel_rfl
@[simp] theorem zuH:zB Tryz.prog 27=true:=by kernel_rfl
@[simp] theorem zut:zT Tryz.prog 27=.agg [zT Tryz.prog 23,.s [],.sl .full [],.sl .full [],.sl .full [],.sl .full []]:=by kernel_rfl
@[simp] theorem zmf:qD Tryz.prog 28=.slice 57:=by kernel_rfl
@[simp] theorem zub:qD Tryz.prog 32=.ptr:=by kernel_rfl
@[simp] theorem ztQ:qD Tryz.prog 33=.int .i64:=by kernel_rfl
@[simp] theorem zuy:jX Tryz.prog 33=true:=by kernel_rfl
@[simp] theorem ztN:JS Tryz.prog 8 33=true:=by kernel_rfl
@[simp] theorem ztT:qD Tryz.prog 38=.slice 63:=by kernel_rfl
@[simp] theorem zu9:jX Tryz.prog 38=true:=by kernel_rfl
@[simp] theorem zup:qD Tryz.prog 39=.slice 79:=by kernel_rfl
@[simp] theorem zu1:jX Tryz.prog 39=true:=by kernel_rfl
@[simp] theorem ztP:qD Tryz.prog 41=.struct [3,33,38,39]:=by kernel_rfl
@[simp] theorem zux:zB Tryz.prog 41=true:=by kernel_rfl
@[simp] theorem zuE:zT Tryz.prog 41=.agg [.i .i64 0,.i .i64 0,.sl .full [],.sl .full []]:=by kernel_rfl
@[simp] theorem ztS:qD Tryz.prog 48=.ptr:=by kernel_rfl
@[simp] theorem zCy:jX Tryz.prog 48=true:=by kernel_rfl
@[simp] theorem zCK:zB Tryz.prog 48=true:=by kernel_rfl
@[simp] theorem zCD:zT Tryz.prog 48=.nilptr:=by kernel_rfl
@[simp] theorem zCI:qD Tryz.prog 51=.map 9 9:=by kernel_rfl
@[simp] theorem zCH:jX Tryz.prog 51=true:=by kernel_rfl
@[simp] theorem zCz:qD Tryz.prog 53=.struct [3,9,9,33]:=by kernel_rfl
@[simp] theorem zCA:jX Tryz.prog 53=true:=by kernel_rfl
@[simp] theorem zIH:Tryz.prog.bytesOf 53=48:=by kernel_rfl
@[simp] theorem zIG:Tryz.prog.cellsOf 53=4:=by kernel_rfl
@[simp] theorem zCv:zB Tryz.prog 53=true:=by kernel_rfl
@[simp] theorem zCx:zT Tryz.prog 53=.agg [.i .i64 0,.s [],.s [],.i .i64 0]:=by kernel_rfl
@[simp] theorem zCM:qD Tryz.prog 57=.struct [9,4,9]:=by kernel_rfl
@[simp] theorem zCt:jX Tryz.prog 57=true:=by kernel_rfl
@[simp] theorem zGj:Tryz.prog.bytesOf 57=40:=by kernel_rfl
@[simp] theorem zCB:Tryz.prog.cellsOf 57=3:=by kernel_rfl
@[simp] theorem zCw:zB Tryz.prog 57=true:=by kernel_rfl
@[simp] theorem zCG:zT Tryz.prog 57=.agg [.s [],.b false,.s []]:=by kernel_rfl
@[simp] theorem zBr:qD Tryz.prog 63=.struct [9,9]:=by kernel_rfl
@[simp] theorem zCQ:jX Tryz.prog 63=true:=by kernel_rfl
@[simp] theorem zCN:Tryz.prog.bytesOf 63=32:=by kernel_rfl
@[simp] theorem zCs:Tryz.prog.cellsOf 63=2:=by kernel_rfl
@[simp] theorem zCE:zB Tryz.prog 63=true:=by kernel_rfl
@[simp] theorem zCL:zT Tryz.prog 63=.agg [.s [],.s []]:=by kernel_rfl
@[simp] theorem zCC:JS Tryz.prog 8 63=true:=by kernel_rfl
@[simp] theorem zG8:qD Tryz.prog 69=.arr 32 5:=by kernel_rfl
@[simp] theorem zGh:jX Tryz.prog 69=true:=by kernel_rfl
@[simp] theorem zGb:zB Tryz.prog 69=true:=by kernel_rfl
@[simp] theorem zFZ:zT Tryz.prog 69=.agg (List.replicate 32 (.i .u8 0)):=by kernel_rfl
@[simp] theorem zEM:qD Tryz.prog 79=.struct [9,4,69]:=by kernel_rfl
@[simp] theorem zGg:jX Tryz.prog 79=true:=by kernel_rfl
@[simp] theorem zGe:Tryz.prog.bytesOf 79=56:=by kernel_rfl
@[simp] theorem zGd:Tryz.prog.cellsOf 79=34:=by kernel_rfl
@[simp] theorem zG4:zB Tryz.prog 79=true:=by kernel_rfl
@[simp] theorem zGk:zT Tryz.prog 79=.agg [.s [],.b false,zT Tryz.prog 69]:=by kernel_rfl
@[simp] theorem zG7:JS Tryz.prog 8 79=true:=by kernel_rfl
@[simp] theorem zG5:qD Tryz.prog 83=.slice 25:=by kernel_rfl
@[simp] theorem zEG:qD Tryz.prog 85=.struct [9,9]:=by kernel_rfl
@[simp] theorem zG3:jX Tryz.prog 85=true:=by kernel_rfl
@[simp] theorem zG6:Tryz.prog.cellsOf 85=2:=by kernel_rfl
@[simp] theorem zGf:zB Tryz.prog 85=true:=by kernel_rfl
@[simp] theorem zGa:zT Tryz.prog 85=.agg [.s [],.s []]:=by kernel_rfl
@[simp] theorem zG1:qD Tryz.prog 88=.func:=by kernel_rfl
@[simp] theorem zG2:jX Tryz.prog 88=true:=by kernel_rfl
@[simp] theorem zG0:qD Tryz.prog 91=.struct [48,25,88,51,39,9,4,33]:=by kernel_rfl
@[simp] theorem zFY:zB Tryz.prog 91=true:=by kernel_rfl
@[simp] theorem zGc:zT Tryz.prog 91=.agg [.nilptr,.sl .full [],.nilfn,.map none,.sl .full [],.s [],.b false,.i .i64 0]:=by kernel_rfl
@[simp] theorem zII:qD Tryz.prog 94=.slice 53:=by kernel_rfl
@[simp] theorem zIJ:jX Tryz.prog 94=true:=by kernel_rfl
@[simp] theorem zpE:qD Tryz.prog 101=.slice 112:=by kernel_rfl
@[simp] theorem zF5:qD Tryz.prog 104=.map 9 57:=by kernel_rfl
@[simp] theorem zFP:jX Tryz.prog 104=true:=by kernel_rfl
@[simp] theorem zF8:qD Tryz.prog 105=.slice 1:=by kernel_rfl
@[simp] theorem zFG:jX Tryz.prog 105=true:=by kernel_rfl
@[simp] theorem zFH:qD Tryz.prog 107=.struct [105,24,9,104,9,4,53]:=by kernel_rfl
@[simp] theorem zFx:zB Tryz.prog 107=true:=by kernel_rfl
@[simp] theorem zF9:zT Tryz.prog 107=.agg [.sl .full [],.sl .full [],.s [],.map none,.s [],.b false,zT Tryz.prog 53]:=by kernel_rfl
@[simp] theorem zCg:qD Tryz.prog 109=.func:=by kernel_rfl
@[simp] theorem zFJ:qD Tryz.prog 112=.struct [25,9]:=by kernel_rfl
@[simp] theorem zEQ:jX Tryz.prog 112=true:=by kernel_rfl
@[simp] theorem zFV:Tryz.prog.cellsOf 112=2:=by kernel_rfl
@[simp] theorem zFq:zB Tryz.prog 112=true:=by kernel_rfl
@[simp] theorem zFS:zT Tryz.prog 112=.agg [.sl .full [],.s []]:=by kernel_rfl
@[simp] theorem zBI:qD Tryz.prog 119=.func:=by kernel_rfl
@[simp] theorem zIF:qD Tryz.prog 145=.struct [9,25,94,53]:=by kernel_rfl
@[simp] theorem zIC:zB Tryz.prog 145=true:=by kernel_rfl
@[simp] theorem zIE:zT Tryz.prog 145=.agg [.s [],.sl .full [],.sl .full [],zT Tryz.prog 53]:=by kernel_rfl
@[simp] theorem zFQ:qD Tryz.prog 148=.ptr:=by kernel_rfl
@[simp] theorem zFu:qD Tryz.prog 153=.func:=by kernel_rfl
@[simp] theorem zFr:qD Tryz.prog 155=.func:=by kernel_rfl
@[simp] theorem zF1:qD Tryz.prog 157=.map 9 4:=by kernel_rfl
@[simp] theorem zsF:qD Tryz.prog 161=.ptr:=by kernel_rfl
@[simp] theorem zFm:qD Tryz.prog 174=.int .u32:=by kernel_rfl
@[simp] theorem zEU:jX Tryz.prog 174=true:=by kernel_rfl
@[simp] theorem zET:Tryz.prog.bytesOf 174=4:=by kernel_rfl
@[simp] theorem zFE:Tryz.prog.cellsOf 174=1:=by kernel_rfl
@[simp] theorem zF6:zB Tryz.prog 174=true:=by kernel_rfl
@[simp] theorem zEZ:zT Tryz.prog 174=.i .u32 0:=by kernel_rfl
@[simp] theorem zF2:qD Tryz.prog 175=.slice 174:=by kernel_rfl
@[simp] theorem zFs:qD Tryz.prog 176=.slice 5:=by kernel_rfl
@[simp] theorem zFo:jX Tryz.prog 176=true:=by kernel_rfl
@[simp] theorem zFR:qD Tryz.prog 182=.map 184 4:=by kernel_rfl
@[simp] theorem zFC:zB Tryz.prog 182=true:=by kernel_rfl
@[simp] theorem zES:zT Tryz.prog 182=.map none:=by kernel_rfl
@[simp] theorem zF7:qD Tryz.prog 183=.func:=by kernel_rfl
@[simp] theorem zFh:zB Tryz.prog 183=true:=by kernel_rfl
@[simp] theorem zF3:zT Tryz.prog 183=.nilfn:=by kernel_rfl
@[simp] theorem zFl:qD Tryz.prog 184=.arr 2 3:=by kernel_rfl
@[simp] theorem zEW:zB Tryz.prog 184=true:=by kernel_rfl
@[simp] theorem zFb:zT Tryz.prog 184=.agg (List.replicate 2 (.i .i64 0)):=by kernel_rfl
@[simp] theorem zID:qD Tryz.prog 187=.slice 4:=by kernel_rfl
@[simp] theorem zt7:qD Tryz.prog 194=.func:=by kernel_rfl
@[simp] theorem zEX:qD Tryz.prog 199=.arr 8 174:=by kernel_rfl
@[simp] theorem zFi:jX Tryz.prog 199=true:=by kernel_rfl
@[simp] theorem zFN:zB Tryz.prog 199=true:=by kernel_rfl
@[simp] theorem zFI:zT Tryz.prog 199=.agg (List.replicate 8 (.i .u32 0)):=by kernel_rfl
@[simp] theorem zFv:qD Tryz.prog 201=.int .u64:=by kernel_rfl
@[simp] theorem zFA:jX Tryz.prog 201=true:=by kernel_rfl
@[simp] theorem zFF:Tryz.prog.cellsOf 201=1:=by kernel_rfl
@[simp] theorem zFd:qD Tryz.prog 203=.struct [199,176,201]:=by kernel_rfl
@[simp] theorem zFe:zB Tryz.prog 203=true:=by kernel_rfl
@[simp] theorem zFn:zT Tryz.prog 203=.agg [zT Tryz.prog 199,.sl .full [],.i .u64 0]:=by kernel_rfl
@[simp] theorem zFf:qD Tryz.prog 208=.int .u64:=by kernel_rfl
@[simp] theorem ztr:qD Tryz.prog 213=.ptr:=by kernel_rfl
@[simp] theorem zFa:jX Tryz.prog 213=true:=by kernel_rfl
@[simp] theorem zER:qD Tryz.prog 215=.struct [213,176]:=by kernel_rfl
@[simp] theorem zFX:zB Tryz.prog 215=true:=by kernel_rfl
@[simp] theorem zFD:zT Tryz.prog 215=.agg [.nilptr,.sl .full []]:=by kernel_rfl
@[simp] theorem zFp:qD Tryz.prog 217=.iface:=by kernel_rfl
@[simp] theorem zFK:qD Tryz.prog 238=.arr 64 174:=by kernel_rfl
@[simp] theorem zFB:zB Tryz.prog 238=true:=by kernel_rfl
@[simp] theorem zFM:zT Tryz.prog 238=.agg (List.replicate 64 (.i .u32 0)):=by kernel_rfl
@[simp] theorem zEY:qD Tryz.prog 263=.slice 265:=by kernel_rfl
@[simp] theorem zF4:qD Tryz.prog 265=.struct [3,3]:=by kernel_rfl
@[simp] theorem zFz:jX Tryz.prog 265=true:=by kernel_rfl
@[simp] theorem zF0:Tryz.prog.bytesOf 265=16:=by kernel_rfl
@[simp] theorem zFL:Tryz.prog.cellsOf 265=2:=by kernel_rfl
@[simp] theorem zFO:zB Tryz.prog 265=true:=by kernel_rfl
@[simp] theorem zFc:zT Tryz.prog 265=.agg [.i .i64 0,.i .i64 0]:=by kernel_rfl
end Go.Proofs.YtooipdkilgpojaaGreatDoor
