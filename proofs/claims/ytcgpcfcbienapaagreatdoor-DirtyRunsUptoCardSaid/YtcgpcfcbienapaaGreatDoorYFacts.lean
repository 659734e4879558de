/- Closed facts on this seat's types and functions. Printed by a program (wip/tools/facts.py). No condition beyond each theorem's own. -/
import Derived.Test.YtcgpcfcbienapaaGreatDoorChecked
import Derived.Test.YtcgpcfcbienapaaGreatDoorAbSToSk
import Derived.Test.YtcgpcfcbienapaaGreatDoorAbXToY
set_option linter.unusedSimpArgs false
set_option linter.unusedVariables false
set_option linter.unusedSectionVars false
set_option maxRecDepth 100000
/-! Closed facts on this seat's types and functions. Printed by a program (wip/tools/facts.py). -/
namespace Go.Proofs.YtcgpcfcbienapaaGreatDoor
open Go Go.Ab
theorem laid:laidOutB Tryz.prog=true:=by kernel_rfl
theorem mixed:Tryz.prog.follows .mixedOrders=true:=by kernel_rfl
@[simp] theorem ty1:qD Tryz.prog 1=.func:=by kernel_rfl
@[simp] theorem po1:jX Tryz.prog 1=true:=by kernel_rfl
@[simp] theorem by1:Tryz.prog.bytesOf 1=8:=by kernel_rfl
@[simp] theorem ce1:Tryz.prog.cellsOf 1=1:=by kernel_rfl
@[simp] theorem zb1:zB Tryz.prog 1=true:=by kernel_rfl
@[simp] theorem zt1:zT Tryz.prog 1=.nilfn:=by kernel_rfl
@[simp] theorem ty2:qD Tryz.prog 2=.int .i64:=by kernel_rfl
@[simp] theorem ty3:qD Tryz.prog 3=.int .i64:=by kernel_rfl
@[simp] theorem po3:jX Tryz.prog 3=true:=by kernel_rfl
@[simp] theorem zb3:zB Tryz.prog 3=true:=by kernel_rfl
@[simp] theorem zt3:zT Tryz.prog 3=.i .i64 0:=by kernel_rfl
@[simp] theorem cm3:JS Tryz.prog 8 3=true:=by kernel_rfl
@[simp] theorem ty4:qD Tryz.prog 4=.bool:=by kernel_rfl
@[simp] theorem po4:jX Tryz.prog 4=true:=by kernel_rfl
@[simp] theorem zb4:zB Tryz.prog 4=true:=by kernel_rfl
@[simp] theorem zt4:zT Tryz.prog 4=.b false:=by kernel_rfl
@[simp] theorem cm4:JS Tryz.prog 8 4=true:=by kernel_rfl
@[simp] theorem ty5:qD Tryz.prog 5=.int .u8:=by kernel_rfl
@[simp] theorem po5:jX Tryz.prog 5=true:=by kernel_rfl
@[simp] theorem by5:Tryz.prog.bytesOf 5=1:=by kernel_rfl
@[simp] theorem ce5:Tryz.prog.cellsOf 5=1:=by kernel_rfl
@[simp] theorem zb5:zB Tryz.prog 5=true:=by kernel_rfl
@[simp] theorem zt5:zT Tryz.prog 5=.i .u8 0:=by kernel_rfl
@[simp] theorem ty9:qD Tryz.prog 9=.str:=by kernel_rfl
@[simp] theorem po9:jX Tryz.prog 9=true:=by kernel_rfl
@[simp] theorem by9:Tryz.prog.bytesOf 9=16:=by kernel_rfl
@[simp] theorem ce9:Tryz.prog.cellsOf 9=1:=by kernel_rfl
@[simp] theorem zb9:zB Tryz.prog 9=true:=by kernel_rfl
@[simp] theorem zt9:zT Tryz.prog 9=.s []:=by kernel_rfl
@[simp] theorem zuD:qD Tryz.prog 21=.int .i32:=by kernel_rfl
@[simp] theorem zrY:qD Tryz.prog 23=.struct [9,9]:=by kernel_rfl
@[simp] theorem zrx:qD Tryz.prog 24=.slice 84:=by kernel_rfl
@[simp] theorem zuh:jX Tryz.prog 24=true:=by kernel_rfl
@[simp] theorem zse:qD Tryz.prog 25=.slice 9:=by kernel_rfl
@[simp] theorem zuo:jX Tryz.prog 25=true:=by kernel_rfl
@[simp] theorem zuB:Tryz.prog.cellsOf 25=1:=by kernel_rfl
@[simp] theorem zua:zB Tryz.prog 25=true:=by kernel_rfl
@[simp] theorem zuc:zT Tryz.prog 25=.sl .full []:=by kernel_rfl
@[simp] theorem zkh:qD Tryz.prog 27=.struct [23,9,24,25,25,25]:=by kernel_rfl
@[simp] theorem zmf:qD Tryz.prog 28=.slice 33:=by kernel_rfl
@[simp] theorem ztQ:qD Tryz.prog 33=.struct [9,4,9]:=by kernel_rfl
@[simp] theorem zuy:jX Tryz.prog 33=true:=by kernel_rfl
@[simp] theorem zHQ:zB Tryz.prog 33=true:=by kernel_rfl
@[simp] theorem zHz:zT Tryz.prog 33=.agg [.s [],.b false,.s []]:=by kernel_rfl
@[simp] theorem zHO:qD Tryz.prog 35=.arr 32 5:=by kernel_rfl
@[simp] theorem zHG:jX Tryz.prog 35=true:=by kernel_rfl
@[simp] theorem zJ6:Tryz.prog.cellsOf 35=32:=by kernel_rfl
@[simp] theorem zHL:zB Tryz.prog 35=true:=by kernel_rfl
@[simp] theorem zI0:zT Tryz.prog 35=.agg (List.replicate 32 (.i .u8 0)):=by kernel_rfl
@[simp] theorem zHB:JS Tryz.prog 8 35=true:=by kernel_rfl
@[simp] theorem zIa:qD Tryz.prog 37=.int .i64:=by kernel_rfl
@[simp] theorem zI4:jX Tryz.prog 37=true:=by kernel_rfl
@[simp] theorem zHI:JS Tryz.prog 8 37=true:=by kernel_rfl
@[simp] theorem ztT:qD Tryz.prog 38=.slice 71:=by kernel_rfl
@[simp] theorem zu9:jX Tryz.prog 38=true:=by kernel_rfl
@[simp] theorem zup:qD Tryz.prog 39=.slice 54:=by kernel_rfl
@[simp] theorem zu1:jX Tryz.prog 39=true:=by kernel_rfl
@[simp] theorem ztP:qD Tryz.prog 41=.struct [3,37,38,39]:=by kernel_rfl
@[simp] theorem zux:zB Tryz.prog 41=true:=by kernel_rfl
@[simp] theorem zuE:zT Tryz.prog 41=.agg [.i .i64 0,.i .i64 0,.sl .full [],.sl .full []]:=by kernel_rfl
@[simp] theorem zI7:qD Tryz.prog 44=.slice 80:=by kernel_rfl
@[simp] theorem zHN:jX Tryz.prog 44=true:=by kernel_rfl
@[simp] theorem zHS:qD Tryz.prog 46=.struct [35,39,44]:=by kernel_rfl
@[simp] theorem zJ9:jX Tryz.prog 46=true:=by kernel_rfl
@[simp] theorem zJ7:Tryz.prog.cellsOf 46=34:=by kernel_rfl
@[simp] theorem zI2:zB Tryz.prog 46=true:=by kernel_rfl
@[simp] theorem zI9:zT Tryz.prog 46=.agg [zT Tryz.prog 35,.sl .full [],.sl .full []]:=by kernel_rfl
@[simp] theorem zui:qD Tryz.prog 50=.struct [3,9,3]:=by kernel_rfl
@[simp] theorem ztR:zB Tryz.prog 50=true:=by kernel_rfl
@[simp] theorem zuq:zT Tryz.prog 50=.agg [.i .i64 0,.s [],.i .i64 0]:=by kernel_rfl
@[simp] theorem zJa:JS Tryz.prog 8 50=true:=by kernel_rfl
@[simp] theorem zum:qD Tryz.prog 52=.slice 46:=by kernel_rfl
@[simp] theorem zGu:qD Tryz.prog 54=.struct [9,4,35]:=by kernel_rfl
@[simp] theorem zHZ:jX Tryz.prog 54=true:=by kernel_rfl
@[simp] theorem zHE:Tryz.prog.bytesOf 54=56:=by kernel_rfl
@[simp] theorem zI1:Tryz.prog.cellsOf 54=34:=by kernel_rfl
@[simp] theorem zHH:zB Tryz.prog 54=true:=by kernel_rfl
@[simp] theorem zI6:zT Tryz.prog 54=.agg [.s [],.b false,zT Tryz.prog 35]:=by kernel_rfl
@[simp] theorem zHW:JS Tryz.prog 8 54=true:=by kernel_rfl
@[simp] theorem zI3:qD Tryz.prog 60=.ptr:=by kernel_rfl
@[simp] theorem zHF:qD Tryz.prog 71=.struct [9,9]:=by kernel_rfl
@[simp] theorem zI5:jX Tryz.prog 71=true:=by kernel_rfl
@[simp] theorem zHT:Tryz.prog.bytesOf 71=32:=by kernel_rfl
@[simp] theorem zHU:Tryz.prog.cellsOf 71=2:=by kernel_rfl
@[simp] theorem zHP:zB Tryz.prog 71=true:=by kernel_rfl
@[simp] theorem zHJ:zT Tryz.prog 71=.agg [.s [],.s []]:=by kernel_rfl
@[simp] theorem zJb:JS Tryz.prog 8 71=true:=by kernel_rfl
@[simp] theorem zCu:qD Tryz.prog 80=.struct [9,35]:=by kernel_rfl
@[simp] theorem zCO:jX Tryz.prog 80=true:=by kernel_rfl
@[simp] theorem zCJ:Tryz.prog.bytesOf 80=48:=by kernel_rfl
@[simp] theorem zCr:Tryz.prog.cellsOf 80=33:=by kernel_rfl
@[simp] theorem zCq:zB Tryz.prog 80=true:=by kernel_rfl
@[simp] theorem zCP:zT Tryz.prog 80=.agg [.s [],zT Tryz.prog 35]:=by kernel_rfl
@[simp] theorem zCF:JS Tryz.prog 8 80=true:=by kernel_rfl
@[simp] theorem zJ8:qD Tryz.prog 81=.slice 35:=by kernel_rfl
@[simp] theorem zHR:qD Tryz.prog 82=.slice 25:=by kernel_rfl
@[simp] theorem zGx:qD Tryz.prog 84=.struct [9,9]:=by kernel_rfl
@[simp] theorem zI8:jX Tryz.prog 84=true:=by kernel_rfl
@[simp] theorem zHD:Tryz.prog.cellsOf 84=2:=by kernel_rfl
@[simp] theorem zHY:zB Tryz.prog 84=true:=by kernel_rfl
@[simp] theorem zIb:zT Tryz.prog 84=.agg [.s [],.s []]:=by kernel_rfl
@[simp] theorem zHM:qD Tryz.prog 85=.ptr:=by kernel_rfl
@[simp] theorem zHA:qD Tryz.prog 87=.func:=by kernel_rfl
@[simp] theorem zHV:qD Tryz.prog 94=.ptr:=by kernel_rfl
@[simp] theorem zHC:jX Tryz.prog 94=true:=by kernel_rfl
@[simp] theorem zHX:zB Tryz.prog 94=true:=by kernel_rfl
@[simp] theorem zHK:zT Tryz.prog 94=.nilptr:=by kernel_rfl
@[simp] theorem zu7:qD Tryz.prog 99=.func:=by kernel_rfl
@[simp] theorem zIc:jX Tryz.prog 99=true:=by kernel_rfl
@[simp] theorem zpE:qD Tryz.prog 101=.map 9 9:=by kernel_rfl
@[simp] theorem zta:jX Tryz.prog 101=true:=by kernel_rfl
@[simp] theorem zth:zB Tryz.prog 101=true:=by kernel_rfl
@[simp] theorem zt2:zT Tryz.prog 101=.map none:=by kernel_rfl
@[simp] theorem ztv:qD Tryz.prog 103=.struct [94,25,99,101,39,9,4,37]:=by kernel_rfl
@[simp] theorem zBu:zB Tryz.prog 103=true:=by kernel_rfl
@[simp] theorem zCe:zT Tryz.prog 103=.agg [.nilptr,.sl .full [],.nilfn,.map none,.sl .full [],.s [],.b false,.i .i64 0]:=by kernel_rfl
@[simp] theorem zHb:qD Tryz.prog 107=.func:=by kernel_rfl
@[simp] theorem zGX:qD Tryz.prog 117=.struct [25,4]:=by kernel_rfl
@[simp] theorem zH4:zB Tryz.prog 117=true:=by kernel_rfl
@[simp] theorem zH7:zT Tryz.prog 117=.agg [.sl .full [],.b false]:=by kernel_rfl
@[simp] theorem zto:qD Tryz.prog 122=.int .u32:=by kernel_rfl
@[simp] theorem zBE:jX Tryz.prog 122=true:=by kernel_rfl
@[simp] theorem ztx:qD Tryz.prog 124=.arr 8 122:=by kernel_rfl
@[simp] theorem zGZ:jX Tryz.prog 124=true:=by kernel_rfl
@[simp] theorem zHp:zB Tryz.prog 124=true:=by kernel_rfl
@[simp] theorem zGI:zT Tryz.prog 124=.agg (List.replicate 8 (.i .u32 0)):=by kernel_rfl
@[simp] theorem zGP:qD Tryz.prog 126=.slice 5:=by kernel_rfl
@[simp] theorem zHr:jX Tryz.prog 126=true:=by kernel_rfl
@[simp] theorem ztj:qD Tryz.prog 127=.int .u64:=by kernel_rfl
@[simp] theorem ztu:jX Tryz.prog 127=true:=by kernel_rfl
@[simp] theorem zGU:Tryz.prog.cellsOf 127=1:=by kernel_rfl
@[simp] theorem zGW:qD Tryz.prog 129=.struct [124,126,127]:=by kernel_rfl
@[simp] theorem zGL:zB Tryz.prog 129=true:=by kernel_rfl
@[simp] theorem zGT:zT Tryz.prog 129=.agg [zT Tryz.prog 124,.sl .full [],.i .u64 0]:=by kernel_rfl
@[simp] theorem zGM:qD Tryz.prog 134=.slice 147:=by kernel_rfl
@[simp] theorem zHc:qD Tryz.prog 137=.map 9 33:=by kernel_rfl
@[simp] theorem zHk:jX Tryz.prog 137=true:=by kernel_rfl
@[simp] theorem zGK:qD Tryz.prog 138=.slice 1:=by kernel_rfl
@[simp] theorem zHv:jX Tryz.prog 138=true:=by kernel_rfl
@[simp] theorem zHy:qD Tryz.prog 140=.struct [3,9,9,37]:=by kernel_rfl
@[simp] theorem zGS:jX Tryz.prog 140=true:=by kernel_rfl
@[simp] theorem zGJ:zB Tryz.prog 140=true:=by kernel_rfl
@[simp] theorem zHl:zT Tryz.prog 140=.agg [.i .i64 0,.s [],.s [],.i .i64 0]:=by kernel_rfl
@[simp] theorem zH5:qD Tryz.prog 142=.struct [138,24,9,137,9,4,140]:=by kernel_rfl
@[simp] theorem zGY:zB Tryz.prog 142=true:=by kernel_rfl
@[simp] theorem zGV:zT Tryz.prog 142=.agg [.sl .full [],.sl .full [],.s [],.map none,.s [],.b false,zT Tryz.prog 140]:=by kernel_rfl
@[simp] theorem zHg:qD Tryz.prog 144=.func:=by kernel_rfl
@[simp] theorem zH0:qD Tryz.prog 147=.struct [25,9]:=by kernel_rfl
@[simp] theorem zHq:jX Tryz.prog 147=true:=by kernel_rfl
@[simp] theorem zGQ:Tryz.prog.cellsOf 147=2:=by kernel_rfl
@[simp] theorem zHs:zB Tryz.prog 147=true:=by kernel_rfl
@[simp] theorem zH8:zT Tryz.prog 147=.agg [.sl .full [],.s []]:=by kernel_rfl
@[simp] theorem zHe:qD Tryz.prog 157=.ptr:=by kernel_rfl
@[simp] theorem zH1:jX Tryz.prog 157=true:=by kernel_rfl
@[simp] theorem zH9:qD Tryz.prog 159=.struct [157,126]:=by kernel_rfl
@[simp] theorem zHi:zB Tryz.prog 159=true:=by kernel_rfl
@[simp] theorem zHm:zT Tryz.prog 159=.agg [.nilptr,.sl .full []]:=by kernel_rfl
@[simp] theorem zsF:qD Tryz.prog 161=.iface:=by kernel_rfl
@[simp] theorem zHf:qD Tryz.prog 171=.arr 64 122:=by kernel_rfl
@[simp] theorem zGH:zB Tryz.prog 171=true:=by kernel_rfl
@[simp] theorem zGN:zT Tryz.prog 171=.agg (List.replicate 64 (.i .u32 0)):=by kernel_rfl
@[simp] theorem zH2:qD Tryz.prog 175=.map 9 4:=by kernel_rfl
@[simp] theorem zHw:qD Tryz.prog 177=.ptr:=by kernel_rfl
@[simp] theorem zH3:qD Tryz.prog 182=.func:=by kernel_rfl
@[simp] theorem zGO:qD Tryz.prog 191=.map 193 4:=by kernel_rfl
@[simp] theorem zHh:zB Tryz.prog 191=true:=by kernel_rfl
@[simp] theorem zHd:zT Tryz.prog 191=.map none:=by kernel_rfl
@[simp] theorem zsr:qD Tryz.prog 192=.func:=by kernel_rfl
@[simp] theorem ztq:zB Tryz.prog 192=true:=by kernel_rfl
@[simp] theorem zsV:zT Tryz.prog 192=.nilfn:=by kernel_rfl
@[simp] theorem zsD:qD Tryz.prog 193=.arr 2 3:=by kernel_rfl
@[simp] theorem ztD:zB Tryz.prog 193=true:=by kernel_rfl
@[simp] theorem ztE:zT Tryz.prog 193=.agg (List.replicate 2 (.i .i64 0)):=by kernel_rfl
@[simp] theorem zCl:qD Tryz.prog 197=.int .u64:=by kernel_rfl
@[simp] theorem zHu:qD Tryz.prog 199=.func:=by kernel_rfl
@[simp] theorem zGG:qD Tryz.prog 215=.func:=by kernel_rfl
@[simp] theorem zH6:qD Tryz.prog 266=.ptr:=by kernel_rfl
@[simp] theorem zHa:qD Tryz.prog 269=.slice 271:=by kernel_rfl
@[simp] theorem zHn:qD Tryz.prog 271=.struct [3,3]:=by kernel_rfl
@[simp] theorem zHt:jX Tryz.prog 271=true:=by kernel_rfl
@[simp] theorem zHj:Tryz.prog.bytesOf 271=16:=by kernel_rfl
@[simp] theorem zHx:Tryz.prog.cellsOf 271=2:=by kernel_rfl
@[simp] theorem zHo:zB Tryz.prog 271=true:=by kernel_rfl
@[simp] theorem zGR:zT Tryz.prog 271=.agg [.i .i64 0,.i .i64 0]:=by kernel_rfl
end Go.Proofs.YtcgpcfcbienapaaGreatDoor
