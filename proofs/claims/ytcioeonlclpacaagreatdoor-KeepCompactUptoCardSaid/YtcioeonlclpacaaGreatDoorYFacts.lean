/- Closed facts on this seat's types and functions. Printed by a program (wip/tools/facts.py). No condition beyond each theorem's own. -/
import Derived.Test.YtcioeonlclpacaaGreatDoorChecked
import Derived.Test.YtcioeonlclpacaaGreatDoorAbSToSk
import Derived.Test.YtcioeonlclpacaaGreatDoorAbXToY
set_option linter.unusedSimpArgs false
set_option linter.unusedVariables false
set_option linter.unusedSectionVars false
set_option maxRecDepth 100000
/-! Closed facts on this seat's types and functions. Printed by a program (wip/tools/facts.py). -/
namespace Go.Proofs.YtcioeonlclpacaaGreatDoor
open Go Go.Ab
theorem laid:laidOutB Tryz.prog=true:=by kernel_rfl
theorem mixed:Tryz.prog.follows .mixedOrders=true:=by kernel_rfl
@[simp] theorem ty2:qD Tryz.prog 2=.int .i64:=by kernel_rfl
@[simp] theorem ty3:qD Tryz.prog 3=.int .i64:=by kernel_rfl
@[simp] theorem po3:jX Tryz.prog 3=true:=by kernel_rfl
@[simp] theorem zb3:zB Tryz.prog 3=true:=by kernel_rfl
@[simp] theorem zt3:zT Tryz.prog 3=.i .i64 0:=by kernel_rfl
@[simp] theorem cm3:JS Tryz.prog 8 3=true:=by kernel_rfl
@[simp] theorem ty4:qD Tryz.prog 4=.bool:=by kernel_rfl
@[simp] theorem po4:jX Tryz.prog 4=true:=by kernel_rfl
@[simp] theorem zb4:zB Tryz.prog 4=true:=by kernel_rfl
@[simp] theorem zt4:zT Tryz.prog 4=.b false:=by kernel_rfl
@[simp] theorem cm4:JS Tryz.prog 8 4=true:=by kernel_rfl
@[simp] theorem ty5:qD Tryz.prog 5=.int .u8:=by kernel_rfl
@[simp] theorem po5:jX Tryz.prog 5=true:=by kernel_rfl
@[simp] theorem by5:Tryz.prog.bytesOf 5=1:=by kernel_rfl
@[simp] theorem ce5:Tryz.prog.cellsOf 5=1:=by kernel_rfl
@[simp] theorem zb5:zB Tryz.prog 5=true:=by kernel_rfl
@[simp] theorem zt5:zT Tryz.prog 5=.i .u8 0:=by kernel_rfl
@[simp] theorem ty9:qD Tryz.prog 9=.str:=by kernel_rfl
@[simp] theorem po9:jX Tryz.prog 9=true:=by kernel_rfl
@[simp] theorem by9:Tryz.prog.bytesOf 9=16:=by kernel_rfl
@[simp] theorem ce9:Tryz.prog.cellsOf 9=1:=by kernel_rfl
@[simp] theorem zb9:zB Tryz.prog 9=true:=by kernel_rfl
@[simp] theorem zt9:zT Tryz.prog 9=.s []:=by kernel_rfl
@[simp] theorem cm9:JS Tryz.prog 8 9=true:=by kernel_rfl
@[simp] theorem zuD:qD Tryz.prog 21=.int .i32:=by kernel_rfl
@[simp] theorem zSS:qD Tryz.prog 22=.slice 29:=by kernel_rfl
@[simp] theorem zrY:qD Tryz.prog 23=.slice 3:=by kernel_rfl
@[simp] theorem zun:jX Tryz.prog 23=true:=by kernel_rfl
@[simp] theorem zTf:qD Tryz.prog 26=.slice 105:=by kernel_rfl
@[simp] theorem zUM:jX Tryz.prog 26=true:=by kernel_rfl
@[simp] theorem zkh:qD Tryz.prog 27=.slice 36:=by kernel_rfl
@[simp] theorem zUJ:jX Tryz.prog 27=true:=by kernel_rfl
@[simp] theorem zTj:qD Tryz.prog 29=.struct [5,26,27,5]:=by kernel_rfl
@[simp] theorem zUs:jX Tryz.prog 29=true:=by kernel_rfl
@[simp] theorem zUz:zB Tryz.prog 29=true:=by kernel_rfl
@[simp] theorem zUO:zT Tryz.prog 29=.agg [.i .u8 0,.sl .full [],.sl .full [],.i .u8 0]:=by kernel_rfl
@[simp] theorem zub:qD Tryz.prog 32=.struct [3,3,29,23]:=by kernel_rfl
@[simp] theorem zUu:jX Tryz.prog 32=true:=by kernel_rfl
@[simp] theorem zUv:Tryz.prog.cellsOf 32=7:=by kernel_rfl
@[simp] theorem zUG:zB Tryz.prog 32=true:=by kernel_rfl
@[simp] theorem zUt:zT Tryz.prog 32=.agg [.i .i64 0,.i .i64 0,zT Tryz.prog 29,.sl .full []]:=by kernel_rfl
@[simp] theorem ztQ:qD Tryz.prog 33=.slice 32:=by kernel_rfl
@[simp] theorem zUK:qD Tryz.prog 34=.slice 9:=by kernel_rfl
@[simp] theorem zUI:jX Tryz.prog 34=true:=by kernel_rfl
@[simp] theorem zXj:zB Tryz.prog 34=true:=by kernel_rfl
@[simp] theorem zXi:zT Tryz.prog 34=.sl .full []:=by kernel_rfl
@[simp] theorem zTi:qD Tryz.prog 36=.struct [9,9]:=by kernel_rfl
@[simp] theorem zUr:jX Tryz.prog 36=true:=by kernel_rfl
@[simp] theorem zUy:Tryz.prog.bytesOf 36=32:=by kernel_rfl
@[simp] theorem zUN:Tryz.prog.cellsOf 36=2:=by kernel_rfl
@[simp] theorem zUQ:zB Tryz.prog 36=true:=by kernel_rfl
@[simp] theorem zUn:zT Tryz.prog 36=.agg [.s [],.s []]:=by kernel_rfl
@[simp] theorem ztT:qD Tryz.prog 38=.ptr:=by kernel_rfl
@[simp] theorem zu9:jX Tryz.prog 38=true:=by kernel_rfl
@[simp] theorem zUS:qD Tryz.prog 40=.ptr:=by kernel_rfl
@[simp] theorem ztP:qD Tryz.prog 41=.int .i64:=by kernel_rfl
@[simp] theorem zUm:JS Tryz.prog 8 41=true:=by kernel_rfl
@[simp] theorem zHS:qD Tryz.prog 46=.arr 32 5:=by kernel_rfl
@[simp] theorem zJ9:jX Tryz.prog 46=true:=by kernel_rfl
@[simp] theorem zUl:Tryz.prog.bytesOf 46=32:=by kernel_rfl
@[simp] theorem zJ7:Tryz.prog.cellsOf 46=32:=by kernel_rfl
@[simp] theorem zI2:zB Tryz.prog 46=true:=by kernel_rfl
@[simp] theorem zI9:zT Tryz.prog 46=.agg (List.replicate 32 (.i .u8 0)):=by kernel_rfl
@[simp] theorem zUE:JS Tryz.prog 8 46=true:=by kernel_rfl
@[simp] theorem zUF:qD Tryz.prog 47=.slice 95:=by kernel_rfl
@[simp] theorem zUH:jX Tryz.prog 47=true:=by kernel_rfl
@[simp] theorem zUD:qD Tryz.prog 49=.struct [46,26,47]:=by kernel_rfl
@[simp] theorem zUP:jX Tryz.prog 49=true:=by kernel_rfl
@[simp] theorem zUp:Tryz.prog.bytesOf 49=80:=by kernel_rfl
@[simp] theorem zUk:Tryz.prog.cellsOf 49=34:=by kernel_rfl
@[simp] theorem zUq:zB Tryz.prog 49=true:=by kernel_rfl
@[simp] theorem zUo:zT Tryz.prog 49=.agg [zT Tryz.prog 46,.sl .full [],.sl .full []]:=by kernel_rfl
@[simp] theorem zpu:qD Tryz.prog 55=.slice 49:=by kernel_rfl
@[simp] theorem zuG:jX Tryz.prog 55=true:=by kernel_rfl
@[simp] theorem zu3:zB Tryz.prog 55=true:=by kernel_rfl
@[simp] theorem zX6:qD Tryz.prog 62=.arr 2 5:=by kernel_rfl
@[simp] theorem zBr:qD Tryz.prog 63=.ptr:=by kernel_rfl
@[simp] theorem zCQ:jX Tryz.prog 63=true:=by kernel_rfl
@[simp] theorem zuf:qD Tryz.prog 66=.func:=by kernel_rfl
@[simp] theorem zuu:jX Tryz.prog 66=true:=by kernel_rfl
@[simp] theorem zu4:Tryz.prog.cellsOf 66=1:=by kernel_rfl
@[simp] theorem zuz:zB Tryz.prog 66=true:=by kernel_rfl
@[simp] theorem ztW:zT Tryz.prog 66=.nilfn:=by kernel_rfl
@[simp] theorem zuC:qD Tryz.prog 67=.slice 46:=by kernel_rfl
@[simp] theorem zXm:qD Tryz.prog 93=.arr 4 55:=by kernel_rfl
@[simp] theorem zXl:zB Tryz.prog 93=true:=by kernel_rfl
@[simp] theorem zXk:zT Tryz.prog 93=.agg (List.replicate 4 (.sl .full [])):=by kernel_rfl
@[simp] theorem zUB:qD Tryz.prog 95=.struct [9,46]:=by kernel_rfl
@[simp] theorem zUA:jX Tryz.prog 95=true:=by kernel_rfl
@[simp] theorem zUC:Tryz.prog.bytesOf 95=48:=by kernel_rfl
@[simp] theorem zUx:Tryz.prog.cellsOf 95=33:=by kernel_rfl
@[simp] theorem zUL:zB Tryz.prog 95=true:=by kernel_rfl
@[simp] theorem zUw:zT Tryz.prog 95=.agg [.s [],zT Tryz.prog 46]:=by kernel_rfl
@[simp] theorem zUR:JS Tryz.prog 8 95=true:=by kernel_rfl
@[simp] theorem zSM:qD Tryz.prog 105=.struct [9,4,46]:=by kernel_rfl
@[simp] theorem zTK:jX Tryz.prog 105=true:=by kernel_rfl
@[simp] theorem zTG:Tryz.prog.bytesOf 105=56:=by kernel_rfl
@[simp] theorem zTD:Tryz.prog.cellsOf 105=34:=by kernel_rfl
@[simp] theorem zU0:zB Tryz.prog 105=true:=by kernel_rfl
@[simp] theorem zTX:zT Tryz.prog 105=.agg [.s [],.b false,zT Tryz.prog 46]:=by kernel_rfl
@[simp] theorem zTS:JS Tryz.prog 8 105=true:=by kernel_rfl
@[simp] theorem zsJ:qD Tryz.prog 106=.map 46 9:=by kernel_rfl
@[simp] theorem zBH:jX Tryz.prog 106=true:=by kernel_rfl
@[simp] theorem zHb:qD Tryz.prog 107=.map 9 125:=by kernel_rfl
@[simp] theorem zTH:jX Tryz.prog 107=true:=by kernel_rfl
@[simp] theorem zCg:qD Tryz.prog 109=.struct [107,3]:=by kernel_rfl
@[simp] theorem zC2:zB Tryz.prog 109=true:=by kernel_rfl
@[simp] theorem zCp:zT Tryz.prog 109=.agg [.map none,.i .i64 0]:=by kernel_rfl
@[simp] theorem zTJ:qD Tryz.prog 110=.ptr:=by kernel_rfl
@[simp] theorem zTC:jX Tryz.prog 110=true:=by kernel_rfl
@[simp] theorem zU9:qD Tryz.prog 113=.ptr:=by kernel_rfl
@[simp] theorem zU4:jX Tryz.prog 113=true:=by kernel_rfl
@[simp] theorem zUi:qD Tryz.prog 116=.struct [110,63,113]:=by kernel_rfl
@[simp] theorem zTB:zB Tryz.prog 116=true:=by kernel_rfl
@[simp] theorem zTW:zT Tryz.prog 116=.agg [.nilptr,.nilptr,.nilptr]:=by kernel_rfl
@[simp] theorem zGX:qD Tryz.prog 117=.func:=by kernel_rfl
@[simp] theorem zH4:zB Tryz.prog 117=true:=by kernel_rfl
@[simp] theorem zH7:zT Tryz.prog 117=.nilfn:=by kernel_rfl
@[simp] theorem zC5:qD Tryz.prog 125=.struct [9,3]:=by kernel_rfl
@[simp] theorem zBR:zB Tryz.prog 125=true:=by kernel_rfl
@[simp] theorem zBT:zT Tryz.prog 125=.agg [.s [],.i .i64 0]:=by kernel_rfl
@[simp] theorem ztj:qD Tryz.prog 127=.map 46 55:=by kernel_rfl
@[simp] theorem ztu:jX Tryz.prog 127=true:=by kernel_rfl
@[simp] theorem zGW:qD Tryz.prog 129=.struct [3,127]:=by kernel_rfl
@[simp] theorem zGL:zB Tryz.prog 129=true:=by kernel_rfl
@[simp] theorem zGT:zT Tryz.prog 129=.agg [.i .i64 0,.map none]:=by kernel_rfl
@[simp] theorem zGM:qD Tryz.prog 134=.map 46 4:=by kernel_rfl
@[simp] theorem zXg:zB Tryz.prog 134=true:=by kernel_rfl
@[simp] theorem zXh:zT Tryz.prog 134=.map none:=by kernel_rfl
@[simp] theorem zCm:qD Tryz.prog 141=.func:=by kernel_rfl
@[simp] theorem zHg:qD Tryz.prog 144=.slice 5:=by kernel_rfl
@[simp] theorem zTF:jX Tryz.prog 144=true:=by kernel_rfl
@[simp] theorem zTT:qD Tryz.prog 170=.int .u32:=by kernel_rfl
@[simp] theorem zTO:jX Tryz.prog 170=true:=by kernel_rfl
@[simp] theorem zTL:Tryz.prog.bytesOf 170=4:=by kernel_rfl
@[simp] theorem zU7:Tryz.prog.cellsOf 170=1:=by kernel_rfl
@[simp] theorem zUg:zB Tryz.prog 170=true:=by kernel_rfl
@[simp] theorem zTP:zT Tryz.prog 170=.i .u32 0:=by kernel_rfl
@[simp] theorem zHf:qD Tryz.prog 171=.slice 170:=by kernel_rfl
@[simp] theorem zHw:qD Tryz.prog 177=.struct [38,9,4]:=by kernel_rfl
@[simp] theorem zUc:zB Tryz.prog 177=true:=by kernel_rfl
@[simp] theorem zU1:zT Tryz.prog 177=.agg [.nilptr,.s [],.b false]:=by kernel_rfl
@[simp] theorem zBt:qD Tryz.prog 180=.struct [106,3]:=by kernel_rfl
@[simp] theorem zU5:zB Tryz.prog 180=true:=by kernel_rfl
@[simp] theorem zU3:zT Tryz.prog 180=.agg [.map none,.i .i64 0]:=by kernel_rfl
@[simp] theorem zTM:qD Tryz.prog 181=.map 9 117:=by kernel_rfl
@[simp] theorem zTY:qD Tryz.prog 190=.ptr:=by kernel_rfl
@[simp] theorem zU8:jX Tryz.prog 190=true:=by kernel_rfl
@[simp] theorem zsr:qD Tryz.prog 192=.struct [190,144]:=by kernel_rfl
@[simp] theorem ztq:zB Tryz.prog 192=true:=by kernel_rfl
@[simp] theorem zsV:zT Tryz.prog 192=.agg [.nilptr,.sl .full []]:=by kernel_rfl
@[simp] theorem zt7:qD Tryz.prog 194=.iface:=by kernel_rfl
@[simp] theorem zte:qD Tryz.prog 202=.func:=by kernel_rfl
@[simp] theorem ztr:qD Tryz.prog 213=.func:=by kernel_rfl
@[simp] theorem zUh:qD Tryz.prog 228=.int .u64:=by kernel_rfl
@[simp] theorem zTU:jX Tryz.prog 228=true:=by kernel_rfl
@[simp] theorem zUd:Tryz.prog.cellsOf 228=1:=by kernel_rfl
@[simp] theorem zBy:qD Tryz.prog 232=.int .u64:=by kernel_rfl
@[simp] theorem zBV:qD Tryz.prog 233=.slice 66:=by kernel_rfl
@[simp] theorem zTI:qD Tryz.prog 238=.ptr:=by kernel_rfl
@[simp] theorem zBK:qD Tryz.prog 244=.map 9 4:=by kernel_rfl
@[simp] theorem zBz:qD Tryz.prog 257=.struct [34,4]:=by kernel_rfl
@[simp] theorem zTZ:zB Tryz.prog 257=true:=by kernel_rfl
@[simp] theorem zUa:zT Tryz.prog 257=.agg [.sl .full [],.b false]:=by kernel_rfl
@[simp] theorem zTR:qD Tryz.prog 260=.arr 8 170:=by kernel_rfl
@[simp] theorem zUe:jX Tryz.prog 260=true:=by kernel_rfl
@[simp] theorem zTN:zB Tryz.prog 260=true:=by kernel_rfl
@[simp] theorem zUj:zT Tryz.prog 260=.agg (List.replicate 8 (.i .u32 0)):=by kernel_rfl
@[simp] theorem zUf:qD Tryz.prog 263=.struct [260,144,228]:=by kernel_rfl
@[simp] theorem zTQ:zB Tryz.prog 263=true:=by kernel_rfl
@[simp] theorem zTE:zT Tryz.prog 263=.agg [zT Tryz.prog 260,.sl .full [],.i .u64 0]:=by kernel_rfl
@[simp] theorem zU6:qD Tryz.prog 287=.arr 64 170:=by kernel_rfl
@[simp] theorem zU2:zB Tryz.prog 287=true:=by kernel_rfl
@[simp] theorem zUb:zT Tryz.prog 287=.agg (List.replicate 64 (.i .u32 0)):=by kernel_rfl
@[simp] theorem zTV:qD Tryz.prog 326=.ptr:=by kernel_rfl
end Go.Proofs.YtcioeonlclpacaaGreatDoor
