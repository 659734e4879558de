/- Closed facts on this seat's types and functions. Printed by a program (wip/tools/facts.py). No condition beyond each theorem's own. -/
import Derived.Test.YthgocigdldgpgaaGreatDoorChecked
import Derived.Test.YthgocigdldgpgaaGreatDoorAbSToSj
import Derived.Test.YthgocigdldgpgaaGreatDoorAbXToY
set_option linter.unusedSimpArgs false
set_option linter.unusedVariables false
set_option linter.unusedSectionVars false
set_option maxRecDepth 100000
/-! Closed facts on this seat's types and functions. Printed by a program (wip/tools/facts.py). -/
namespace Go.Proofs.YthgocigdldgpgaaGreatDoor
open Go Go.Ab
theorem laid:laidOutB Tryz.prog=true:=by kernel_rfl
theorem mixed:Tryz.prog.follows .mixedOrders=true:=by kernel_rfl
@[simp] theorem ty1:qD Tryz.prog 1=.func:=by kernel_rfl
@[simp] theorem po1:jX Tryz.prog 1=true:=by kernel_rfl
@[simp] theorem by1:Tryz.prog.bytesOf 1=8:=by kernel_rfl
@[simp] theorem ce1:Tryz.prog.cellsOf 1=1:=by kernel_rfl
@[simp] theorem zb1:zB Tryz.prog 1=true:=by kernel_rfl
@[simp] theorem zt1:zT Tryz.prog 1=.nilfn:=by kernel_rfl
@[simp] theorem ty3:qD Tryz.prog 3=.int .i64:=by kernel_rfl
@[simp] theorem po3:jX Tryz.prog 3=true:=by kernel_rfl
@[simp] theorem zb3:zB Tryz.prog 3=true:=by kernel_rfl
@[simp] theorem zt3:zT Tryz.prog 3=.i .i64 0:=by kernel_rfl
@[simp] theorem ty4:qD Tryz.prog 4=.bool:=by kernel_rfl
@[simp] theorem po4:jX Tryz.prog 4=true:=by kernel_rfl
@[simp] theorem zb4:zB Tryz.prog 4=true:=by kernel_rfl
@[simp] theorem zt4:zT Tryz.prog 4=.b false:=by kernel_rfl
@[simp] theorem cm4:JS Tryz.prog 8 4=true:=by kernel_rfl
@[simp] theorem ty5:qD Tryz.prog 5=.int .u8:=by kernel_rfl
@[simp] theorem po5:jX Tryz.prog 5=true:=by kernel_rfl
@[simp] theorem by5:Tryz.prog.bytesOf 5=1:=by kernel_rfl
@[simp] theorem ce5:Tryz.prog.cellsOf 5=1:=by kernel_rfl
@[simp] theorem zb5:zB Tryz.prog 5=true:=by kernel_rfl
@[simp] theorem zt5:zT Tryz.prog 5=.i .u8 0:=by kernel_rfl
@[simp] theorem ty9:qD Tryz.prog 9=.str:=by kernel_rfl
@[simp] theorem po9:jX Tryz.prog 9=true:=by kernel_rfl
@[simp] theorem by9:Tryz.prog.bytesOf 9=16:=by kernel_rfl
@[simp] theorem ce9:Tryz.prog.cellsOf 9=1:=by kernel_rfl
@[simp] theorem zb9:zB Tryz.prog 9=true:=by kernel_rfl
@[simp] theorem zt9:zT Tryz.prog 9=.s []:=by kernel_rfl
@[simp] theorem zuD:qD Tryz.prog 21=.int .i32:=by kernel_rfl
@[simp] theorem zrY:qD Tryz.prog 23=.struct [9,9]:=by kernel_rfl
@[simp] theorem zu6:zT Tryz.prog 23=.agg [.s [],.s []]:=by kernel_rfl
@[simp] theorem zrx:qD Tryz.prog 24=.slice 101:=by kernel_rfl
@[simp] theorem zuh:jX Tryz.prog 24=true:=by kernel_rfl
@[simp] theorem zse:qD Tryz.prog 25=.slice 9:=by kernel_rfl
@[simp] theorem zuo:jX Tryz.prog 25=true:=by kernel_rfl
@[simp] theorem zuB:Tryz.prog.cellsOf 25=1:=by kernel_rfl
@[simp] theorem zua:zB Tryz.prog 25=true:=by kernel_rfl
@[simp] theorem zuc:zT Tryz.prog 25=.sl .full []:=by kernel_rfl
@[simp] theorem zkh:qD Tryz.prog 27=.struct [23,9,24,25,25,25]:=by kernel_rfl
@[simp] theorem zuH:zB Tryz.prog 27=true:=by kernel_rfl
@[simp] theorem zut:zT Tryz.prog 27=.agg [zT Tryz.prog 23,.s [],.sl .full [],.sl .full [],.sl .full [],.sl .full []]:=by kernel_rfl
@[simp] theorem zmf:qD Tryz.prog 28=.slice 55:=by kernel_rfl
@[simp] theorem zub:qD Tryz.prog 32=.ptr:=by kernel_rfl
@[simp] theorem ztQ:qD Tryz.prog 33=.int .i64:=by kernel_rfl
@[simp] theorem zuy:jX Tryz.prog 33=true:=by kernel_rfl
@[simp] theorem ztN:JS Tryz.prog 8 33=true:=by kernel_rfl
@[simp] theorem ztT:qD Tryz.prog 38=.slice 66:=by kernel_rfl
@[simp] theorem zu9:jX Tryz.prog 38=true:=by kernel_rfl
@[simp] theorem zup:qD Tryz.prog 39=.slice 52:=by kernel_rfl
@[simp] theorem zu1:jX Tryz.prog 39=true:=by kernel_rfl
@[simp] theorem ztP:qD Tryz.prog 41=.struct [3,33,38,39]:=by kernel_rfl
@[simp] theorem zux:zB Tryz.prog 41=true:=by kernel_rfl
@[simp] theorem zuE:zT Tryz.prog 41=.agg [.i .i64 0,.i .i64 0,.sl .full [],.sl .full []]:=by kernel_rfl
@[simp] theorem ztS:qD Tryz.prog 48=.map 9 4:=by kernel_rfl
@[simp] theorem zui:qD Tryz.prog 50=.arr 32 5:=by kernel_rfl
@[simp] theorem zu5:jX Tryz.prog 50=true:=by kernel_rfl
@[simp] theorem ztR:zB Tryz.prog 50=true:=by kernel_rfl
@[simp] theorem zuq:zT Tryz.prog 50=.agg (List.replicate 32 (.i .u8 0)):=by kernel_rfl
@[simp] theorem zum:qD Tryz.prog 52=.struct [9,4,50]:=by kernel_rfl
@[simp] theorem zuw:jX Tryz.prog 52=true:=by kernel_rfl
@[simp] theorem ztY:Tryz.prog.bytesOf 52=56:=by kernel_rfl
@[simp] theorem ztL:Tryz.prog.cellsOf 52=34:=by kernel_rfl
@[simp] theorem ztX:zB Tryz.prog 52=true:=by kernel_rfl
@[simp] theorem zur:zT Tryz.prog 52=.agg [.s [],.b false,zT Tryz.prog 50]:=by kernel_rfl
@[simp] theorem zus:JS Tryz.prog 8 52=true:=by kernel_rfl
@[simp] theorem zpu:qD Tryz.prog 55=.struct [9,4,9]:=by kernel_rfl
@[simp] theorem zuG:jX Tryz.prog 55=true:=by kernel_rfl
@[simp] theorem ztZ:Tryz.prog.bytesOf 55=40:=by kernel_rfl
@[simp] theorem zu2:Tryz.prog.cellsOf 55=3:=by kernel_rfl
@[simp] theorem zu3:zB Tryz.prog 55=true:=by kernel_rfl
@[simp] theorem zuj:zT Tryz.prog 55=.agg [.s [],.b false,.s []]:=by kernel_rfl
@[simp] theorem zu8:qD Tryz.prog 61=.slice 5:=by kernel_rfl
@[simp] theorem ztV:jX Tryz.prog 61=true:=by kernel_rfl
@[simp] theorem zuf:qD Tryz.prog 66=.struct [9,9]:=by kernel_rfl
@[simp] theorem zuu:jX Tryz.prog 66=true:=by kernel_rfl
@[simp] theorem zue:Tryz.prog.bytesOf 66=32:=by kernel_rfl
@[simp] theorem zu4:Tryz.prog.cellsOf 66=2:=by kernel_rfl
@[simp] theorem zuz:zB Tryz.prog 66=true:=by kernel_rfl
@[simp] theorem ztW:zT Tryz.prog 66=.agg [.s [],.s []]:=by kernel_rfl
@[simp] theorem zud:JS Tryz.prog 8 66=true:=by kernel_rfl
@[simp] theorem zuC:qD Tryz.prog 67=.ptr:=by kernel_rfl
@[simp] theorem ztO:jX Tryz.prog 67=true:=by kernel_rfl
@[simp] theorem zuA:zB Tryz.prog 67=true:=by kernel_rfl
@[simp] theorem zuF:zT Tryz.prog 67=.nilptr:=by kernel_rfl
@[simp] theorem ztK:qD Tryz.prog 70=.map 9 9:=by kernel_rfl
@[simp] theorem zuk:jX Tryz.prog 70=true:=by kernel_rfl
@[simp] theorem ztM:qD Tryz.prog 72=.struct [3,9,9,33]:=by kernel_rfl
@[simp] theorem zug:jX Tryz.prog 72=true:=by kernel_rfl
@[simp] theorem zu0:zB Tryz.prog 72=true:=by kernel_rfl
@[simp] theorem zuv:zT Tryz.prog 72=.agg [.i .i64 0,.s [],.s [],.i .i64 0]:=by kernel_rfl
@[simp] theorem zxE:qD Tryz.prog 76=.struct [3,9,3]:=by kernel_rfl
@[simp] theorem zxH:zB Tryz.prog 76=true:=by kernel_rfl
@[simp] theorem zxG:zT Tryz.prog 76=.agg [.i .i64 0,.s [],.i .i64 0]:=by kernel_rfl
@[simp] theorem zxD:JS Tryz.prog 8 76=true:=by kernel_rfl
@[simp] theorem zu7:qD Tryz.prog 99=.slice 25:=by kernel_rfl
@[simp] theorem zpE:qD Tryz.prog 101=.struct [9,9]:=by kernel_rfl
@[simp] theorem zta:jX Tryz.prog 101=true:=by kernel_rfl
@[simp] theorem ztl:Tryz.prog.cellsOf 101=2:=by kernel_rfl
@[simp] theorem zth:zB Tryz.prog 101=true:=by kernel_rfl
@[simp] theorem zt2:zT Tryz.prog 101=.agg [.s [],.s []]:=by kernel_rfl
@[simp] theorem ztv:qD Tryz.prog 103=.func:=by kernel_rfl
@[simp] theorem zt0:jX Tryz.prog 103=true:=by kernel_rfl
@[simp] theorem zsJ:qD Tryz.prog 106=.struct [67,25,103,70,39,9,4,33]:=by kernel_rfl
@[simp] theorem ztB:zB Tryz.prog 106=true:=by kernel_rfl
@[simp] theorem zsS:zT Tryz.prog 106=.agg [.nilptr,.sl .full [],.nilfn,.map none,.sl .full [],.s [],.b false,.i .i64 0]:=by kernel_rfl
@[simp] theorem zto:qD Tryz.prog 122=.func:=by kernel_rfl
@[simp] theorem ztx:qD Tryz.prog 124=.slice 135:=by kernel_rfl
@[simp] theorem ztj:qD Tryz.prog 127=.map 9 55:=by kernel_rfl
@[simp] theorem ztu:jX Tryz.prog 127=true:=by kernel_rfl
@[simp] theorem ztC:qD Tryz.prog 128=.slice 1:=by kernel_rfl
@[simp] theorem zt6:jX Tryz.prog 128=true:=by kernel_rfl
@[simp] theorem zsw:qD Tryz.prog 130=.struct [128,24,9,127,9,4,72]:=by kernel_rfl
@[simp] theorem ztg:zB Tryz.prog 130=true:=by kernel_rfl
@[simp] theorem zti:zT Tryz.prog 130=.agg [.sl .full [],.sl .full [],.s [],.map none,.s [],.b false,zT Tryz.prog 72]:=by kernel_rfl
@[simp] theorem zsR:qD Tryz.prog 132=.func:=by kernel_rfl
@[simp] theorem zsC:qD Tryz.prog 135=.struct [25,9]:=by kernel_rfl
@[simp] theorem zsX:jX Tryz.prog 135=true:=by kernel_rfl
@[simp] theorem zsx:Tryz.prog.cellsOf 135=2:=by kernel_rfl
@[simp] theorem zsA:zB Tryz.prog 135=true:=by kernel_rfl
@[simp] theorem ztz:zT Tryz.prog 135=.agg [.sl .full [],.s []]:=by kernel_rfl
@[simp] theorem ztA:qD Tryz.prog 162=.ptr:=by kernel_rfl
@[simp] theorem zsP:qD Tryz.prog 164=.func:=by kernel_rfl
@[simp] theorem ztt:qD Tryz.prog 167=.ptr:=by kernel_rfl
@[simp] theorem zty:qD Tryz.prog 172=.func:=by kernel_rfl
@[simp] theorem ztp:qD Tryz.prog 185=.int .u32:=by kernel_rfl
@[simp] theorem ztm:jX Tryz.prog 185=true:=by kernel_rfl
@[simp] theorem zsr:qD Tryz.prog 192=.map 194 4:=by kernel_rfl
@[simp] theorem ztq:zB Tryz.prog 192=true:=by kernel_rfl
@[simp] theorem zsV:zT Tryz.prog 192=.map none:=by kernel_rfl
@[simp] theorem zsD:qD Tryz.prog 193=.func:=by kernel_rfl
@[simp] theorem ztD:zB Tryz.prog 193=true:=by kernel_rfl
@[simp] theorem ztE:zT Tryz.prog 193=.nilfn:=by kernel_rfl
@[simp] theorem zt7:qD Tryz.prog 194=.arr 2 3:=by kernel_rfl
@[simp] theorem ztI:zB Tryz.prog 194=true:=by kernel_rfl
@[simp] theorem zsy:zT Tryz.prog 194=.agg (List.replicate 2 (.i .i64 0)):=by kernel_rfl
@[simp] theorem ztJ:qD Tryz.prog 198=.arr 8 185:=by kernel_rfl
@[simp] theorem zsE:jX Tryz.prog 198=true:=by kernel_rfl
@[simp] theorem zsN:zB Tryz.prog 198=true:=by kernel_rfl
@[simp] theorem ztc:zT Tryz.prog 198=.agg (List.replicate 8 (.i .u32 0)):=by kernel_rfl
@[simp] theorem ztk:qD Tryz.prog 200=.int .u64:=by kernel_rfl
@[simp] theorem ztH:jX Tryz.prog 200=true:=by kernel_rfl
@[simp] theorem ztw:Tryz.prog.cellsOf 200=1:=by kernel_rfl
@[simp] theorem zte:qD Tryz.prog 202=.struct [198,61,200]:=by kernel_rfl
@[simp] theorem ztf:zB Tryz.prog 202=true:=by kernel_rfl
@[simp] theorem zsZ:zT Tryz.prog 202=.agg [zT Tryz.prog 198,.sl .full [],.i .u64 0]:=by kernel_rfl
@[simp] theorem zsI:qD Tryz.prog 207=.int .u64:=by kernel_rfl
@[simp] theorem ztr:qD Tryz.prog 213=.func:=by kernel_rfl
@[simp] theorem zsL:qD Tryz.prog 221=.ptr:=by kernel_rfl
@[simp] theorem ztd:jX Tryz.prog 221=true:=by kernel_rfl
@[simp] theorem zst:qD Tryz.prog 223=.struct [221,61]:=by kernel_rfl
@[simp] theorem zsu:zB Tryz.prog 223=true:=by kernel_rfl
@[simp] theorem zsW:zT Tryz.prog 223=.agg [.nilptr,.sl .full []]:=by kernel_rfl
@[simp] theorem ztb:qD Tryz.prog 225=.iface:=by kernel_rfl
@[simp] theorem zsG:qD Tryz.prog 243=.arr 64 185:=by kernel_rfl
@[simp] theorem zsQ:zB Tryz.prog 243=true:=by kernel_rfl
@[simp] theorem ztF:zT Tryz.prog 243=.agg (List.replicate 64 (.i .u32 0)):=by kernel_rfl
@[simp] theorem zss:qD Tryz.prog 277=.slice 279:=by kernel_rfl
@[simp] theorem zsU:qD Tryz.prog 279=.struct [3,3]:=by kernel_rfl
@[simp] theorem ztG:jX Tryz.prog 279=true:=by kernel_rfl
@[simp] theorem zsM:Tryz.prog.bytesOf 279=16:=by kernel_rfl
@[simp] theorem zsB:Tryz.prog.cellsOf 279=2:=by kernel_rfl
@[simp] theorem zsv:zB Tryz.prog 279=true:=by kernel_rfl
@[simp] theorem zts:zT Tryz.prog 279=.agg [.i .i64 0,.i .i64 0]:=by kernel_rfl
end Go.Proofs.YthgocigdldgpgaaGreatDoor
