/- Closed facts on this seat's types and functions. Printed by a program (wip/tools/facts.py). No condition beyond each theorem's own. -/
import Derived.Test.YthdgnfnalimcnaaGreatDoorChecked
import Derived.Test.YthdgnfnalimcnaaGreatDoorAbSToWa
import Derived.Test.YthdgnfnalimcnaaGreatDoorAbXToY
set_option linter.unusedSimpArgs false
set_option linter.unusedVariables false
set_option linter.unusedSectionVars false
set_option maxRecDepth 100000
/-! Closed facts on this seat's types and functions. Printed by a program (wip/tools/facts.py). -/
namespace Go.Proofs.YthdgnfnalimcnaaGreatDoor
open Go Go.Ab
theorem laid : laidOutB Tryz.prog = true := by kernel_rfl
theorem mixed : Tryz.prog.follows .mixedOrders = true := by kernel_rfl
@[simp] theorem ty2 : tyOf Tryz.prog 2 = .int .i64 := by kernel_rfl
@[simp] theorem po2 : posT Tryz.prog 2 = true := by kernel_rfl
@[simp] theorem by2 : Tryz.prog.bytesOf 2 = 8 := by kernel_rfl
@[simp] theorem ce2 : Tryz.prog.cellsOf 2 = 1 := by kernel_rfl
@[simp] theorem zb2 : zB Tryz.prog 2 = true := by kernel_rfl
@[simp] theorem zt2 : zT Tryz.prog 2 = .i .i64 0 := by kernel_rfl
@[simp] theorem cm2 : cmpT Tryz.prog 8 2 = true := by kernel_rfl
@[simp] theorem ty3 : tyOf Tryz.prog 3 = .int .i64 := by kernel_rfl
@[simp] theorem po3 : posT Tryz.prog 3 = true := by kernel_rfl
@[simp] theorem by3 : Tryz.prog.bytesOf 3 = 8 := by kernel_rfl
@[simp] theorem ce3 : Tryz.prog.cellsOf 3 = 1 := by kernel_rfl
@[simp] theorem zb3 : zB Tryz.prog 3 = true := by kernel_rfl
@[simp] theorem zt3 : zT Tryz.prog 3 = .i .i64 0 := by kernel_rfl
@[simp] theorem cm3 : cmpT Tryz.prog 8 3 = true := by kernel_rfl
@[simp] theorem ty4 : tyOf Tryz.prog 4 = .bool := by kernel_rfl
@[simp] theorem po4 : posT Tryz.prog 4 = true := by kernel_rfl
@[simp] theorem by4 : Tryz.prog.bytesOf 4 = 1 := by kernel_rfl
@[simp] theorem ce4 : Tryz.prog.cellsOf 4 = 1 := by kernel_rfl
@[simp] theorem zb4 : zB Tryz.prog 4 = true := by kernel_rfl
@[simp] theorem zt4 : zT Tryz.prog 4 = .b false := by kernel_rfl
@[simp] theorem cm4 : cmpT Tryz.prog 8 4 = true := by kernel_rfl
@[simp] theorem ty5 : tyOf Tryz.prog 5 = .int .u8 := by kernel_rfl
@[simp] theorem po5 : posT Tryz.prog 5 = true := by kernel_rfl
@[simp] theorem by5 : Tryz.prog.bytesOf 5 = 1 := by kernel_rfl
@[simp] theorem ce5 : Tryz.prog.cellsOf 5 = 1 := by kernel_rfl
@[simp] theorem zb5 : zB Tryz.prog 5 = true := by kernel_rfl
@[simp] theorem zt5 : zT Tryz.prog 5 = .i .u8 0 := by kernel_rfl
@[simp] theorem cm5 : cmpT Tryz.prog 8 5 = true := by kernel_rfl
@[simp] theorem ty9 : tyOf Tryz.prog 9 = .str := by kernel_rfl
@[simp] theorem po9 : posT Tryz.prog 9 = true := by kernel_rfl
@[simp] theorem by9 : Tryz.prog.bytesOf 9 = 16 := by kernel_rfl
@[simp] theorem ce9 : Tryz.prog.cellsOf 9 = 1 := by kernel_rfl
@[simp] theorem zb9 : zB Tryz.prog 9 = true := by kernel_rfl
@[simp] theorem zt9 : zT Tryz.prog 9 = .s [] := by kernel_rfl
@[simp] theorem cm9 : cmpT Tryz.prog 8 9 = true := by kernel_rfl
@[simp] theorem ty12 : tyOf Tryz.prog 12 = .int .u64 := by kernel_rfl
@[simp] theorem po12 : posT Tryz.prog 12 = true := by kernel_rfl
@[simp] theorem by12 : Tryz.prog.bytesOf 12 = 8 := by kernel_rfl
@[simp] theorem ce12 : Tryz.prog.cellsOf 12 = 1 := by kernel_rfl
@[simp] theorem zb12 : zB Tryz.prog 12 = true := by kernel_rfl
@[simp] theorem zt12 : zT Tryz.prog 12 = .i .u64 0 := by kernel_rfl
@[simp] theorem cm12 : cmpT Tryz.prog 8 12 = true := by kernel_rfl
@[simp] theorem ty14 : tyOf Tryz.prog 14 = .struct [9, 12] := by kernel_rfl
@[simp] theorem po14 : posT Tryz.prog 14 = true := by kernel_rfl
@[simp] theorem by14 : Tryz.prog.bytesOf 14 = 24 := by kernel_rfl
@[simp] theorem ce14 : Tryz.prog.cellsOf 14 = 2 := by kernel_rfl
@[simp] theorem zb14 : zB Tryz.prog 14 = true := by kernel_rfl
@[simp] theorem zt14 : zT Tryz.prog 14 = .agg [.s [], .i .u64 0] := by kernel_rfl
@[simp] theorem ty15 : tyOf Tryz.prog 15 = .ptr := by kernel_rfl
@[simp] theorem po15 : posT Tryz.prog 15 = true := by kernel_rfl
@[simp] theorem by15 : Tryz.prog.bytesOf 15 = 8 := by kernel_rfl
@[simp] theorem ce15 : Tryz.prog.cellsOf 15 = 1 := by kernel_rfl
@[simp] theorem zb15 : zB Tryz.prog 15 = true := by kernel_rfl
@[simp] theorem zt15 : zT Tryz.prog 15 = .nilptr := by kernel_rfl
@[simp] theorem ty16 : tyOf Tryz.prog 16 = .ptr := by kernel_rfl
@[simp] theorem po16 : posT Tryz.prog 16 = true := by kernel_rfl
@[simp] theorem by16 : Tryz.prog.bytesOf 16 = 8 := by kernel_rfl
@[simp] theorem ce16 : Tryz.prog.cellsOf 16 = 1 := by kernel_rfl
@[simp] theorem zb16 : zB Tryz.prog 16 = true := by kernel_rfl
@[simp] theorem zt16 : zT Tryz.prog 16 = .nilptr := by kernel_rfl
@[simp] theorem ty17 : tyOf Tryz.prog 17 = .ptr := by kernel_rfl
@[simp] theorem po17 : posT Tryz.prog 17 = true := by kernel_rfl
@[simp] theorem by17 : Tryz.prog.bytesOf 17 = 8 := by kernel_rfl
@[simp] theorem ce17 : Tryz.prog.cellsOf 17 = 1 := by kernel_rfl
@[simp] theorem zb17 : zB Tryz.prog 17 = true := by kernel_rfl
@[simp] theorem zt17 : zT Tryz.prog 17 = .nilptr := by kernel_rfl
@[simp] theorem ty18 : tyOf Tryz.prog 18 = .struct [17] := by kernel_rfl
@[simp] theorem po18 : posT Tryz.prog 18 = true := by kernel_rfl
@[simp] theorem by18 : Tryz.prog.bytesOf 18 = 8 := by kernel_rfl
@[simp] theorem ce18 : Tryz.prog.cellsOf 18 = 1 := by kernel_rfl
@[simp] theorem zb18 : zB Tryz.prog 18 = true := by kernel_rfl
@[simp] theorem zt18 : zT Tryz.prog 18 = .agg [.nilptr] := by kernel_rfl
@[simp] theorem ty19 : tyOf Tryz.prog 19 = .struct [17] := by kernel_rfl
@[simp] theorem po19 : posT Tryz.prog 19 = true := by kernel_rfl
@[simp] theorem by19 : Tryz.prog.bytesOf 19 = 8 := by kernel_rfl
@[simp] theorem ce19 : Tryz.prog.cellsOf 19 = 1 := by kernel_rfl
@[simp] theorem zb19 : zB Tryz.prog 19 = true := by kernel_rfl
@[simp] theorem zt19 : zT Tryz.prog 19 = .agg [.nilptr] := by kernel_rfl
@[simp] theorem ty20 : tyOf Tryz.prog 20 = .iface := by kernel_rfl
@[simp] theorem po20 : posT Tryz.prog 20 = true := by kernel_rfl
@[simp] theorem by20 : Tryz.prog.bytesOf 20 = 16 := by kernel_rfl
@[simp] theorem ce20 : Tryz.prog.cellsOf 20 = 1 := by kernel_rfl
@[simp] theorem zb20 : zB Tryz.prog 20 = true := by kernel_rfl
@[simp] theorem zt20 : zT Tryz.prog 20 = .nilifc := by kernel_rfl
@[simp] theorem ty21 : tyOf Tryz.prog 21 = .int .i32 := by kernel_rfl
@[simp] theorem po21 : posT Tryz.prog 21 = true := by kernel_rfl
@[simp] theorem by21 : Tryz.prog.bytesOf 21 = 4 := by kernel_rfl
@[simp] theorem ce21 : Tryz.prog.cellsOf 21 = 1 := by kernel_rfl
@[simp] theorem zb21 : zB Tryz.prog 21 = true := by kernel_rfl
@[simp] theorem zt21 : zT Tryz.prog 21 = .i .i32 0 := by kernel_rfl
@[simp] theorem cm21 : cmpT Tryz.prog 8 21 = true := by kernel_rfl
@[simp] theorem ty22 : tyOf Tryz.prog 22 = .slice 34 := by kernel_rfl
@[simp] theorem po22 : posT Tryz.prog 22 = true := by kernel_rfl
@[simp] theorem by22 : Tryz.prog.bytesOf 22 = 24 := by kernel_rfl
@[simp] theorem ce22 : Tryz.prog.cellsOf 22 = 1 := by kernel_rfl
@[simp] theorem zb22 : zB Tryz.prog 22 = true := by kernel_rfl
@[simp] theorem zt22 : zT Tryz.prog 22 = .sl .full [] := by kernel_rfl
@[simp] theorem ty23 : tyOf Tryz.prog 23 = .func := by kernel_rfl
@[simp] theorem po23 : posT Tryz.prog 23 = true := by kernel_rfl
@[simp] theorem by23 : Tryz.prog.bytesOf 23 = 8 := by kernel_rfl
@[simp] theorem ce23 : Tryz.prog.cellsOf 23 = 1 := by kernel_rfl
@[simp] theorem zb23 : zB Tryz.prog 23 = true := by kernel_rfl
@[simp] theorem zt23 : zT Tryz.prog 23 = .nilfn := by kernel_rfl
@[simp] theorem ty24 : tyOf Tryz.prog 24 = .ptr := by kernel_rfl
@[simp] theorem po24 : posT Tryz.prog 24 = true := by kernel_rfl
@[simp] theorem by24 : Tryz.prog.bytesOf 24 = 8 := by kernel_rfl
@[simp] theorem ce24 : Tryz.prog.cellsOf 24 = 1 := by kernel_rfl
@[simp] theorem zb24 : zB Tryz.prog 24 = true := by kernel_rfl
@[simp] theorem zt24 : zT Tryz.prog 24 = .nilptr := by kernel_rfl
@[simp] theorem ty25 : tyOf Tryz.prog 25 = .int .i64 := by kernel_rfl
@[simp] theorem po25 : posT Tryz.prog 25 = true := by kernel_rfl
@[simp] theorem by25 : Tryz.prog.bytesOf 25 = 8 := by kernel_rfl
@[simp] theorem ce25 : Tryz.prog.cellsOf 25 = 1 := by kernel_rfl
@[simp] theorem zb25 : zB Tryz.prog 25 = true := by kernel_rfl
@[simp] theorem zt25 : zT Tryz.prog 25 = .i .i64 0 := by kernel_rfl
@[simp] theorem cm25 : cmpT Tryz.prog 8 25 = true := by kernel_rfl
@[simp] theorem ty27 : tyOf Tryz.prog 27 = .func := by kernel_rfl
@[simp] theorem po27 : posT Tryz.prog 27 = true := by kernel_rfl
@[simp] theorem by27 : Tryz.prog.bytesOf 27 = 8 := by kernel_rfl
@[simp] theorem ce27 : Tryz.prog.cellsOf 27 = 1 := by kernel_rfl
@[simp] theorem zb27 : zB Tryz.prog 27 = true := by kernel_rfl
@[simp] theorem zt27 : zT Tryz.prog 27 = .nilfn := by kernel_rfl
@[simp] theorem ty28 : tyOf Tryz.prog 28 = .func := by kernel_rfl
@[simp] theorem po28 : posT Tryz.prog 28 = true := by kernel_rfl
@[simp] theorem by28 : Tryz.prog.bytesOf 28 = 8 := by kernel_rfl
@[simp] theorem ce28 : Tryz.prog.cellsOf 28 = 1 := by kernel_rfl
@[simp] theorem zb28 : zB Tryz.prog 28 = true := by kernel_rfl
@[simp] theorem zt28 : zT Tryz.prog 28 = .nilfn := by kernel_rfl
@[simp] theorem ty29 : tyOf Tryz.prog 29 = .arr 32 5 := by kernel_rfl
@[simp] theorem po29 : posT Tryz.prog 29 = true := by kernel_rfl
@[simp] theorem by29 : Tryz.prog.bytesOf 29 = 32 := by kernel_rfl
@[simp] theorem ce29 : Tryz.prog.cellsOf 29 = 32 := by kernel_rfl
@[simp] theorem zb29 : zB Tryz.prog 29 = true := by kernel_rfl
@[simp] theorem zt29 : zT Tryz.prog 29 = .agg (List.replicate 32 (.i .u8 0)) := by kernel_rfl
@[simp] theorem cm29 : cmpT Tryz.prog 8 29 = true := by kernel_rfl
@[simp] theorem ty30 : tyOf Tryz.prog 30 = .arr 32 5 := by kernel_rfl
@[simp] theorem po30 : posT Tryz.prog 30 = true := by kernel_rfl
@[simp] theorem by30 : Tryz.prog.bytesOf 30 = 32 := by kernel_rfl
@[simp] theorem ce30 : Tryz.prog.cellsOf 30 = 32 := by kernel_rfl
@[simp] theorem zb30 : zB Tryz.prog 30 = true := by kernel_rfl
@[simp] theorem zt30 : zT Tryz.prog 30 = .agg (List.replicate 32 (.i .u8 0)) := by kernel_rfl
@[simp] theorem cm30 : cmpT Tryz.prog 8 30 = true := by kernel_rfl
@[simp] theorem ty31 : tyOf Tryz.prog 31 = .slice 59 := by kernel_rfl
@[simp] theorem po31 : posT Tryz.prog 31 = true := by kernel_rfl
@[simp] theorem by31 : Tryz.prog.bytesOf 31 = 24 := by kernel_rfl
@[simp] theorem ce31 : Tryz.prog.cellsOf 31 = 1 := by kernel_rfl
@[simp] theorem zb31 : zB Tryz.prog 31 = true := by kernel_rfl
@[simp] theorem zt31 : zT Tryz.prog 31 = .sl .full [] := by kernel_rfl
@[simp] theorem ty32 : tyOf Tryz.prog 32 = .slice 73 := by kernel_rfl
@[simp] theorem po32 : posT Tryz.prog 32 = true := by kernel_rfl
@[simp] theorem by32 : Tryz.prog.bytesOf 32 = 24 := by kernel_rfl
@[simp] theorem ce32 : Tryz.prog.cellsOf 32 = 1 := by kernel_rfl
@[simp] theorem zb32 : zB Tryz.prog 32 = true := by kernel_rfl
@[simp] theorem zt32 : zT Tryz.prog 32 = .sl .full [] := by kernel_rfl
@[simp] theorem ty33 : tyOf Tryz.prog 33 = .struct [30, 31, 32] := by kernel_rfl
@[simp] theorem po33 : posT Tryz.prog 33 = true := by kernel_rfl
@[simp] theorem by33 : Tryz.prog.bytesOf 33 = 80 := by kernel_rfl
@[simp] theorem ce33 : Tryz.prog.cellsOf 33 = 34 := by kernel_rfl
@[simp] theorem zb33 : zB Tryz.prog 33 = true := by kernel_rfl
@[simp] theorem zt33 : zT Tryz.prog 33 = .agg [zT Tryz.prog 30, .sl .full [], .sl .full []] := by kernel_rfl
@[simp] theorem ty34 : tyOf Tryz.prog 34 = .struct [30, 31, 32] := by kernel_rfl
@[simp] theorem po34 : posT Tryz.prog 34 = true := by kernel_rfl
@[simp] theorem by34 : Tryz.prog.bytesOf 34 = 80 := by kernel_rfl
@[simp] theorem ce34 : Tryz.prog.cellsOf 34 = 34 := by kernel_rfl
@[simp] theorem zb34 : zB Tryz.prog 34 = true := by kernel_rfl
@[simp] theorem zt34 : zT Tryz.prog 34 = .agg [zT Tryz.prog 30, .sl .full [], .sl .full []] := by kernel_rfl
@[simp] theorem ty35 : tyOf Tryz.prog 35 = .func := by kernel_rfl
@[simp] theorem po35 : posT Tryz.prog 35 = true := by kernel_rfl
@[simp] theorem by35 : Tryz.prog.bytesOf 35 = 8 := by kernel_rfl
@[simp] theorem ce35 : Tryz.prog.cellsOf 35 = 1 := by kernel_rfl
@[simp] theorem zb35 : zB Tryz.prog 35 = true := by kernel_rfl
@[simp] theorem zt35 : zT Tryz.prog 35 = .nilfn := by kernel_rfl
@[simp] theorem ty36 : tyOf Tryz.prog 36 = .func := by kernel_rfl
@[simp] theorem po36 : posT Tryz.prog 36 = true := by kernel_rfl
@[simp] theorem by36 : Tryz.prog.bytesOf 36 = 8 := by kernel_rfl
@[simp] theorem ce36 : Tryz.prog.cellsOf 36 = 1 := by kernel_rfl
@[simp] theorem zb36 : zB Tryz.prog 36 = true := by kernel_rfl
@[simp] theorem zt36 : zT Tryz.prog 36 = .nilfn := by kernel_rfl
@[simp] theorem ty37 : tyOf Tryz.prog 37 = .func := by kernel_rfl
@[simp] theorem po37 : posT Tryz.prog 37 = true := by kernel_rfl
@[simp] theorem by37 : Tryz.prog.bytesOf 37 = 8 := by kernel_rfl
@[simp] theorem ce37 : Tryz.prog.cellsOf 37 = 1 := by kernel_rfl
@[simp] theorem zb37 : zB Tryz.prog 37 = true := by kernel_rfl
@[simp] theorem zt37 : zT Tryz.prog 37 = .nilfn := by kernel_rfl
@[simp] theorem ty38 : tyOf Tryz.prog 38 = .func := by kernel_rfl
@[simp] theorem po38 : posT Tryz.prog 38 = true := by kernel_rfl
@[simp] theorem by38 : Tryz.prog.bytesOf 38 = 8 := by kernel_rfl
@[simp] theorem ce38 : Tryz.prog.cellsOf 38 = 1 := by kernel_rfl
@[simp] theorem zb38 : zB Tryz.prog 38 = true := by kernel_rfl
@[simp] theorem zt38 : zT Tryz.prog 38 = .nilfn := by kernel_rfl
@[simp] theorem ty39 : tyOf Tryz.prog 39 = .slice 42 := by kernel_rfl
@[simp] theorem po39 : posT Tryz.prog 39 = true := by kernel_rfl
@[simp] theorem by39 : Tryz.prog.bytesOf 39 = 24 := by kernel_rfl
@[simp] theorem ce39 : Tryz.prog.cellsOf 39 = 1 := by kernel_rfl
@[simp] theorem zb39 : zB Tryz.prog 39 = true := by kernel_rfl
@[simp] theorem zt39 : zT Tryz.prog 39 = .sl .full [] := by kernel_rfl
@[simp] theorem ty40 : tyOf Tryz.prog 40 = .func := by kernel_rfl
@[simp] theorem po40 : posT Tryz.prog 40 = true := by kernel_rfl
@[simp] theorem by40 : Tryz.prog.bytesOf 40 = 8 := by kernel_rfl
@[simp] theorem ce40 : Tryz.prog.cellsOf 40 = 1 := by kernel_rfl
@[simp] theorem zb40 : zB Tryz.prog 40 = true := by kernel_rfl
@[simp] theorem zt40 : zT Tryz.prog 40 = .nilfn := by kernel_rfl
@[simp] theorem ty41 : tyOf Tryz.prog 41 = .struct [5, 34] := by kernel_rfl
@[simp] theorem po41 : posT Tryz.prog 41 = true := by kernel_rfl
@[simp] theorem by41 : Tryz.prog.bytesOf 41 = 88 := by kernel_rfl
@[simp] theorem ce41 : Tryz.prog.cellsOf 41 = 35 := by kernel_rfl
@[simp] theorem zb41 : zB Tryz.prog 41 = true := by kernel_rfl
@[simp] theorem zt41 : zT Tryz.prog 41 = .agg [.i .u8 0, zT Tryz.prog 34] := by kernel_rfl
@[simp] theorem ty42 : tyOf Tryz.prog 42 = .struct [5, 34] := by kernel_rfl
@[simp] theorem po42 : posT Tryz.prog 42 = true := by kernel_rfl
@[simp] theorem by42 : Tryz.prog.bytesOf 42 = 88 := by kernel_rfl
@[simp] theorem ce42 : Tryz.prog.cellsOf 42 = 35 := by kernel_rfl
@[simp] theorem zb42 : zB Tryz.prog 42 = true := by kernel_rfl
@[simp] theorem zt42 : zT Tryz.prog 42 = .agg [.i .u8 0, zT Tryz.prog 34] := by kernel_rfl
@[simp] theorem ty43 : tyOf Tryz.prog 43 = .func := by kernel_rfl
@[simp] theorem po43 : posT Tryz.prog 43 = true := by kernel_rfl
@[simp] theorem by43 : Tryz.prog.bytesOf 43 = 8 := by kernel_rfl
@[simp] theorem ce43 : Tryz.prog.cellsOf 43 = 1 := by kernel_rfl
@[simp] theorem zb43 : zB Tryz.prog 43 = true := by kernel_rfl
@[simp] theorem zt43 : zT Tryz.prog 43 = .nilfn := by kernel_rfl
@[simp] theorem ty44 : tyOf Tryz.prog 44 = .func := by kernel_rfl
@[simp] theorem po44 : posT Tryz.prog 44 = true := by kernel_rfl
@[simp] theorem by44 : Tryz.prog.bytesOf 44 = 8 := by kernel_rfl
@[simp] theorem ce44 : Tryz.prog.cellsOf 44 = 1 := by kernel_rfl
@[simp] theorem zb44 : zB Tryz.prog 44 = true := by kernel_rfl
@[simp] theorem zt44 : zT Tryz.prog 44 = .nilfn := by kernel_rfl
@[simp] theorem ty45 : tyOf Tryz.prog 45 = .func := by kernel_rfl
@[simp] theorem po45 : posT Tryz.prog 45 = true := by kernel_rfl
@[simp] theorem by45 : Tryz.prog.bytesOf 45 = 8 := by kernel_rfl
@[simp] theorem ce45 : Tryz.prog.cellsOf 45 = 1 := by kernel_rfl
@[simp] theorem zb45 : zB Tryz.prog 45 = true := by kernel_rfl
@[simp] theorem zt45 : zT Tryz.prog 45 = .nilfn := by kernel_rfl
@[simp] theorem ty46 : tyOf Tryz.prog 46 = .func := by kernel_rfl
@[simp] theorem po46 : posT Tryz.prog 46 = true := by kernel_rfl
@[simp] theorem by46 : Tryz.prog.bytesOf 46 = 8 := by kernel_rfl
@[simp] theorem ce46 : Tryz.prog.cellsOf 46 = 1 := by kernel_rfl
@[simp] theorem zb46 : zB Tryz.prog 46 = true := by kernel_rfl
@[simp] theorem zt46 : zT Tryz.prog 46 = .nilfn := by kernel_rfl
@[simp] theorem ty47 : tyOf Tryz.prog 47 = .func := by kernel_rfl
@[simp] theorem po47 : posT Tryz.prog 47 = true := by kernel_rfl
@[simp] theorem by47 : Tryz.prog.bytesOf 47 = 8 := by kernel_rfl
@[simp] theorem ce47 : Tryz.prog.cellsOf 47 = 1 := by kernel_rfl
@[simp] theorem zb47 : zB Tryz.prog 47 = true := by kernel_rfl
@[simp] theorem zt47 : zT Tryz.prog 47 = .nilfn := by kernel_rfl
@[simp] theorem ty48 : tyOf Tryz.prog 48 = .func := by kernel_rfl
@[simp] theorem po48 : posT Tryz.prog 48 = true := by kernel_rfl
@[simp] theorem by48 : Tryz.prog.bytesOf 48 = 8 := by kernel_rfl
@[simp] theorem ce48 : Tryz.prog.cellsOf 48 = 1 := by kernel_rfl
@[simp] theorem zb48 : zB Tryz.prog 48 = true := by kernel_rfl
@[simp] theorem zt48 : zT Tryz.prog 48 = .nilfn := by kernel_rfl
@[simp] theorem ty49 : tyOf Tryz.prog 49 = .func := by kernel_rfl
@[simp] theorem po49 : posT Tryz.prog 49 = true := by kernel_rfl
@[simp] theorem by49 : Tryz.prog.bytesOf 49 = 8 := by kernel_rfl
@[simp] theorem ce49 : Tryz.prog.cellsOf 49 = 1 := by kernel_rfl
@[simp] theorem zb49 : zB Tryz.prog 49 = true := by kernel_rfl
@[simp] theorem zt49 : zT Tryz.prog 49 = .nilfn := by kernel_rfl
@[simp] theorem ty50 : tyOf Tryz.prog 50 = .slice 30 := by kernel_rfl
@[simp] theorem po50 : posT Tryz.prog 50 = true := by kernel_rfl
@[simp] theorem by50 : Tryz.prog.bytesOf 50 = 24 := by kernel_rfl
@[simp] theorem ce50 : Tryz.prog.cellsOf 50 = 1 := by kernel_rfl
@[simp] theorem zb50 : zB Tryz.prog 50 = true := by kernel_rfl
@[simp] theorem zt50 : zT Tryz.prog 50 = .sl .full [] := by kernel_rfl
@[simp] theorem ty51 : tyOf Tryz.prog 51 = .func := by kernel_rfl
@[simp] theorem po51 : posT Tryz.prog 51 = true := by kernel_rfl
@[simp] theorem by51 : Tryz.prog.bytesOf 51 = 8 := by kernel_rfl
@[simp] theorem ce51 : Tryz.prog.cellsOf 51 = 1 := by kernel_rfl
@[simp] theorem zb51 : zB Tryz.prog 51 = true := by kernel_rfl
@[simp] theorem zt51 : zT Tryz.prog 51 = .nilfn := by kernel_rfl
@[simp] theorem ty52 : tyOf Tryz.prog 52 = .func := by kernel_rfl
@[simp] theorem po52 : posT Tryz.prog 52 = true := by kernel_rfl
@[simp] theorem by52 : Tryz.prog.bytesOf 52 = 8 := by kernel_rfl
@[simp] theorem ce52 : Tryz.prog.cellsOf 52 = 1 := by kernel_rfl
@[simp] theorem zb52 : zB Tryz.prog 52 = true := by kernel_rfl
@[simp] theorem zt52 : zT Tryz.prog 52 = .nilfn := by kernel_rfl
@[simp] theorem ty53 : tyOf Tryz.prog 53 = .func := by kernel_rfl
@[simp] theorem po53 : posT Tryz.prog 53 = true := by kernel_rfl
@[simp] theorem by53 : Tryz.prog.bytesOf 53 = 8 := by kernel_rfl
@[simp] theorem ce53 : Tryz.prog.cellsOf 53 = 1 := by kernel_rfl
@[simp] theorem zb53 : zB Tryz.prog 53 = true := by kernel_rfl
@[simp] theorem zt53 : zT Tryz.prog 53 = .nilfn := by kernel_rfl
@[simp] theorem ty55 : tyOf Tryz.prog 55 = .func := by kernel_rfl
@[simp] theorem po55 : posT Tryz.prog 55 = true := by kernel_rfl
@[simp] theorem by55 : Tryz.prog.bytesOf 55 = 8 := by kernel_rfl
@[simp] theorem ce55 : Tryz.prog.cellsOf 55 = 1 := by kernel_rfl
@[simp] theorem zb55 : zB Tryz.prog 55 = true := by kernel_rfl
@[simp] theorem zt55 : zT Tryz.prog 55 = .nilfn := by kernel_rfl
@[simp] theorem ty56 : tyOf Tryz.prog 56 = .func := by kernel_rfl
@[simp] theorem po56 : posT Tryz.prog 56 = true := by kernel_rfl
@[simp] theorem by56 : Tryz.prog.bytesOf 56 = 8 := by kernel_rfl
@[simp] theorem ce56 : Tryz.prog.cellsOf 56 = 1 := by kernel_rfl
@[simp] theorem zb56 : zB Tryz.prog 56 = true := by kernel_rfl
@[simp] theorem zt56 : zT Tryz.prog 56 = .nilfn := by kernel_rfl
@[simp] theorem ty57 : tyOf Tryz.prog 57 = .func := by kernel_rfl
@[simp] theorem po57 : posT Tryz.prog 57 = true := by kernel_rfl
@[simp] theorem by57 : Tryz.prog.bytesOf 57 = 8 := by kernel_rfl
@[simp] theorem ce57 : Tryz.prog.cellsOf 57 = 1 := by kernel_rfl
@[simp] theorem zb57 : zB Tryz.prog 57 = true := by kernel_rfl
@[simp] theorem zt57 : zT Tryz.prog 57 = .nilfn := by kernel_rfl
@[simp] theorem ty58 : tyOf Tryz.prog 58 = .struct [9, 4, 30] := by kernel_rfl
@[simp] theorem po58 : posT Tryz.prog 58 = true := by kernel_rfl
@[simp] theorem by58 : Tryz.prog.bytesOf 58 = 56 := by kernel_rfl
@[simp] theorem ce58 : Tryz.prog.cellsOf 58 = 34 := by kernel_rfl
@[simp] theorem zb58 : zB Tryz.prog 58 = true := by kernel_rfl
@[simp] theorem zt58 : zT Tryz.prog 58 = .agg [.s [], .b false, zT Tryz.prog 30] := by kernel_rfl
@[simp] theorem cm58 : cmpT Tryz.prog 8 58 = true := by kernel_rfl
@[simp] theorem ty59 : tyOf Tryz.prog 59 = .struct [9, 4, 30] := by kernel_rfl
@[simp] theorem po59 : posT Tryz.prog 59 = true := by kernel_rfl
@[simp] theorem by59 : Tryz.prog.bytesOf 59 = 56 := by kernel_rfl
@[simp] theorem ce59 : Tryz.prog.cellsOf 59 = 34 := by kernel_rfl
@[simp] theorem zb59 : zB Tryz.prog 59 = true := by kernel_rfl
@[simp] theorem zt59 : zT Tryz.prog 59 = .agg [.s [], .b false, zT Tryz.prog 30] := by kernel_rfl
@[simp] theorem cm59 : cmpT Tryz.prog 8 59 = true := by kernel_rfl
@[simp] theorem ty60 : tyOf Tryz.prog 60 = .map 30 22 := by kernel_rfl
@[simp] theorem po60 : posT Tryz.prog 60 = true := by kernel_rfl
@[simp] theorem by60 : Tryz.prog.bytesOf 60 = 8 := by kernel_rfl
@[simp] theorem ce60 : Tryz.prog.cellsOf 60 = 1 := by kernel_rfl
@[simp] theorem zb60 : zB Tryz.prog 60 = true := by kernel_rfl
@[simp] theorem zt60 : zT Tryz.prog 60 = .map none := by kernel_rfl
@[simp] theorem ty61 : tyOf Tryz.prog 61 = .struct [3, 60] := by kernel_rfl
@[simp] theorem po61 : posT Tryz.prog 61 = true := by kernel_rfl
@[simp] theorem by61 : Tryz.prog.bytesOf 61 = 16 := by kernel_rfl
@[simp] theorem ce61 : Tryz.prog.cellsOf 61 = 2 := by kernel_rfl
@[simp] theorem zb61 : zB Tryz.prog 61 = true := by kernel_rfl
@[simp] theorem zt61 : zT Tryz.prog 61 = .agg [.i .i64 0, .map none] := by kernel_rfl
@[simp] theorem ty62 : tyOf Tryz.prog 62 = .struct [3, 60] := by kernel_rfl
@[simp] theorem po62 : posT Tryz.prog 62 = true := by kernel_rfl
@[simp] theorem by62 : Tryz.prog.bytesOf 62 = 16 := by kernel_rfl
@[simp] theorem ce62 : Tryz.prog.cellsOf 62 = 2 := by kernel_rfl
@[simp] theorem zb62 : zB Tryz.prog 62 = true := by kernel_rfl
@[simp] theorem zt62 : zT Tryz.prog 62 = .agg [.i .i64 0, .map none] := by kernel_rfl
@[simp] theorem ty63 : tyOf Tryz.prog 63 = .func := by kernel_rfl
@[simp] theorem po63 : posT Tryz.prog 63 = true := by kernel_rfl
@[simp] theorem by63 : Tryz.prog.bytesOf 63 = 8 := by kernel_rfl
@[simp] theorem ce63 : Tryz.prog.cellsOf 63 = 1 := by kernel_rfl
@[simp] theorem zb63 : zB Tryz.prog 63 = true := by kernel_rfl
@[simp] theorem zt63 : zT Tryz.prog 63 = .nilfn := by kernel_rfl
@[simp] theorem ty64 : tyOf Tryz.prog 64 = .func := by kernel_rfl
@[simp] theorem po64 : posT Tryz.prog 64 = true := by kernel_rfl
@[simp] theorem by64 : Tryz.prog.bytesOf 64 = 8 := by kernel_rfl
@[simp] theorem ce64 : Tryz.prog.cellsOf 64 = 1 := by kernel_rfl
@[simp] theorem zb64 : zB Tryz.prog 64 = true := by kernel_rfl
@[simp] theorem zt64 : zT Tryz.prog 64 = .nilfn := by kernel_rfl
@[simp] theorem ty65 : tyOf Tryz.prog 65 = .func := by kernel_rfl
@[simp] theorem po65 : posT Tryz.prog 65 = true := by kernel_rfl
@[simp] theorem by65 : Tryz.prog.bytesOf 65 = 8 := by kernel_rfl
@[simp] theorem ce65 : Tryz.prog.cellsOf 65 = 1 := by kernel_rfl
@[simp] theorem zb65 : zB Tryz.prog 65 = true := by kernel_rfl
@[simp] theorem zt65 : zT Tryz.prog 65 = .nilfn := by kernel_rfl
@[simp] theorem ty66 : tyOf Tryz.prog 66 = .func := by kernel_rfl
@[simp] theorem po66 : posT Tryz.prog 66 = true := by kernel_rfl
@[simp] theorem by66 : Tryz.prog.bytesOf 66 = 8 := by kernel_rfl
@[simp] theorem ce66 : Tryz.prog.cellsOf 66 = 1 := by kernel_rfl
@[simp] theorem zb66 : zB Tryz.prog 66 = true := by kernel_rfl
@[simp] theorem zt66 : zT Tryz.prog 66 = .nilfn := by kernel_rfl
@[simp] theorem ty67 : tyOf Tryz.prog 67 = .func := by kernel_rfl
@[simp] theorem po67 : posT Tryz.prog 67 = true := by kernel_rfl
@[simp] theorem by67 : Tryz.prog.bytesOf 67 = 8 := by kernel_rfl
@[simp] theorem ce67 : Tryz.prog.cellsOf 67 = 1 := by kernel_rfl
@[simp] theorem zb67 : zB Tryz.prog 67 = true := by kernel_rfl
@[simp] theorem zt67 : zT Tryz.prog 67 = .nilfn := by kernel_rfl
@[simp] theorem ty68 : tyOf Tryz.prog 68 = .slice 9 := by kernel_rfl
@[simp] theorem po68 : posT Tryz.prog 68 = true := by kernel_rfl
@[simp] theorem by68 : Tryz.prog.bytesOf 68 = 24 := by kernel_rfl
@[simp] theorem ce68 : Tryz.prog.cellsOf 68 = 1 := by kernel_rfl
@[simp] theorem zb68 : zB Tryz.prog 68 = true := by kernel_rfl
@[simp] theorem zt68 : zT Tryz.prog 68 = .sl .full [] := by kernel_rfl
@[simp] theorem ty70 : tyOf Tryz.prog 70 = .func := by kernel_rfl
@[simp] theorem po70 : posT Tryz.prog 70 = true := by kernel_rfl
@[simp] theorem by70 : Tryz.prog.bytesOf 70 = 8 := by kernel_rfl
@[simp] theorem ce70 : Tryz.prog.cellsOf 70 = 1 := by kernel_rfl
@[simp] theorem zb70 : zB Tryz.prog 70 = true := by kernel_rfl
@[simp] theorem zt70 : zT Tryz.prog 70 = .nilfn := by kernel_rfl
@[simp] theorem ty71 : tyOf Tryz.prog 71 = .func := by kernel_rfl
@[simp] theorem po71 : posT Tryz.prog 71 = true := by kernel_rfl
@[simp] theorem by71 : Tryz.prog.bytesOf 71 = 8 := by kernel_rfl
@[simp] theorem ce71 : Tryz.prog.cellsOf 71 = 1 := by kernel_rfl
@[simp] theorem zb71 : zB Tryz.prog 71 = true := by kernel_rfl
@[simp] theorem zt71 : zT Tryz.prog 71 = .nilfn := by kernel_rfl
@[simp] theorem ty72 : tyOf Tryz.prog 72 = .struct [9, 30] := by kernel_rfl
@[simp] theorem po72 : posT Tryz.prog 72 = true := by kernel_rfl
@[simp] theorem by72 : Tryz.prog.bytesOf 72 = 48 := by kernel_rfl
@[simp] theorem ce72 : Tryz.prog.cellsOf 72 = 33 := by kernel_rfl
@[simp] theorem zb72 : zB Tryz.prog 72 = true := by kernel_rfl
@[simp] theorem zt72 : zT Tryz.prog 72 = .agg [.s [], zT Tryz.prog 30] := by kernel_rfl
@[simp] theorem cm72 : cmpT Tryz.prog 8 72 = true := by kernel_rfl
@[simp] theorem ty73 : tyOf Tryz.prog 73 = .struct [9, 30] := by kernel_rfl
@[simp] theorem po73 : posT Tryz.prog 73 = true := by kernel_rfl
@[simp] theorem by73 : Tryz.prog.bytesOf 73 = 48 := by kernel_rfl
@[simp] theorem ce73 : Tryz.prog.cellsOf 73 = 33 := by kernel_rfl
@[simp] theorem zb73 : zB Tryz.prog 73 = true := by kernel_rfl
@[simp] theorem zt73 : zT Tryz.prog 73 = .agg [.s [], zT Tryz.prog 30] := by kernel_rfl
@[simp] theorem cm73 : cmpT Tryz.prog 8 73 = true := by kernel_rfl
@[simp] theorem ty74 : tyOf Tryz.prog 74 = .func := by kernel_rfl
@[simp] theorem po74 : posT Tryz.prog 74 = true := by kernel_rfl
@[simp] theorem by74 : Tryz.prog.bytesOf 74 = 8 := by kernel_rfl
@[simp] theorem ce74 : Tryz.prog.cellsOf 74 = 1 := by kernel_rfl
@[simp] theorem zb74 : zB Tryz.prog 74 = true := by kernel_rfl
@[simp] theorem zt74 : zT Tryz.prog 74 = .nilfn := by kernel_rfl
@[simp] theorem ty75 : tyOf Tryz.prog 75 = .func := by kernel_rfl
@[simp] theorem po75 : posT Tryz.prog 75 = true := by kernel_rfl
@[simp] theorem by75 : Tryz.prog.bytesOf 75 = 8 := by kernel_rfl
@[simp] theorem ce75 : Tryz.prog.cellsOf 75 = 1 := by kernel_rfl
@[simp] theorem zb75 : zB Tryz.prog 75 = true := by kernel_rfl
@[simp] theorem zt75 : zT Tryz.prog 75 = .nilfn := by kernel_rfl
@[simp] theorem ty76 : tyOf Tryz.prog 76 = .func := by kernel_rfl
@[simp] theorem po76 : posT Tryz.prog 76 = true := by kernel_rfl
@[simp] theorem by76 : Tryz.prog.bytesOf 76 = 8 := by kernel_rfl
@[simp] theorem ce76 : Tryz.prog.cellsOf 76 = 1 := by kernel_rfl
@[simp] theorem zb76 : zB Tryz.prog 76 = true := by kernel_rfl
@[simp] theorem zt76 : zT Tryz.prog 76 = .nilfn := by kernel_rfl
@[simp] theorem ty77 : tyOf Tryz.prog 77 = .func := by kernel_rfl
@[simp] theorem po77 : posT Tryz.prog 77 = true := by kernel_rfl
@[simp] theorem by77 : Tryz.prog.bytesOf 77 = 8 := by kernel_rfl
@[simp] theorem ce77 : Tryz.prog.cellsOf 77 = 1 := by kernel_rfl
@[simp] theorem zb77 : zB Tryz.prog 77 = true := by kernel_rfl
@[simp] theorem zt77 : zT Tryz.prog 77 = .nilfn := by kernel_rfl
@[simp] theorem ty78 : tyOf Tryz.prog 78 = .func := by kernel_rfl
@[simp] theorem po78 : posT Tryz.prog 78 = true := by kernel_rfl
@[simp] theorem by78 : Tryz.prog.bytesOf 78 = 8 := by kernel_rfl
@[simp] theorem ce78 : Tryz.prog.cellsOf 78 = 1 := by kernel_rfl
@[simp] theorem zb78 : zB Tryz.prog 78 = true := by kernel_rfl
@[simp] theorem zt78 : zT Tryz.prog 78 = .nilfn := by kernel_rfl
@[simp] theorem ty79 : tyOf Tryz.prog 79 = .func := by kernel_rfl
@[simp] theorem po79 : posT Tryz.prog 79 = true := by kernel_rfl
@[simp] theorem by79 : Tryz.prog.bytesOf 79 = 8 := by kernel_rfl
@[simp] theorem ce79 : Tryz.prog.cellsOf 79 = 1 := by kernel_rfl
@[simp] theorem zb79 : zB Tryz.prog 79 = true := by kernel_rfl
@[simp] theorem zt79 : zT Tryz.prog 79 = .nilfn := by kernel_rfl
@[simp] theorem ty80 : tyOf Tryz.prog 80 = .func := by kernel_rfl
@[simp] theorem po80 : posT Tryz.prog 80 = true := by kernel_rfl
@[simp] theorem by80 : Tryz.prog.bytesOf 80 = 8 := by kernel_rfl
@[simp] theorem ce80 : Tryz.prog.cellsOf 80 = 1 := by kernel_rfl
@[simp] theorem zb80 : zB Tryz.prog 80 = true := by kernel_rfl
@[simp] theorem zt80 : zT Tryz.prog 80 = .nilfn := by kernel_rfl
@[simp] theorem ty81 : tyOf Tryz.prog 81 = .func := by kernel_rfl
@[simp] theorem po81 : posT Tryz.prog 81 = true := by kernel_rfl
@[simp] theorem by81 : Tryz.prog.bytesOf 81 = 8 := by kernel_rfl
@[simp] theorem ce81 : Tryz.prog.cellsOf 81 = 1 := by kernel_rfl
@[simp] theorem zb81 : zB Tryz.prog 81 = true := by kernel_rfl
@[simp] theorem zt81 : zT Tryz.prog 81 = .nilfn := by kernel_rfl
@[simp] theorem ty82 : tyOf Tryz.prog 82 = .func := by kernel_rfl
@[simp] theorem po82 : posT Tryz.prog 82 = true := by kernel_rfl
@[simp] theorem by82 : Tryz.prog.bytesOf 82 = 8 := by kernel_rfl
@[simp] theorem ce82 : Tryz.prog.cellsOf 82 = 1 := by kernel_rfl
@[simp] theorem zb82 : zB Tryz.prog 82 = true := by kernel_rfl
@[simp] theorem zt82 : zT Tryz.prog 82 = .nilfn := by kernel_rfl
@[simp] theorem ty83 : tyOf Tryz.prog 83 = .func := by kernel_rfl
@[simp] theorem po83 : posT Tryz.prog 83 = true := by kernel_rfl
@[simp] theorem by83 : Tryz.prog.bytesOf 83 = 8 := by kernel_rfl
@[simp] theorem ce83 : Tryz.prog.cellsOf 83 = 1 := by kernel_rfl
@[simp] theorem zb83 : zB Tryz.prog 83 = true := by kernel_rfl
@[simp] theorem zt83 : zT Tryz.prog 83 = .nilfn := by kernel_rfl
@[simp] theorem ty84 : tyOf Tryz.prog 84 = .slice 5 := by kernel_rfl
@[simp] theorem po84 : posT Tryz.prog 84 = true := by kernel_rfl
@[simp] theorem by84 : Tryz.prog.bytesOf 84 = 24 := by kernel_rfl
@[simp] theorem ce84 : Tryz.prog.cellsOf 84 = 1 := by kernel_rfl
@[simp] theorem zb84 : zB Tryz.prog 84 = true := by kernel_rfl
@[simp] theorem zt84 : zT Tryz.prog 84 = .sl .full [] := by kernel_rfl
@[simp] theorem ty85 : tyOf Tryz.prog 85 = .func := by kernel_rfl
@[simp] theorem po85 : posT Tryz.prog 85 = true := by kernel_rfl
@[simp] theorem by85 : Tryz.prog.bytesOf 85 = 8 := by kernel_rfl
@[simp] theorem ce85 : Tryz.prog.cellsOf 85 = 1 := by kernel_rfl
@[simp] theorem zb85 : zB Tryz.prog 85 = true := by kernel_rfl
@[simp] theorem zt85 : zT Tryz.prog 85 = .nilfn := by kernel_rfl
@[simp] theorem ty87 : tyOf Tryz.prog 87 = .func := by kernel_rfl
@[simp] theorem po87 : posT Tryz.prog 87 = true := by kernel_rfl
@[simp] theorem by87 : Tryz.prog.bytesOf 87 = 8 := by kernel_rfl
@[simp] theorem ce87 : Tryz.prog.cellsOf 87 = 1 := by kernel_rfl
@[simp] theorem zb87 : zB Tryz.prog 87 = true := by kernel_rfl
@[simp] theorem zt87 : zT Tryz.prog 87 = .nilfn := by kernel_rfl
@[simp] theorem ty89 : tyOf Tryz.prog 89 = .func := by kernel_rfl
@[simp] theorem po89 : posT Tryz.prog 89 = true := by kernel_rfl
@[simp] theorem by89 : Tryz.prog.bytesOf 89 = 8 := by kernel_rfl
@[simp] theorem ce89 : Tryz.prog.cellsOf 89 = 1 := by kernel_rfl
@[simp] theorem zb89 : zB Tryz.prog 89 = true := by kernel_rfl
@[simp] theorem zt89 : zT Tryz.prog 89 = .nilfn := by kernel_rfl
@[simp] theorem ty91 : tyOf Tryz.prog 91 = .func := by kernel_rfl
@[simp] theorem po91 : posT Tryz.prog 91 = true := by kernel_rfl
@[simp] theorem by91 : Tryz.prog.bytesOf 91 = 8 := by kernel_rfl
@[simp] theorem ce91 : Tryz.prog.cellsOf 91 = 1 := by kernel_rfl
@[simp] theorem zb91 : zB Tryz.prog 91 = true := by kernel_rfl
@[simp] theorem zt91 : zT Tryz.prog 91 = .nilfn := by kernel_rfl
@[simp] theorem ty92 : tyOf Tryz.prog 92 = .func := by kernel_rfl
@[simp] theorem po92 : posT Tryz.prog 92 = true := by kernel_rfl
@[simp] theorem by92 : Tryz.prog.bytesOf 92 = 8 := by kernel_rfl
@[simp] theorem ce92 : Tryz.prog.cellsOf 92 = 1 := by kernel_rfl
@[simp] theorem zb92 : zB Tryz.prog 92 = true := by kernel_rfl
@[simp] theorem zt92 : zT Tryz.prog 92 = .nilfn := by kernel_rfl
@[simp] theorem ty93 : tyOf Tryz.prog 93 = .func := by kernel_rfl
@[simp] theorem po93 : posT Tryz.prog 93 = true := by kernel_rfl
@[simp] theorem by93 : Tryz.prog.bytesOf 93 = 8 := by kernel_rfl
@[simp] theorem ce93 : Tryz.prog.cellsOf 93 = 1 := by kernel_rfl
@[simp] theorem zb93 : zB Tryz.prog 93 = true := by kernel_rfl
@[simp] theorem zt93 : zT Tryz.prog 93 = .nilfn := by kernel_rfl
@[simp] theorem ty94 : tyOf Tryz.prog 94 = .func := by kernel_rfl
@[simp] theorem po94 : posT Tryz.prog 94 = true := by kernel_rfl
@[simp] theorem by94 : Tryz.prog.bytesOf 94 = 8 := by kernel_rfl
@[simp] theorem ce94 : Tryz.prog.cellsOf 94 = 1 := by kernel_rfl
@[simp] theorem zb94 : zB Tryz.prog 94 = true := by kernel_rfl
@[simp] theorem zt94 : zT Tryz.prog 94 = .nilfn := by kernel_rfl
@[simp] theorem ty96 : tyOf Tryz.prog 96 = .func := by kernel_rfl
@[simp] theorem po96 : posT Tryz.prog 96 = true := by kernel_rfl
@[simp] theorem by96 : Tryz.prog.bytesOf 96 = 8 := by kernel_rfl
@[simp] theorem ce96 : Tryz.prog.cellsOf 96 = 1 := by kernel_rfl
@[simp] theorem zb96 : zB Tryz.prog 96 = true := by kernel_rfl
@[simp] theorem zt96 : zT Tryz.prog 96 = .nilfn := by kernel_rfl
@[simp] theorem ty97 : tyOf Tryz.prog 97 = .func := by kernel_rfl
@[simp] theorem po97 : posT Tryz.prog 97 = true := by kernel_rfl
@[simp] theorem by97 : Tryz.prog.bytesOf 97 = 8 := by kernel_rfl
@[simp] theorem ce97 : Tryz.prog.cellsOf 97 = 1 := by kernel_rfl
@[simp] theorem zb97 : zB Tryz.prog 97 = true := by kernel_rfl
@[simp] theorem zt97 : zT Tryz.prog 97 = .nilfn := by kernel_rfl
@[simp] theorem ty98 : tyOf Tryz.prog 98 = .func := by kernel_rfl
@[simp] theorem po98 : posT Tryz.prog 98 = true := by kernel_rfl
@[simp] theorem by98 : Tryz.prog.bytesOf 98 = 8 := by kernel_rfl
@[simp] theorem ce98 : Tryz.prog.cellsOf 98 = 1 := by kernel_rfl
@[simp] theorem zb98 : zB Tryz.prog 98 = true := by kernel_rfl
@[simp] theorem zt98 : zT Tryz.prog 98 = .nilfn := by kernel_rfl
@[simp] theorem ty99 : tyOf Tryz.prog 99 = .func := by kernel_rfl
@[simp] theorem po99 : posT Tryz.prog 99 = true := by kernel_rfl
@[simp] theorem by99 : Tryz.prog.bytesOf 99 = 8 := by kernel_rfl
@[simp] theorem ce99 : Tryz.prog.cellsOf 99 = 1 := by kernel_rfl
@[simp] theorem zb99 : zB Tryz.prog 99 = true := by kernel_rfl
@[simp] theorem zt99 : zT Tryz.prog 99 = .nilfn := by kernel_rfl
@[simp] theorem ty100 : tyOf Tryz.prog 100 = .func := by kernel_rfl
@[simp] theorem po100 : posT Tryz.prog 100 = true := by kernel_rfl
@[simp] theorem by100 : Tryz.prog.bytesOf 100 = 8 := by kernel_rfl
@[simp] theorem ce100 : Tryz.prog.cellsOf 100 = 1 := by kernel_rfl
@[simp] theorem zb100 : zB Tryz.prog 100 = true := by kernel_rfl
@[simp] theorem zt100 : zT Tryz.prog 100 = .nilfn := by kernel_rfl
@[simp] theorem ty101 : tyOf Tryz.prog 101 = .func := by kernel_rfl
@[simp] theorem po101 : posT Tryz.prog 101 = true := by kernel_rfl
@[simp] theorem by101 : Tryz.prog.bytesOf 101 = 8 := by kernel_rfl
@[simp] theorem ce101 : Tryz.prog.cellsOf 101 = 1 := by kernel_rfl
@[simp] theorem zb101 : zB Tryz.prog 101 = true := by kernel_rfl
@[simp] theorem zt101 : zT Tryz.prog 101 = .nilfn := by kernel_rfl
@[simp] theorem ty102 : tyOf Tryz.prog 102 = .func := by kernel_rfl
@[simp] theorem po102 : posT Tryz.prog 102 = true := by kernel_rfl
@[simp] theorem by102 : Tryz.prog.bytesOf 102 = 8 := by kernel_rfl
@[simp] theorem ce102 : Tryz.prog.cellsOf 102 = 1 := by kernel_rfl
@[simp] theorem zb102 : zB Tryz.prog 102 = true := by kernel_rfl
@[simp] theorem zt102 : zT Tryz.prog 102 = .nilfn := by kernel_rfl
@[simp] theorem ty103 : tyOf Tryz.prog 103 = .func := by kernel_rfl
@[simp] theorem po103 : posT Tryz.prog 103 = true := by kernel_rfl
@[simp] theorem by103 : Tryz.prog.bytesOf 103 = 8 := by kernel_rfl
@[simp] theorem ce103 : Tryz.prog.cellsOf 103 = 1 := by kernel_rfl
@[simp] theorem zb103 : zB Tryz.prog 103 = true := by kernel_rfl
@[simp] theorem zt103 : zT Tryz.prog 103 = .nilfn := by kernel_rfl
@[simp] theorem ty104 : tyOf Tryz.prog 104 = .func := by kernel_rfl
@[simp] theorem po104 : posT Tryz.prog 104 = true := by kernel_rfl
@[simp] theorem by104 : Tryz.prog.bytesOf 104 = 8 := by kernel_rfl
@[simp] theorem ce104 : Tryz.prog.cellsOf 104 = 1 := by kernel_rfl
@[simp] theorem zb104 : zB Tryz.prog 104 = true := by kernel_rfl
@[simp] theorem zt104 : zT Tryz.prog 104 = .nilfn := by kernel_rfl
@[simp] theorem ty105 : tyOf Tryz.prog 105 = .func := by kernel_rfl
@[simp] theorem po105 : posT Tryz.prog 105 = true := by kernel_rfl
@[simp] theorem by105 : Tryz.prog.bytesOf 105 = 8 := by kernel_rfl
@[simp] theorem ce105 : Tryz.prog.cellsOf 105 = 1 := by kernel_rfl
@[simp] theorem zb105 : zB Tryz.prog 105 = true := by kernel_rfl
@[simp] theorem zt105 : zT Tryz.prog 105 = .nilfn := by kernel_rfl
@[simp] theorem ty106 : tyOf Tryz.prog 106 = .func := by kernel_rfl
@[simp] theorem po106 : posT Tryz.prog 106 = true := by kernel_rfl
@[simp] theorem by106 : Tryz.prog.bytesOf 106 = 8 := by kernel_rfl
@[simp] theorem ce106 : Tryz.prog.cellsOf 106 = 1 := by kernel_rfl
@[simp] theorem zb106 : zB Tryz.prog 106 = true := by kernel_rfl
@[simp] theorem zt106 : zT Tryz.prog 106 = .nilfn := by kernel_rfl
@[simp] theorem ty107 : tyOf Tryz.prog 107 = .ptr := by kernel_rfl
@[simp] theorem po107 : posT Tryz.prog 107 = true := by kernel_rfl
@[simp] theorem by107 : Tryz.prog.bytesOf 107 = 8 := by kernel_rfl
@[simp] theorem ce107 : Tryz.prog.cellsOf 107 = 1 := by kernel_rfl
@[simp] theorem zb107 : zB Tryz.prog 107 = true := by kernel_rfl
@[simp] theorem zt107 : zT Tryz.prog 107 = .nilptr := by kernel_rfl
@[simp] theorem ty108 : tyOf Tryz.prog 108 = .struct [107, 84] := by kernel_rfl
@[simp] theorem po108 : posT Tryz.prog 108 = true := by kernel_rfl
@[simp] theorem by108 : Tryz.prog.bytesOf 108 = 32 := by kernel_rfl
@[simp] theorem ce108 : Tryz.prog.cellsOf 108 = 2 := by kernel_rfl
@[simp] theorem zb108 : zB Tryz.prog 108 = true := by kernel_rfl
@[simp] theorem zt108 : zT Tryz.prog 108 = .agg [.nilptr, .sl .full []] := by kernel_rfl
@[simp] theorem ty109 : tyOf Tryz.prog 109 = .struct [107, 84] := by kernel_rfl
@[simp] theorem po109 : posT Tryz.prog 109 = true := by kernel_rfl
@[simp] theorem by109 : Tryz.prog.bytesOf 109 = 32 := by kernel_rfl
@[simp] theorem ce109 : Tryz.prog.cellsOf 109 = 2 := by kernel_rfl
@[simp] theorem zb109 : zB Tryz.prog 109 = true := by kernel_rfl
@[simp] theorem zt109 : zT Tryz.prog 109 = .agg [.nilptr, .sl .full []] := by kernel_rfl
@[simp] theorem ty110 : tyOf Tryz.prog 110 = .iface := by kernel_rfl
@[simp] theorem po110 : posT Tryz.prog 110 = true := by kernel_rfl
@[simp] theorem by110 : Tryz.prog.bytesOf 110 = 16 := by kernel_rfl
@[simp] theorem ce110 : Tryz.prog.cellsOf 110 = 1 := by kernel_rfl
@[simp] theorem zb110 : zB Tryz.prog 110 = true := by kernel_rfl
@[simp] theorem zt110 : zT Tryz.prog 110 = .nilifc := by kernel_rfl
@[simp] theorem ty111 : tyOf Tryz.prog 111 = .iface := by kernel_rfl
@[simp] theorem po111 : posT Tryz.prog 111 = true := by kernel_rfl
@[simp] theorem by111 : Tryz.prog.bytesOf 111 = 16 := by kernel_rfl
@[simp] theorem ce111 : Tryz.prog.cellsOf 111 = 1 := by kernel_rfl
@[simp] theorem zb111 : zB Tryz.prog 111 = true := by kernel_rfl
@[simp] theorem zt111 : zT Tryz.prog 111 = .nilifc := by kernel_rfl
@[simp] theorem ty113 : tyOf Tryz.prog 113 = .func := by kernel_rfl
@[simp] theorem po113 : posT Tryz.prog 113 = true := by kernel_rfl
@[simp] theorem by113 : Tryz.prog.bytesOf 113 = 8 := by kernel_rfl
@[simp] theorem ce113 : Tryz.prog.cellsOf 113 = 1 := by kernel_rfl
@[simp] theorem zb113 : zB Tryz.prog 113 = true := by kernel_rfl
@[simp] theorem zt113 : zT Tryz.prog 113 = .nilfn := by kernel_rfl
@[simp] theorem ty114 : tyOf Tryz.prog 114 = .func := by kernel_rfl
@[simp] theorem po114 : posT Tryz.prog 114 = true := by kernel_rfl
@[simp] theorem by114 : Tryz.prog.bytesOf 114 = 8 := by kernel_rfl
@[simp] theorem ce114 : Tryz.prog.cellsOf 114 = 1 := by kernel_rfl
@[simp] theorem zb114 : zB Tryz.prog 114 = true := by kernel_rfl
@[simp] theorem zt114 : zT Tryz.prog 114 = .nilfn := by kernel_rfl
@[simp] theorem ty115 : tyOf Tryz.prog 115 = .func := by kernel_rfl
@[simp] theorem po115 : posT Tryz.prog 115 = true := by kernel_rfl
@[simp] theorem by115 : Tryz.prog.bytesOf 115 = 8 := by kernel_rfl
@[simp] theorem ce115 : Tryz.prog.cellsOf 115 = 1 := by kernel_rfl
@[simp] theorem zb115 : zB Tryz.prog 115 = true := by kernel_rfl
@[simp] theorem zt115 : zT Tryz.prog 115 = .nilfn := by kernel_rfl
@[simp] theorem ty116 : tyOf Tryz.prog 116 = .func := by kernel_rfl
@[simp] theorem po116 : posT Tryz.prog 116 = true := by kernel_rfl
@[simp] theorem by116 : Tryz.prog.bytesOf 116 = 8 := by kernel_rfl
@[simp] theorem ce116 : Tryz.prog.cellsOf 116 = 1 := by kernel_rfl
@[simp] theorem zb116 : zB Tryz.prog 116 = true := by kernel_rfl
@[simp] theorem zt116 : zT Tryz.prog 116 = .nilfn := by kernel_rfl
@[simp] theorem ty117 : tyOf Tryz.prog 117 = .func := by kernel_rfl
@[simp] theorem po117 : posT Tryz.prog 117 = true := by kernel_rfl
@[simp] theorem by117 : Tryz.prog.bytesOf 117 = 8 := by kernel_rfl
@[simp] theorem ce117 : Tryz.prog.cellsOf 117 = 1 := by kernel_rfl
@[simp] theorem zb117 : zB Tryz.prog 117 = true := by kernel_rfl
@[simp] theorem zt117 : zT Tryz.prog 117 = .nilfn := by kernel_rfl
@[simp] theorem ty118 : tyOf Tryz.prog 118 = .func := by kernel_rfl
@[simp] theorem po118 : posT Tryz.prog 118 = true := by kernel_rfl
@[simp] theorem by118 : Tryz.prog.bytesOf 118 = 8 := by kernel_rfl
@[simp] theorem ce118 : Tryz.prog.cellsOf 118 = 1 := by kernel_rfl
@[simp] theorem zb118 : zB Tryz.prog 118 = true := by kernel_rfl
@[simp] theorem zt118 : zT Tryz.prog 118 = .nilfn := by kernel_rfl
@[simp] theorem ty119 : tyOf Tryz.prog 119 = .func := by kernel_rfl
@[simp] theorem po119 : posT Tryz.prog 119 = true := by kernel_rfl
@[simp] theorem by119 : Tryz.prog.bytesOf 119 = 8 := by kernel_rfl
@[simp] theorem ce119 : Tryz.prog.cellsOf 119 = 1 := by kernel_rfl
@[simp] theorem zb119 : zB Tryz.prog 119 = true := by kernel_rfl
@[simp] theorem zt119 : zT Tryz.prog 119 = .nilfn := by kernel_rfl
@[simp] theorem ty120 : tyOf Tryz.prog 120 = .func := by kernel_rfl
@[simp] theorem po120 : posT Tryz.prog 120 = true := by kernel_rfl
@[simp] theorem by120 : Tryz.prog.bytesOf 120 = 8 := by kernel_rfl
@[simp] theorem ce120 : Tryz.prog.cellsOf 120 = 1 := by kernel_rfl
@[simp] theorem zb120 : zB Tryz.prog 120 = true := by kernel_rfl
@[simp] theorem zt120 : zT Tryz.prog 120 = .nilfn := by kernel_rfl
@[simp] theorem ty121 : tyOf Tryz.prog 121 = .func := by kernel_rfl
@[simp] theorem po121 : posT Tryz.prog 121 = true := by kernel_rfl
@[simp] theorem by121 : Tryz.prog.bytesOf 121 = 8 := by kernel_rfl
@[simp] theorem ce121 : Tryz.prog.cellsOf 121 = 1 := by kernel_rfl
@[simp] theorem zb121 : zB Tryz.prog 121 = true := by kernel_rfl
@[simp] theorem zt121 : zT Tryz.prog 121 = .nilfn := by kernel_rfl
@[simp] theorem ty123 : tyOf Tryz.prog 123 = .func := by kernel_rfl
@[simp] theorem po123 : posT Tryz.prog 123 = true := by kernel_rfl
@[simp] theorem by123 : Tryz.prog.bytesOf 123 = 8 := by kernel_rfl
@[simp] theorem ce123 : Tryz.prog.cellsOf 123 = 1 := by kernel_rfl
@[simp] theorem zb123 : zB Tryz.prog 123 = true := by kernel_rfl
@[simp] theorem zt123 : zT Tryz.prog 123 = .nilfn := by kernel_rfl
@[simp] theorem ty125 : tyOf Tryz.prog 125 = .func := by kernel_rfl
@[simp] theorem po125 : posT Tryz.prog 125 = true := by kernel_rfl
@[simp] theorem by125 : Tryz.prog.bytesOf 125 = 8 := by kernel_rfl
@[simp] theorem ce125 : Tryz.prog.cellsOf 125 = 1 := by kernel_rfl
@[simp] theorem zb125 : zB Tryz.prog 125 = true := by kernel_rfl
@[simp] theorem zt125 : zT Tryz.prog 125 = .nilfn := by kernel_rfl
@[simp] theorem ty126 : tyOf Tryz.prog 126 = .ptr := by kernel_rfl
@[simp] theorem po126 : posT Tryz.prog 126 = true := by kernel_rfl
@[simp] theorem by126 : Tryz.prog.bytesOf 126 = 8 := by kernel_rfl
@[simp] theorem ce126 : Tryz.prog.cellsOf 126 = 1 := by kernel_rfl
@[simp] theorem zb126 : zB Tryz.prog 126 = true := by kernel_rfl
@[simp] theorem zt126 : zT Tryz.prog 126 = .nilptr := by kernel_rfl
@[simp] theorem ty127 : tyOf Tryz.prog 127 = .struct [68, 4] := by kernel_rfl
@[simp] theorem po127 : posT Tryz.prog 127 = true := by kernel_rfl
@[simp] theorem by127 : Tryz.prog.bytesOf 127 = 32 := by kernel_rfl
@[simp] theorem ce127 : Tryz.prog.cellsOf 127 = 2 := by kernel_rfl
@[simp] theorem zb127 : zB Tryz.prog 127 = true := by kernel_rfl
@[simp] theorem zt127 : zT Tryz.prog 127 = .agg [.sl .full [], .b false] := by kernel_rfl
@[simp] theorem ty128 : tyOf Tryz.prog 128 = .struct [68, 4] := by kernel_rfl
@[simp] theorem po128 : posT Tryz.prog 128 = true := by kernel_rfl
@[simp] theorem by128 : Tryz.prog.bytesOf 128 = 32 := by kernel_rfl
@[simp] theorem ce128 : Tryz.prog.cellsOf 128 = 2 := by kernel_rfl
@[simp] theorem zb128 : zB Tryz.prog 128 = true := by kernel_rfl
@[simp] theorem zt128 : zT Tryz.prog 128 = .agg [.sl .full [], .b false] := by kernel_rfl
@[simp] theorem ty129 : tyOf Tryz.prog 129 = .func := by kernel_rfl
@[simp] theorem po129 : posT Tryz.prog 129 = true := by kernel_rfl
@[simp] theorem by129 : Tryz.prog.bytesOf 129 = 8 := by kernel_rfl
@[simp] theorem ce129 : Tryz.prog.cellsOf 129 = 1 := by kernel_rfl
@[simp] theorem zb129 : zB Tryz.prog 129 = true := by kernel_rfl
@[simp] theorem zt129 : zT Tryz.prog 129 = .nilfn := by kernel_rfl
@[simp] theorem ty130 : tyOf Tryz.prog 130 = .func := by kernel_rfl
@[simp] theorem po130 : posT Tryz.prog 130 = true := by kernel_rfl
@[simp] theorem by130 : Tryz.prog.bytesOf 130 = 8 := by kernel_rfl
@[simp] theorem ce130 : Tryz.prog.cellsOf 130 = 1 := by kernel_rfl
@[simp] theorem zb130 : zB Tryz.prog 130 = true := by kernel_rfl
@[simp] theorem zt130 : zT Tryz.prog 130 = .nilfn := by kernel_rfl
@[simp] theorem ty131 : tyOf Tryz.prog 131 = .func := by kernel_rfl
@[simp] theorem po131 : posT Tryz.prog 131 = true := by kernel_rfl
@[simp] theorem by131 : Tryz.prog.bytesOf 131 = 8 := by kernel_rfl
@[simp] theorem ce131 : Tryz.prog.cellsOf 131 = 1 := by kernel_rfl
@[simp] theorem zb131 : zB Tryz.prog 131 = true := by kernel_rfl
@[simp] theorem zt131 : zT Tryz.prog 131 = .nilfn := by kernel_rfl
@[simp] theorem ty132 : tyOf Tryz.prog 132 = .func := by kernel_rfl
@[simp] theorem po132 : posT Tryz.prog 132 = true := by kernel_rfl
@[simp] theorem by132 : Tryz.prog.bytesOf 132 = 8 := by kernel_rfl
@[simp] theorem ce132 : Tryz.prog.cellsOf 132 = 1 := by kernel_rfl
@[simp] theorem zb132 : zB Tryz.prog 132 = true := by kernel_rfl
@[simp] theorem zt132 : zT Tryz.prog 132 = .nilfn := by kernel_rfl
@[simp] theorem ty133 : tyOf Tryz.prog 133 = .func := by kernel_rfl
@[simp] theorem po133 : posT Tryz.prog 133 = true := by kernel_rfl
@[simp] theorem by133 : Tryz.prog.bytesOf 133 = 8 := by kernel_rfl
@[simp] theorem ce133 : Tryz.prog.cellsOf 133 = 1 := by kernel_rfl
@[simp] theorem zb133 : zB Tryz.prog 133 = true := by kernel_rfl
@[simp] theorem zt133 : zT Tryz.prog 133 = .nilfn := by kernel_rfl
@[simp] theorem ty135 : tyOf Tryz.prog 135 = .func := by kernel_rfl
@[simp] theorem po135 : posT Tryz.prog 135 = true := by kernel_rfl
@[simp] theorem by135 : Tryz.prog.bytesOf 135 = 8 := by kernel_rfl
@[simp] theorem ce135 : Tryz.prog.cellsOf 135 = 1 := by kernel_rfl
@[simp] theorem zb135 : zB Tryz.prog 135 = true := by kernel_rfl
@[simp] theorem zt135 : zT Tryz.prog 135 = .nilfn := by kernel_rfl
@[simp] theorem ty136 : tyOf Tryz.prog 136 = .map 9 4 := by kernel_rfl
@[simp] theorem po136 : posT Tryz.prog 136 = true := by kernel_rfl
@[simp] theorem by136 : Tryz.prog.bytesOf 136 = 8 := by kernel_rfl
@[simp] theorem ce136 : Tryz.prog.cellsOf 136 = 1 := by kernel_rfl
@[simp] theorem zb136 : zB Tryz.prog 136 = true := by kernel_rfl
@[simp] theorem zt136 : zT Tryz.prog 136 = .map none := by kernel_rfl
@[simp] theorem ty137 : tyOf Tryz.prog 137 = .ptr := by kernel_rfl
@[simp] theorem po137 : posT Tryz.prog 137 = true := by kernel_rfl
@[simp] theorem by137 : Tryz.prog.bytesOf 137 = 8 := by kernel_rfl
@[simp] theorem ce137 : Tryz.prog.cellsOf 137 = 1 := by kernel_rfl
@[simp] theorem zb137 : zB Tryz.prog 137 = true := by kernel_rfl
@[simp] theorem zt137 : zT Tryz.prog 137 = .nilptr := by kernel_rfl
@[simp] theorem ty138 : tyOf Tryz.prog 138 = .func := by kernel_rfl
@[simp] theorem po138 : posT Tryz.prog 138 = true := by kernel_rfl
@[simp] theorem by138 : Tryz.prog.bytesOf 138 = 8 := by kernel_rfl
@[simp] theorem ce138 : Tryz.prog.cellsOf 138 = 1 := by kernel_rfl
@[simp] theorem zb138 : zB Tryz.prog 138 = true := by kernel_rfl
@[simp] theorem zt138 : zT Tryz.prog 138 = .nilfn := by kernel_rfl
@[simp] theorem ty139 : tyOf Tryz.prog 139 = .func := by kernel_rfl
@[simp] theorem po139 : posT Tryz.prog 139 = true := by kernel_rfl
@[simp] theorem by139 : Tryz.prog.bytesOf 139 = 8 := by kernel_rfl
@[simp] theorem ce139 : Tryz.prog.cellsOf 139 = 1 := by kernel_rfl
@[simp] theorem zb139 : zB Tryz.prog 139 = true := by kernel_rfl
@[simp] theorem zt139 : zT Tryz.prog 139 = .nilfn := by kernel_rfl
@[simp] theorem ty140 : tyOf Tryz.prog 140 = .func := by kernel_rfl
@[simp] theorem po140 : posT Tryz.prog 140 = true := by kernel_rfl
@[simp] theorem by140 : Tryz.prog.bytesOf 140 = 8 := by kernel_rfl
@[simp] theorem ce140 : Tryz.prog.cellsOf 140 = 1 := by kernel_rfl
@[simp] theorem zb140 : zB Tryz.prog 140 = true := by kernel_rfl
@[simp] theorem zt140 : zT Tryz.prog 140 = .nilfn := by kernel_rfl
@[simp] theorem ty141 : tyOf Tryz.prog 141 = .int .u64 := by kernel_rfl
@[simp] theorem po141 : posT Tryz.prog 141 = true := by kernel_rfl
@[simp] theorem by141 : Tryz.prog.bytesOf 141 = 8 := by kernel_rfl
@[simp] theorem ce141 : Tryz.prog.cellsOf 141 = 1 := by kernel_rfl
@[simp] theorem zb141 : zB Tryz.prog 141 = true := by kernel_rfl
@[simp] theorem zt141 : zT Tryz.prog 141 = .i .u64 0 := by kernel_rfl
@[simp] theorem cm141 : cmpT Tryz.prog 8 141 = true := by kernel_rfl
@[simp] theorem ty142 : tyOf Tryz.prog 142 = .func := by kernel_rfl
@[simp] theorem po142 : posT Tryz.prog 142 = true := by kernel_rfl
@[simp] theorem by142 : Tryz.prog.bytesOf 142 = 8 := by kernel_rfl
@[simp] theorem ce142 : Tryz.prog.cellsOf 142 = 1 := by kernel_rfl
@[simp] theorem zb142 : zB Tryz.prog 142 = true := by kernel_rfl
@[simp] theorem zt142 : zT Tryz.prog 142 = .nilfn := by kernel_rfl
@[simp] theorem ty143 : tyOf Tryz.prog 143 = .func := by kernel_rfl
@[simp] theorem po143 : posT Tryz.prog 143 = true := by kernel_rfl
@[simp] theorem by143 : Tryz.prog.bytesOf 143 = 8 := by kernel_rfl
@[simp] theorem ce143 : Tryz.prog.cellsOf 143 = 1 := by kernel_rfl
@[simp] theorem zb143 : zB Tryz.prog 143 = true := by kernel_rfl
@[simp] theorem zt143 : zT Tryz.prog 143 = .nilfn := by kernel_rfl
@[simp] theorem ty144 : tyOf Tryz.prog 144 = .func := by kernel_rfl
@[simp] theorem po144 : posT Tryz.prog 144 = true := by kernel_rfl
@[simp] theorem by144 : Tryz.prog.bytesOf 144 = 8 := by kernel_rfl
@[simp] theorem ce144 : Tryz.prog.cellsOf 144 = 1 := by kernel_rfl
@[simp] theorem zb144 : zB Tryz.prog 144 = true := by kernel_rfl
@[simp] theorem zt144 : zT Tryz.prog 144 = .nilfn := by kernel_rfl
@[simp] theorem ty145 : tyOf Tryz.prog 145 = .func := by kernel_rfl
@[simp] theorem po145 : posT Tryz.prog 145 = true := by kernel_rfl
@[simp] theorem by145 : Tryz.prog.bytesOf 145 = 8 := by kernel_rfl
@[simp] theorem ce145 : Tryz.prog.cellsOf 145 = 1 := by kernel_rfl
@[simp] theorem zb145 : zB Tryz.prog 145 = true := by kernel_rfl
@[simp] theorem zt145 : zT Tryz.prog 145 = .nilfn := by kernel_rfl
@[simp] theorem ty146 : tyOf Tryz.prog 146 = .func := by kernel_rfl
@[simp] theorem po146 : posT Tryz.prog 146 = true := by kernel_rfl
@[simp] theorem by146 : Tryz.prog.bytesOf 146 = 8 := by kernel_rfl
@[simp] theorem ce146 : Tryz.prog.cellsOf 146 = 1 := by kernel_rfl
@[simp] theorem zb146 : zB Tryz.prog 146 = true := by kernel_rfl
@[simp] theorem zt146 : zT Tryz.prog 146 = .nilfn := by kernel_rfl
@[simp] theorem ty147 : tyOf Tryz.prog 147 = .arr 24 5 := by kernel_rfl
@[simp] theorem po147 : posT Tryz.prog 147 = true := by kernel_rfl
@[simp] theorem by147 : Tryz.prog.bytesOf 147 = 24 := by kernel_rfl
@[simp] theorem ce147 : Tryz.prog.cellsOf 147 = 24 := by kernel_rfl
@[simp] theorem zb147 : zB Tryz.prog 147 = true := by kernel_rfl
@[simp] theorem zt147 : zT Tryz.prog 147 = .agg (List.replicate 24 (.i .u8 0)) := by kernel_rfl
@[simp] theorem cm147 : cmpT Tryz.prog 8 147 = true := by kernel_rfl
@[simp] theorem ty148 : tyOf Tryz.prog 148 = .int .u64 := by kernel_rfl
@[simp] theorem po148 : posT Tryz.prog 148 = true := by kernel_rfl
@[simp] theorem by148 : Tryz.prog.bytesOf 148 = 8 := by kernel_rfl
@[simp] theorem ce148 : Tryz.prog.cellsOf 148 = 1 := by kernel_rfl
@[simp] theorem zb148 : zB Tryz.prog 148 = true := by kernel_rfl
@[simp] theorem zt148 : zT Tryz.prog 148 = .i .u64 0 := by kernel_rfl
@[simp] theorem cm148 : cmpT Tryz.prog 8 148 = true := by kernel_rfl
@[simp] theorem ty149 : tyOf Tryz.prog 149 = .func := by kernel_rfl
@[simp] theorem po149 : posT Tryz.prog 149 = true := by kernel_rfl
@[simp] theorem by149 : Tryz.prog.bytesOf 149 = 8 := by kernel_rfl
@[simp] theorem ce149 : Tryz.prog.cellsOf 149 = 1 := by kernel_rfl
@[simp] theorem zb149 : zB Tryz.prog 149 = true := by kernel_rfl
@[simp] theorem zt149 : zT Tryz.prog 149 = .nilfn := by kernel_rfl
@[simp] theorem ty150 : tyOf Tryz.prog 150 = .func := by kernel_rfl
@[simp] theorem po150 : posT Tryz.prog 150 = true := by kernel_rfl
@[simp] theorem by150 : Tryz.prog.bytesOf 150 = 8 := by kernel_rfl
@[simp] theorem ce150 : Tryz.prog.cellsOf 150 = 1 := by kernel_rfl
@[simp] theorem zb150 : zB Tryz.prog 150 = true := by kernel_rfl
@[simp] theorem zt150 : zT Tryz.prog 150 = .nilfn := by kernel_rfl
@[simp] theorem ty152 : tyOf Tryz.prog 152 = .func := by kernel_rfl
@[simp] theorem po152 : posT Tryz.prog 152 = true := by kernel_rfl
@[simp] theorem by152 : Tryz.prog.bytesOf 152 = 8 := by kernel_rfl
@[simp] theorem ce152 : Tryz.prog.cellsOf 152 = 1 := by kernel_rfl
@[simp] theorem zb152 : zB Tryz.prog 152 = true := by kernel_rfl
@[simp] theorem zt152 : zT Tryz.prog 152 = .nilfn := by kernel_rfl
@[simp] theorem ty154 : tyOf Tryz.prog 154 = .func := by kernel_rfl
@[simp] theorem po154 : posT Tryz.prog 154 = true := by kernel_rfl
@[simp] theorem by154 : Tryz.prog.bytesOf 154 = 8 := by kernel_rfl
@[simp] theorem ce154 : Tryz.prog.cellsOf 154 = 1 := by kernel_rfl
@[simp] theorem zb154 : zB Tryz.prog 154 = true := by kernel_rfl
@[simp] theorem zt154 : zT Tryz.prog 154 = .nilfn := by kernel_rfl
@[simp] theorem ty155 : tyOf Tryz.prog 155 = .func := by kernel_rfl
@[simp] theorem po155 : posT Tryz.prog 155 = true := by kernel_rfl
@[simp] theorem by155 : Tryz.prog.bytesOf 155 = 8 := by kernel_rfl
@[simp] theorem ce155 : Tryz.prog.cellsOf 155 = 1 := by kernel_rfl
@[simp] theorem zb155 : zB Tryz.prog 155 = true := by kernel_rfl
@[simp] theorem zt155 : zT Tryz.prog 155 = .nilfn := by kernel_rfl
@[simp] theorem ty156 : tyOf Tryz.prog 156 = .int .i64 := by kernel_rfl
@[simp] theorem po156 : posT Tryz.prog 156 = true := by kernel_rfl
@[simp] theorem by156 : Tryz.prog.bytesOf 156 = 8 := by kernel_rfl
@[simp] theorem ce156 : Tryz.prog.cellsOf 156 = 1 := by kernel_rfl
@[simp] theorem zb156 : zB Tryz.prog 156 = true := by kernel_rfl
@[simp] theorem zt156 : zT Tryz.prog 156 = .i .i64 0 := by kernel_rfl
@[simp] theorem cm156 : cmpT Tryz.prog 8 156 = true := by kernel_rfl
@[simp] theorem ty158 : tyOf Tryz.prog 158 = .func := by kernel_rfl
@[simp] theorem po158 : posT Tryz.prog 158 = true := by kernel_rfl
@[simp] theorem by158 : Tryz.prog.bytesOf 158 = 8 := by kernel_rfl
@[simp] theorem ce158 : Tryz.prog.cellsOf 158 = 1 := by kernel_rfl
@[simp] theorem zb158 : zB Tryz.prog 158 = true := by kernel_rfl
@[simp] theorem zt158 : zT Tryz.prog 158 = .nilfn := by kernel_rfl
@[simp] theorem ty159 : tyOf Tryz.prog 159 = .func := by kernel_rfl
@[simp] theorem po159 : posT Tryz.prog 159 = true := by kernel_rfl
@[simp] theorem by159 : Tryz.prog.bytesOf 159 = 8 := by kernel_rfl
@[simp] theorem ce159 : Tryz.prog.cellsOf 159 = 1 := by kernel_rfl
@[simp] theorem zb159 : zB Tryz.prog 159 = true := by kernel_rfl
@[simp] theorem zt159 : zT Tryz.prog 159 = .nilfn := by kernel_rfl
@[simp] theorem ty160 : tyOf Tryz.prog 160 = .func := by kernel_rfl
@[simp] theorem po160 : posT Tryz.prog 160 = true := by kernel_rfl
@[simp] theorem by160 : Tryz.prog.bytesOf 160 = 8 := by kernel_rfl
@[simp] theorem ce160 : Tryz.prog.cellsOf 160 = 1 := by kernel_rfl
@[simp] theorem zb160 : zB Tryz.prog 160 = true := by kernel_rfl
@[simp] theorem zt160 : zT Tryz.prog 160 = .nilfn := by kernel_rfl
@[simp] theorem ty162 : tyOf Tryz.prog 162 = .func := by kernel_rfl
@[simp] theorem po162 : posT Tryz.prog 162 = true := by kernel_rfl
@[simp] theorem by162 : Tryz.prog.bytesOf 162 = 8 := by kernel_rfl
@[simp] theorem ce162 : Tryz.prog.cellsOf 162 = 1 := by kernel_rfl
@[simp] theorem zb162 : zB Tryz.prog 162 = true := by kernel_rfl
@[simp] theorem zt162 : zT Tryz.prog 162 = .nilfn := by kernel_rfl
@[simp] theorem ty163 : tyOf Tryz.prog 163 = .func := by kernel_rfl
@[simp] theorem po163 : posT Tryz.prog 163 = true := by kernel_rfl
@[simp] theorem by163 : Tryz.prog.bytesOf 163 = 8 := by kernel_rfl
@[simp] theorem ce163 : Tryz.prog.cellsOf 163 = 1 := by kernel_rfl
@[simp] theorem zb163 : zB Tryz.prog 163 = true := by kernel_rfl
@[simp] theorem zt163 : zT Tryz.prog 163 = .nilfn := by kernel_rfl
@[simp] theorem ty164 : tyOf Tryz.prog 164 = .int .u32 := by kernel_rfl
@[simp] theorem po164 : posT Tryz.prog 164 = true := by kernel_rfl
@[simp] theorem by164 : Tryz.prog.bytesOf 164 = 4 := by kernel_rfl
@[simp] theorem ce164 : Tryz.prog.cellsOf 164 = 1 := by kernel_rfl
@[simp] theorem zb164 : zB Tryz.prog 164 = true := by kernel_rfl
@[simp] theorem zt164 : zT Tryz.prog 164 = .i .u32 0 := by kernel_rfl
@[simp] theorem cm164 : cmpT Tryz.prog 8 164 = true := by kernel_rfl
@[simp] theorem ty165 : tyOf Tryz.prog 165 = .int .i64 := by kernel_rfl
@[simp] theorem po165 : posT Tryz.prog 165 = true := by kernel_rfl
@[simp] theorem by165 : Tryz.prog.bytesOf 165 = 8 := by kernel_rfl
@[simp] theorem ce165 : Tryz.prog.cellsOf 165 = 1 := by kernel_rfl
@[simp] theorem zb165 : zB Tryz.prog 165 = true := by kernel_rfl
@[simp] theorem zt165 : zT Tryz.prog 165 = .i .i64 0 := by kernel_rfl
@[simp] theorem cm165 : cmpT Tryz.prog 8 165 = true := by kernel_rfl
@[simp] theorem ty167 : tyOf Tryz.prog 167 = .func := by kernel_rfl
@[simp] theorem po167 : posT Tryz.prog 167 = true := by kernel_rfl
@[simp] theorem by167 : Tryz.prog.bytesOf 167 = 8 := by kernel_rfl
@[simp] theorem ce167 : Tryz.prog.cellsOf 167 = 1 := by kernel_rfl
@[simp] theorem zb167 : zB Tryz.prog 167 = true := by kernel_rfl
@[simp] theorem zt167 : zT Tryz.prog 167 = .nilfn := by kernel_rfl
@[simp] theorem ty168 : tyOf Tryz.prog 168 = .ptr := by kernel_rfl
@[simp] theorem po168 : posT Tryz.prog 168 = true := by kernel_rfl
@[simp] theorem by168 : Tryz.prog.bytesOf 168 = 8 := by kernel_rfl
@[simp] theorem ce168 : Tryz.prog.cellsOf 168 = 1 := by kernel_rfl
@[simp] theorem zb168 : zB Tryz.prog 168 = true := by kernel_rfl
@[simp] theorem zt168 : zT Tryz.prog 168 = .nilptr := by kernel_rfl
@[simp] theorem ty169 : tyOf Tryz.prog 169 = .func := by kernel_rfl
@[simp] theorem po169 : posT Tryz.prog 169 = true := by kernel_rfl
@[simp] theorem by169 : Tryz.prog.bytesOf 169 = 8 := by kernel_rfl
@[simp] theorem ce169 : Tryz.prog.cellsOf 169 = 1 := by kernel_rfl
@[simp] theorem zb169 : zB Tryz.prog 169 = true := by kernel_rfl
@[simp] theorem zt169 : zT Tryz.prog 169 = .nilfn := by kernel_rfl
@[simp] theorem ty170 : tyOf Tryz.prog 170 = .func := by kernel_rfl
@[simp] theorem po170 : posT Tryz.prog 170 = true := by kernel_rfl
@[simp] theorem by170 : Tryz.prog.bytesOf 170 = 8 := by kernel_rfl
@[simp] theorem ce170 : Tryz.prog.cellsOf 170 = 1 := by kernel_rfl
@[simp] theorem zb170 : zB Tryz.prog 170 = true := by kernel_rfl
@[simp] theorem zt170 : zT Tryz.prog 170 = .nilfn := by kernel_rfl
@[simp] theorem ty171 : tyOf Tryz.prog 171 = .func := by kernel_rfl
@[simp] theorem po171 : posT Tryz.prog 171 = true := by kernel_rfl
@[simp] theorem by171 : Tryz.prog.bytesOf 171 = 8 := by kernel_rfl
@[simp] theorem ce171 : Tryz.prog.cellsOf 171 = 1 := by kernel_rfl
@[simp] theorem zb171 : zB Tryz.prog 171 = true := by kernel_rfl
@[simp] theorem zt171 : zT Tryz.prog 171 = .nilfn := by kernel_rfl
@[simp] theorem ty172 : tyOf Tryz.prog 172 = .func := by kernel_rfl
@[simp] theorem po172 : posT Tryz.prog 172 = true := by kernel_rfl
@[simp] theorem by172 : Tryz.prog.bytesOf 172 = 8 := by kernel_rfl
@[simp] theorem ce172 : Tryz.prog.cellsOf 172 = 1 := by kernel_rfl
@[simp] theorem zb172 : zB Tryz.prog 172 = true := by kernel_rfl
@[simp] theorem zt172 : zT Tryz.prog 172 = .nilfn := by kernel_rfl
@[simp] theorem ty173 : tyOf Tryz.prog 173 = .func := by kernel_rfl
@[simp] theorem po173 : posT Tryz.prog 173 = true := by kernel_rfl
@[simp] theorem by173 : Tryz.prog.bytesOf 173 = 8 := by kernel_rfl
@[simp] theorem ce173 : Tryz.prog.cellsOf 173 = 1 := by kernel_rfl
@[simp] theorem zb173 : zB Tryz.prog 173 = true := by kernel_rfl
@[simp] theorem zt173 : zT Tryz.prog 173 = .nilfn := by kernel_rfl
@[simp] theorem ty174 : tyOf Tryz.prog 174 = .func := by kernel_rfl
@[simp] theorem po174 : posT Tryz.prog 174 = true := by kernel_rfl
@[simp] theorem by174 : Tryz.prog.bytesOf 174 = 8 := by kernel_rfl
@[simp] theorem ce174 : Tryz.prog.cellsOf 174 = 1 := by kernel_rfl
@[simp] theorem zb174 : zB Tryz.prog 174 = true := by kernel_rfl
@[simp] theorem zt174 : zT Tryz.prog 174 = .nilfn := by kernel_rfl
@[simp] theorem ty175 : tyOf Tryz.prog 175 = .func := by kernel_rfl
@[simp] theorem po175 : posT Tryz.prog 175 = true := by kernel_rfl
@[simp] theorem by175 : Tryz.prog.bytesOf 175 = 8 := by kernel_rfl
@[simp] theorem ce175 : Tryz.prog.cellsOf 175 = 1 := by kernel_rfl
@[simp] theorem zb175 : zB Tryz.prog 175 = true := by kernel_rfl
@[simp] theorem zt175 : zT Tryz.prog 175 = .nilfn := by kernel_rfl
@[simp] theorem ty176 : tyOf Tryz.prog 176 = .arr 20 148 := by kernel_rfl
@[simp] theorem po176 : posT Tryz.prog 176 = true := by kernel_rfl
@[simp] theorem by176 : Tryz.prog.bytesOf 176 = 160 := by kernel_rfl
@[simp] theorem ce176 : Tryz.prog.cellsOf 176 = 20 := by kernel_rfl
@[simp] theorem zb176 : zB Tryz.prog 176 = true := by kernel_rfl
@[simp] theorem zt176 : zT Tryz.prog 176 = .agg (List.replicate 20 (.i .u64 0)) := by kernel_rfl
@[simp] theorem cm176 : cmpT Tryz.prog 8 176 = true := by kernel_rfl
@[simp] theorem ty177 : tyOf Tryz.prog 177 = .arr 65 5 := by kernel_rfl
@[simp] theorem po177 : posT Tryz.prog 177 = true := by kernel_rfl
@[simp] theorem by177 : Tryz.prog.bytesOf 177 = 65 := by kernel_rfl
@[simp] theorem ce177 : Tryz.prog.cellsOf 177 = 65 := by kernel_rfl
@[simp] theorem zb177 : zB Tryz.prog 177 = true := by kernel_rfl
@[simp] theorem zt177 : zT Tryz.prog 177 = .agg (List.replicate 65 (.i .u8 0)) := by kernel_rfl
@[simp] theorem cm177 : cmpT Tryz.prog 8 177 = true := by kernel_rfl
@[simp] theorem ty178 : tyOf Tryz.prog 178 = .func := by kernel_rfl
@[simp] theorem po178 : posT Tryz.prog 178 = true := by kernel_rfl
@[simp] theorem by178 : Tryz.prog.bytesOf 178 = 8 := by kernel_rfl
@[simp] theorem ce178 : Tryz.prog.cellsOf 178 = 1 := by kernel_rfl
@[simp] theorem zb178 : zB Tryz.prog 178 = true := by kernel_rfl
@[simp] theorem zt178 : zT Tryz.prog 178 = .nilfn := by kernel_rfl
@[simp] theorem ty179 : tyOf Tryz.prog 179 = .int .u64 := by kernel_rfl
@[simp] theorem po179 : posT Tryz.prog 179 = true := by kernel_rfl
@[simp] theorem by179 : Tryz.prog.bytesOf 179 = 8 := by kernel_rfl
@[simp] theorem ce179 : Tryz.prog.cellsOf 179 = 1 := by kernel_rfl
@[simp] theorem zb179 : zB Tryz.prog 179 = true := by kernel_rfl
@[simp] theorem zt179 : zT Tryz.prog 179 = .i .u64 0 := by kernel_rfl
@[simp] theorem cm179 : cmpT Tryz.prog 8 179 = true := by kernel_rfl
@[simp] theorem ty180 : tyOf Tryz.prog 180 = .func := by kernel_rfl
@[simp] theorem po180 : posT Tryz.prog 180 = true := by kernel_rfl
@[simp] theorem by180 : Tryz.prog.bytesOf 180 = 8 := by kernel_rfl
@[simp] theorem ce180 : Tryz.prog.cellsOf 180 = 1 := by kernel_rfl
@[simp] theorem zb180 : zB Tryz.prog 180 = true := by kernel_rfl
@[simp] theorem zt180 : zT Tryz.prog 180 = .nilfn := by kernel_rfl
@[simp] theorem ty181 : tyOf Tryz.prog 181 = .func := by kernel_rfl
@[simp] theorem po181 : posT Tryz.prog 181 = true := by kernel_rfl
@[simp] theorem by181 : Tryz.prog.bytesOf 181 = 8 := by kernel_rfl
@[simp] theorem ce181 : Tryz.prog.cellsOf 181 = 1 := by kernel_rfl
@[simp] theorem zb181 : zB Tryz.prog 181 = true := by kernel_rfl
@[simp] theorem zt181 : zT Tryz.prog 181 = .nilfn := by kernel_rfl
@[simp] theorem ty182 : tyOf Tryz.prog 182 = .func := by kernel_rfl
@[simp] theorem po182 : posT Tryz.prog 182 = true := by kernel_rfl
@[simp] theorem by182 : Tryz.prog.bytesOf 182 = 8 := by kernel_rfl
@[simp] theorem ce182 : Tryz.prog.cellsOf 182 = 1 := by kernel_rfl
@[simp] theorem zb182 : zB Tryz.prog 182 = true := by kernel_rfl
@[simp] theorem zt182 : zT Tryz.prog 182 = .nilfn := by kernel_rfl
@[simp] theorem ty183 : tyOf Tryz.prog 183 = .ptr := by kernel_rfl
@[simp] theorem po183 : posT Tryz.prog 183 = true := by kernel_rfl
@[simp] theorem by183 : Tryz.prog.bytesOf 183 = 8 := by kernel_rfl
@[simp] theorem ce183 : Tryz.prog.cellsOf 183 = 1 := by kernel_rfl
@[simp] theorem zb183 : zB Tryz.prog 183 = true := by kernel_rfl
@[simp] theorem zt183 : zT Tryz.prog 183 = .nilptr := by kernel_rfl
@[simp] theorem ty184 : tyOf Tryz.prog 184 = .func := by kernel_rfl
@[simp] theorem po184 : posT Tryz.prog 184 = true := by kernel_rfl
@[simp] theorem by184 : Tryz.prog.bytesOf 184 = 8 := by kernel_rfl
@[simp] theorem ce184 : Tryz.prog.cellsOf 184 = 1 := by kernel_rfl
@[simp] theorem zb184 : zB Tryz.prog 184 = true := by kernel_rfl
@[simp] theorem zt184 : zT Tryz.prog 184 = .nilfn := by kernel_rfl
@[simp] theorem ty185 : tyOf Tryz.prog 185 = .func := by kernel_rfl
@[simp] theorem po185 : posT Tryz.prog 185 = true := by kernel_rfl
@[simp] theorem by185 : Tryz.prog.bytesOf 185 = 8 := by kernel_rfl
@[simp] theorem ce185 : Tryz.prog.cellsOf 185 = 1 := by kernel_rfl
@[simp] theorem zb185 : zB Tryz.prog 185 = true := by kernel_rfl
@[simp] theorem zt185 : zT Tryz.prog 185 = .nilfn := by kernel_rfl
@[simp] theorem ty186 : tyOf Tryz.prog 186 = .struct [9, 9, 111] := by kernel_rfl
@[simp] theorem po186 : posT Tryz.prog 186 = true := by kernel_rfl
@[simp] theorem by186 : Tryz.prog.bytesOf 186 = 48 := by kernel_rfl
@[simp] theorem ce186 : Tryz.prog.cellsOf 186 = 3 := by kernel_rfl
@[simp] theorem zb186 : zB Tryz.prog 186 = true := by kernel_rfl
@[simp] theorem zt186 : zT Tryz.prog 186 = .agg [.s [], .s [], .nilifc] := by kernel_rfl
@[simp] theorem ty187 : tyOf Tryz.prog 187 = .struct [9, 9, 111] := by kernel_rfl
@[simp] theorem po187 : posT Tryz.prog 187 = true := by kernel_rfl
@[simp] theorem by187 : Tryz.prog.bytesOf 187 = 48 := by kernel_rfl
@[simp] theorem ce187 : Tryz.prog.cellsOf 187 = 3 := by kernel_rfl
@[simp] theorem zb187 : zB Tryz.prog 187 = true := by kernel_rfl
@[simp] theorem zt187 : zT Tryz.prog 187 = .agg [.s [], .s [], .nilifc] := by kernel_rfl
@[simp] theorem ty188 : tyOf Tryz.prog 188 = .func := by kernel_rfl
@[simp] theorem po188 : posT Tryz.prog 188 = true := by kernel_rfl
@[simp] theorem by188 : Tryz.prog.bytesOf 188 = 8 := by kernel_rfl
@[simp] theorem ce188 : Tryz.prog.cellsOf 188 = 1 := by kernel_rfl
@[simp] theorem zb188 : zB Tryz.prog 188 = true := by kernel_rfl
@[simp] theorem zt188 : zT Tryz.prog 188 = .nilfn := by kernel_rfl
@[simp] theorem ty190 : tyOf Tryz.prog 190 = .func := by kernel_rfl
@[simp] theorem po190 : posT Tryz.prog 190 = true := by kernel_rfl
@[simp] theorem by190 : Tryz.prog.bytesOf 190 = 8 := by kernel_rfl
@[simp] theorem ce190 : Tryz.prog.cellsOf 190 = 1 := by kernel_rfl
@[simp] theorem zb190 : zB Tryz.prog 190 = true := by kernel_rfl
@[simp] theorem zt190 : zT Tryz.prog 190 = .nilfn := by kernel_rfl
@[simp] theorem ty191 : tyOf Tryz.prog 191 = .func := by kernel_rfl
@[simp] theorem po191 : posT Tryz.prog 191 = true := by kernel_rfl
@[simp] theorem by191 : Tryz.prog.bytesOf 191 = 8 := by kernel_rfl
@[simp] theorem ce191 : Tryz.prog.cellsOf 191 = 1 := by kernel_rfl
@[simp] theorem zb191 : zB Tryz.prog 191 = true := by kernel_rfl
@[simp] theorem zt191 : zT Tryz.prog 191 = .nilfn := by kernel_rfl
@[simp] theorem ty192 : tyOf Tryz.prog 192 = .func := by kernel_rfl
@[simp] theorem po192 : posT Tryz.prog 192 = true := by kernel_rfl
@[simp] theorem by192 : Tryz.prog.bytesOf 192 = 8 := by kernel_rfl
@[simp] theorem ce192 : Tryz.prog.cellsOf 192 = 1 := by kernel_rfl
@[simp] theorem zb192 : zB Tryz.prog 192 = true := by kernel_rfl
@[simp] theorem zt192 : zT Tryz.prog 192 = .nilfn := by kernel_rfl
@[simp] theorem ty193 : tyOf Tryz.prog 193 = .func := by kernel_rfl
@[simp] theorem po193 : posT Tryz.prog 193 = true := by kernel_rfl
@[simp] theorem by193 : Tryz.prog.bytesOf 193 = 8 := by kernel_rfl
@[simp] theorem ce193 : Tryz.prog.cellsOf 193 = 1 := by kernel_rfl
@[simp] theorem zb193 : zB Tryz.prog 193 = true := by kernel_rfl
@[simp] theorem zt193 : zT Tryz.prog 193 = .nilfn := by kernel_rfl
@[simp] theorem ty194 : tyOf Tryz.prog 194 = .ptr := by kernel_rfl
@[simp] theorem po194 : posT Tryz.prog 194 = true := by kernel_rfl
@[simp] theorem by194 : Tryz.prog.bytesOf 194 = 8 := by kernel_rfl
@[simp] theorem ce194 : Tryz.prog.cellsOf 194 = 1 := by kernel_rfl
@[simp] theorem zb194 : zB Tryz.prog 194 = true := by kernel_rfl
@[simp] theorem zt194 : zT Tryz.prog 194 = .nilptr := by kernel_rfl
@[simp] theorem ty196 : tyOf Tryz.prog 196 = .func := by kernel_rfl
@[simp] theorem po196 : posT Tryz.prog 196 = true := by kernel_rfl
@[simp] theorem by196 : Tryz.prog.bytesOf 196 = 8 := by kernel_rfl
@[simp] theorem ce196 : Tryz.prog.cellsOf 196 = 1 := by kernel_rfl
@[simp] theorem zb196 : zB Tryz.prog 196 = true := by kernel_rfl
@[simp] theorem zt196 : zT Tryz.prog 196 = .nilfn := by kernel_rfl
@[simp] theorem ty197 : tyOf Tryz.prog 197 = .ptr := by kernel_rfl
@[simp] theorem po197 : posT Tryz.prog 197 = true := by kernel_rfl
@[simp] theorem by197 : Tryz.prog.bytesOf 197 = 8 := by kernel_rfl
@[simp] theorem ce197 : Tryz.prog.cellsOf 197 = 1 := by kernel_rfl
@[simp] theorem zb197 : zB Tryz.prog 197 = true := by kernel_rfl
@[simp] theorem zt197 : zT Tryz.prog 197 = .nilptr := by kernel_rfl
@[simp] theorem ty198 : tyOf Tryz.prog 198 = .struct [9] := by kernel_rfl
@[simp] theorem po198 : posT Tryz.prog 198 = true := by kernel_rfl
@[simp] theorem by198 : Tryz.prog.bytesOf 198 = 16 := by kernel_rfl
@[simp] theorem ce198 : Tryz.prog.cellsOf 198 = 1 := by kernel_rfl
@[simp] theorem zb198 : zB Tryz.prog 198 = true := by kernel_rfl
@[simp] theorem zt198 : zT Tryz.prog 198 = .agg [.s []] := by kernel_rfl
@[simp] theorem cm198 : cmpT Tryz.prog 8 198 = true := by kernel_rfl
@[simp] theorem ty199 : tyOf Tryz.prog 199 = .struct [9] := by kernel_rfl
@[simp] theorem po199 : posT Tryz.prog 199 = true := by kernel_rfl
@[simp] theorem by199 : Tryz.prog.bytesOf 199 = 16 := by kernel_rfl
@[simp] theorem ce199 : Tryz.prog.cellsOf 199 = 1 := by kernel_rfl
@[simp] theorem zb199 : zB Tryz.prog 199 = true := by kernel_rfl
@[simp] theorem zt199 : zT Tryz.prog 199 = .agg [.s []] := by kernel_rfl
@[simp] theorem cm199 : cmpT Tryz.prog 8 199 = true := by kernel_rfl
@[simp] theorem ty200 : tyOf Tryz.prog 200 = .func := by kernel_rfl
@[simp] theorem po200 : posT Tryz.prog 200 = true := by kernel_rfl
@[simp] theorem by200 : Tryz.prog.bytesOf 200 = 8 := by kernel_rfl
@[simp] theorem ce200 : Tryz.prog.cellsOf 200 = 1 := by kernel_rfl
@[simp] theorem zb200 : zB Tryz.prog 200 = true := by kernel_rfl
@[simp] theorem zt200 : zT Tryz.prog 200 = .nilfn := by kernel_rfl
@[simp] theorem ty201 : tyOf Tryz.prog 201 = .arr 64 5 := by kernel_rfl
@[simp] theorem po201 : posT Tryz.prog 201 = true := by kernel_rfl
@[simp] theorem by201 : Tryz.prog.bytesOf 201 = 64 := by kernel_rfl
@[simp] theorem ce201 : Tryz.prog.cellsOf 201 = 64 := by kernel_rfl
@[simp] theorem zb201 : zB Tryz.prog 201 = true := by kernel_rfl
@[simp] theorem zt201 : zT Tryz.prog 201 = .agg (List.replicate 64 (.i .u8 0)) := by kernel_rfl
@[simp] theorem cm201 : cmpT Tryz.prog 8 201 = true := by kernel_rfl
@[simp] theorem ty202 : tyOf Tryz.prog 202 = .arr 256 5 := by kernel_rfl
@[simp] theorem po202 : posT Tryz.prog 202 = true := by kernel_rfl
@[simp] theorem by202 : Tryz.prog.bytesOf 202 = 256 := by kernel_rfl
@[simp] theorem ce202 : Tryz.prog.cellsOf 202 = 256 := by kernel_rfl
@[simp] theorem zb202 : zB Tryz.prog 202 = true := by kernel_rfl
@[simp] theorem zt202 : zT Tryz.prog 202 = .agg (List.replicate 256 (.i .u8 0)) := by kernel_rfl
@[simp] theorem cm202 : cmpT Tryz.prog 8 202 = true := by kernel_rfl
@[simp] theorem ty203 : tyOf Tryz.prog 203 = .struct [5, 5] := by kernel_rfl
@[simp] theorem po203 : posT Tryz.prog 203 = true := by kernel_rfl
@[simp] theorem by203 : Tryz.prog.bytesOf 203 = 2 := by kernel_rfl
@[simp] theorem ce203 : Tryz.prog.cellsOf 203 = 2 := by kernel_rfl
@[simp] theorem zb203 : zB Tryz.prog 203 = true := by kernel_rfl
@[simp] theorem zt203 : zT Tryz.prog 203 = .agg [.i .u8 0, .i .u8 0] := by kernel_rfl
@[simp] theorem cm203 : cmpT Tryz.prog 8 203 = true := by kernel_rfl
@[simp] theorem ty204 : tyOf Tryz.prog 204 = .struct [5, 5] := by kernel_rfl
@[simp] theorem po204 : posT Tryz.prog 204 = true := by kernel_rfl
@[simp] theorem by204 : Tryz.prog.bytesOf 204 = 2 := by kernel_rfl
@[simp] theorem ce204 : Tryz.prog.cellsOf 204 = 2 := by kernel_rfl
@[simp] theorem zb204 : zB Tryz.prog 204 = true := by kernel_rfl
@[simp] theorem zt204 : zT Tryz.prog 204 = .agg [.i .u8 0, .i .u8 0] := by kernel_rfl
@[simp] theorem cm204 : cmpT Tryz.prog 8 204 = true := by kernel_rfl
@[simp] theorem ty205 : tyOf Tryz.prog 205 = .arr 16 204 := by kernel_rfl
@[simp] theorem po205 : posT Tryz.prog 205 = true := by kernel_rfl
@[simp] theorem by205 : Tryz.prog.bytesOf 205 = 32 := by kernel_rfl
@[simp] theorem ce205 : Tryz.prog.cellsOf 205 = 32 := by kernel_rfl
@[simp] theorem zb205 : zB Tryz.prog 205 = true := by kernel_rfl
@[simp] theorem zt205 : zT Tryz.prog 205 = .agg (List.replicate 16 (zT Tryz.prog 204)) := by kernel_rfl
@[simp] theorem cm205 : cmpT Tryz.prog 8 205 = true := by kernel_rfl
@[simp] theorem ty207 : tyOf Tryz.prog 207 = .func := by kernel_rfl
@[simp] theorem po207 : posT Tryz.prog 207 = true := by kernel_rfl
@[simp] theorem by207 : Tryz.prog.bytesOf 207 = 8 := by kernel_rfl
@[simp] theorem ce207 : Tryz.prog.cellsOf 207 = 1 := by kernel_rfl
@[simp] theorem zb207 : zB Tryz.prog 207 = true := by kernel_rfl
@[simp] theorem zt207 : zT Tryz.prog 207 = .nilfn := by kernel_rfl
@[simp] theorem ty208 : tyOf Tryz.prog 208 = .struct [17, 17, 17, 9] := by kernel_rfl
@[simp] theorem po208 : posT Tryz.prog 208 = true := by kernel_rfl
@[simp] theorem by208 : Tryz.prog.bytesOf 208 = 40 := by kernel_rfl
@[simp] theorem ce208 : Tryz.prog.cellsOf 208 = 4 := by kernel_rfl
@[simp] theorem zb208 : zB Tryz.prog 208 = true := by kernel_rfl
@[simp] theorem zt208 : zT Tryz.prog 208 = .agg [.nilptr, .nilptr, .nilptr, .s []] := by kernel_rfl
@[simp] theorem ty209 : tyOf Tryz.prog 209 = .struct [17, 17, 17, 9] := by kernel_rfl
@[simp] theorem po209 : posT Tryz.prog 209 = true := by kernel_rfl
@[simp] theorem by209 : Tryz.prog.bytesOf 209 = 40 := by kernel_rfl
@[simp] theorem ce209 : Tryz.prog.cellsOf 209 = 4 := by kernel_rfl
@[simp] theorem zb209 : zB Tryz.prog 209 = true := by kernel_rfl
@[simp] theorem zt209 : zT Tryz.prog 209 = .agg [.nilptr, .nilptr, .nilptr, .s []] := by kernel_rfl
@[simp] theorem ty210 : tyOf Tryz.prog 210 = .arr 0 16 := by kernel_rfl
@[simp] theorem ty213 : tyOf Tryz.prog 213 = .int .u8 := by kernel_rfl
@[simp] theorem po213 : posT Tryz.prog 213 = true := by kernel_rfl
@[simp] theorem by213 : Tryz.prog.bytesOf 213 = 1 := by kernel_rfl
@[simp] theorem ce213 : Tryz.prog.cellsOf 213 = 1 := by kernel_rfl
@[simp] theorem zb213 : zB Tryz.prog 213 = true := by kernel_rfl
@[simp] theorem zt213 : zT Tryz.prog 213 = .i .u8 0 := by kernel_rfl
@[simp] theorem ty214 : tyOf Tryz.prog 214 = .int .u8 := by kernel_rfl
@[simp] theorem po214 : posT Tryz.prog 214 = true := by kernel_rfl
@[simp] theorem by214 : Tryz.prog.bytesOf 214 = 1 := by kernel_rfl
@[simp] theorem ce214 : Tryz.prog.cellsOf 214 = 1 := by kernel_rfl
@[simp] theorem zb214 : zB Tryz.prog 214 = true := by kernel_rfl
@[simp] theorem zt214 : zT Tryz.prog 214 = .i .u8 0 := by kernel_rfl
@[simp] theorem ty215 : tyOf Tryz.prog 215 = .func := by kernel_rfl
@[simp] theorem po215 : posT Tryz.prog 215 = true := by kernel_rfl
@[simp] theorem by215 : Tryz.prog.bytesOf 215 = 8 := by kernel_rfl
@[simp] theorem ce215 : Tryz.prog.cellsOf 215 = 1 := by kernel_rfl
@[simp] theorem zb215 : zB Tryz.prog 215 = true := by kernel_rfl
@[simp] theorem zt215 : zT Tryz.prog 215 = .nilfn := by kernel_rfl
@[simp] theorem ty216 : tyOf Tryz.prog 216 = .int .i32 := by kernel_rfl
@[simp] theorem po216 : posT Tryz.prog 216 = true := by kernel_rfl
@[simp] theorem by216 : Tryz.prog.bytesOf 216 = 4 := by kernel_rfl
@[simp] theorem ce216 : Tryz.prog.cellsOf 216 = 1 := by kernel_rfl
@[simp] theorem zb216 : zB Tryz.prog 216 = true := by kernel_rfl
@[simp] theorem zt216 : zT Tryz.prog 216 = .i .i32 0 := by kernel_rfl
@[simp] theorem ty217 : tyOf Tryz.prog 217 = .int .i32 := by kernel_rfl
@[simp] theorem po217 : posT Tryz.prog 217 = true := by kernel_rfl
@[simp] theorem by217 : Tryz.prog.bytesOf 217 = 4 := by kernel_rfl
@[simp] theorem ce217 : Tryz.prog.cellsOf 217 = 1 := by kernel_rfl
@[simp] theorem zb217 : zB Tryz.prog 217 = true := by kernel_rfl
@[simp] theorem zt217 : zT Tryz.prog 217 = .i .i32 0 := by kernel_rfl
@[simp] theorem ty218 : tyOf Tryz.prog 218 = .struct [12, 12, 164, 213, 5, 5, 214, 215, 137, 216, 217] := by kernel_rfl
@[simp] theorem po218 : posT Tryz.prog 218 = true := by kernel_rfl
@[simp] theorem by218 : Tryz.prog.bytesOf 218 = 48 := by kernel_rfl
@[simp] theorem ce218 : Tryz.prog.cellsOf 218 = 11 := by kernel_rfl
@[simp] theorem zb218 : zB Tryz.prog 218 = true := by kernel_rfl
@[simp] theorem zt218 : zT Tryz.prog 218 = .agg [.i .u64 0, .i .u64 0, .i .u32 0, .i .u8 0, .i .u8 0, .i .u8 0, .i .u8 0, .nilfn, .nilptr, .i .i32 0, .i .i32 0] := by kernel_rfl
@[simp] theorem ty219 : tyOf Tryz.prog 219 = .struct [12, 12, 164, 213, 5, 5, 214, 215, 137, 216, 217] := by kernel_rfl
@[simp] theorem po219 : posT Tryz.prog 219 = true := by kernel_rfl
@[simp] theorem by219 : Tryz.prog.bytesOf 219 = 48 := by kernel_rfl
@[simp] theorem ce219 : Tryz.prog.cellsOf 219 = 11 := by kernel_rfl
@[simp] theorem zb219 : zB Tryz.prog 219 = true := by kernel_rfl
@[simp] theorem zt219 : zT Tryz.prog 219 = .agg [.i .u64 0, .i .u64 0, .i .u32 0, .i .u8 0, .i .u8 0, .i .u8 0, .i .u8 0, .nilfn, .nilptr, .i .i32 0, .i .i32 0] := by kernel_rfl
end Go.Proofs.YthdgnfnalimcnaaGreatDoor
