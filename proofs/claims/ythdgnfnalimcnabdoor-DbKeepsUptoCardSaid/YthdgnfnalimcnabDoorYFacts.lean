/- Closed facts on this seat's types and functions. Printed by a program (wip/tools/facts.py). No condition beyond each theorem's own. -/
import Derived.Test.YthdgnfnalimcnabDoorChecked
import Derived.Test.YthdgnfnalimcnabDoorAbSToWa
import Derived.Test.YthdgnfnalimcnabDoorAbXToY
set_option linter.unusedSimpArgs false
set_option linter.unusedVariables false
set_option linter.unusedSectionVars false
set_option maxRecDepth 100000
/-! Closed facts on this seat's types and functions. Printed by a program (wip/tools/facts.py). -/
namespace Go.Proofs.YthdgnfnalimcnabDoor
open Go Go.Ab
theorem laid : laidOutB Tryd.prog = true := by kernel_rfl
theorem mixed : Tryd.prog.follows .mixedOrders = true := by kernel_rfl
@[simp] theorem ty2 : tyOf Tryd.prog 2 = .int .i64 := by kernel_rfl
@[simp] theorem po2 : posT Tryd.prog 2 = true := by kernel_rfl
@[simp] theorem by2 : Tryd.prog.bytesOf 2 = 8 := by kernel_rfl
@[simp] theorem ce2 : Tryd.prog.cellsOf 2 = 1 := by kernel_rfl
@[simp] theorem zb2 : zB Tryd.prog 2 = true := by kernel_rfl
@[simp] theorem zt2 : zT Tryd.prog 2 = .i .i64 0 := by kernel_rfl
@[simp] theorem cm2 : cmpT Tryd.prog 8 2 = true := by kernel_rfl
@[simp] theorem ty3 : tyOf Tryd.prog 3 = .int .i64 := by kernel_rfl
@[simp] theorem po3 : posT Tryd.prog 3 = true := by kernel_rfl
@[simp] theorem by3 : Tryd.prog.bytesOf 3 = 8 := by kernel_rfl
@[simp] theorem ce3 : Tryd.prog.cellsOf 3 = 1 := by kernel_rfl
@[simp] theorem zb3 : zB Tryd.prog 3 = true := by kernel_rfl
@[simp] theorem zt3 : zT Tryd.prog 3 = .i .i64 0 := by kernel_rfl
@[simp] theorem cm3 : cmpT Tryd.prog 8 3 = true := by kernel_rfl
@[simp] theorem ty4 : tyOf Tryd.prog 4 = .bool := by kernel_rfl
@[simp] theorem po4 : posT Tryd.prog 4 = true := by kernel_rfl
@[simp] theorem by4 : Tryd.prog.bytesOf 4 = 1 := by kernel_rfl
@[simp] theorem ce4 : Tryd.prog.cellsOf 4 = 1 := by kernel_rfl
@[simp] theorem zb4 : zB Tryd.prog 4 = true := by kernel_rfl
@[simp] theorem zt4 : zT Tryd.prog 4 = .b false := by kernel_rfl
@[simp] theorem cm4 : cmpT Tryd.prog 8 4 = true := by kernel_rfl
@[simp] theorem ty5 : tyOf Tryd.prog 5 = .int .u8 := by kernel_rfl
@[simp] theorem po5 : posT Tryd.prog 5 = true := by kernel_rfl
@[simp] theorem by5 : Tryd.prog.bytesOf 5 = 1 := by kernel_rfl
@[simp] theorem ce5 : Tryd.prog.cellsOf 5 = 1 := by kernel_rfl
@[simp] theorem zb5 : zB Tryd.prog 5 = true := by kernel_rfl
@[simp] theorem zt5 : zT Tryd.prog 5 = .i .u8 0 := by kernel_rfl
@[simp] theorem cm5 : cmpT Tryd.prog 8 5 = true := by kernel_rfl
@[simp] theorem ty9 : tyOf Tryd.prog 9 = .str := by kernel_rfl
@[simp] theorem po9 : posT Tryd.prog 9 = true := by kernel_rfl
@[simp] theorem by9 : Tryd.prog.bytesOf 9 = 16 := by kernel_rfl
@[simp] theorem ce9 : Tryd.prog.cellsOf 9 = 1 := by kernel_rfl
@[simp] theorem zb9 : zB Tryd.prog 9 = true := by kernel_rfl
@[simp] theorem zt9 : zT Tryd.prog 9 = .s [] := by kernel_rfl
@[simp] theorem cm9 : cmpT Tryd.prog 8 9 = true := by kernel_rfl
@[simp] theorem ty12 : tyOf Tryd.prog 12 = .int .u64 := by kernel_rfl
@[simp] theorem po12 : posT Tryd.prog 12 = true := by kernel_rfl
@[simp] theorem by12 : Tryd.prog.bytesOf 12 = 8 := by kernel_rfl
@[simp] theorem ce12 : Tryd.prog.cellsOf 12 = 1 := by kernel_rfl
@[simp] theorem zb12 : zB Tryd.prog 12 = true := by kernel_rfl
@[simp] theorem zt12 : zT Tryd.prog 12 = .i .u64 0 := by kernel_rfl
@[simp] theorem cm12 : cmpT Tryd.prog 8 12 = true := by kernel_rfl
@[simp] theorem ty14 : tyOf Tryd.prog 14 = .struct [9, 12] := by kernel_rfl
@[simp] theorem po14 : posT Tryd.prog 14 = true := by kernel_rfl
@[simp] theorem by14 : Tryd.prog.bytesOf 14 = 24 := by kernel_rfl
@[simp] theorem ce14 : Tryd.prog.cellsOf 14 = 2 := by kernel_rfl
@[simp] theorem zb14 : zB Tryd.prog 14 = true := by kernel_rfl
@[simp] theorem zt14 : zT Tryd.prog 14 = .agg [.s [], .i .u64 0] := by kernel_rfl
@[simp] theorem ty15 : tyOf Tryd.prog 15 = .ptr := by kernel_rfl
@[simp] theorem po15 : posT Tryd.prog 15 = true := by kernel_rfl
@[simp] theorem by15 : Tryd.prog.bytesOf 15 = 8 := by kernel_rfl
@[simp] theorem ce15 : Tryd.prog.cellsOf 15 = 1 := by kernel_rfl
@[simp] theorem zb15 : zB Tryd.prog 15 = true := by kernel_rfl
@[simp] theorem zt15 : zT Tryd.prog 15 = .nilptr := by kernel_rfl
@[simp] theorem ty16 : tyOf Tryd.prog 16 = .ptr := by kernel_rfl
@[simp] theorem po16 : posT Tryd.prog 16 = true := by kernel_rfl
@[simp] theorem by16 : Tryd.prog.bytesOf 16 = 8 := by kernel_rfl
@[simp] theorem ce16 : Tryd.prog.cellsOf 16 = 1 := by kernel_rfl
@[simp] theorem zb16 : zB Tryd.prog 16 = true := by kernel_rfl
@[simp] theorem zt16 : zT Tryd.prog 16 = .nilptr := by kernel_rfl
@[simp] theorem ty17 : tyOf Tryd.prog 17 = .ptr := by kernel_rfl
@[simp] theorem po17 : posT Tryd.prog 17 = true := by kernel_rfl
@[simp] theorem by17 : Tryd.prog.bytesOf 17 = 8 := by kernel_rfl
@[simp] theorem ce17 : Tryd.prog.cellsOf 17 = 1 := by kernel_rfl
@[simp] theorem zb17 : zB Tryd.prog 17 = true := by kernel_rfl
@[simp] theorem zt17 : zT Tryd.prog 17 = .nilptr := by kernel_rfl
@[simp] theorem ty18 : tyOf Tryd.prog 18 = .struct [17] := by kernel_rfl
@[simp] theorem po18 : posT Tryd.prog 18 = true := by kernel_rfl
@[simp] theorem by18 : Tryd.prog.bytesOf 18 = 8 := by kernel_rfl
@[simp] theorem ce18 : Tryd.prog.cellsOf 18 = 1 := by kernel_rfl
@[simp] theorem zb18 : zB Tryd.prog 18 = true := by kernel_rfl
@[simp] theorem zt18 : zT Tryd.prog 18 = .agg [.nilptr] := by kernel_rfl
@[simp] theorem ty19 : tyOf Tryd.prog 19 = .struct [17] := by kernel_rfl
@[simp] theorem po19 : posT Tryd.prog 19 = true := by kernel_rfl
@[simp] theorem by19 : Tryd.prog.bytesOf 19 = 8 := by kernel_rfl
@[simp] theorem ce19 : Tryd.prog.cellsOf 19 = 1 := by kernel_rfl
@[simp] theorem zb19 : zB Tryd.prog 19 = true := by kernel_rfl
@[simp] theorem zt19 : zT Tryd.prog 19 = .agg [.nilptr] := by kernel_rfl
@[simp] theorem ty20 : tyOf Tryd.prog 20 = .iface := by kernel_rfl
@[simp] theorem po20 : posT Tryd.prog 20 = true := by kernel_rfl
@[simp] theorem by20 : Tryd.prog.bytesOf 20 = 16 := by kernel_rfl
@[simp] theorem ce20 : Tryd.prog.cellsOf 20 = 1 := by kernel_rfl
@[simp] theorem zb20 : zB Tryd.prog 20 = true := by kernel_rfl
@[simp] theorem zt20 : zT Tryd.prog 20 = .nilifc := by kernel_rfl
@[simp] theorem ty21 : tyOf Tryd.prog 21 = .int .i32 := by kernel_rfl
@[simp] theorem po21 : posT Tryd.prog 21 = true := by kernel_rfl
@[simp] theorem by21 : Tryd.prog.bytesOf 21 = 4 := by kernel_rfl
@[simp] theorem ce21 : Tryd.prog.cellsOf 21 = 1 := by kernel_rfl
@[simp] theorem zb21 : zB Tryd.prog 21 = true := by kernel_rfl
@[simp] theorem zt21 : zT Tryd.prog 21 = .i .i32 0 := by kernel_rfl
@[simp] theorem cm21 : cmpT Tryd.prog 8 21 = true := by kernel_rfl
@[simp] theorem ty22 : tyOf Tryd.prog 22 = .slice 28 := by kernel_rfl
@[simp] theorem po22 : posT Tryd.prog 22 = true := by kernel_rfl
@[simp] theorem by22 : Tryd.prog.bytesOf 22 = 24 := by kernel_rfl
@[simp] theorem ce22 : Tryd.prog.cellsOf 22 = 1 := by kernel_rfl
@[simp] theorem zb22 : zB Tryd.prog 22 = true := by kernel_rfl
@[simp] theorem zt22 : zT Tryd.prog 22 = .sl .full [] := by kernel_rfl
@[simp] theorem ty23 : tyOf Tryd.prog 23 = .arr 32 5 := by kernel_rfl
@[simp] theorem po23 : posT Tryd.prog 23 = true := by kernel_rfl
@[simp] theorem by23 : Tryd.prog.bytesOf 23 = 32 := by kernel_rfl
@[simp] theorem ce23 : Tryd.prog.cellsOf 23 = 32 := by kernel_rfl
@[simp] theorem zb23 : zB Tryd.prog 23 = true := by kernel_rfl
@[simp] theorem zt23 : zT Tryd.prog 23 = .agg (List.replicate 32 (.i .u8 0)) := by kernel_rfl
@[simp] theorem cm23 : cmpT Tryd.prog 8 23 = true := by kernel_rfl
@[simp] theorem ty24 : tyOf Tryd.prog 24 = .arr 32 5 := by kernel_rfl
@[simp] theorem po24 : posT Tryd.prog 24 = true := by kernel_rfl
@[simp] theorem by24 : Tryd.prog.bytesOf 24 = 32 := by kernel_rfl
@[simp] theorem ce24 : Tryd.prog.cellsOf 24 = 32 := by kernel_rfl
@[simp] theorem zb24 : zB Tryd.prog 24 = true := by kernel_rfl
@[simp] theorem zt24 : zT Tryd.prog 24 = .agg (List.replicate 32 (.i .u8 0)) := by kernel_rfl
@[simp] theorem cm24 : cmpT Tryd.prog 8 24 = true := by kernel_rfl
@[simp] theorem ty25 : tyOf Tryd.prog 25 = .slice 41 := by kernel_rfl
@[simp] theorem po25 : posT Tryd.prog 25 = true := by kernel_rfl
@[simp] theorem by25 : Tryd.prog.bytesOf 25 = 24 := by kernel_rfl
@[simp] theorem ce25 : Tryd.prog.cellsOf 25 = 1 := by kernel_rfl
@[simp] theorem zb25 : zB Tryd.prog 25 = true := by kernel_rfl
@[simp] theorem zt25 : zT Tryd.prog 25 = .sl .full [] := by kernel_rfl
@[simp] theorem ty26 : tyOf Tryd.prog 26 = .slice 48 := by kernel_rfl
@[simp] theorem po26 : posT Tryd.prog 26 = true := by kernel_rfl
@[simp] theorem by26 : Tryd.prog.bytesOf 26 = 24 := by kernel_rfl
@[simp] theorem ce26 : Tryd.prog.cellsOf 26 = 1 := by kernel_rfl
@[simp] theorem zb26 : zB Tryd.prog 26 = true := by kernel_rfl
@[simp] theorem zt26 : zT Tryd.prog 26 = .sl .full [] := by kernel_rfl
@[simp] theorem ty27 : tyOf Tryd.prog 27 = .struct [24, 25, 26] := by kernel_rfl
@[simp] theorem po27 : posT Tryd.prog 27 = true := by kernel_rfl
@[simp] theorem by27 : Tryd.prog.bytesOf 27 = 80 := by kernel_rfl
@[simp] theorem ce27 : Tryd.prog.cellsOf 27 = 34 := by kernel_rfl
@[simp] theorem zb27 : zB Tryd.prog 27 = true := by kernel_rfl
@[simp] theorem zt27 : zT Tryd.prog 27 = .agg [zT Tryd.prog 24, .sl .full [], .sl .full []] := by kernel_rfl
@[simp] theorem ty28 : tyOf Tryd.prog 28 = .struct [24, 25, 26] := by kernel_rfl
@[simp] theorem po28 : posT Tryd.prog 28 = true := by kernel_rfl
@[simp] theorem by28 : Tryd.prog.bytesOf 28 = 80 := by kernel_rfl
@[simp] theorem ce28 : Tryd.prog.cellsOf 28 = 34 := by kernel_rfl
@[simp] theorem zb28 : zB Tryd.prog 28 = true := by kernel_rfl
@[simp] theorem zt28 : zT Tryd.prog 28 = .agg [zT Tryd.prog 24, .sl .full [], .sl .full []] := by kernel_rfl
@[simp] theorem ty29 : tyOf Tryd.prog 29 = .func := by kernel_rfl
@[simp] theorem po29 : posT Tryd.prog 29 = true := by kernel_rfl
@[simp] theorem by29 : Tryd.prog.bytesOf 29 = 8 := by kernel_rfl
@[simp] theorem ce29 : Tryd.prog.cellsOf 29 = 1 := by kernel_rfl
@[simp] theorem zb29 : zB Tryd.prog 29 = true := by kernel_rfl
@[simp] theorem zt29 : zT Tryd.prog 29 = .nilfn := by kernel_rfl
@[simp] theorem ty30 : tyOf Tryd.prog 30 = .func := by kernel_rfl
@[simp] theorem po30 : posT Tryd.prog 30 = true := by kernel_rfl
@[simp] theorem by30 : Tryd.prog.bytesOf 30 = 8 := by kernel_rfl
@[simp] theorem ce30 : Tryd.prog.cellsOf 30 = 1 := by kernel_rfl
@[simp] theorem zb30 : zB Tryd.prog 30 = true := by kernel_rfl
@[simp] theorem zt30 : zT Tryd.prog 30 = .nilfn := by kernel_rfl
@[simp] theorem ty31 : tyOf Tryd.prog 31 = .ptr := by kernel_rfl
@[simp] theorem po31 : posT Tryd.prog 31 = true := by kernel_rfl
@[simp] theorem by31 : Tryd.prog.bytesOf 31 = 8 := by kernel_rfl
@[simp] theorem ce31 : Tryd.prog.cellsOf 31 = 1 := by kernel_rfl
@[simp] theorem zb31 : zB Tryd.prog 31 = true := by kernel_rfl
@[simp] theorem zt31 : zT Tryd.prog 31 = .nilptr := by kernel_rfl
@[simp] theorem ty32 : tyOf Tryd.prog 32 = .int .i64 := by kernel_rfl
@[simp] theorem po32 : posT Tryd.prog 32 = true := by kernel_rfl
@[simp] theorem by32 : Tryd.prog.bytesOf 32 = 8 := by kernel_rfl
@[simp] theorem ce32 : Tryd.prog.cellsOf 32 = 1 := by kernel_rfl
@[simp] theorem zb32 : zB Tryd.prog 32 = true := by kernel_rfl
@[simp] theorem zt32 : zT Tryd.prog 32 = .i .i64 0 := by kernel_rfl
@[simp] theorem cm32 : cmpT Tryd.prog 8 32 = true := by kernel_rfl
@[simp] theorem ty34 : tyOf Tryd.prog 34 = .func := by kernel_rfl
@[simp] theorem po34 : posT Tryd.prog 34 = true := by kernel_rfl
@[simp] theorem by34 : Tryd.prog.bytesOf 34 = 8 := by kernel_rfl
@[simp] theorem ce34 : Tryd.prog.cellsOf 34 = 1 := by kernel_rfl
@[simp] theorem zb34 : zB Tryd.prog 34 = true := by kernel_rfl
@[simp] theorem zt34 : zT Tryd.prog 34 = .nilfn := by kernel_rfl
@[simp] theorem ty35 : tyOf Tryd.prog 35 = .func := by kernel_rfl
@[simp] theorem po35 : posT Tryd.prog 35 = true := by kernel_rfl
@[simp] theorem by35 : Tryd.prog.bytesOf 35 = 8 := by kernel_rfl
@[simp] theorem ce35 : Tryd.prog.cellsOf 35 = 1 := by kernel_rfl
@[simp] theorem zb35 : zB Tryd.prog 35 = true := by kernel_rfl
@[simp] theorem zt35 : zT Tryd.prog 35 = .nilfn := by kernel_rfl
@[simp] theorem ty36 : tyOf Tryd.prog 36 = .func := by kernel_rfl
@[simp] theorem po36 : posT Tryd.prog 36 = true := by kernel_rfl
@[simp] theorem by36 : Tryd.prog.bytesOf 36 = 8 := by kernel_rfl
@[simp] theorem ce36 : Tryd.prog.cellsOf 36 = 1 := by kernel_rfl
@[simp] theorem zb36 : zB Tryd.prog 36 = true := by kernel_rfl
@[simp] theorem zt36 : zT Tryd.prog 36 = .nilfn := by kernel_rfl
@[simp] theorem ty37 : tyOf Tryd.prog 37 = .func := by kernel_rfl
@[simp] theorem po37 : posT Tryd.prog 37 = true := by kernel_rfl
@[simp] theorem by37 : Tryd.prog.bytesOf 37 = 8 := by kernel_rfl
@[simp] theorem ce37 : Tryd.prog.cellsOf 37 = 1 := by kernel_rfl
@[simp] theorem zb37 : zB Tryd.prog 37 = true := by kernel_rfl
@[simp] theorem zt37 : zT Tryd.prog 37 = .nilfn := by kernel_rfl
@[simp] theorem ty38 : tyOf Tryd.prog 38 = .func := by kernel_rfl
@[simp] theorem po38 : posT Tryd.prog 38 = true := by kernel_rfl
@[simp] theorem by38 : Tryd.prog.bytesOf 38 = 8 := by kernel_rfl
@[simp] theorem ce38 : Tryd.prog.cellsOf 38 = 1 := by kernel_rfl
@[simp] theorem zb38 : zB Tryd.prog 38 = true := by kernel_rfl
@[simp] theorem zt38 : zT Tryd.prog 38 = .nilfn := by kernel_rfl
@[simp] theorem ty39 : tyOf Tryd.prog 39 = .func := by kernel_rfl
@[simp] theorem po39 : posT Tryd.prog 39 = true := by kernel_rfl
@[simp] theorem by39 : Tryd.prog.bytesOf 39 = 8 := by kernel_rfl
@[simp] theorem ce39 : Tryd.prog.cellsOf 39 = 1 := by kernel_rfl
@[simp] theorem zb39 : zB Tryd.prog 39 = true := by kernel_rfl
@[simp] theorem zt39 : zT Tryd.prog 39 = .nilfn := by kernel_rfl
@[simp] theorem ty40 : tyOf Tryd.prog 40 = .struct [9, 4, 24] := by kernel_rfl
@[simp] theorem po40 : posT Tryd.prog 40 = true := by kernel_rfl
@[simp] theorem by40 : Tryd.prog.bytesOf 40 = 56 := by kernel_rfl
@[simp] theorem ce40 : Tryd.prog.cellsOf 40 = 34 := by kernel_rfl
@[simp] theorem zb40 : zB Tryd.prog 40 = true := by kernel_rfl
@[simp] theorem zt40 : zT Tryd.prog 40 = .agg [.s [], .b false, zT Tryd.prog 24] := by kernel_rfl
@[simp] theorem cm40 : cmpT Tryd.prog 8 40 = true := by kernel_rfl
@[simp] theorem ty41 : tyOf Tryd.prog 41 = .struct [9, 4, 24] := by kernel_rfl
@[simp] theorem po41 : posT Tryd.prog 41 = true := by kernel_rfl
@[simp] theorem by41 : Tryd.prog.bytesOf 41 = 56 := by kernel_rfl
@[simp] theorem ce41 : Tryd.prog.cellsOf 41 = 34 := by kernel_rfl
@[simp] theorem zb41 : zB Tryd.prog 41 = true := by kernel_rfl
@[simp] theorem zt41 : zT Tryd.prog 41 = .agg [.s [], .b false, zT Tryd.prog 24] := by kernel_rfl
@[simp] theorem cm41 : cmpT Tryd.prog 8 41 = true := by kernel_rfl
@[simp] theorem ty42 : tyOf Tryd.prog 42 = .func := by kernel_rfl
@[simp] theorem po42 : posT Tryd.prog 42 = true := by kernel_rfl
@[simp] theorem by42 : Tryd.prog.bytesOf 42 = 8 := by kernel_rfl
@[simp] theorem ce42 : Tryd.prog.cellsOf 42 = 1 := by kernel_rfl
@[simp] theorem zb42 : zB Tryd.prog 42 = true := by kernel_rfl
@[simp] theorem zt42 : zT Tryd.prog 42 = .nilfn := by kernel_rfl
@[simp] theorem ty43 : tyOf Tryd.prog 43 = .map 24 22 := by kernel_rfl
@[simp] theorem po43 : posT Tryd.prog 43 = true := by kernel_rfl
@[simp] theorem by43 : Tryd.prog.bytesOf 43 = 8 := by kernel_rfl
@[simp] theorem ce43 : Tryd.prog.cellsOf 43 = 1 := by kernel_rfl
@[simp] theorem zb43 : zB Tryd.prog 43 = true := by kernel_rfl
@[simp] theorem zt43 : zT Tryd.prog 43 = .map none := by kernel_rfl
@[simp] theorem ty44 : tyOf Tryd.prog 44 = .struct [3, 43] := by kernel_rfl
@[simp] theorem po44 : posT Tryd.prog 44 = true := by kernel_rfl
@[simp] theorem by44 : Tryd.prog.bytesOf 44 = 16 := by kernel_rfl
@[simp] theorem ce44 : Tryd.prog.cellsOf 44 = 2 := by kernel_rfl
@[simp] theorem zb44 : zB Tryd.prog 44 = true := by kernel_rfl
@[simp] theorem zt44 : zT Tryd.prog 44 = .agg [.i .i64 0, .map none] := by kernel_rfl
@[simp] theorem ty45 : tyOf Tryd.prog 45 = .struct [3, 43] := by kernel_rfl
@[simp] theorem po45 : posT Tryd.prog 45 = true := by kernel_rfl
@[simp] theorem by45 : Tryd.prog.bytesOf 45 = 16 := by kernel_rfl
@[simp] theorem ce45 : Tryd.prog.cellsOf 45 = 2 := by kernel_rfl
@[simp] theorem zb45 : zB Tryd.prog 45 = true := by kernel_rfl
@[simp] theorem zt45 : zT Tryd.prog 45 = .agg [.i .i64 0, .map none] := by kernel_rfl
@[simp] theorem ty46 : tyOf Tryd.prog 46 = .func := by kernel_rfl
@[simp] theorem po46 : posT Tryd.prog 46 = true := by kernel_rfl
@[simp] theorem by46 : Tryd.prog.bytesOf 46 = 8 := by kernel_rfl
@[simp] theorem ce46 : Tryd.prog.cellsOf 46 = 1 := by kernel_rfl
@[simp] theorem zb46 : zB Tryd.prog 46 = true := by kernel_rfl
@[simp] theorem zt46 : zT Tryd.prog 46 = .nilfn := by kernel_rfl
@[simp] theorem ty47 : tyOf Tryd.prog 47 = .struct [9, 24] := by kernel_rfl
@[simp] theorem po47 : posT Tryd.prog 47 = true := by kernel_rfl
@[simp] theorem by47 : Tryd.prog.bytesOf 47 = 48 := by kernel_rfl
@[simp] theorem ce47 : Tryd.prog.cellsOf 47 = 33 := by kernel_rfl
@[simp] theorem zb47 : zB Tryd.prog 47 = true := by kernel_rfl
@[simp] theorem zt47 : zT Tryd.prog 47 = .agg [.s [], zT Tryd.prog 24] := by kernel_rfl
@[simp] theorem cm47 : cmpT Tryd.prog 8 47 = true := by kernel_rfl
@[simp] theorem ty48 : tyOf Tryd.prog 48 = .struct [9, 24] := by kernel_rfl
@[simp] theorem po48 : posT Tryd.prog 48 = true := by kernel_rfl
@[simp] theorem by48 : Tryd.prog.bytesOf 48 = 48 := by kernel_rfl
@[simp] theorem ce48 : Tryd.prog.cellsOf 48 = 33 := by kernel_rfl
@[simp] theorem zb48 : zB Tryd.prog 48 = true := by kernel_rfl
@[simp] theorem zt48 : zT Tryd.prog 48 = .agg [.s [], zT Tryd.prog 24] := by kernel_rfl
@[simp] theorem cm48 : cmpT Tryd.prog 8 48 = true := by kernel_rfl
@[simp] theorem ty49 : tyOf Tryd.prog 49 = .func := by kernel_rfl
@[simp] theorem po49 : posT Tryd.prog 49 = true := by kernel_rfl
@[simp] theorem by49 : Tryd.prog.bytesOf 49 = 8 := by kernel_rfl
@[simp] theorem ce49 : Tryd.prog.cellsOf 49 = 1 := by kernel_rfl
@[simp] theorem zb49 : zB Tryd.prog 49 = true := by kernel_rfl
@[simp] theorem zt49 : zT Tryd.prog 49 = .nilfn := by kernel_rfl
@[simp] theorem ty50 : tyOf Tryd.prog 50 = .func := by kernel_rfl
@[simp] theorem po50 : posT Tryd.prog 50 = true := by kernel_rfl
@[simp] theorem by50 : Tryd.prog.bytesOf 50 = 8 := by kernel_rfl
@[simp] theorem ce50 : Tryd.prog.cellsOf 50 = 1 := by kernel_rfl
@[simp] theorem zb50 : zB Tryd.prog 50 = true := by kernel_rfl
@[simp] theorem zt50 : zT Tryd.prog 50 = .nilfn := by kernel_rfl
@[simp] theorem ty51 : tyOf Tryd.prog 51 = .func := by kernel_rfl
@[simp] theorem po51 : posT Tryd.prog 51 = true := by kernel_rfl
@[simp] theorem by51 : Tryd.prog.bytesOf 51 = 8 := by kernel_rfl
@[simp] theorem ce51 : Tryd.prog.cellsOf 51 = 1 := by kernel_rfl
@[simp] theorem zb51 : zB Tryd.prog 51 = true := by kernel_rfl
@[simp] theorem zt51 : zT Tryd.prog 51 = .nilfn := by kernel_rfl
@[simp] theorem ty52 : tyOf Tryd.prog 52 = .func := by kernel_rfl
@[simp] theorem po52 : posT Tryd.prog 52 = true := by kernel_rfl
@[simp] theorem by52 : Tryd.prog.bytesOf 52 = 8 := by kernel_rfl
@[simp] theorem ce52 : Tryd.prog.cellsOf 52 = 1 := by kernel_rfl
@[simp] theorem zb52 : zB Tryd.prog 52 = true := by kernel_rfl
@[simp] theorem zt52 : zT Tryd.prog 52 = .nilfn := by kernel_rfl
@[simp] theorem ty53 : tyOf Tryd.prog 53 = .func := by kernel_rfl
@[simp] theorem po53 : posT Tryd.prog 53 = true := by kernel_rfl
@[simp] theorem by53 : Tryd.prog.bytesOf 53 = 8 := by kernel_rfl
@[simp] theorem ce53 : Tryd.prog.cellsOf 53 = 1 := by kernel_rfl
@[simp] theorem zb53 : zB Tryd.prog 53 = true := by kernel_rfl
@[simp] theorem zt53 : zT Tryd.prog 53 = .nilfn := by kernel_rfl
@[simp] theorem ty54 : tyOf Tryd.prog 54 = .slice 9 := by kernel_rfl
@[simp] theorem po54 : posT Tryd.prog 54 = true := by kernel_rfl
@[simp] theorem by54 : Tryd.prog.bytesOf 54 = 24 := by kernel_rfl
@[simp] theorem ce54 : Tryd.prog.cellsOf 54 = 1 := by kernel_rfl
@[simp] theorem zb54 : zB Tryd.prog 54 = true := by kernel_rfl
@[simp] theorem zt54 : zT Tryd.prog 54 = .sl .full [] := by kernel_rfl
@[simp] theorem ty55 : tyOf Tryd.prog 55 = .func := by kernel_rfl
@[simp] theorem po55 : posT Tryd.prog 55 = true := by kernel_rfl
@[simp] theorem by55 : Tryd.prog.bytesOf 55 = 8 := by kernel_rfl
@[simp] theorem ce55 : Tryd.prog.cellsOf 55 = 1 := by kernel_rfl
@[simp] theorem zb55 : zB Tryd.prog 55 = true := by kernel_rfl
@[simp] theorem zt55 : zT Tryd.prog 55 = .nilfn := by kernel_rfl
@[simp] theorem ty56 : tyOf Tryd.prog 56 = .func := by kernel_rfl
@[simp] theorem po56 : posT Tryd.prog 56 = true := by kernel_rfl
@[simp] theorem by56 : Tryd.prog.bytesOf 56 = 8 := by kernel_rfl
@[simp] theorem ce56 : Tryd.prog.cellsOf 56 = 1 := by kernel_rfl
@[simp] theorem zb56 : zB Tryd.prog 56 = true := by kernel_rfl
@[simp] theorem zt56 : zT Tryd.prog 56 = .nilfn := by kernel_rfl
@[simp] theorem ty57 : tyOf Tryd.prog 57 = .func := by kernel_rfl
@[simp] theorem po57 : posT Tryd.prog 57 = true := by kernel_rfl
@[simp] theorem by57 : Tryd.prog.bytesOf 57 = 8 := by kernel_rfl
@[simp] theorem ce57 : Tryd.prog.cellsOf 57 = 1 := by kernel_rfl
@[simp] theorem zb57 : zB Tryd.prog 57 = true := by kernel_rfl
@[simp] theorem zt57 : zT Tryd.prog 57 = .nilfn := by kernel_rfl
@[simp] theorem ty58 : tyOf Tryd.prog 58 = .func := by kernel_rfl
@[simp] theorem po58 : posT Tryd.prog 58 = true := by kernel_rfl
@[simp] theorem by58 : Tryd.prog.bytesOf 58 = 8 := by kernel_rfl
@[simp] theorem ce58 : Tryd.prog.cellsOf 58 = 1 := by kernel_rfl
@[simp] theorem zb58 : zB Tryd.prog 58 = true := by kernel_rfl
@[simp] theorem zt58 : zT Tryd.prog 58 = .nilfn := by kernel_rfl
@[simp] theorem ty59 : tyOf Tryd.prog 59 = .func := by kernel_rfl
@[simp] theorem po59 : posT Tryd.prog 59 = true := by kernel_rfl
@[simp] theorem by59 : Tryd.prog.bytesOf 59 = 8 := by kernel_rfl
@[simp] theorem ce59 : Tryd.prog.cellsOf 59 = 1 := by kernel_rfl
@[simp] theorem zb59 : zB Tryd.prog 59 = true := by kernel_rfl
@[simp] theorem zt59 : zT Tryd.prog 59 = .nilfn := by kernel_rfl
@[simp] theorem ty60 : tyOf Tryd.prog 60 = .func := by kernel_rfl
@[simp] theorem po60 : posT Tryd.prog 60 = true := by kernel_rfl
@[simp] theorem by60 : Tryd.prog.bytesOf 60 = 8 := by kernel_rfl
@[simp] theorem ce60 : Tryd.prog.cellsOf 60 = 1 := by kernel_rfl
@[simp] theorem zb60 : zB Tryd.prog 60 = true := by kernel_rfl
@[simp] theorem zt60 : zT Tryd.prog 60 = .nilfn := by kernel_rfl
@[simp] theorem ty61 : tyOf Tryd.prog 61 = .func := by kernel_rfl
@[simp] theorem po61 : posT Tryd.prog 61 = true := by kernel_rfl
@[simp] theorem by61 : Tryd.prog.bytesOf 61 = 8 := by kernel_rfl
@[simp] theorem ce61 : Tryd.prog.cellsOf 61 = 1 := by kernel_rfl
@[simp] theorem zb61 : zB Tryd.prog 61 = true := by kernel_rfl
@[simp] theorem zt61 : zT Tryd.prog 61 = .nilfn := by kernel_rfl
@[simp] theorem ty62 : tyOf Tryd.prog 62 = .func := by kernel_rfl
@[simp] theorem po62 : posT Tryd.prog 62 = true := by kernel_rfl
@[simp] theorem by62 : Tryd.prog.bytesOf 62 = 8 := by kernel_rfl
@[simp] theorem ce62 : Tryd.prog.cellsOf 62 = 1 := by kernel_rfl
@[simp] theorem zb62 : zB Tryd.prog 62 = true := by kernel_rfl
@[simp] theorem zt62 : zT Tryd.prog 62 = .nilfn := by kernel_rfl
@[simp] theorem ty63 : tyOf Tryd.prog 63 = .func := by kernel_rfl
@[simp] theorem po63 : posT Tryd.prog 63 = true := by kernel_rfl
@[simp] theorem by63 : Tryd.prog.bytesOf 63 = 8 := by kernel_rfl
@[simp] theorem ce63 : Tryd.prog.cellsOf 63 = 1 := by kernel_rfl
@[simp] theorem zb63 : zB Tryd.prog 63 = true := by kernel_rfl
@[simp] theorem zt63 : zT Tryd.prog 63 = .nilfn := by kernel_rfl
@[simp] theorem ty64 : tyOf Tryd.prog 64 = .func := by kernel_rfl
@[simp] theorem po64 : posT Tryd.prog 64 = true := by kernel_rfl
@[simp] theorem by64 : Tryd.prog.bytesOf 64 = 8 := by kernel_rfl
@[simp] theorem ce64 : Tryd.prog.cellsOf 64 = 1 := by kernel_rfl
@[simp] theorem zb64 : zB Tryd.prog 64 = true := by kernel_rfl
@[simp] theorem zt64 : zT Tryd.prog 64 = .nilfn := by kernel_rfl
@[simp] theorem ty65 : tyOf Tryd.prog 65 = .map 9 4 := by kernel_rfl
@[simp] theorem po65 : posT Tryd.prog 65 = true := by kernel_rfl
@[simp] theorem by65 : Tryd.prog.bytesOf 65 = 8 := by kernel_rfl
@[simp] theorem ce65 : Tryd.prog.cellsOf 65 = 1 := by kernel_rfl
@[simp] theorem zb65 : zB Tryd.prog 65 = true := by kernel_rfl
@[simp] theorem zt65 : zT Tryd.prog 65 = .map none := by kernel_rfl
@[simp] theorem ty66 : tyOf Tryd.prog 66 = .func := by kernel_rfl
@[simp] theorem po66 : posT Tryd.prog 66 = true := by kernel_rfl
@[simp] theorem by66 : Tryd.prog.bytesOf 66 = 8 := by kernel_rfl
@[simp] theorem ce66 : Tryd.prog.cellsOf 66 = 1 := by kernel_rfl
@[simp] theorem zb66 : zB Tryd.prog 66 = true := by kernel_rfl
@[simp] theorem zt66 : zT Tryd.prog 66 = .nilfn := by kernel_rfl
@[simp] theorem ty67 : tyOf Tryd.prog 67 = .func := by kernel_rfl
@[simp] theorem po67 : posT Tryd.prog 67 = true := by kernel_rfl
@[simp] theorem by67 : Tryd.prog.bytesOf 67 = 8 := by kernel_rfl
@[simp] theorem ce67 : Tryd.prog.cellsOf 67 = 1 := by kernel_rfl
@[simp] theorem zb67 : zB Tryd.prog 67 = true := by kernel_rfl
@[simp] theorem zt67 : zT Tryd.prog 67 = .nilfn := by kernel_rfl
@[simp] theorem ty68 : tyOf Tryd.prog 68 = .func := by kernel_rfl
@[simp] theorem po68 : posT Tryd.prog 68 = true := by kernel_rfl
@[simp] theorem by68 : Tryd.prog.bytesOf 68 = 8 := by kernel_rfl
@[simp] theorem ce68 : Tryd.prog.cellsOf 68 = 1 := by kernel_rfl
@[simp] theorem zb68 : zB Tryd.prog 68 = true := by kernel_rfl
@[simp] theorem zt68 : zT Tryd.prog 68 = .nilfn := by kernel_rfl
@[simp] theorem ty69 : tyOf Tryd.prog 69 = .func := by kernel_rfl
@[simp] theorem po69 : posT Tryd.prog 69 = true := by kernel_rfl
@[simp] theorem by69 : Tryd.prog.bytesOf 69 = 8 := by kernel_rfl
@[simp] theorem ce69 : Tryd.prog.cellsOf 69 = 1 := by kernel_rfl
@[simp] theorem zb69 : zB Tryd.prog 69 = true := by kernel_rfl
@[simp] theorem zt69 : zT Tryd.prog 69 = .nilfn := by kernel_rfl
@[simp] theorem ty70 : tyOf Tryd.prog 70 = .func := by kernel_rfl
@[simp] theorem po70 : posT Tryd.prog 70 = true := by kernel_rfl
@[simp] theorem by70 : Tryd.prog.bytesOf 70 = 8 := by kernel_rfl
@[simp] theorem ce70 : Tryd.prog.cellsOf 70 = 1 := by kernel_rfl
@[simp] theorem zb70 : zB Tryd.prog 70 = true := by kernel_rfl
@[simp] theorem zt70 : zT Tryd.prog 70 = .nilfn := by kernel_rfl
@[simp] theorem ty71 : tyOf Tryd.prog 71 = .func := by kernel_rfl
@[simp] theorem po71 : posT Tryd.prog 71 = true := by kernel_rfl
@[simp] theorem by71 : Tryd.prog.bytesOf 71 = 8 := by kernel_rfl
@[simp] theorem ce71 : Tryd.prog.cellsOf 71 = 1 := by kernel_rfl
@[simp] theorem zb71 : zB Tryd.prog 71 = true := by kernel_rfl
@[simp] theorem zt71 : zT Tryd.prog 71 = .nilfn := by kernel_rfl
@[simp] theorem ty72 : tyOf Tryd.prog 72 = .func := by kernel_rfl
@[simp] theorem po72 : posT Tryd.prog 72 = true := by kernel_rfl
@[simp] theorem by72 : Tryd.prog.bytesOf 72 = 8 := by kernel_rfl
@[simp] theorem ce72 : Tryd.prog.cellsOf 72 = 1 := by kernel_rfl
@[simp] theorem zb72 : zB Tryd.prog 72 = true := by kernel_rfl
@[simp] theorem zt72 : zT Tryd.prog 72 = .nilfn := by kernel_rfl
@[simp] theorem ty74 : tyOf Tryd.prog 74 = .func := by kernel_rfl
@[simp] theorem po74 : posT Tryd.prog 74 = true := by kernel_rfl
@[simp] theorem by74 : Tryd.prog.bytesOf 74 = 8 := by kernel_rfl
@[simp] theorem ce74 : Tryd.prog.cellsOf 74 = 1 := by kernel_rfl
@[simp] theorem zb74 : zB Tryd.prog 74 = true := by kernel_rfl
@[simp] theorem zt74 : zT Tryd.prog 74 = .nilfn := by kernel_rfl
@[simp] theorem ty75 : tyOf Tryd.prog 75 = .func := by kernel_rfl
@[simp] theorem po75 : posT Tryd.prog 75 = true := by kernel_rfl
@[simp] theorem by75 : Tryd.prog.bytesOf 75 = 8 := by kernel_rfl
@[simp] theorem ce75 : Tryd.prog.cellsOf 75 = 1 := by kernel_rfl
@[simp] theorem zb75 : zB Tryd.prog 75 = true := by kernel_rfl
@[simp] theorem zt75 : zT Tryd.prog 75 = .nilfn := by kernel_rfl
@[simp] theorem ty76 : tyOf Tryd.prog 76 = .func := by kernel_rfl
@[simp] theorem po76 : posT Tryd.prog 76 = true := by kernel_rfl
@[simp] theorem by76 : Tryd.prog.bytesOf 76 = 8 := by kernel_rfl
@[simp] theorem ce76 : Tryd.prog.cellsOf 76 = 1 := by kernel_rfl
@[simp] theorem zb76 : zB Tryd.prog 76 = true := by kernel_rfl
@[simp] theorem zt76 : zT Tryd.prog 76 = .nilfn := by kernel_rfl
@[simp] theorem ty77 : tyOf Tryd.prog 77 = .func := by kernel_rfl
@[simp] theorem po77 : posT Tryd.prog 77 = true := by kernel_rfl
@[simp] theorem by77 : Tryd.prog.bytesOf 77 = 8 := by kernel_rfl
@[simp] theorem ce77 : Tryd.prog.cellsOf 77 = 1 := by kernel_rfl
@[simp] theorem zb77 : zB Tryd.prog 77 = true := by kernel_rfl
@[simp] theorem zt77 : zT Tryd.prog 77 = .nilfn := by kernel_rfl
@[simp] theorem ty78 : tyOf Tryd.prog 78 = .func := by kernel_rfl
@[simp] theorem po78 : posT Tryd.prog 78 = true := by kernel_rfl
@[simp] theorem by78 : Tryd.prog.bytesOf 78 = 8 := by kernel_rfl
@[simp] theorem ce78 : Tryd.prog.cellsOf 78 = 1 := by kernel_rfl
@[simp] theorem zb78 : zB Tryd.prog 78 = true := by kernel_rfl
@[simp] theorem zt78 : zT Tryd.prog 78 = .nilfn := by kernel_rfl
@[simp] theorem ty79 : tyOf Tryd.prog 79 = .arr 256 5 := by kernel_rfl
@[simp] theorem po79 : posT Tryd.prog 79 = true := by kernel_rfl
@[simp] theorem by79 : Tryd.prog.bytesOf 79 = 256 := by kernel_rfl
@[simp] theorem ce79 : Tryd.prog.cellsOf 79 = 256 := by kernel_rfl
@[simp] theorem zb79 : zB Tryd.prog 79 = true := by kernel_rfl
@[simp] theorem zt79 : zT Tryd.prog 79 = .agg (List.replicate 256 (.i .u8 0)) := by kernel_rfl
@[simp] theorem cm79 : cmpT Tryd.prog 8 79 = true := by kernel_rfl
@[simp] theorem ty80 : tyOf Tryd.prog 80 = .int .u64 := by kernel_rfl
@[simp] theorem po80 : posT Tryd.prog 80 = true := by kernel_rfl
@[simp] theorem by80 : Tryd.prog.bytesOf 80 = 8 := by kernel_rfl
@[simp] theorem ce80 : Tryd.prog.cellsOf 80 = 1 := by kernel_rfl
@[simp] theorem zb80 : zB Tryd.prog 80 = true := by kernel_rfl
@[simp] theorem zt80 : zT Tryd.prog 80 = .i .u64 0 := by kernel_rfl
@[simp] theorem cm80 : cmpT Tryd.prog 8 80 = true := by kernel_rfl
@[simp] theorem ty81 : tyOf Tryd.prog 81 = .struct [5, 5] := by kernel_rfl
@[simp] theorem po81 : posT Tryd.prog 81 = true := by kernel_rfl
@[simp] theorem by81 : Tryd.prog.bytesOf 81 = 2 := by kernel_rfl
@[simp] theorem ce81 : Tryd.prog.cellsOf 81 = 2 := by kernel_rfl
@[simp] theorem zb81 : zB Tryd.prog 81 = true := by kernel_rfl
@[simp] theorem zt81 : zT Tryd.prog 81 = .agg [.i .u8 0, .i .u8 0] := by kernel_rfl
@[simp] theorem cm81 : cmpT Tryd.prog 8 81 = true := by kernel_rfl
@[simp] theorem ty82 : tyOf Tryd.prog 82 = .struct [5, 5] := by kernel_rfl
@[simp] theorem po82 : posT Tryd.prog 82 = true := by kernel_rfl
@[simp] theorem by82 : Tryd.prog.bytesOf 82 = 2 := by kernel_rfl
@[simp] theorem ce82 : Tryd.prog.cellsOf 82 = 2 := by kernel_rfl
@[simp] theorem zb82 : zB Tryd.prog 82 = true := by kernel_rfl
@[simp] theorem zt82 : zT Tryd.prog 82 = .agg [.i .u8 0, .i .u8 0] := by kernel_rfl
@[simp] theorem cm82 : cmpT Tryd.prog 8 82 = true := by kernel_rfl
@[simp] theorem ty83 : tyOf Tryd.prog 83 = .arr 16 82 := by kernel_rfl
@[simp] theorem po83 : posT Tryd.prog 83 = true := by kernel_rfl
@[simp] theorem by83 : Tryd.prog.bytesOf 83 = 32 := by kernel_rfl
@[simp] theorem ce83 : Tryd.prog.cellsOf 83 = 32 := by kernel_rfl
@[simp] theorem zb83 : zB Tryd.prog 83 = true := by kernel_rfl
@[simp] theorem zt83 : zT Tryd.prog 83 = .agg (List.replicate 16 (zT Tryd.prog 82)) := by kernel_rfl
@[simp] theorem cm83 : cmpT Tryd.prog 8 83 = true := by kernel_rfl
@[simp] theorem ty84 : tyOf Tryd.prog 84 = .func := by kernel_rfl
@[simp] theorem po84 : posT Tryd.prog 84 = true := by kernel_rfl
@[simp] theorem by84 : Tryd.prog.bytesOf 84 = 8 := by kernel_rfl
@[simp] theorem ce84 : Tryd.prog.cellsOf 84 = 1 := by kernel_rfl
@[simp] theorem zb84 : zB Tryd.prog 84 = true := by kernel_rfl
@[simp] theorem zt84 : zT Tryd.prog 84 = .nilfn := by kernel_rfl
@[simp] theorem ty85 : tyOf Tryd.prog 85 = .int .u32 := by kernel_rfl
@[simp] theorem po85 : posT Tryd.prog 85 = true := by kernel_rfl
@[simp] theorem by85 : Tryd.prog.bytesOf 85 = 4 := by kernel_rfl
@[simp] theorem ce85 : Tryd.prog.cellsOf 85 = 1 := by kernel_rfl
@[simp] theorem zb85 : zB Tryd.prog 85 = true := by kernel_rfl
@[simp] theorem zt85 : zT Tryd.prog 85 = .i .u32 0 := by kernel_rfl
@[simp] theorem cm85 : cmpT Tryd.prog 8 85 = true := by kernel_rfl
@[simp] theorem ty87 : tyOf Tryd.prog 87 = .func := by kernel_rfl
@[simp] theorem po87 : posT Tryd.prog 87 = true := by kernel_rfl
@[simp] theorem by87 : Tryd.prog.bytesOf 87 = 8 := by kernel_rfl
@[simp] theorem ce87 : Tryd.prog.cellsOf 87 = 1 := by kernel_rfl
@[simp] theorem zb87 : zB Tryd.prog 87 = true := by kernel_rfl
@[simp] theorem zt87 : zT Tryd.prog 87 = .nilfn := by kernel_rfl
@[simp] theorem ty88 : tyOf Tryd.prog 88 = .func := by kernel_rfl
@[simp] theorem po88 : posT Tryd.prog 88 = true := by kernel_rfl
@[simp] theorem by88 : Tryd.prog.bytesOf 88 = 8 := by kernel_rfl
@[simp] theorem ce88 : Tryd.prog.cellsOf 88 = 1 := by kernel_rfl
@[simp] theorem zb88 : zB Tryd.prog 88 = true := by kernel_rfl
@[simp] theorem zt88 : zT Tryd.prog 88 = .nilfn := by kernel_rfl
@[simp] theorem ty89 : tyOf Tryd.prog 89 = .struct [17, 17, 17, 9] := by kernel_rfl
@[simp] theorem po89 : posT Tryd.prog 89 = true := by kernel_rfl
@[simp] theorem by89 : Tryd.prog.bytesOf 89 = 40 := by kernel_rfl
@[simp] theorem ce89 : Tryd.prog.cellsOf 89 = 4 := by kernel_rfl
@[simp] theorem zb89 : zB Tryd.prog 89 = true := by kernel_rfl
@[simp] theorem zt89 : zT Tryd.prog 89 = .agg [.nilptr, .nilptr, .nilptr, .s []] := by kernel_rfl
@[simp] theorem ty90 : tyOf Tryd.prog 90 = .struct [17, 17, 17, 9] := by kernel_rfl
@[simp] theorem po90 : posT Tryd.prog 90 = true := by kernel_rfl
@[simp] theorem by90 : Tryd.prog.bytesOf 90 = 40 := by kernel_rfl
@[simp] theorem ce90 : Tryd.prog.cellsOf 90 = 4 := by kernel_rfl
@[simp] theorem zb90 : zB Tryd.prog 90 = true := by kernel_rfl
@[simp] theorem zt90 : zT Tryd.prog 90 = .agg [.nilptr, .nilptr, .nilptr, .s []] := by kernel_rfl
@[simp] theorem ty91 : tyOf Tryd.prog 91 = .arr 0 16 := by kernel_rfl
@[simp] theorem ty94 : tyOf Tryd.prog 94 = .func := by kernel_rfl
@[simp] theorem po94 : posT Tryd.prog 94 = true := by kernel_rfl
@[simp] theorem by94 : Tryd.prog.bytesOf 94 = 8 := by kernel_rfl
@[simp] theorem ce94 : Tryd.prog.cellsOf 94 = 1 := by kernel_rfl
@[simp] theorem zb94 : zB Tryd.prog 94 = true := by kernel_rfl
@[simp] theorem zt94 : zT Tryd.prog 94 = .nilfn := by kernel_rfl
@[simp] theorem ty95 : tyOf Tryd.prog 95 = .int .u8 := by kernel_rfl
@[simp] theorem po95 : posT Tryd.prog 95 = true := by kernel_rfl
@[simp] theorem by95 : Tryd.prog.bytesOf 95 = 1 := by kernel_rfl
@[simp] theorem ce95 : Tryd.prog.cellsOf 95 = 1 := by kernel_rfl
@[simp] theorem zb95 : zB Tryd.prog 95 = true := by kernel_rfl
@[simp] theorem zt95 : zT Tryd.prog 95 = .i .u8 0 := by kernel_rfl
@[simp] theorem ty96 : tyOf Tryd.prog 96 = .int .u8 := by kernel_rfl
@[simp] theorem po96 : posT Tryd.prog 96 = true := by kernel_rfl
@[simp] theorem by96 : Tryd.prog.bytesOf 96 = 1 := by kernel_rfl
@[simp] theorem ce96 : Tryd.prog.cellsOf 96 = 1 := by kernel_rfl
@[simp] theorem zb96 : zB Tryd.prog 96 = true := by kernel_rfl
@[simp] theorem zt96 : zT Tryd.prog 96 = .i .u8 0 := by kernel_rfl
@[simp] theorem ty97 : tyOf Tryd.prog 97 = .func := by kernel_rfl
@[simp] theorem po97 : posT Tryd.prog 97 = true := by kernel_rfl
@[simp] theorem by97 : Tryd.prog.bytesOf 97 = 8 := by kernel_rfl
@[simp] theorem ce97 : Tryd.prog.cellsOf 97 = 1 := by kernel_rfl
@[simp] theorem zb97 : zB Tryd.prog 97 = true := by kernel_rfl
@[simp] theorem zt97 : zT Tryd.prog 97 = .nilfn := by kernel_rfl
@[simp] theorem ty98 : tyOf Tryd.prog 98 = .ptr := by kernel_rfl
@[simp] theorem po98 : posT Tryd.prog 98 = true := by kernel_rfl
@[simp] theorem by98 : Tryd.prog.bytesOf 98 = 8 := by kernel_rfl
@[simp] theorem ce98 : Tryd.prog.cellsOf 98 = 1 := by kernel_rfl
@[simp] theorem zb98 : zB Tryd.prog 98 = true := by kernel_rfl
@[simp] theorem zt98 : zT Tryd.prog 98 = .nilptr := by kernel_rfl
@[simp] theorem ty99 : tyOf Tryd.prog 99 = .int .i32 := by kernel_rfl
@[simp] theorem po99 : posT Tryd.prog 99 = true := by kernel_rfl
@[simp] theorem by99 : Tryd.prog.bytesOf 99 = 4 := by kernel_rfl
@[simp] theorem ce99 : Tryd.prog.cellsOf 99 = 1 := by kernel_rfl
@[simp] theorem zb99 : zB Tryd.prog 99 = true := by kernel_rfl
@[simp] theorem zt99 : zT Tryd.prog 99 = .i .i32 0 := by kernel_rfl
@[simp] theorem ty100 : tyOf Tryd.prog 100 = .int .i32 := by kernel_rfl
@[simp] theorem po100 : posT Tryd.prog 100 = true := by kernel_rfl
@[simp] theorem by100 : Tryd.prog.bytesOf 100 = 4 := by kernel_rfl
@[simp] theorem ce100 : Tryd.prog.cellsOf 100 = 1 := by kernel_rfl
@[simp] theorem zb100 : zB Tryd.prog 100 = true := by kernel_rfl
@[simp] theorem zt100 : zT Tryd.prog 100 = .i .i32 0 := by kernel_rfl
@[simp] theorem ty101 : tyOf Tryd.prog 101 = .struct [12, 12, 85, 95, 5, 5, 96, 97, 98, 99, 100] := by kernel_rfl
@[simp] theorem po101 : posT Tryd.prog 101 = true := by kernel_rfl
@[simp] theorem by101 : Tryd.prog.bytesOf 101 = 48 := by kernel_rfl
@[simp] theorem ce101 : Tryd.prog.cellsOf 101 = 11 := by kernel_rfl
@[simp] theorem zb101 : zB Tryd.prog 101 = true := by kernel_rfl
@[simp] theorem zt101 : zT Tryd.prog 101 = .agg [.i .u64 0, .i .u64 0, .i .u32 0, .i .u8 0, .i .u8 0, .i .u8 0, .i .u8 0, .nilfn, .nilptr, .i .i32 0, .i .i32 0] := by kernel_rfl
@[simp] theorem ty102 : tyOf Tryd.prog 102 = .struct [12, 12, 85, 95, 5, 5, 96, 97, 98, 99, 100] := by kernel_rfl
@[simp] theorem po102 : posT Tryd.prog 102 = true := by kernel_rfl
@[simp] theorem by102 : Tryd.prog.bytesOf 102 = 48 := by kernel_rfl
@[simp] theorem ce102 : Tryd.prog.cellsOf 102 = 11 := by kernel_rfl
@[simp] theorem zb102 : zB Tryd.prog 102 = true := by kernel_rfl
@[simp] theorem zt102 : zT Tryd.prog 102 = .agg [.i .u64 0, .i .u64 0, .i .u32 0, .i .u8 0, .i .u8 0, .i .u8 0, .i .u8 0, .nilfn, .nilptr, .i .i32 0, .i .i32 0] := by kernel_rfl
end Go.Proofs.YthdgnfnalimcnabDoor
