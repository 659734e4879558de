/- Closed facts on this seat's types and functions. Printed by a program (wip/tools/facts.py). No condition beyond each theorem's own. -/
import Derived.Test.YtmkpbigaafemnaaDoorChecked
import Derived.Test.YtmkpbigaafemnaaDoorAbSToW
import Derived.Test.YtmkpbigaafemnaaDoorAbXToY
set_option linter.unusedSimpArgs false
set_option linter.unusedVariables false
set_option linter.unusedSectionVars false
set_option maxRecDepth 100000
/-! Closed facts on this seat's types and functions. Printed by a program (wip/tools/facts.py). -/
namespace Go.Proofs.YtmkpbigaafemnaaDoor
open Go Go.Ab
theorem laid : laidOutB Tryd.prog = true := by kernel_rfl
theorem mixed : Tryd.prog.follows .mixedOrders = true := by kernel_rfl
@[simp] theorem ty2 : tyOf Tryd.prog 2 = .int .i64 := by kernel_rfl
@[simp] theorem po2 : posT Tryd.prog 2 = true := by kernel_rfl
@[simp] theorem by2 : Tryd.prog.bytesOf 2 = 8 := by kernel_rfl
@[simp] theorem ce2 : Tryd.prog.cellsOf 2 = 1 := by kernel_rfl
@[simp] theorem zb2 : zB Tryd.prog 2 = true := by kernel_rfl
@[simp] theorem zt2 : zT Tryd.prog 2 = .i .i64 0 := by kernel_rfl
@[simp] theorem cm2 : cmpT Tryd.prog 8 2 = true := by kernel_rfl
@[simp] theorem ty3 : tyOf Tryd.prog 3 = .int .i64 := by kernel_rfl
@[simp] theorem po3 : posT Tryd.prog 3 = true := by kernel_rfl
@[simp] theorem by3 : Tryd.prog.bytesOf 3 = 8 := by kernel_rfl
@[simp] theorem ce3 : Tryd.prog.cellsOf 3 = 1 := by kernel_rfl
@[simp] theorem zb3 : zB Tryd.prog 3 = true := by kernel_rfl
@[simp] theorem zt3 : zT Tryd.prog 3 = .i .i64 0 := by kernel_rfl
@[simp] theorem cm3 : cmpT Tryd.prog 8 3 = true := by kernel_rfl
@[simp] theorem ty4 : tyOf Tryd.prog 4 = .bool := by kernel_rfl
@[simp] theorem po4 : posT Tryd.prog 4 = true := by kernel_rfl
@[simp] theorem by4 : Tryd.prog.bytesOf 4 = 1 := by kernel_rfl
@[simp] theorem ce4 : Tryd.prog.cellsOf 4 = 1 := by kernel_rfl
@[simp] theorem zb4 : zB Tryd.prog 4 = true := by kernel_rfl
@[simp] theorem zt4 : zT Tryd.prog 4 = .b false := by kernel_rfl
@[simp] theorem cm4 : cmpT Tryd.prog 8 4 = true := by kernel_rfl
@[simp] theorem ty5 : tyOf Tryd.prog 5 = .int .u8 := by kernel_rfl
@[simp] theorem po5 : posT Tryd.prog 5 = true := by kernel_rfl
@[simp] theorem by5 : Tryd.prog.bytesOf 5 = 1 := by kernel_rfl
@[simp] theorem ce5 : Tryd.prog.cellsOf 5 = 1 := by kernel_rfl
@[simp] theorem zb5 : zB Tryd.prog 5 = true := by kernel_rfl
@[simp] theorem zt5 : zT Tryd.prog 5 = .i .u8 0 := by kernel_rfl
@[simp] theorem cm5 : cmpT Tryd.prog 8 5 = true := by kernel_rfl
@[simp] theorem ty9 : tyOf Tryd.prog 9 = .str := by kernel_rfl
@[simp] theorem po9 : posT Tryd.prog 9 = true := by kernel_rfl
@[simp] theorem by9 : Tryd.prog.bytesOf 9 = 16 := by kernel_rfl
@[simp] theorem ce9 : Tryd.prog.cellsOf 9 = 1 := by kernel_rfl
@[simp] theorem zb9 : zB Tryd.prog 9 = true := by kernel_rfl
@[simp] theorem zt9 : zT Tryd.prog 9 = .s [] := by kernel_rfl
@[simp] theorem cm9 : cmpT Tryd.prog 8 9 = true := by kernel_rfl
@[simp] theorem ty12 : tyOf Tryd.prog 12 = .int .u64 := by kernel_rfl
@[simp] theorem po12 : posT Tryd.prog 12 = true := by kernel_rfl
@[simp] theorem by12 : Tryd.prog.bytesOf 12 = 8 := by kernel_rfl
@[simp] theorem ce12 : Tryd.prog.cellsOf 12 = 1 := by kernel_rfl
@[simp] theorem zb12 : zB Tryd.prog 12 = true := by kernel_rfl
@[simp] theorem zt12 : zT Tryd.prog 12 = .i .u64 0 := by kernel_rfl
@[simp] theorem cm12 : cmpT Tryd.prog 8 12 = true := by kernel_rfl
@[simp] theorem ty14 : tyOf Tryd.prog 14 = .struct [9, 12] := by kernel_rfl
@[simp] theorem po14 : posT Tryd.prog 14 = true := by kernel_rfl
@[simp] theorem by14 : Tryd.prog.bytesOf 14 = 24 := by kernel_rfl
@[simp] theorem ce14 : Tryd.prog.cellsOf 14 = 2 := by kernel_rfl
@[simp] theorem zb14 : zB Tryd.prog 14 = true := by kernel_rfl
@[simp] theorem zt14 : zT Tryd.prog 14 = .agg [.s [], .i .u64 0] := by kernel_rfl
@[simp] theorem ty15 : tyOf Tryd.prog 15 = .ptr := by kernel_rfl
@[simp] theorem po15 : posT Tryd.prog 15 = true := by kernel_rfl
@[simp] theorem by15 : Tryd.prog.bytesOf 15 = 8 := by kernel_rfl
@[simp] theorem ce15 : Tryd.prog.cellsOf 15 = 1 := by kernel_rfl
@[simp] theorem zb15 : zB Tryd.prog 15 = true := by kernel_rfl
@[simp] theorem zt15 : zT Tryd.prog 15 = .nilptr := by kernel_rfl
@[simp] theorem ty16 : tyOf Tryd.prog 16 = .ptr := by kernel_rfl
@[simp] theorem po16 : posT Tryd.prog 16 = true := by kernel_rfl
@[simp] theorem by16 : Tryd.prog.bytesOf 16 = 8 := by kernel_rfl
@[simp] theorem ce16 : Tryd.prog.cellsOf 16 = 1 := by kernel_rfl
@[simp] theorem zb16 : zB Tryd.prog 16 = true := by kernel_rfl
@[simp] theorem zt16 : zT Tryd.prog 16 = .nilptr := by kernel_rfl
@[simp] theorem ty17 : tyOf Tryd.prog 17 = .ptr := by kernel_rfl
@[simp] theorem po17 : posT Tryd.prog 17 = true := by kernel_rfl
@[simp] theorem by17 : Tryd.prog.bytesOf 17 = 8 := by kernel_rfl
@[simp] theorem ce17 : Tryd.prog.cellsOf 17 = 1 := by kernel_rfl
@[simp] theorem zb17 : zB Tryd.prog 17 = true := by kernel_rfl
@[simp] theorem zt17 : zT Tryd.prog 17 = .nilptr := by kernel_rfl
@[simp] theorem ty18 : tyOf Tryd.prog 18 = .struct [17] := by kernel_rfl
@[simp] theorem po18 : posT Tryd.prog 18 = true := by kernel_rfl
@[simp] theorem by18 : Tryd.prog.bytesOf 18 = 8 := by kernel_rfl
@[simp] theorem ce18 : Tryd.prog.cellsOf 18 = 1 := by kernel_rfl
@[simp] theorem zb18 : zB Tryd.prog 18 = true := by kernel_rfl
@[simp] theorem zt18 : zT Tryd.prog 18 = .agg [.nilptr] := by kernel_rfl
@[simp] theorem ty19 : tyOf Tryd.prog 19 = .struct [17] := by kernel_rfl
@[simp] theorem po19 : posT Tryd.prog 19 = true := by kernel_rfl
@[simp] theorem by19 : Tryd.prog.bytesOf 19 = 8 := by kernel_rfl
@[simp] theorem ce19 : Tryd.prog.cellsOf 19 = 1 := by kernel_rfl
@[simp] theorem zb19 : zB Tryd.prog 19 = true := by kernel_rfl
@[simp] theorem zt19 : zT Tryd.prog 19 = .agg [.nilptr] := by kernel_rfl
@[simp] theorem ty20 : tyOf Tryd.prog 20 = .iface := by kernel_rfl
@[simp] theorem po20 : posT Tryd.prog 20 = true := by kernel_rfl
@[simp] theorem by20 : Tryd.prog.bytesOf 20 = 16 := by kernel_rfl
@[simp] theorem ce20 : Tryd.prog.cellsOf 20 = 1 := by kernel_rfl
@[simp] theorem zb20 : zB Tryd.prog 20 = true := by kernel_rfl
@[simp] theorem zt20 : zT Tryd.prog 20 = .nilifc := by kernel_rfl
@[simp] theorem ty21 : tyOf Tryd.prog 21 = .int .i32 := by kernel_rfl
@[simp] theorem po21 : posT Tryd.prog 21 = true := by kernel_rfl
@[simp] theorem by21 : Tryd.prog.bytesOf 21 = 4 := by kernel_rfl
@[simp] theorem ce21 : Tryd.prog.cellsOf 21 = 1 := by kernel_rfl
@[simp] theorem zb21 : zB Tryd.prog 21 = true := by kernel_rfl
@[simp] theorem zt21 : zT Tryd.prog 21 = .i .i32 0 := by kernel_rfl
@[simp] theorem cm21 : cmpT Tryd.prog 8 21 = true := by kernel_rfl
@[simp] theorem ty22 : tyOf Tryd.prog 22 = .slice 28 := by kernel_rfl
@[simp] theorem po22 : posT Tryd.prog 22 = true := by kernel_rfl
@[simp] theorem by22 : Tryd.prog.bytesOf 22 = 24 := by kernel_rfl
@[simp] theorem ce22 : Tryd.prog.cellsOf 22 = 1 := by kernel_rfl
@[simp] theorem zb22 : zB Tryd.prog 22 = true := by kernel_rfl
@[simp] theorem zt22 : zT Tryd.prog 22 = .sl .full [] := by kernel_rfl
@[simp] theorem ty23 : tyOf Tryd.prog 23 = .arr 32 5 := by kernel_rfl
@[simp] theorem po23 : posT Tryd.prog 23 = true := by kernel_rfl
@[simp] theorem by23 : Tryd.prog.bytesOf 23 = 32 := by kernel_rfl
@[simp] theorem ce23 : Tryd.prog.cellsOf 23 = 32 := by kernel_rfl
@[simp] theorem zb23 : zB Tryd.prog 23 = true := by kernel_rfl
@[simp] theorem zt23 : zT Tryd.prog 23 = .agg (List.replicate 32 (.i .u8 0)) := by kernel_rfl
@[simp] theorem cm23 : cmpT Tryd.prog 8 23 = true := by kernel_rfl
@[simp] theorem ty24 : tyOf Tryd.prog 24 = .arr 32 5 := by kernel_rfl
@[simp] theorem po24 : posT Tryd.prog 24 = true := by kernel_rfl
@[simp] theorem by24 : Tryd.prog.bytesOf 24 = 32 := by kernel_rfl
@[simp] theorem ce24 : Tryd.prog.cellsOf 24 = 32 := by kernel_rfl
@[simp] theorem zb24 : zB Tryd.prog 24 = true := by kernel_rfl
@[simp] theorem zt24 : zT Tryd.prog 24 = .agg (List.replicate 32 (.i .u8 0)) := by kernel_rfl
@[simp] theorem cm24 : cmpT Tryd.prog 8 24 = true := by kernel_rfl
@[simp] theorem ty25 : tyOf Tryd.prog 25 = .slice 43 := by kernel_rfl
@[simp] theorem po25 : posT Tryd.prog 25 = true := by kernel_rfl
@[simp] theorem by25 : Tryd.prog.bytesOf 25 = 24 := by kernel_rfl
@[simp] theorem ce25 : Tryd.prog.cellsOf 25 = 1 := by kernel_rfl
@[simp] theorem zb25 : zB Tryd.prog 25 = true := by kernel_rfl
@[simp] theorem zt25 : zT Tryd.prog 25 = .sl .full [] := by kernel_rfl
@[simp] theorem ty26 : tyOf Tryd.prog 26 = .slice 45 := by kernel_rfl
@[simp] theorem po26 : posT Tryd.prog 26 = true := by kernel_rfl
@[simp] theorem by26 : Tryd.prog.bytesOf 26 = 24 := by kernel_rfl
@[simp] theorem ce26 : Tryd.prog.cellsOf 26 = 1 := by kernel_rfl
@[simp] theorem zb26 : zB Tryd.prog 26 = true := by kernel_rfl
@[simp] theorem zt26 : zT Tryd.prog 26 = .sl .full [] := by kernel_rfl
@[simp] theorem ty27 : tyOf Tryd.prog 27 = .struct [24, 25, 26] := by kernel_rfl
@[simp] theorem po27 : posT Tryd.prog 27 = true := by kernel_rfl
@[simp] theorem by27 : Tryd.prog.bytesOf 27 = 80 := by kernel_rfl
@[simp] theorem ce27 : Tryd.prog.cellsOf 27 = 34 := by kernel_rfl
@[simp] theorem zb27 : zB Tryd.prog 27 = true := by kernel_rfl
@[simp] theorem zt27 : zT Tryd.prog 27 = .agg [zT Tryd.prog 24, .sl .full [], .sl .full []] := by kernel_rfl
@[simp] theorem ty28 : tyOf Tryd.prog 28 = .struct [24, 25, 26] := by kernel_rfl
@[simp] theorem po28 : posT Tryd.prog 28 = true := by kernel_rfl
@[simp] theorem by28 : Tryd.prog.bytesOf 28 = 80 := by kernel_rfl
@[simp] theorem ce28 : Tryd.prog.cellsOf 28 = 34 := by kernel_rfl
@[simp] theorem zb28 : zB Tryd.prog 28 = true := by kernel_rfl
@[simp] theorem zt28 : zT Tryd.prog 28 = .agg [zT Tryd.prog 24, .sl .full [], .sl .full []] := by kernel_rfl
@[simp] theorem ty29 : tyOf Tryd.prog 29 = .func := by kernel_rfl
@[simp] theorem po29 : posT Tryd.prog 29 = true := by kernel_rfl
@[simp] theorem by29 : Tryd.prog.bytesOf 29 = 8 := by kernel_rfl
@[simp] theorem ce29 : Tryd.prog.cellsOf 29 = 1 := by kernel_rfl
@[simp] theorem zb29 : zB Tryd.prog 29 = true := by kernel_rfl
@[simp] theorem zt29 : zT Tryd.prog 29 = .nilfn := by kernel_rfl
@[simp] theorem ty30 : tyOf Tryd.prog 30 = .func := by kernel_rfl
@[simp] theorem po30 : posT Tryd.prog 30 = true := by kernel_rfl
@[simp] theorem by30 : Tryd.prog.bytesOf 30 = 8 := by kernel_rfl
@[simp] theorem ce30 : Tryd.prog.cellsOf 30 = 1 := by kernel_rfl
@[simp] theorem zb30 : zB Tryd.prog 30 = true := by kernel_rfl
@[simp] theorem zt30 : zT Tryd.prog 30 = .nilfn := by kernel_rfl
@[simp] theorem ty31 : tyOf Tryd.prog 31 = .ptr := by kernel_rfl
@[simp] theorem po31 : posT Tryd.prog 31 = true := by kernel_rfl
@[simp] theorem by31 : Tryd.prog.bytesOf 31 = 8 := by kernel_rfl
@[simp] theorem ce31 : Tryd.prog.cellsOf 31 = 1 := by kernel_rfl
@[simp] theorem zb31 : zB Tryd.prog 31 = true := by kernel_rfl
@[simp] theorem zt31 : zT Tryd.prog 31 = .nilptr := by kernel_rfl
@[simp] theorem ty32 : tyOf Tryd.prog 32 = .int .i64 := by kernel_rfl
@[simp] theorem po32 : posT Tryd.prog 32 = true := by kernel_rfl
@[simp] theorem by32 : Tryd.prog.bytesOf 32 = 8 := by kernel_rfl
@[simp] theorem ce32 : Tryd.prog.cellsOf 32 = 1 := by kernel_rfl
@[simp] theorem zb32 : zB Tryd.prog 32 = true := by kernel_rfl
@[simp] theorem zt32 : zT Tryd.prog 32 = .i .i64 0 := by kernel_rfl
@[simp] theorem cm32 : cmpT Tryd.prog 8 32 = true := by kernel_rfl
@[simp] theorem ty34 : tyOf Tryd.prog 34 = .func := by kernel_rfl
@[simp] theorem po34 : posT Tryd.prog 34 = true := by kernel_rfl
@[simp] theorem by34 : Tryd.prog.bytesOf 34 = 8 := by kernel_rfl
@[simp] theorem ce34 : Tryd.prog.cellsOf 34 = 1 := by kernel_rfl
@[simp] theorem zb34 : zB Tryd.prog 34 = true := by kernel_rfl
@[simp] theorem zt34 : zT Tryd.prog 34 = .nilfn := by kernel_rfl
@[simp] theorem ty35 : tyOf Tryd.prog 35 = .func := by kernel_rfl
@[simp] theorem po35 : posT Tryd.prog 35 = true := by kernel_rfl
@[simp] theorem by35 : Tryd.prog.bytesOf 35 = 8 := by kernel_rfl
@[simp] theorem ce35 : Tryd.prog.cellsOf 35 = 1 := by kernel_rfl
@[simp] theorem zb35 : zB Tryd.prog 35 = true := by kernel_rfl
@[simp] theorem zt35 : zT Tryd.prog 35 = .nilfn := by kernel_rfl
@[simp] theorem ty36 : tyOf Tryd.prog 36 = .func := by kernel_rfl
@[simp] theorem po36 : posT Tryd.prog 36 = true := by kernel_rfl
@[simp] theorem by36 : Tryd.prog.bytesOf 36 = 8 := by kernel_rfl
@[simp] theorem ce36 : Tryd.prog.cellsOf 36 = 1 := by kernel_rfl
@[simp] theorem zb36 : zB Tryd.prog 36 = true := by kernel_rfl
@[simp] theorem zt36 : zT Tryd.prog 36 = .nilfn := by kernel_rfl
@[simp] theorem ty37 : tyOf Tryd.prog 37 = .func := by kernel_rfl
@[simp] theorem po37 : posT Tryd.prog 37 = true := by kernel_rfl
@[simp] theorem by37 : Tryd.prog.bytesOf 37 = 8 := by kernel_rfl
@[simp] theorem ce37 : Tryd.prog.cellsOf 37 = 1 := by kernel_rfl
@[simp] theorem zb37 : zB Tryd.prog 37 = true := by kernel_rfl
@[simp] theorem zt37 : zT Tryd.prog 37 = .nilfn := by kernel_rfl
@[simp] theorem ty38 : tyOf Tryd.prog 38 = .func := by kernel_rfl
@[simp] theorem po38 : posT Tryd.prog 38 = true := by kernel_rfl
@[simp] theorem by38 : Tryd.prog.bytesOf 38 = 8 := by kernel_rfl
@[simp] theorem ce38 : Tryd.prog.cellsOf 38 = 1 := by kernel_rfl
@[simp] theorem zb38 : zB Tryd.prog 38 = true := by kernel_rfl
@[simp] theorem zt38 : zT Tryd.prog 38 = .nilfn := by kernel_rfl
@[simp] theorem ty39 : tyOf Tryd.prog 39 = .func := by kernel_rfl
@[simp] theorem po39 : posT Tryd.prog 39 = true := by kernel_rfl
@[simp] theorem by39 : Tryd.prog.bytesOf 39 = 8 := by kernel_rfl
@[simp] theorem ce39 : Tryd.prog.cellsOf 39 = 1 := by kernel_rfl
@[simp] theorem zb39 : zB Tryd.prog 39 = true := by kernel_rfl
@[simp] theorem zt39 : zT Tryd.prog 39 = .nilfn := by kernel_rfl
@[simp] theorem ty40 : tyOf Tryd.prog 40 = .int .u16 := by kernel_rfl
@[simp] theorem po40 : posT Tryd.prog 40 = true := by kernel_rfl
@[simp] theorem by40 : Tryd.prog.bytesOf 40 = 2 := by kernel_rfl
@[simp] theorem ce40 : Tryd.prog.cellsOf 40 = 1 := by kernel_rfl
@[simp] theorem zb40 : zB Tryd.prog 40 = true := by kernel_rfl
@[simp] theorem zt40 : zT Tryd.prog 40 = .i .u16 0 := by kernel_rfl
@[simp] theorem cm40 : cmpT Tryd.prog 8 40 = true := by kernel_rfl
@[simp] theorem ty41 : tyOf Tryd.prog 41 = .func := by kernel_rfl
@[simp] theorem po41 : posT Tryd.prog 41 = true := by kernel_rfl
@[simp] theorem by41 : Tryd.prog.bytesOf 41 = 8 := by kernel_rfl
@[simp] theorem ce41 : Tryd.prog.cellsOf 41 = 1 := by kernel_rfl
@[simp] theorem zb41 : zB Tryd.prog 41 = true := by kernel_rfl
@[simp] theorem zt41 : zT Tryd.prog 41 = .nilfn := by kernel_rfl
@[simp] theorem ty42 : tyOf Tryd.prog 42 = .struct [9, 4, 24] := by kernel_rfl
@[simp] theorem po42 : posT Tryd.prog 42 = true := by kernel_rfl
@[simp] theorem by42 : Tryd.prog.bytesOf 42 = 56 := by kernel_rfl
@[simp] theorem ce42 : Tryd.prog.cellsOf 42 = 34 := by kernel_rfl
@[simp] theorem zb42 : zB Tryd.prog 42 = true := by kernel_rfl
@[simp] theorem zt42 : zT Tryd.prog 42 = .agg [.s [], .b false, zT Tryd.prog 24] := by kernel_rfl
@[simp] theorem cm42 : cmpT Tryd.prog 8 42 = true := by kernel_rfl
@[simp] theorem ty43 : tyOf Tryd.prog 43 = .struct [9, 4, 24] := by kernel_rfl
@[simp] theorem po43 : posT Tryd.prog 43 = true := by kernel_rfl
@[simp] theorem by43 : Tryd.prog.bytesOf 43 = 56 := by kernel_rfl
@[simp] theorem ce43 : Tryd.prog.cellsOf 43 = 34 := by kernel_rfl
@[simp] theorem zb43 : zB Tryd.prog 43 = true := by kernel_rfl
@[simp] theorem zt43 : zT Tryd.prog 43 = .agg [.s [], .b false, zT Tryd.prog 24] := by kernel_rfl
@[simp] theorem cm43 : cmpT Tryd.prog 8 43 = true := by kernel_rfl
@[simp] theorem ty44 : tyOf Tryd.prog 44 = .struct [9, 24] := by kernel_rfl
@[simp] theorem po44 : posT Tryd.prog 44 = true := by kernel_rfl
@[simp] theorem by44 : Tryd.prog.bytesOf 44 = 48 := by kernel_rfl
@[simp] theorem ce44 : Tryd.prog.cellsOf 44 = 33 := by kernel_rfl
@[simp] theorem zb44 : zB Tryd.prog 44 = true := by kernel_rfl
@[simp] theorem zt44 : zT Tryd.prog 44 = .agg [.s [], zT Tryd.prog 24] := by kernel_rfl
@[simp] theorem cm44 : cmpT Tryd.prog 8 44 = true := by kernel_rfl
@[simp] theorem ty45 : tyOf Tryd.prog 45 = .struct [9, 24] := by kernel_rfl
@[simp] theorem po45 : posT Tryd.prog 45 = true := by kernel_rfl
@[simp] theorem by45 : Tryd.prog.bytesOf 45 = 48 := by kernel_rfl
@[simp] theorem ce45 : Tryd.prog.cellsOf 45 = 33 := by kernel_rfl
@[simp] theorem zb45 : zB Tryd.prog 45 = true := by kernel_rfl
@[simp] theorem zt45 : zT Tryd.prog 45 = .agg [.s [], zT Tryd.prog 24] := by kernel_rfl
@[simp] theorem cm45 : cmpT Tryd.prog 8 45 = true := by kernel_rfl
@[simp] theorem ty46 : tyOf Tryd.prog 46 = .func := by kernel_rfl
@[simp] theorem po46 : posT Tryd.prog 46 = true := by kernel_rfl
@[simp] theorem by46 : Tryd.prog.bytesOf 46 = 8 := by kernel_rfl
@[simp] theorem ce46 : Tryd.prog.cellsOf 46 = 1 := by kernel_rfl
@[simp] theorem zb46 : zB Tryd.prog 46 = true := by kernel_rfl
@[simp] theorem zt46 : zT Tryd.prog 46 = .nilfn := by kernel_rfl
@[simp] theorem ty47 : tyOf Tryd.prog 47 = .func := by kernel_rfl
@[simp] theorem po47 : posT Tryd.prog 47 = true := by kernel_rfl
@[simp] theorem by47 : Tryd.prog.bytesOf 47 = 8 := by kernel_rfl
@[simp] theorem ce47 : Tryd.prog.cellsOf 47 = 1 := by kernel_rfl
@[simp] theorem zb47 : zB Tryd.prog 47 = true := by kernel_rfl
@[simp] theorem zt47 : zT Tryd.prog 47 = .nilfn := by kernel_rfl
@[simp] theorem ty49 : tyOf Tryd.prog 49 = .func := by kernel_rfl
@[simp] theorem po49 : posT Tryd.prog 49 = true := by kernel_rfl
@[simp] theorem by49 : Tryd.prog.bytesOf 49 = 8 := by kernel_rfl
@[simp] theorem ce49 : Tryd.prog.cellsOf 49 = 1 := by kernel_rfl
@[simp] theorem zb49 : zB Tryd.prog 49 = true := by kernel_rfl
@[simp] theorem zt49 : zT Tryd.prog 49 = .nilfn := by kernel_rfl
@[simp] theorem ty50 : tyOf Tryd.prog 50 = .func := by kernel_rfl
@[simp] theorem po50 : posT Tryd.prog 50 = true := by kernel_rfl
@[simp] theorem by50 : Tryd.prog.bytesOf 50 = 8 := by kernel_rfl
@[simp] theorem ce50 : Tryd.prog.cellsOf 50 = 1 := by kernel_rfl
@[simp] theorem zb50 : zB Tryd.prog 50 = true := by kernel_rfl
@[simp] theorem zt50 : zT Tryd.prog 50 = .nilfn := by kernel_rfl
@[simp] theorem ty51 : tyOf Tryd.prog 51 = .func := by kernel_rfl
@[simp] theorem po51 : posT Tryd.prog 51 = true := by kernel_rfl
@[simp] theorem by51 : Tryd.prog.bytesOf 51 = 8 := by kernel_rfl
@[simp] theorem ce51 : Tryd.prog.cellsOf 51 = 1 := by kernel_rfl
@[simp] theorem zb51 : zB Tryd.prog 51 = true := by kernel_rfl
@[simp] theorem zt51 : zT Tryd.prog 51 = .nilfn := by kernel_rfl
@[simp] theorem ty53 : tyOf Tryd.prog 53 = .func := by kernel_rfl
@[simp] theorem po53 : posT Tryd.prog 53 = true := by kernel_rfl
@[simp] theorem by53 : Tryd.prog.bytesOf 53 = 8 := by kernel_rfl
@[simp] theorem ce53 : Tryd.prog.cellsOf 53 = 1 := by kernel_rfl
@[simp] theorem zb53 : zB Tryd.prog 53 = true := by kernel_rfl
@[simp] theorem zt53 : zT Tryd.prog 53 = .nilfn := by kernel_rfl
@[simp] theorem ty54 : tyOf Tryd.prog 54 = .slice 58 := by kernel_rfl
@[simp] theorem po54 : posT Tryd.prog 54 = true := by kernel_rfl
@[simp] theorem by54 : Tryd.prog.bytesOf 54 = 24 := by kernel_rfl
@[simp] theorem ce54 : Tryd.prog.cellsOf 54 = 1 := by kernel_rfl
@[simp] theorem zb54 : zB Tryd.prog 54 = true := by kernel_rfl
@[simp] theorem zt54 : zT Tryd.prog 54 = .sl .full [] := by kernel_rfl
@[simp] theorem ty55 : tyOf Tryd.prog 55 = .struct [3, 32, 54, 25] := by kernel_rfl
@[simp] theorem po55 : posT Tryd.prog 55 = true := by kernel_rfl
@[simp] theorem by55 : Tryd.prog.bytesOf 55 = 64 := by kernel_rfl
@[simp] theorem ce55 : Tryd.prog.cellsOf 55 = 4 := by kernel_rfl
@[simp] theorem zb55 : zB Tryd.prog 55 = true := by kernel_rfl
@[simp] theorem zt55 : zT Tryd.prog 55 = .agg [.i .i64 0, .i .i64 0, .sl .full [], .sl .full []] := by kernel_rfl
@[simp] theorem ty56 : tyOf Tryd.prog 56 = .struct [3, 32, 54, 25] := by kernel_rfl
@[simp] theorem po56 : posT Tryd.prog 56 = true := by kernel_rfl
@[simp] theorem by56 : Tryd.prog.bytesOf 56 = 64 := by kernel_rfl
@[simp] theorem ce56 : Tryd.prog.cellsOf 56 = 4 := by kernel_rfl
@[simp] theorem zb56 : zB Tryd.prog 56 = true := by kernel_rfl
@[simp] theorem zt56 : zT Tryd.prog 56 = .agg [.i .i64 0, .i .i64 0, .sl .full [], .sl .full []] := by kernel_rfl
@[simp] theorem ty57 : tyOf Tryd.prog 57 = .struct [9, 9] := by kernel_rfl
@[simp] theorem po57 : posT Tryd.prog 57 = true := by kernel_rfl
@[simp] theorem by57 : Tryd.prog.bytesOf 57 = 32 := by kernel_rfl
@[simp] theorem ce57 : Tryd.prog.cellsOf 57 = 2 := by kernel_rfl
@[simp] theorem zb57 : zB Tryd.prog 57 = true := by kernel_rfl
@[simp] theorem zt57 : zT Tryd.prog 57 = .agg [.s [], .s []] := by kernel_rfl
@[simp] theorem cm57 : cmpT Tryd.prog 8 57 = true := by kernel_rfl
@[simp] theorem ty58 : tyOf Tryd.prog 58 = .struct [9, 9] := by kernel_rfl
@[simp] theorem po58 : posT Tryd.prog 58 = true := by kernel_rfl
@[simp] theorem by58 : Tryd.prog.bytesOf 58 = 32 := by kernel_rfl
@[simp] theorem ce58 : Tryd.prog.cellsOf 58 = 2 := by kernel_rfl
@[simp] theorem zb58 : zB Tryd.prog 58 = true := by kernel_rfl
@[simp] theorem zt58 : zT Tryd.prog 58 = .agg [.s [], .s []] := by kernel_rfl
@[simp] theorem cm58 : cmpT Tryd.prog 8 58 = true := by kernel_rfl
@[simp] theorem ty60 : tyOf Tryd.prog 60 = .func := by kernel_rfl
@[simp] theorem po60 : posT Tryd.prog 60 = true := by kernel_rfl
@[simp] theorem by60 : Tryd.prog.bytesOf 60 = 8 := by kernel_rfl
@[simp] theorem ce60 : Tryd.prog.cellsOf 60 = 1 := by kernel_rfl
@[simp] theorem zb60 : zB Tryd.prog 60 = true := by kernel_rfl
@[simp] theorem zt60 : zT Tryd.prog 60 = .nilfn := by kernel_rfl
@[simp] theorem ty61 : tyOf Tryd.prog 61 = .func := by kernel_rfl
@[simp] theorem po61 : posT Tryd.prog 61 = true := by kernel_rfl
@[simp] theorem by61 : Tryd.prog.bytesOf 61 = 8 := by kernel_rfl
@[simp] theorem ce61 : Tryd.prog.cellsOf 61 = 1 := by kernel_rfl
@[simp] theorem zb61 : zB Tryd.prog 61 = true := by kernel_rfl
@[simp] theorem zt61 : zT Tryd.prog 61 = .nilfn := by kernel_rfl
@[simp] theorem ty62 : tyOf Tryd.prog 62 = .ptr := by kernel_rfl
@[simp] theorem po62 : posT Tryd.prog 62 = true := by kernel_rfl
@[simp] theorem by62 : Tryd.prog.bytesOf 62 = 8 := by kernel_rfl
@[simp] theorem ce62 : Tryd.prog.cellsOf 62 = 1 := by kernel_rfl
@[simp] theorem zb62 : zB Tryd.prog 62 = true := by kernel_rfl
@[simp] theorem zt62 : zT Tryd.prog 62 = .nilptr := by kernel_rfl
@[simp] theorem ty63 : tyOf Tryd.prog 63 = .func := by kernel_rfl
@[simp] theorem po63 : posT Tryd.prog 63 = true := by kernel_rfl
@[simp] theorem by63 : Tryd.prog.bytesOf 63 = 8 := by kernel_rfl
@[simp] theorem ce63 : Tryd.prog.cellsOf 63 = 1 := by kernel_rfl
@[simp] theorem zb63 : zB Tryd.prog 63 = true := by kernel_rfl
@[simp] theorem zt63 : zT Tryd.prog 63 = .nilfn := by kernel_rfl
@[simp] theorem ty64 : tyOf Tryd.prog 64 = .func := by kernel_rfl
@[simp] theorem po64 : posT Tryd.prog 64 = true := by kernel_rfl
@[simp] theorem by64 : Tryd.prog.bytesOf 64 = 8 := by kernel_rfl
@[simp] theorem ce64 : Tryd.prog.cellsOf 64 = 1 := by kernel_rfl
@[simp] theorem zb64 : zB Tryd.prog 64 = true := by kernel_rfl
@[simp] theorem zt64 : zT Tryd.prog 64 = .nilfn := by kernel_rfl
@[simp] theorem ty65 : tyOf Tryd.prog 65 = .func := by kernel_rfl
@[simp] theorem po65 : posT Tryd.prog 65 = true := by kernel_rfl
@[simp] theorem by65 : Tryd.prog.bytesOf 65 = 8 := by kernel_rfl
@[simp] theorem ce65 : Tryd.prog.cellsOf 65 = 1 := by kernel_rfl
@[simp] theorem zb65 : zB Tryd.prog 65 = true := by kernel_rfl
@[simp] theorem zt65 : zT Tryd.prog 65 = .nilfn := by kernel_rfl
@[simp] theorem ty67 : tyOf Tryd.prog 67 = .func := by kernel_rfl
@[simp] theorem po67 : posT Tryd.prog 67 = true := by kernel_rfl
@[simp] theorem by67 : Tryd.prog.bytesOf 67 = 8 := by kernel_rfl
@[simp] theorem ce67 : Tryd.prog.cellsOf 67 = 1 := by kernel_rfl
@[simp] theorem zb67 : zB Tryd.prog 67 = true := by kernel_rfl
@[simp] theorem zt67 : zT Tryd.prog 67 = .nilfn := by kernel_rfl
@[simp] theorem ty68 : tyOf Tryd.prog 68 = .func := by kernel_rfl
@[simp] theorem po68 : posT Tryd.prog 68 = true := by kernel_rfl
@[simp] theorem by68 : Tryd.prog.bytesOf 68 = 8 := by kernel_rfl
@[simp] theorem ce68 : Tryd.prog.cellsOf 68 = 1 := by kernel_rfl
@[simp] theorem zb68 : zB Tryd.prog 68 = true := by kernel_rfl
@[simp] theorem zt68 : zT Tryd.prog 68 = .nilfn := by kernel_rfl
@[simp] theorem ty69 : tyOf Tryd.prog 69 = .func := by kernel_rfl
@[simp] theorem po69 : posT Tryd.prog 69 = true := by kernel_rfl
@[simp] theorem by69 : Tryd.prog.bytesOf 69 = 8 := by kernel_rfl
@[simp] theorem ce69 : Tryd.prog.cellsOf 69 = 1 := by kernel_rfl
@[simp] theorem zb69 : zB Tryd.prog 69 = true := by kernel_rfl
@[simp] theorem zt69 : zT Tryd.prog 69 = .nilfn := by kernel_rfl
@[simp] theorem ty70 : tyOf Tryd.prog 70 = .func := by kernel_rfl
@[simp] theorem po70 : posT Tryd.prog 70 = true := by kernel_rfl
@[simp] theorem by70 : Tryd.prog.bytesOf 70 = 8 := by kernel_rfl
@[simp] theorem ce70 : Tryd.prog.cellsOf 70 = 1 := by kernel_rfl
@[simp] theorem zb70 : zB Tryd.prog 70 = true := by kernel_rfl
@[simp] theorem zt70 : zT Tryd.prog 70 = .nilfn := by kernel_rfl
@[simp] theorem ty71 : tyOf Tryd.prog 71 = .func := by kernel_rfl
@[simp] theorem po71 : posT Tryd.prog 71 = true := by kernel_rfl
@[simp] theorem by71 : Tryd.prog.bytesOf 71 = 8 := by kernel_rfl
@[simp] theorem ce71 : Tryd.prog.cellsOf 71 = 1 := by kernel_rfl
@[simp] theorem zb71 : zB Tryd.prog 71 = true := by kernel_rfl
@[simp] theorem zt71 : zT Tryd.prog 71 = .nilfn := by kernel_rfl
@[simp] theorem ty72 : tyOf Tryd.prog 72 = .map 24 22 := by kernel_rfl
@[simp] theorem po72 : posT Tryd.prog 72 = true := by kernel_rfl
@[simp] theorem by72 : Tryd.prog.bytesOf 72 = 8 := by kernel_rfl
@[simp] theorem ce72 : Tryd.prog.cellsOf 72 = 1 := by kernel_rfl
@[simp] theorem zb72 : zB Tryd.prog 72 = true := by kernel_rfl
@[simp] theorem zt72 : zT Tryd.prog 72 = .map none := by kernel_rfl
@[simp] theorem ty73 : tyOf Tryd.prog 73 = .struct [3, 72] := by kernel_rfl
@[simp] theorem po73 : posT Tryd.prog 73 = true := by kernel_rfl
@[simp] theorem by73 : Tryd.prog.bytesOf 73 = 16 := by kernel_rfl
@[simp] theorem ce73 : Tryd.prog.cellsOf 73 = 2 := by kernel_rfl
@[simp] theorem zb73 : zB Tryd.prog 73 = true := by kernel_rfl
@[simp] theorem zt73 : zT Tryd.prog 73 = .agg [.i .i64 0, .map none] := by kernel_rfl
@[simp] theorem ty74 : tyOf Tryd.prog 74 = .struct [3, 72] := by kernel_rfl
@[simp] theorem po74 : posT Tryd.prog 74 = true := by kernel_rfl
@[simp] theorem by74 : Tryd.prog.bytesOf 74 = 16 := by kernel_rfl
@[simp] theorem ce74 : Tryd.prog.cellsOf 74 = 2 := by kernel_rfl
@[simp] theorem zb74 : zB Tryd.prog 74 = true := by kernel_rfl
@[simp] theorem zt74 : zT Tryd.prog 74 = .agg [.i .i64 0, .map none] := by kernel_rfl
@[simp] theorem ty75 : tyOf Tryd.prog 75 = .func := by kernel_rfl
@[simp] theorem po75 : posT Tryd.prog 75 = true := by kernel_rfl
@[simp] theorem by75 : Tryd.prog.bytesOf 75 = 8 := by kernel_rfl
@[simp] theorem ce75 : Tryd.prog.cellsOf 75 = 1 := by kernel_rfl
@[simp] theorem zb75 : zB Tryd.prog 75 = true := by kernel_rfl
@[simp] theorem zt75 : zT Tryd.prog 75 = .nilfn := by kernel_rfl
@[simp] theorem ty76 : tyOf Tryd.prog 76 = .func := by kernel_rfl
@[simp] theorem po76 : posT Tryd.prog 76 = true := by kernel_rfl
@[simp] theorem by76 : Tryd.prog.bytesOf 76 = 8 := by kernel_rfl
@[simp] theorem ce76 : Tryd.prog.cellsOf 76 = 1 := by kernel_rfl
@[simp] theorem zb76 : zB Tryd.prog 76 = true := by kernel_rfl
@[simp] theorem zt76 : zT Tryd.prog 76 = .nilfn := by kernel_rfl
@[simp] theorem ty77 : tyOf Tryd.prog 77 = .func := by kernel_rfl
@[simp] theorem po77 : posT Tryd.prog 77 = true := by kernel_rfl
@[simp] theorem by77 : Tryd.prog.bytesOf 77 = 8 := by kernel_rfl
@[simp] theorem ce77 : Tryd.prog.cellsOf 77 = 1 := by kernel_rfl
@[simp] theorem zb77 : zB Tryd.prog 77 = true := by kernel_rfl
@[simp] theorem zt77 : zT Tryd.prog 77 = .nilfn := by kernel_rfl
@[simp] theorem ty78 : tyOf Tryd.prog 78 = .func := by kernel_rfl
@[simp] theorem po78 : posT Tryd.prog 78 = true := by kernel_rfl
@[simp] theorem by78 : Tryd.prog.bytesOf 78 = 8 := by kernel_rfl
@[simp] theorem ce78 : Tryd.prog.cellsOf 78 = 1 := by kernel_rfl
@[simp] theorem zb78 : zB Tryd.prog 78 = true := by kernel_rfl
@[simp] theorem zt78 : zT Tryd.prog 78 = .nilfn := by kernel_rfl
@[simp] theorem ty79 : tyOf Tryd.prog 79 = .func := by kernel_rfl
@[simp] theorem po79 : posT Tryd.prog 79 = true := by kernel_rfl
@[simp] theorem by79 : Tryd.prog.bytesOf 79 = 8 := by kernel_rfl
@[simp] theorem ce79 : Tryd.prog.cellsOf 79 = 1 := by kernel_rfl
@[simp] theorem zb79 : zB Tryd.prog 79 = true := by kernel_rfl
@[simp] theorem zt79 : zT Tryd.prog 79 = .nilfn := by kernel_rfl
@[simp] theorem ty80 : tyOf Tryd.prog 80 = .slice 5 := by kernel_rfl
@[simp] theorem po80 : posT Tryd.prog 80 = true := by kernel_rfl
@[simp] theorem by80 : Tryd.prog.bytesOf 80 = 24 := by kernel_rfl
@[simp] theorem ce80 : Tryd.prog.cellsOf 80 = 1 := by kernel_rfl
@[simp] theorem zb80 : zB Tryd.prog 80 = true := by kernel_rfl
@[simp] theorem zt80 : zT Tryd.prog 80 = .sl .full [] := by kernel_rfl
@[simp] theorem ty81 : tyOf Tryd.prog 81 = .func := by kernel_rfl
@[simp] theorem po81 : posT Tryd.prog 81 = true := by kernel_rfl
@[simp] theorem by81 : Tryd.prog.bytesOf 81 = 8 := by kernel_rfl
@[simp] theorem ce81 : Tryd.prog.cellsOf 81 = 1 := by kernel_rfl
@[simp] theorem zb81 : zB Tryd.prog 81 = true := by kernel_rfl
@[simp] theorem zt81 : zT Tryd.prog 81 = .nilfn := by kernel_rfl
@[simp] theorem ty82 : tyOf Tryd.prog 82 = .func := by kernel_rfl
@[simp] theorem po82 : posT Tryd.prog 82 = true := by kernel_rfl
@[simp] theorem by82 : Tryd.prog.bytesOf 82 = 8 := by kernel_rfl
@[simp] theorem ce82 : Tryd.prog.cellsOf 82 = 1 := by kernel_rfl
@[simp] theorem zb82 : zB Tryd.prog 82 = true := by kernel_rfl
@[simp] theorem zt82 : zT Tryd.prog 82 = .nilfn := by kernel_rfl
@[simp] theorem ty83 : tyOf Tryd.prog 83 = .func := by kernel_rfl
@[simp] theorem po83 : posT Tryd.prog 83 = true := by kernel_rfl
@[simp] theorem by83 : Tryd.prog.bytesOf 83 = 8 := by kernel_rfl
@[simp] theorem ce83 : Tryd.prog.cellsOf 83 = 1 := by kernel_rfl
@[simp] theorem zb83 : zB Tryd.prog 83 = true := by kernel_rfl
@[simp] theorem zt83 : zT Tryd.prog 83 = .nilfn := by kernel_rfl
@[simp] theorem ty84 : tyOf Tryd.prog 84 = .func := by kernel_rfl
@[simp] theorem po84 : posT Tryd.prog 84 = true := by kernel_rfl
@[simp] theorem by84 : Tryd.prog.bytesOf 84 = 8 := by kernel_rfl
@[simp] theorem ce84 : Tryd.prog.cellsOf 84 = 1 := by kernel_rfl
@[simp] theorem zb84 : zB Tryd.prog 84 = true := by kernel_rfl
@[simp] theorem zt84 : zT Tryd.prog 84 = .nilfn := by kernel_rfl
@[simp] theorem ty85 : tyOf Tryd.prog 85 = .func := by kernel_rfl
@[simp] theorem po85 : posT Tryd.prog 85 = true := by kernel_rfl
@[simp] theorem by85 : Tryd.prog.bytesOf 85 = 8 := by kernel_rfl
@[simp] theorem ce85 : Tryd.prog.cellsOf 85 = 1 := by kernel_rfl
@[simp] theorem zb85 : zB Tryd.prog 85 = true := by kernel_rfl
@[simp] theorem zt85 : zT Tryd.prog 85 = .nilfn := by kernel_rfl
@[simp] theorem ty86 : tyOf Tryd.prog 86 = .func := by kernel_rfl
@[simp] theorem po86 : posT Tryd.prog 86 = true := by kernel_rfl
@[simp] theorem by86 : Tryd.prog.bytesOf 86 = 8 := by kernel_rfl
@[simp] theorem ce86 : Tryd.prog.cellsOf 86 = 1 := by kernel_rfl
@[simp] theorem zb86 : zB Tryd.prog 86 = true := by kernel_rfl
@[simp] theorem zt86 : zT Tryd.prog 86 = .nilfn := by kernel_rfl
@[simp] theorem ty87 : tyOf Tryd.prog 87 = .func := by kernel_rfl
@[simp] theorem po87 : posT Tryd.prog 87 = true := by kernel_rfl
@[simp] theorem by87 : Tryd.prog.bytesOf 87 = 8 := by kernel_rfl
@[simp] theorem ce87 : Tryd.prog.cellsOf 87 = 1 := by kernel_rfl
@[simp] theorem zb87 : zB Tryd.prog 87 = true := by kernel_rfl
@[simp] theorem zt87 : zT Tryd.prog 87 = .nilfn := by kernel_rfl
@[simp] theorem ty88 : tyOf Tryd.prog 88 = .func := by kernel_rfl
@[simp] theorem po88 : posT Tryd.prog 88 = true := by kernel_rfl
@[simp] theorem by88 : Tryd.prog.bytesOf 88 = 8 := by kernel_rfl
@[simp] theorem ce88 : Tryd.prog.cellsOf 88 = 1 := by kernel_rfl
@[simp] theorem zb88 : zB Tryd.prog 88 = true := by kernel_rfl
@[simp] theorem zt88 : zT Tryd.prog 88 = .nilfn := by kernel_rfl
@[simp] theorem ty89 : tyOf Tryd.prog 89 = .slice 9 := by kernel_rfl
@[simp] theorem po89 : posT Tryd.prog 89 = true := by kernel_rfl
@[simp] theorem by89 : Tryd.prog.bytesOf 89 = 24 := by kernel_rfl
@[simp] theorem ce89 : Tryd.prog.cellsOf 89 = 1 := by kernel_rfl
@[simp] theorem zb89 : zB Tryd.prog 89 = true := by kernel_rfl
@[simp] theorem zt89 : zT Tryd.prog 89 = .sl .full [] := by kernel_rfl
@[simp] theorem ty90 : tyOf Tryd.prog 90 = .func := by kernel_rfl
@[simp] theorem po90 : posT Tryd.prog 90 = true := by kernel_rfl
@[simp] theorem by90 : Tryd.prog.bytesOf 90 = 8 := by kernel_rfl
@[simp] theorem ce90 : Tryd.prog.cellsOf 90 = 1 := by kernel_rfl
@[simp] theorem zb90 : zB Tryd.prog 90 = true := by kernel_rfl
@[simp] theorem zt90 : zT Tryd.prog 90 = .nilfn := by kernel_rfl
@[simp] theorem ty91 : tyOf Tryd.prog 91 = .func := by kernel_rfl
@[simp] theorem po91 : posT Tryd.prog 91 = true := by kernel_rfl
@[simp] theorem by91 : Tryd.prog.bytesOf 91 = 8 := by kernel_rfl
@[simp] theorem ce91 : Tryd.prog.cellsOf 91 = 1 := by kernel_rfl
@[simp] theorem zb91 : zB Tryd.prog 91 = true := by kernel_rfl
@[simp] theorem zt91 : zT Tryd.prog 91 = .nilfn := by kernel_rfl
@[simp] theorem ty92 : tyOf Tryd.prog 92 = .map 24 9 := by kernel_rfl
@[simp] theorem po92 : posT Tryd.prog 92 = true := by kernel_rfl
@[simp] theorem by92 : Tryd.prog.bytesOf 92 = 8 := by kernel_rfl
@[simp] theorem ce92 : Tryd.prog.cellsOf 92 = 1 := by kernel_rfl
@[simp] theorem zb92 : zB Tryd.prog 92 = true := by kernel_rfl
@[simp] theorem zt92 : zT Tryd.prog 92 = .map none := by kernel_rfl
@[simp] theorem ty93 : tyOf Tryd.prog 93 = .struct [92, 3] := by kernel_rfl
@[simp] theorem po93 : posT Tryd.prog 93 = true := by kernel_rfl
@[simp] theorem by93 : Tryd.prog.bytesOf 93 = 16 := by kernel_rfl
@[simp] theorem ce93 : Tryd.prog.cellsOf 93 = 2 := by kernel_rfl
@[simp] theorem zb93 : zB Tryd.prog 93 = true := by kernel_rfl
@[simp] theorem zt93 : zT Tryd.prog 93 = .agg [.map none, .i .i64 0] := by kernel_rfl
@[simp] theorem ty94 : tyOf Tryd.prog 94 = .struct [92, 3] := by kernel_rfl
@[simp] theorem po94 : posT Tryd.prog 94 = true := by kernel_rfl
@[simp] theorem by94 : Tryd.prog.bytesOf 94 = 16 := by kernel_rfl
@[simp] theorem ce94 : Tryd.prog.cellsOf 94 = 2 := by kernel_rfl
@[simp] theorem zb94 : zB Tryd.prog 94 = true := by kernel_rfl
@[simp] theorem zt94 : zT Tryd.prog 94 = .agg [.map none, .i .i64 0] := by kernel_rfl
@[simp] theorem ty95 : tyOf Tryd.prog 95 = .ptr := by kernel_rfl
@[simp] theorem po95 : posT Tryd.prog 95 = true := by kernel_rfl
@[simp] theorem by95 : Tryd.prog.bytesOf 95 = 8 := by kernel_rfl
@[simp] theorem ce95 : Tryd.prog.cellsOf 95 = 1 := by kernel_rfl
@[simp] theorem zb95 : zB Tryd.prog 95 = true := by kernel_rfl
@[simp] theorem zt95 : zT Tryd.prog 95 = .nilptr := by kernel_rfl
@[simp] theorem ty96 : tyOf Tryd.prog 96 = .func := by kernel_rfl
@[simp] theorem po96 : posT Tryd.prog 96 = true := by kernel_rfl
@[simp] theorem by96 : Tryd.prog.bytesOf 96 = 8 := by kernel_rfl
@[simp] theorem ce96 : Tryd.prog.cellsOf 96 = 1 := by kernel_rfl
@[simp] theorem zb96 : zB Tryd.prog 96 = true := by kernel_rfl
@[simp] theorem zt96 : zT Tryd.prog 96 = .nilfn := by kernel_rfl
@[simp] theorem ty97 : tyOf Tryd.prog 97 = .func := by kernel_rfl
@[simp] theorem po97 : posT Tryd.prog 97 = true := by kernel_rfl
@[simp] theorem by97 : Tryd.prog.bytesOf 97 = 8 := by kernel_rfl
@[simp] theorem ce97 : Tryd.prog.cellsOf 97 = 1 := by kernel_rfl
@[simp] theorem zb97 : zB Tryd.prog 97 = true := by kernel_rfl
@[simp] theorem zt97 : zT Tryd.prog 97 = .nilfn := by kernel_rfl
@[simp] theorem ty98 : tyOf Tryd.prog 98 = .func := by kernel_rfl
@[simp] theorem po98 : posT Tryd.prog 98 = true := by kernel_rfl
@[simp] theorem by98 : Tryd.prog.bytesOf 98 = 8 := by kernel_rfl
@[simp] theorem ce98 : Tryd.prog.cellsOf 98 = 1 := by kernel_rfl
@[simp] theorem zb98 : zB Tryd.prog 98 = true := by kernel_rfl
@[simp] theorem zt98 : zT Tryd.prog 98 = .nilfn := by kernel_rfl
@[simp] theorem ty100 : tyOf Tryd.prog 100 = .func := by kernel_rfl
@[simp] theorem po100 : posT Tryd.prog 100 = true := by kernel_rfl
@[simp] theorem by100 : Tryd.prog.bytesOf 100 = 8 := by kernel_rfl
@[simp] theorem ce100 : Tryd.prog.cellsOf 100 = 1 := by kernel_rfl
@[simp] theorem zb100 : zB Tryd.prog 100 = true := by kernel_rfl
@[simp] theorem zt100 : zT Tryd.prog 100 = .nilfn := by kernel_rfl
@[simp] theorem ty101 : tyOf Tryd.prog 101 = .ptr := by kernel_rfl
@[simp] theorem po101 : posT Tryd.prog 101 = true := by kernel_rfl
@[simp] theorem by101 : Tryd.prog.bytesOf 101 = 8 := by kernel_rfl
@[simp] theorem ce101 : Tryd.prog.cellsOf 101 = 1 := by kernel_rfl
@[simp] theorem zb101 : zB Tryd.prog 101 = true := by kernel_rfl
@[simp] theorem zt101 : zT Tryd.prog 101 = .nilptr := by kernel_rfl
@[simp] theorem ty102 : tyOf Tryd.prog 102 = .struct [89, 4] := by kernel_rfl
@[simp] theorem po102 : posT Tryd.prog 102 = true := by kernel_rfl
@[simp] theorem by102 : Tryd.prog.bytesOf 102 = 32 := by kernel_rfl
@[simp] theorem ce102 : Tryd.prog.cellsOf 102 = 2 := by kernel_rfl
@[simp] theorem zb102 : zB Tryd.prog 102 = true := by kernel_rfl
@[simp] theorem zt102 : zT Tryd.prog 102 = .agg [.sl .full [], .b false] := by kernel_rfl
@[simp] theorem ty103 : tyOf Tryd.prog 103 = .struct [89, 4] := by kernel_rfl
@[simp] theorem po103 : posT Tryd.prog 103 = true := by kernel_rfl
@[simp] theorem by103 : Tryd.prog.bytesOf 103 = 32 := by kernel_rfl
@[simp] theorem ce103 : Tryd.prog.cellsOf 103 = 2 := by kernel_rfl
@[simp] theorem zb103 : zB Tryd.prog 103 = true := by kernel_rfl
@[simp] theorem zt103 : zT Tryd.prog 103 = .agg [.sl .full [], .b false] := by kernel_rfl
@[simp] theorem ty104 : tyOf Tryd.prog 104 = .func := by kernel_rfl
@[simp] theorem po104 : posT Tryd.prog 104 = true := by kernel_rfl
@[simp] theorem by104 : Tryd.prog.bytesOf 104 = 8 := by kernel_rfl
@[simp] theorem ce104 : Tryd.prog.cellsOf 104 = 1 := by kernel_rfl
@[simp] theorem zb104 : zB Tryd.prog 104 = true := by kernel_rfl
@[simp] theorem zt104 : zT Tryd.prog 104 = .nilfn := by kernel_rfl
@[simp] theorem ty105 : tyOf Tryd.prog 105 = .func := by kernel_rfl
@[simp] theorem po105 : posT Tryd.prog 105 = true := by kernel_rfl
@[simp] theorem by105 : Tryd.prog.bytesOf 105 = 8 := by kernel_rfl
@[simp] theorem ce105 : Tryd.prog.cellsOf 105 = 1 := by kernel_rfl
@[simp] theorem zb105 : zB Tryd.prog 105 = true := by kernel_rfl
@[simp] theorem zt105 : zT Tryd.prog 105 = .nilfn := by kernel_rfl
@[simp] theorem ty106 : tyOf Tryd.prog 106 = .func := by kernel_rfl
@[simp] theorem po106 : posT Tryd.prog 106 = true := by kernel_rfl
@[simp] theorem by106 : Tryd.prog.bytesOf 106 = 8 := by kernel_rfl
@[simp] theorem ce106 : Tryd.prog.cellsOf 106 = 1 := by kernel_rfl
@[simp] theorem zb106 : zB Tryd.prog 106 = true := by kernel_rfl
@[simp] theorem zt106 : zT Tryd.prog 106 = .nilfn := by kernel_rfl
@[simp] theorem ty108 : tyOf Tryd.prog 108 = .func := by kernel_rfl
@[simp] theorem po108 : posT Tryd.prog 108 = true := by kernel_rfl
@[simp] theorem by108 : Tryd.prog.bytesOf 108 = 8 := by kernel_rfl
@[simp] theorem ce108 : Tryd.prog.cellsOf 108 = 1 := by kernel_rfl
@[simp] theorem zb108 : zB Tryd.prog 108 = true := by kernel_rfl
@[simp] theorem zt108 : zT Tryd.prog 108 = .nilfn := by kernel_rfl
@[simp] theorem ty110 : tyOf Tryd.prog 110 = .func := by kernel_rfl
@[simp] theorem po110 : posT Tryd.prog 110 = true := by kernel_rfl
@[simp] theorem by110 : Tryd.prog.bytesOf 110 = 8 := by kernel_rfl
@[simp] theorem ce110 : Tryd.prog.cellsOf 110 = 1 := by kernel_rfl
@[simp] theorem zb110 : zB Tryd.prog 110 = true := by kernel_rfl
@[simp] theorem zt110 : zT Tryd.prog 110 = .nilfn := by kernel_rfl
@[simp] theorem ty112 : tyOf Tryd.prog 112 = .func := by kernel_rfl
@[simp] theorem po112 : posT Tryd.prog 112 = true := by kernel_rfl
@[simp] theorem by112 : Tryd.prog.bytesOf 112 = 8 := by kernel_rfl
@[simp] theorem ce112 : Tryd.prog.cellsOf 112 = 1 := by kernel_rfl
@[simp] theorem zb112 : zB Tryd.prog 112 = true := by kernel_rfl
@[simp] theorem zt112 : zT Tryd.prog 112 = .nilfn := by kernel_rfl
@[simp] theorem ty113 : tyOf Tryd.prog 113 = .func := by kernel_rfl
@[simp] theorem po113 : posT Tryd.prog 113 = true := by kernel_rfl
@[simp] theorem by113 : Tryd.prog.bytesOf 113 = 8 := by kernel_rfl
@[simp] theorem ce113 : Tryd.prog.cellsOf 113 = 1 := by kernel_rfl
@[simp] theorem zb113 : zB Tryd.prog 113 = true := by kernel_rfl
@[simp] theorem zt113 : zT Tryd.prog 113 = .nilfn := by kernel_rfl
@[simp] theorem ty114 : tyOf Tryd.prog 114 = .func := by kernel_rfl
@[simp] theorem po114 : posT Tryd.prog 114 = true := by kernel_rfl
@[simp] theorem by114 : Tryd.prog.bytesOf 114 = 8 := by kernel_rfl
@[simp] theorem ce114 : Tryd.prog.cellsOf 114 = 1 := by kernel_rfl
@[simp] theorem zb114 : zB Tryd.prog 114 = true := by kernel_rfl
@[simp] theorem zt114 : zT Tryd.prog 114 = .nilfn := by kernel_rfl
@[simp] theorem ty115 : tyOf Tryd.prog 115 = .func := by kernel_rfl
@[simp] theorem po115 : posT Tryd.prog 115 = true := by kernel_rfl
@[simp] theorem by115 : Tryd.prog.bytesOf 115 = 8 := by kernel_rfl
@[simp] theorem ce115 : Tryd.prog.cellsOf 115 = 1 := by kernel_rfl
@[simp] theorem zb115 : zB Tryd.prog 115 = true := by kernel_rfl
@[simp] theorem zt115 : zT Tryd.prog 115 = .nilfn := by kernel_rfl
@[simp] theorem ty116 : tyOf Tryd.prog 116 = .func := by kernel_rfl
@[simp] theorem po116 : posT Tryd.prog 116 = true := by kernel_rfl
@[simp] theorem by116 : Tryd.prog.bytesOf 116 = 8 := by kernel_rfl
@[simp] theorem ce116 : Tryd.prog.cellsOf 116 = 1 := by kernel_rfl
@[simp] theorem zb116 : zB Tryd.prog 116 = true := by kernel_rfl
@[simp] theorem zt116 : zT Tryd.prog 116 = .nilfn := by kernel_rfl
@[simp] theorem ty117 : tyOf Tryd.prog 117 = .func := by kernel_rfl
@[simp] theorem po117 : posT Tryd.prog 117 = true := by kernel_rfl
@[simp] theorem by117 : Tryd.prog.bytesOf 117 = 8 := by kernel_rfl
@[simp] theorem ce117 : Tryd.prog.cellsOf 117 = 1 := by kernel_rfl
@[simp] theorem zb117 : zB Tryd.prog 117 = true := by kernel_rfl
@[simp] theorem zt117 : zT Tryd.prog 117 = .nilfn := by kernel_rfl
@[simp] theorem ty118 : tyOf Tryd.prog 118 = .func := by kernel_rfl
@[simp] theorem po118 : posT Tryd.prog 118 = true := by kernel_rfl
@[simp] theorem by118 : Tryd.prog.bytesOf 118 = 8 := by kernel_rfl
@[simp] theorem ce118 : Tryd.prog.cellsOf 118 = 1 := by kernel_rfl
@[simp] theorem zb118 : zB Tryd.prog 118 = true := by kernel_rfl
@[simp] theorem zt118 : zT Tryd.prog 118 = .nilfn := by kernel_rfl
@[simp] theorem ty119 : tyOf Tryd.prog 119 = .map 9 4 := by kernel_rfl
@[simp] theorem po119 : posT Tryd.prog 119 = true := by kernel_rfl
@[simp] theorem by119 : Tryd.prog.bytesOf 119 = 8 := by kernel_rfl
@[simp] theorem ce119 : Tryd.prog.cellsOf 119 = 1 := by kernel_rfl
@[simp] theorem zb119 : zB Tryd.prog 119 = true := by kernel_rfl
@[simp] theorem zt119 : zT Tryd.prog 119 = .map none := by kernel_rfl
@[simp] theorem ty120 : tyOf Tryd.prog 120 = .func := by kernel_rfl
@[simp] theorem po120 : posT Tryd.prog 120 = true := by kernel_rfl
@[simp] theorem by120 : Tryd.prog.bytesOf 120 = 8 := by kernel_rfl
@[simp] theorem ce120 : Tryd.prog.cellsOf 120 = 1 := by kernel_rfl
@[simp] theorem zb120 : zB Tryd.prog 120 = true := by kernel_rfl
@[simp] theorem zt120 : zT Tryd.prog 120 = .nilfn := by kernel_rfl
@[simp] theorem ty121 : tyOf Tryd.prog 121 = .ptr := by kernel_rfl
@[simp] theorem po121 : posT Tryd.prog 121 = true := by kernel_rfl
@[simp] theorem by121 : Tryd.prog.bytesOf 121 = 8 := by kernel_rfl
@[simp] theorem ce121 : Tryd.prog.cellsOf 121 = 1 := by kernel_rfl
@[simp] theorem zb121 : zB Tryd.prog 121 = true := by kernel_rfl
@[simp] theorem zt121 : zT Tryd.prog 121 = .nilptr := by kernel_rfl
@[simp] theorem ty122 : tyOf Tryd.prog 122 = .struct [121, 80] := by kernel_rfl
@[simp] theorem po122 : posT Tryd.prog 122 = true := by kernel_rfl
@[simp] theorem by122 : Tryd.prog.bytesOf 122 = 32 := by kernel_rfl
@[simp] theorem ce122 : Tryd.prog.cellsOf 122 = 2 := by kernel_rfl
@[simp] theorem zb122 : zB Tryd.prog 122 = true := by kernel_rfl
@[simp] theorem zt122 : zT Tryd.prog 122 = .agg [.nilptr, .sl .full []] := by kernel_rfl
@[simp] theorem ty123 : tyOf Tryd.prog 123 = .struct [121, 80] := by kernel_rfl
@[simp] theorem po123 : posT Tryd.prog 123 = true := by kernel_rfl
@[simp] theorem by123 : Tryd.prog.bytesOf 123 = 32 := by kernel_rfl
@[simp] theorem ce123 : Tryd.prog.cellsOf 123 = 2 := by kernel_rfl
@[simp] theorem zb123 : zB Tryd.prog 123 = true := by kernel_rfl
@[simp] theorem zt123 : zT Tryd.prog 123 = .agg [.nilptr, .sl .full []] := by kernel_rfl
@[simp] theorem ty124 : tyOf Tryd.prog 124 = .iface := by kernel_rfl
@[simp] theorem po124 : posT Tryd.prog 124 = true := by kernel_rfl
@[simp] theorem by124 : Tryd.prog.bytesOf 124 = 16 := by kernel_rfl
@[simp] theorem ce124 : Tryd.prog.cellsOf 124 = 1 := by kernel_rfl
@[simp] theorem zb124 : zB Tryd.prog 124 = true := by kernel_rfl
@[simp] theorem zt124 : zT Tryd.prog 124 = .nilifc := by kernel_rfl
@[simp] theorem ty125 : tyOf Tryd.prog 125 = .iface := by kernel_rfl
@[simp] theorem po125 : posT Tryd.prog 125 = true := by kernel_rfl
@[simp] theorem by125 : Tryd.prog.bytesOf 125 = 16 := by kernel_rfl
@[simp] theorem ce125 : Tryd.prog.cellsOf 125 = 1 := by kernel_rfl
@[simp] theorem zb125 : zB Tryd.prog 125 = true := by kernel_rfl
@[simp] theorem zt125 : zT Tryd.prog 125 = .nilifc := by kernel_rfl
@[simp] theorem ty127 : tyOf Tryd.prog 127 = .func := by kernel_rfl
@[simp] theorem po127 : posT Tryd.prog 127 = true := by kernel_rfl
@[simp] theorem by127 : Tryd.prog.bytesOf 127 = 8 := by kernel_rfl
@[simp] theorem ce127 : Tryd.prog.cellsOf 127 = 1 := by kernel_rfl
@[simp] theorem zb127 : zB Tryd.prog 127 = true := by kernel_rfl
@[simp] theorem zt127 : zT Tryd.prog 127 = .nilfn := by kernel_rfl
@[simp] theorem ty128 : tyOf Tryd.prog 128 = .func := by kernel_rfl
@[simp] theorem po128 : posT Tryd.prog 128 = true := by kernel_rfl
@[simp] theorem by128 : Tryd.prog.bytesOf 128 = 8 := by kernel_rfl
@[simp] theorem ce128 : Tryd.prog.cellsOf 128 = 1 := by kernel_rfl
@[simp] theorem zb128 : zB Tryd.prog 128 = true := by kernel_rfl
@[simp] theorem zt128 : zT Tryd.prog 128 = .nilfn := by kernel_rfl
@[simp] theorem ty129 : tyOf Tryd.prog 129 = .int .u32 := by kernel_rfl
@[simp] theorem po129 : posT Tryd.prog 129 = true := by kernel_rfl
@[simp] theorem by129 : Tryd.prog.bytesOf 129 = 4 := by kernel_rfl
@[simp] theorem ce129 : Tryd.prog.cellsOf 129 = 1 := by kernel_rfl
@[simp] theorem zb129 : zB Tryd.prog 129 = true := by kernel_rfl
@[simp] theorem zt129 : zT Tryd.prog 129 = .i .u32 0 := by kernel_rfl
@[simp] theorem cm129 : cmpT Tryd.prog 8 129 = true := by kernel_rfl
@[simp] theorem ty130 : tyOf Tryd.prog 130 = .slice 129 := by kernel_rfl
@[simp] theorem po130 : posT Tryd.prog 130 = true := by kernel_rfl
@[simp] theorem by130 : Tryd.prog.bytesOf 130 = 24 := by kernel_rfl
@[simp] theorem ce130 : Tryd.prog.cellsOf 130 = 1 := by kernel_rfl
@[simp] theorem zb130 : zB Tryd.prog 130 = true := by kernel_rfl
@[simp] theorem zt130 : zT Tryd.prog 130 = .sl .full [] := by kernel_rfl
@[simp] theorem ty131 : tyOf Tryd.prog 131 = .func := by kernel_rfl
@[simp] theorem po131 : posT Tryd.prog 131 = true := by kernel_rfl
@[simp] theorem by131 : Tryd.prog.bytesOf 131 = 8 := by kernel_rfl
@[simp] theorem ce131 : Tryd.prog.cellsOf 131 = 1 := by kernel_rfl
@[simp] theorem zb131 : zB Tryd.prog 131 = true := by kernel_rfl
@[simp] theorem zt131 : zT Tryd.prog 131 = .nilfn := by kernel_rfl
@[simp] theorem ty132 : tyOf Tryd.prog 132 = .func := by kernel_rfl
@[simp] theorem po132 : posT Tryd.prog 132 = true := by kernel_rfl
@[simp] theorem by132 : Tryd.prog.bytesOf 132 = 8 := by kernel_rfl
@[simp] theorem ce132 : Tryd.prog.cellsOf 132 = 1 := by kernel_rfl
@[simp] theorem zb132 : zB Tryd.prog 132 = true := by kernel_rfl
@[simp] theorem zt132 : zT Tryd.prog 132 = .nilfn := by kernel_rfl
@[simp] theorem ty133 : tyOf Tryd.prog 133 = .arr 8 129 := by kernel_rfl
@[simp] theorem po133 : posT Tryd.prog 133 = true := by kernel_rfl
@[simp] theorem by133 : Tryd.prog.bytesOf 133 = 32 := by kernel_rfl
@[simp] theorem ce133 : Tryd.prog.cellsOf 133 = 8 := by kernel_rfl
@[simp] theorem zb133 : zB Tryd.prog 133 = true := by kernel_rfl
@[simp] theorem zt133 : zT Tryd.prog 133 = .agg (List.replicate 8 (.i .u32 0)) := by kernel_rfl
@[simp] theorem cm133 : cmpT Tryd.prog 8 133 = true := by kernel_rfl
@[simp] theorem ty134 : tyOf Tryd.prog 134 = .arr 8 129 := by kernel_rfl
@[simp] theorem po134 : posT Tryd.prog 134 = true := by kernel_rfl
@[simp] theorem by134 : Tryd.prog.bytesOf 134 = 32 := by kernel_rfl
@[simp] theorem ce134 : Tryd.prog.cellsOf 134 = 8 := by kernel_rfl
@[simp] theorem zb134 : zB Tryd.prog 134 = true := by kernel_rfl
@[simp] theorem zt134 : zT Tryd.prog 134 = .agg (List.replicate 8 (.i .u32 0)) := by kernel_rfl
@[simp] theorem cm134 : cmpT Tryd.prog 8 134 = true := by kernel_rfl
@[simp] theorem ty135 : tyOf Tryd.prog 135 = .func := by kernel_rfl
@[simp] theorem po135 : posT Tryd.prog 135 = true := by kernel_rfl
@[simp] theorem by135 : Tryd.prog.bytesOf 135 = 8 := by kernel_rfl
@[simp] theorem ce135 : Tryd.prog.cellsOf 135 = 1 := by kernel_rfl
@[simp] theorem zb135 : zB Tryd.prog 135 = true := by kernel_rfl
@[simp] theorem zt135 : zT Tryd.prog 135 = .nilfn := by kernel_rfl
@[simp] theorem ty136 : tyOf Tryd.prog 136 = .int .u64 := by kernel_rfl
@[simp] theorem po136 : posT Tryd.prog 136 = true := by kernel_rfl
@[simp] theorem by136 : Tryd.prog.bytesOf 136 = 8 := by kernel_rfl
@[simp] theorem ce136 : Tryd.prog.cellsOf 136 = 1 := by kernel_rfl
@[simp] theorem zb136 : zB Tryd.prog 136 = true := by kernel_rfl
@[simp] theorem zt136 : zT Tryd.prog 136 = .i .u64 0 := by kernel_rfl
@[simp] theorem cm136 : cmpT Tryd.prog 8 136 = true := by kernel_rfl
@[simp] theorem ty137 : tyOf Tryd.prog 137 = .struct [134, 80, 136] := by kernel_rfl
@[simp] theorem po137 : posT Tryd.prog 137 = true := by kernel_rfl
@[simp] theorem by137 : Tryd.prog.bytesOf 137 = 64 := by kernel_rfl
@[simp] theorem ce137 : Tryd.prog.cellsOf 137 = 10 := by kernel_rfl
@[simp] theorem zb137 : zB Tryd.prog 137 = true := by kernel_rfl
@[simp] theorem zt137 : zT Tryd.prog 137 = .agg [zT Tryd.prog 134, .sl .full [], .i .u64 0] := by kernel_rfl
@[simp] theorem ty138 : tyOf Tryd.prog 138 = .struct [134, 80, 136] := by kernel_rfl
@[simp] theorem po138 : posT Tryd.prog 138 = true := by kernel_rfl
@[simp] theorem by138 : Tryd.prog.bytesOf 138 = 64 := by kernel_rfl
@[simp] theorem ce138 : Tryd.prog.cellsOf 138 = 10 := by kernel_rfl
@[simp] theorem zb138 : zB Tryd.prog 138 = true := by kernel_rfl
@[simp] theorem zt138 : zT Tryd.prog 138 = .agg [zT Tryd.prog 134, .sl .full [], .i .u64 0] := by kernel_rfl
@[simp] theorem ty139 : tyOf Tryd.prog 139 = .func := by kernel_rfl
@[simp] theorem po139 : posT Tryd.prog 139 = true := by kernel_rfl
@[simp] theorem by139 : Tryd.prog.bytesOf 139 = 8 := by kernel_rfl
@[simp] theorem ce139 : Tryd.prog.cellsOf 139 = 1 := by kernel_rfl
@[simp] theorem zb139 : zB Tryd.prog 139 = true := by kernel_rfl
@[simp] theorem zt139 : zT Tryd.prog 139 = .nilfn := by kernel_rfl
@[simp] theorem ty141 : tyOf Tryd.prog 141 = .func := by kernel_rfl
@[simp] theorem po141 : posT Tryd.prog 141 = true := by kernel_rfl
@[simp] theorem by141 : Tryd.prog.bytesOf 141 = 8 := by kernel_rfl
@[simp] theorem ce141 : Tryd.prog.cellsOf 141 = 1 := by kernel_rfl
@[simp] theorem zb141 : zB Tryd.prog 141 = true := by kernel_rfl
@[simp] theorem zt141 : zT Tryd.prog 141 = .nilfn := by kernel_rfl
@[simp] theorem ty142 : tyOf Tryd.prog 142 = .func := by kernel_rfl
@[simp] theorem po142 : posT Tryd.prog 142 = true := by kernel_rfl
@[simp] theorem by142 : Tryd.prog.bytesOf 142 = 8 := by kernel_rfl
@[simp] theorem ce142 : Tryd.prog.cellsOf 142 = 1 := by kernel_rfl
@[simp] theorem zb142 : zB Tryd.prog 142 = true := by kernel_rfl
@[simp] theorem zt142 : zT Tryd.prog 142 = .nilfn := by kernel_rfl
@[simp] theorem ty143 : tyOf Tryd.prog 143 = .func := by kernel_rfl
@[simp] theorem po143 : posT Tryd.prog 143 = true := by kernel_rfl
@[simp] theorem by143 : Tryd.prog.bytesOf 143 = 8 := by kernel_rfl
@[simp] theorem ce143 : Tryd.prog.cellsOf 143 = 1 := by kernel_rfl
@[simp] theorem zb143 : zB Tryd.prog 143 = true := by kernel_rfl
@[simp] theorem zt143 : zT Tryd.prog 143 = .nilfn := by kernel_rfl
@[simp] theorem ty144 : tyOf Tryd.prog 144 = .func := by kernel_rfl
@[simp] theorem po144 : posT Tryd.prog 144 = true := by kernel_rfl
@[simp] theorem by144 : Tryd.prog.bytesOf 144 = 8 := by kernel_rfl
@[simp] theorem ce144 : Tryd.prog.cellsOf 144 = 1 := by kernel_rfl
@[simp] theorem zb144 : zB Tryd.prog 144 = true := by kernel_rfl
@[simp] theorem zt144 : zT Tryd.prog 144 = .nilfn := by kernel_rfl
@[simp] theorem ty145 : tyOf Tryd.prog 145 = .func := by kernel_rfl
@[simp] theorem po145 : posT Tryd.prog 145 = true := by kernel_rfl
@[simp] theorem by145 : Tryd.prog.bytesOf 145 = 8 := by kernel_rfl
@[simp] theorem ce145 : Tryd.prog.cellsOf 145 = 1 := by kernel_rfl
@[simp] theorem zb145 : zB Tryd.prog 145 = true := by kernel_rfl
@[simp] theorem zt145 : zT Tryd.prog 145 = .nilfn := by kernel_rfl
@[simp] theorem ty146 : tyOf Tryd.prog 146 = .ptr := by kernel_rfl
@[simp] theorem po146 : posT Tryd.prog 146 = true := by kernel_rfl
@[simp] theorem by146 : Tryd.prog.bytesOf 146 = 8 := by kernel_rfl
@[simp] theorem ce146 : Tryd.prog.cellsOf 146 = 1 := by kernel_rfl
@[simp] theorem zb146 : zB Tryd.prog 146 = true := by kernel_rfl
@[simp] theorem zt146 : zT Tryd.prog 146 = .nilptr := by kernel_rfl
@[simp] theorem ty147 : tyOf Tryd.prog 147 = .func := by kernel_rfl
@[simp] theorem po147 : posT Tryd.prog 147 = true := by kernel_rfl
@[simp] theorem by147 : Tryd.prog.bytesOf 147 = 8 := by kernel_rfl
@[simp] theorem ce147 : Tryd.prog.cellsOf 147 = 1 := by kernel_rfl
@[simp] theorem zb147 : zB Tryd.prog 147 = true := by kernel_rfl
@[simp] theorem zt147 : zT Tryd.prog 147 = .nilfn := by kernel_rfl
@[simp] theorem ty148 : tyOf Tryd.prog 148 = .func := by kernel_rfl
@[simp] theorem po148 : posT Tryd.prog 148 = true := by kernel_rfl
@[simp] theorem by148 : Tryd.prog.bytesOf 148 = 8 := by kernel_rfl
@[simp] theorem ce148 : Tryd.prog.cellsOf 148 = 1 := by kernel_rfl
@[simp] theorem zb148 : zB Tryd.prog 148 = true := by kernel_rfl
@[simp] theorem zt148 : zT Tryd.prog 148 = .nilfn := by kernel_rfl
@[simp] theorem ty149 : tyOf Tryd.prog 149 = .func := by kernel_rfl
@[simp] theorem po149 : posT Tryd.prog 149 = true := by kernel_rfl
@[simp] theorem by149 : Tryd.prog.bytesOf 149 = 8 := by kernel_rfl
@[simp] theorem ce149 : Tryd.prog.cellsOf 149 = 1 := by kernel_rfl
@[simp] theorem zb149 : zB Tryd.prog 149 = true := by kernel_rfl
@[simp] theorem zt149 : zT Tryd.prog 149 = .nilfn := by kernel_rfl
@[simp] theorem ty150 : tyOf Tryd.prog 150 = .int .u64 := by kernel_rfl
@[simp] theorem po150 : posT Tryd.prog 150 = true := by kernel_rfl
@[simp] theorem by150 : Tryd.prog.bytesOf 150 = 8 := by kernel_rfl
@[simp] theorem ce150 : Tryd.prog.cellsOf 150 = 1 := by kernel_rfl
@[simp] theorem zb150 : zB Tryd.prog 150 = true := by kernel_rfl
@[simp] theorem zt150 : zT Tryd.prog 150 = .i .u64 0 := by kernel_rfl
@[simp] theorem cm150 : cmpT Tryd.prog 8 150 = true := by kernel_rfl
@[simp] theorem ty151 : tyOf Tryd.prog 151 = .ptr := by kernel_rfl
@[simp] theorem po151 : posT Tryd.prog 151 = true := by kernel_rfl
@[simp] theorem by151 : Tryd.prog.bytesOf 151 = 8 := by kernel_rfl
@[simp] theorem ce151 : Tryd.prog.cellsOf 151 = 1 := by kernel_rfl
@[simp] theorem zb151 : zB Tryd.prog 151 = true := by kernel_rfl
@[simp] theorem zt151 : zT Tryd.prog 151 = .nilptr := by kernel_rfl
@[simp] theorem ty152 : tyOf Tryd.prog 152 = .arr 64 129 := by kernel_rfl
@[simp] theorem po152 : posT Tryd.prog 152 = true := by kernel_rfl
@[simp] theorem by152 : Tryd.prog.bytesOf 152 = 256 := by kernel_rfl
@[simp] theorem ce152 : Tryd.prog.cellsOf 152 = 64 := by kernel_rfl
@[simp] theorem zb152 : zB Tryd.prog 152 = true := by kernel_rfl
@[simp] theorem zt152 : zT Tryd.prog 152 = .agg (List.replicate 64 (.i .u32 0)) := by kernel_rfl
@[simp] theorem cm152 : cmpT Tryd.prog 8 152 = true := by kernel_rfl
@[simp] theorem ty153 : tyOf Tryd.prog 153 = .func := by kernel_rfl
@[simp] theorem po153 : posT Tryd.prog 153 = true := by kernel_rfl
@[simp] theorem by153 : Tryd.prog.bytesOf 153 = 8 := by kernel_rfl
@[simp] theorem ce153 : Tryd.prog.cellsOf 153 = 1 := by kernel_rfl
@[simp] theorem zb153 : zB Tryd.prog 153 = true := by kernel_rfl
@[simp] theorem zt153 : zT Tryd.prog 153 = .nilfn := by kernel_rfl
@[simp] theorem ty154 : tyOf Tryd.prog 154 = .func := by kernel_rfl
@[simp] theorem po154 : posT Tryd.prog 154 = true := by kernel_rfl
@[simp] theorem by154 : Tryd.prog.bytesOf 154 = 8 := by kernel_rfl
@[simp] theorem ce154 : Tryd.prog.cellsOf 154 = 1 := by kernel_rfl
@[simp] theorem zb154 : zB Tryd.prog 154 = true := by kernel_rfl
@[simp] theorem zt154 : zT Tryd.prog 154 = .nilfn := by kernel_rfl
@[simp] theorem ty156 : tyOf Tryd.prog 156 = .func := by kernel_rfl
@[simp] theorem po156 : posT Tryd.prog 156 = true := by kernel_rfl
@[simp] theorem by156 : Tryd.prog.bytesOf 156 = 8 := by kernel_rfl
@[simp] theorem ce156 : Tryd.prog.cellsOf 156 = 1 := by kernel_rfl
@[simp] theorem zb156 : zB Tryd.prog 156 = true := by kernel_rfl
@[simp] theorem zt156 : zT Tryd.prog 156 = .nilfn := by kernel_rfl
@[simp] theorem ty157 : tyOf Tryd.prog 157 = .func := by kernel_rfl
@[simp] theorem po157 : posT Tryd.prog 157 = true := by kernel_rfl
@[simp] theorem by157 : Tryd.prog.bytesOf 157 = 8 := by kernel_rfl
@[simp] theorem ce157 : Tryd.prog.cellsOf 157 = 1 := by kernel_rfl
@[simp] theorem zb157 : zB Tryd.prog 157 = true := by kernel_rfl
@[simp] theorem zt157 : zT Tryd.prog 157 = .nilfn := by kernel_rfl
@[simp] theorem ty158 : tyOf Tryd.prog 158 = .func := by kernel_rfl
@[simp] theorem po158 : posT Tryd.prog 158 = true := by kernel_rfl
@[simp] theorem by158 : Tryd.prog.bytesOf 158 = 8 := by kernel_rfl
@[simp] theorem ce158 : Tryd.prog.cellsOf 158 = 1 := by kernel_rfl
@[simp] theorem zb158 : zB Tryd.prog 158 = true := by kernel_rfl
@[simp] theorem zt158 : zT Tryd.prog 158 = .nilfn := by kernel_rfl
@[simp] theorem ty159 : tyOf Tryd.prog 159 = .func := by kernel_rfl
@[simp] theorem po159 : posT Tryd.prog 159 = true := by kernel_rfl
@[simp] theorem by159 : Tryd.prog.bytesOf 159 = 8 := by kernel_rfl
@[simp] theorem ce159 : Tryd.prog.cellsOf 159 = 1 := by kernel_rfl
@[simp] theorem zb159 : zB Tryd.prog 159 = true := by kernel_rfl
@[simp] theorem zt159 : zT Tryd.prog 159 = .nilfn := by kernel_rfl
@[simp] theorem ty160 : tyOf Tryd.prog 160 = .func := by kernel_rfl
@[simp] theorem po160 : posT Tryd.prog 160 = true := by kernel_rfl
@[simp] theorem by160 : Tryd.prog.bytesOf 160 = 8 := by kernel_rfl
@[simp] theorem ce160 : Tryd.prog.cellsOf 160 = 1 := by kernel_rfl
@[simp] theorem zb160 : zB Tryd.prog 160 = true := by kernel_rfl
@[simp] theorem zt160 : zT Tryd.prog 160 = .nilfn := by kernel_rfl
@[simp] theorem ty161 : tyOf Tryd.prog 161 = .arr 24 5 := by kernel_rfl
@[simp] theorem po161 : posT Tryd.prog 161 = true := by kernel_rfl
@[simp] theorem by161 : Tryd.prog.bytesOf 161 = 24 := by kernel_rfl
@[simp] theorem ce161 : Tryd.prog.cellsOf 161 = 24 := by kernel_rfl
@[simp] theorem zb161 : zB Tryd.prog 161 = true := by kernel_rfl
@[simp] theorem zt161 : zT Tryd.prog 161 = .agg (List.replicate 24 (.i .u8 0)) := by kernel_rfl
@[simp] theorem cm161 : cmpT Tryd.prog 8 161 = true := by kernel_rfl
@[simp] theorem ty162 : tyOf Tryd.prog 162 = .func := by kernel_rfl
@[simp] theorem po162 : posT Tryd.prog 162 = true := by kernel_rfl
@[simp] theorem by162 : Tryd.prog.bytesOf 162 = 8 := by kernel_rfl
@[simp] theorem ce162 : Tryd.prog.cellsOf 162 = 1 := by kernel_rfl
@[simp] theorem zb162 : zB Tryd.prog 162 = true := by kernel_rfl
@[simp] theorem zt162 : zT Tryd.prog 162 = .nilfn := by kernel_rfl
@[simp] theorem ty163 : tyOf Tryd.prog 163 = .func := by kernel_rfl
@[simp] theorem po163 : posT Tryd.prog 163 = true := by kernel_rfl
@[simp] theorem by163 : Tryd.prog.bytesOf 163 = 8 := by kernel_rfl
@[simp] theorem ce163 : Tryd.prog.cellsOf 163 = 1 := by kernel_rfl
@[simp] theorem zb163 : zB Tryd.prog 163 = true := by kernel_rfl
@[simp] theorem zt163 : zT Tryd.prog 163 = .nilfn := by kernel_rfl
@[simp] theorem ty165 : tyOf Tryd.prog 165 = .func := by kernel_rfl
@[simp] theorem po165 : posT Tryd.prog 165 = true := by kernel_rfl
@[simp] theorem by165 : Tryd.prog.bytesOf 165 = 8 := by kernel_rfl
@[simp] theorem ce165 : Tryd.prog.cellsOf 165 = 1 := by kernel_rfl
@[simp] theorem zb165 : zB Tryd.prog 165 = true := by kernel_rfl
@[simp] theorem zt165 : zT Tryd.prog 165 = .nilfn := by kernel_rfl
@[simp] theorem ty167 : tyOf Tryd.prog 167 = .func := by kernel_rfl
@[simp] theorem po167 : posT Tryd.prog 167 = true := by kernel_rfl
@[simp] theorem by167 : Tryd.prog.bytesOf 167 = 8 := by kernel_rfl
@[simp] theorem ce167 : Tryd.prog.cellsOf 167 = 1 := by kernel_rfl
@[simp] theorem zb167 : zB Tryd.prog 167 = true := by kernel_rfl
@[simp] theorem zt167 : zT Tryd.prog 167 = .nilfn := by kernel_rfl
@[simp] theorem ty168 : tyOf Tryd.prog 168 = .func := by kernel_rfl
@[simp] theorem po168 : posT Tryd.prog 168 = true := by kernel_rfl
@[simp] theorem by168 : Tryd.prog.bytesOf 168 = 8 := by kernel_rfl
@[simp] theorem ce168 : Tryd.prog.cellsOf 168 = 1 := by kernel_rfl
@[simp] theorem zb168 : zB Tryd.prog 168 = true := by kernel_rfl
@[simp] theorem zt168 : zT Tryd.prog 168 = .nilfn := by kernel_rfl
@[simp] theorem ty170 : tyOf Tryd.prog 170 = .func := by kernel_rfl
@[simp] theorem po170 : posT Tryd.prog 170 = true := by kernel_rfl
@[simp] theorem by170 : Tryd.prog.bytesOf 170 = 8 := by kernel_rfl
@[simp] theorem ce170 : Tryd.prog.cellsOf 170 = 1 := by kernel_rfl
@[simp] theorem zb170 : zB Tryd.prog 170 = true := by kernel_rfl
@[simp] theorem zt170 : zT Tryd.prog 170 = .nilfn := by kernel_rfl
@[simp] theorem ty171 : tyOf Tryd.prog 171 = .func := by kernel_rfl
@[simp] theorem po171 : posT Tryd.prog 171 = true := by kernel_rfl
@[simp] theorem by171 : Tryd.prog.bytesOf 171 = 8 := by kernel_rfl
@[simp] theorem ce171 : Tryd.prog.cellsOf 171 = 1 := by kernel_rfl
@[simp] theorem zb171 : zB Tryd.prog 171 = true := by kernel_rfl
@[simp] theorem zt171 : zT Tryd.prog 171 = .nilfn := by kernel_rfl
@[simp] theorem ty172 : tyOf Tryd.prog 172 = .func := by kernel_rfl
@[simp] theorem po172 : posT Tryd.prog 172 = true := by kernel_rfl
@[simp] theorem by172 : Tryd.prog.bytesOf 172 = 8 := by kernel_rfl
@[simp] theorem ce172 : Tryd.prog.cellsOf 172 = 1 := by kernel_rfl
@[simp] theorem zb172 : zB Tryd.prog 172 = true := by kernel_rfl
@[simp] theorem zt172 : zT Tryd.prog 172 = .nilfn := by kernel_rfl
@[simp] theorem ty173 : tyOf Tryd.prog 173 = .func := by kernel_rfl
@[simp] theorem po173 : posT Tryd.prog 173 = true := by kernel_rfl
@[simp] theorem by173 : Tryd.prog.bytesOf 173 = 8 := by kernel_rfl
@[simp] theorem ce173 : Tryd.prog.cellsOf 173 = 1 := by kernel_rfl
@[simp] theorem zb173 : zB Tryd.prog 173 = true := by kernel_rfl
@[simp] theorem zt173 : zT Tryd.prog 173 = .nilfn := by kernel_rfl
@[simp] theorem ty174 : tyOf Tryd.prog 174 = .func := by kernel_rfl
@[simp] theorem po174 : posT Tryd.prog 174 = true := by kernel_rfl
@[simp] theorem by174 : Tryd.prog.bytesOf 174 = 8 := by kernel_rfl
@[simp] theorem ce174 : Tryd.prog.cellsOf 174 = 1 := by kernel_rfl
@[simp] theorem zb174 : zB Tryd.prog 174 = true := by kernel_rfl
@[simp] theorem zt174 : zT Tryd.prog 174 = .nilfn := by kernel_rfl
@[simp] theorem ty175 : tyOf Tryd.prog 175 = .func := by kernel_rfl
@[simp] theorem po175 : posT Tryd.prog 175 = true := by kernel_rfl
@[simp] theorem by175 : Tryd.prog.bytesOf 175 = 8 := by kernel_rfl
@[simp] theorem ce175 : Tryd.prog.cellsOf 175 = 1 := by kernel_rfl
@[simp] theorem zb175 : zB Tryd.prog 175 = true := by kernel_rfl
@[simp] theorem zt175 : zT Tryd.prog 175 = .nilfn := by kernel_rfl
@[simp] theorem ty176 : tyOf Tryd.prog 176 = .arr 20 136 := by kernel_rfl
@[simp] theorem po176 : posT Tryd.prog 176 = true := by kernel_rfl
@[simp] theorem by176 : Tryd.prog.bytesOf 176 = 160 := by kernel_rfl
@[simp] theorem ce176 : Tryd.prog.cellsOf 176 = 20 := by kernel_rfl
@[simp] theorem zb176 : zB Tryd.prog 176 = true := by kernel_rfl
@[simp] theorem zt176 : zT Tryd.prog 176 = .agg (List.replicate 20 (.i .u64 0)) := by kernel_rfl
@[simp] theorem cm176 : cmpT Tryd.prog 8 176 = true := by kernel_rfl
@[simp] theorem ty177 : tyOf Tryd.prog 177 = .arr 65 5 := by kernel_rfl
@[simp] theorem po177 : posT Tryd.prog 177 = true := by kernel_rfl
@[simp] theorem by177 : Tryd.prog.bytesOf 177 = 65 := by kernel_rfl
@[simp] theorem ce177 : Tryd.prog.cellsOf 177 = 65 := by kernel_rfl
@[simp] theorem zb177 : zB Tryd.prog 177 = true := by kernel_rfl
@[simp] theorem zt177 : zT Tryd.prog 177 = .agg (List.replicate 65 (.i .u8 0)) := by kernel_rfl
@[simp] theorem cm177 : cmpT Tryd.prog 8 177 = true := by kernel_rfl
@[simp] theorem ty178 : tyOf Tryd.prog 178 = .func := by kernel_rfl
@[simp] theorem po178 : posT Tryd.prog 178 = true := by kernel_rfl
@[simp] theorem by178 : Tryd.prog.bytesOf 178 = 8 := by kernel_rfl
@[simp] theorem ce178 : Tryd.prog.cellsOf 178 = 1 := by kernel_rfl
@[simp] theorem zb178 : zB Tryd.prog 178 = true := by kernel_rfl
@[simp] theorem zt178 : zT Tryd.prog 178 = .nilfn := by kernel_rfl
@[simp] theorem ty179 : tyOf Tryd.prog 179 = .func := by kernel_rfl
@[simp] theorem po179 : posT Tryd.prog 179 = true := by kernel_rfl
@[simp] theorem by179 : Tryd.prog.bytesOf 179 = 8 := by kernel_rfl
@[simp] theorem ce179 : Tryd.prog.cellsOf 179 = 1 := by kernel_rfl
@[simp] theorem zb179 : zB Tryd.prog 179 = true := by kernel_rfl
@[simp] theorem zt179 : zT Tryd.prog 179 = .nilfn := by kernel_rfl
@[simp] theorem ty180 : tyOf Tryd.prog 180 = .int .i64 := by kernel_rfl
@[simp] theorem po180 : posT Tryd.prog 180 = true := by kernel_rfl
@[simp] theorem by180 : Tryd.prog.bytesOf 180 = 8 := by kernel_rfl
@[simp] theorem ce180 : Tryd.prog.cellsOf 180 = 1 := by kernel_rfl
@[simp] theorem zb180 : zB Tryd.prog 180 = true := by kernel_rfl
@[simp] theorem zt180 : zT Tryd.prog 180 = .i .i64 0 := by kernel_rfl
@[simp] theorem cm180 : cmpT Tryd.prog 8 180 = true := by kernel_rfl
@[simp] theorem ty182 : tyOf Tryd.prog 182 = .func := by kernel_rfl
@[simp] theorem po182 : posT Tryd.prog 182 = true := by kernel_rfl
@[simp] theorem by182 : Tryd.prog.bytesOf 182 = 8 := by kernel_rfl
@[simp] theorem ce182 : Tryd.prog.cellsOf 182 = 1 := by kernel_rfl
@[simp] theorem zb182 : zB Tryd.prog 182 = true := by kernel_rfl
@[simp] theorem zt182 : zT Tryd.prog 182 = .nilfn := by kernel_rfl
@[simp] theorem ty183 : tyOf Tryd.prog 183 = .ptr := by kernel_rfl
@[simp] theorem po183 : posT Tryd.prog 183 = true := by kernel_rfl
@[simp] theorem by183 : Tryd.prog.bytesOf 183 = 8 := by kernel_rfl
@[simp] theorem ce183 : Tryd.prog.cellsOf 183 = 1 := by kernel_rfl
@[simp] theorem zb183 : zB Tryd.prog 183 = true := by kernel_rfl
@[simp] theorem zt183 : zT Tryd.prog 183 = .nilptr := by kernel_rfl
@[simp] theorem ty184 : tyOf Tryd.prog 184 = .func := by kernel_rfl
@[simp] theorem po184 : posT Tryd.prog 184 = true := by kernel_rfl
@[simp] theorem by184 : Tryd.prog.bytesOf 184 = 8 := by kernel_rfl
@[simp] theorem ce184 : Tryd.prog.cellsOf 184 = 1 := by kernel_rfl
@[simp] theorem zb184 : zB Tryd.prog 184 = true := by kernel_rfl
@[simp] theorem zt184 : zT Tryd.prog 184 = .nilfn := by kernel_rfl
@[simp] theorem ty185 : tyOf Tryd.prog 185 = .func := by kernel_rfl
@[simp] theorem po185 : posT Tryd.prog 185 = true := by kernel_rfl
@[simp] theorem by185 : Tryd.prog.bytesOf 185 = 8 := by kernel_rfl
@[simp] theorem ce185 : Tryd.prog.cellsOf 185 = 1 := by kernel_rfl
@[simp] theorem zb185 : zB Tryd.prog 185 = true := by kernel_rfl
@[simp] theorem zt185 : zT Tryd.prog 185 = .nilfn := by kernel_rfl
@[simp] theorem ty186 : tyOf Tryd.prog 186 = .func := by kernel_rfl
@[simp] theorem po186 : posT Tryd.prog 186 = true := by kernel_rfl
@[simp] theorem by186 : Tryd.prog.bytesOf 186 = 8 := by kernel_rfl
@[simp] theorem ce186 : Tryd.prog.cellsOf 186 = 1 := by kernel_rfl
@[simp] theorem zb186 : zB Tryd.prog 186 = true := by kernel_rfl
@[simp] theorem zt186 : zT Tryd.prog 186 = .nilfn := by kernel_rfl
@[simp] theorem ty187 : tyOf Tryd.prog 187 = .func := by kernel_rfl
@[simp] theorem po187 : posT Tryd.prog 187 = true := by kernel_rfl
@[simp] theorem by187 : Tryd.prog.bytesOf 187 = 8 := by kernel_rfl
@[simp] theorem ce187 : Tryd.prog.cellsOf 187 = 1 := by kernel_rfl
@[simp] theorem zb187 : zB Tryd.prog 187 = true := by kernel_rfl
@[simp] theorem zt187 : zT Tryd.prog 187 = .nilfn := by kernel_rfl
@[simp] theorem ty188 : tyOf Tryd.prog 188 = .func := by kernel_rfl
@[simp] theorem po188 : posT Tryd.prog 188 = true := by kernel_rfl
@[simp] theorem by188 : Tryd.prog.bytesOf 188 = 8 := by kernel_rfl
@[simp] theorem ce188 : Tryd.prog.cellsOf 188 = 1 := by kernel_rfl
@[simp] theorem zb188 : zB Tryd.prog 188 = true := by kernel_rfl
@[simp] theorem zt188 : zT Tryd.prog 188 = .nilfn := by kernel_rfl
@[simp] theorem ty189 : tyOf Tryd.prog 189 = .struct [9, 9, 125] := by kernel_rfl
@[simp] theorem po189 : posT Tryd.prog 189 = true := by kernel_rfl
@[simp] theorem by189 : Tryd.prog.bytesOf 189 = 48 := by kernel_rfl
@[simp] theorem ce189 : Tryd.prog.cellsOf 189 = 3 := by kernel_rfl
@[simp] theorem zb189 : zB Tryd.prog 189 = true := by kernel_rfl
@[simp] theorem zt189 : zT Tryd.prog 189 = .agg [.s [], .s [], .nilifc] := by kernel_rfl
@[simp] theorem ty190 : tyOf Tryd.prog 190 = .struct [9, 9, 125] := by kernel_rfl
@[simp] theorem po190 : posT Tryd.prog 190 = true := by kernel_rfl
@[simp] theorem by190 : Tryd.prog.bytesOf 190 = 48 := by kernel_rfl
@[simp] theorem ce190 : Tryd.prog.cellsOf 190 = 3 := by kernel_rfl
@[simp] theorem zb190 : zB Tryd.prog 190 = true := by kernel_rfl
@[simp] theorem zt190 : zT Tryd.prog 190 = .agg [.s [], .s [], .nilifc] := by kernel_rfl
@[simp] theorem ty191 : tyOf Tryd.prog 191 = .func := by kernel_rfl
@[simp] theorem po191 : posT Tryd.prog 191 = true := by kernel_rfl
@[simp] theorem by191 : Tryd.prog.bytesOf 191 = 8 := by kernel_rfl
@[simp] theorem ce191 : Tryd.prog.cellsOf 191 = 1 := by kernel_rfl
@[simp] theorem zb191 : zB Tryd.prog 191 = true := by kernel_rfl
@[simp] theorem zt191 : zT Tryd.prog 191 = .nilfn := by kernel_rfl
@[simp] theorem ty192 : tyOf Tryd.prog 192 = .arr 256 5 := by kernel_rfl
@[simp] theorem po192 : posT Tryd.prog 192 = true := by kernel_rfl
@[simp] theorem by192 : Tryd.prog.bytesOf 192 = 256 := by kernel_rfl
@[simp] theorem ce192 : Tryd.prog.cellsOf 192 = 256 := by kernel_rfl
@[simp] theorem zb192 : zB Tryd.prog 192 = true := by kernel_rfl
@[simp] theorem zt192 : zT Tryd.prog 192 = .agg (List.replicate 256 (.i .u8 0)) := by kernel_rfl
@[simp] theorem cm192 : cmpT Tryd.prog 8 192 = true := by kernel_rfl
@[simp] theorem ty193 : tyOf Tryd.prog 193 = .struct [5, 5] := by kernel_rfl
@[simp] theorem po193 : posT Tryd.prog 193 = true := by kernel_rfl
@[simp] theorem by193 : Tryd.prog.bytesOf 193 = 2 := by kernel_rfl
@[simp] theorem ce193 : Tryd.prog.cellsOf 193 = 2 := by kernel_rfl
@[simp] theorem zb193 : zB Tryd.prog 193 = true := by kernel_rfl
@[simp] theorem zt193 : zT Tryd.prog 193 = .agg [.i .u8 0, .i .u8 0] := by kernel_rfl
@[simp] theorem cm193 : cmpT Tryd.prog 8 193 = true := by kernel_rfl
@[simp] theorem ty194 : tyOf Tryd.prog 194 = .struct [5, 5] := by kernel_rfl
@[simp] theorem po194 : posT Tryd.prog 194 = true := by kernel_rfl
@[simp] theorem by194 : Tryd.prog.bytesOf 194 = 2 := by kernel_rfl
@[simp] theorem ce194 : Tryd.prog.cellsOf 194 = 2 := by kernel_rfl
@[simp] theorem zb194 : zB Tryd.prog 194 = true := by kernel_rfl
@[simp] theorem zt194 : zT Tryd.prog 194 = .agg [.i .u8 0, .i .u8 0] := by kernel_rfl
@[simp] theorem cm194 : cmpT Tryd.prog 8 194 = true := by kernel_rfl
@[simp] theorem ty195 : tyOf Tryd.prog 195 = .arr 16 194 := by kernel_rfl
@[simp] theorem po195 : posT Tryd.prog 195 = true := by kernel_rfl
@[simp] theorem by195 : Tryd.prog.bytesOf 195 = 32 := by kernel_rfl
@[simp] theorem ce195 : Tryd.prog.cellsOf 195 = 32 := by kernel_rfl
@[simp] theorem zb195 : zB Tryd.prog 195 = true := by kernel_rfl
@[simp] theorem zt195 : zT Tryd.prog 195 = .agg (List.replicate 16 (zT Tryd.prog 194)) := by kernel_rfl
@[simp] theorem cm195 : cmpT Tryd.prog 8 195 = true := by kernel_rfl
@[simp] theorem ty196 : tyOf Tryd.prog 196 = .arr 64 5 := by kernel_rfl
@[simp] theorem po196 : posT Tryd.prog 196 = true := by kernel_rfl
@[simp] theorem by196 : Tryd.prog.bytesOf 196 = 64 := by kernel_rfl
@[simp] theorem ce196 : Tryd.prog.cellsOf 196 = 64 := by kernel_rfl
@[simp] theorem zb196 : zB Tryd.prog 196 = true := by kernel_rfl
@[simp] theorem zt196 : zT Tryd.prog 196 = .agg (List.replicate 64 (.i .u8 0)) := by kernel_rfl
@[simp] theorem cm196 : cmpT Tryd.prog 8 196 = true := by kernel_rfl
@[simp] theorem ty197 : tyOf Tryd.prog 197 = .ptr := by kernel_rfl
@[simp] theorem po197 : posT Tryd.prog 197 = true := by kernel_rfl
@[simp] theorem by197 : Tryd.prog.bytesOf 197 = 8 := by kernel_rfl
@[simp] theorem ce197 : Tryd.prog.cellsOf 197 = 1 := by kernel_rfl
@[simp] theorem zb197 : zB Tryd.prog 197 = true := by kernel_rfl
@[simp] theorem zt197 : zT Tryd.prog 197 = .nilptr := by kernel_rfl
@[simp] theorem ty198 : tyOf Tryd.prog 198 = .struct [9] := by kernel_rfl
@[simp] theorem po198 : posT Tryd.prog 198 = true := by kernel_rfl
@[simp] theorem by198 : Tryd.prog.bytesOf 198 = 16 := by kernel_rfl
@[simp] theorem ce198 : Tryd.prog.cellsOf 198 = 1 := by kernel_rfl
@[simp] theorem zb198 : zB Tryd.prog 198 = true := by kernel_rfl
@[simp] theorem zt198 : zT Tryd.prog 198 = .agg [.s []] := by kernel_rfl
@[simp] theorem cm198 : cmpT Tryd.prog 8 198 = true := by kernel_rfl
@[simp] theorem ty199 : tyOf Tryd.prog 199 = .struct [9] := by kernel_rfl
@[simp] theorem po199 : posT Tryd.prog 199 = true := by kernel_rfl
@[simp] theorem by199 : Tryd.prog.bytesOf 199 = 16 := by kernel_rfl
@[simp] theorem ce199 : Tryd.prog.cellsOf 199 = 1 := by kernel_rfl
@[simp] theorem zb199 : zB Tryd.prog 199 = true := by kernel_rfl
@[simp] theorem zt199 : zT Tryd.prog 199 = .agg [.s []] := by kernel_rfl
@[simp] theorem cm199 : cmpT Tryd.prog 8 199 = true := by kernel_rfl
@[simp] theorem ty201 : tyOf Tryd.prog 201 = .func := by kernel_rfl
@[simp] theorem po201 : posT Tryd.prog 201 = true := by kernel_rfl
@[simp] theorem by201 : Tryd.prog.bytesOf 201 = 8 := by kernel_rfl
@[simp] theorem ce201 : Tryd.prog.cellsOf 201 = 1 := by kernel_rfl
@[simp] theorem zb201 : zB Tryd.prog 201 = true := by kernel_rfl
@[simp] theorem zt201 : zT Tryd.prog 201 = .nilfn := by kernel_rfl
@[simp] theorem ty202 : tyOf Tryd.prog 202 = .struct [17, 17, 17, 9] := by kernel_rfl
@[simp] theorem po202 : posT Tryd.prog 202 = true := by kernel_rfl
@[simp] theorem by202 : Tryd.prog.bytesOf 202 = 40 := by kernel_rfl
@[simp] theorem ce202 : Tryd.prog.cellsOf 202 = 4 := by kernel_rfl
@[simp] theorem zb202 : zB Tryd.prog 202 = true := by kernel_rfl
@[simp] theorem zt202 : zT Tryd.prog 202 = .agg [.nilptr, .nilptr, .nilptr, .s []] := by kernel_rfl
@[simp] theorem ty203 : tyOf Tryd.prog 203 = .struct [17, 17, 17, 9] := by kernel_rfl
@[simp] theorem po203 : posT Tryd.prog 203 = true := by kernel_rfl
@[simp] theorem by203 : Tryd.prog.bytesOf 203 = 40 := by kernel_rfl
@[simp] theorem ce203 : Tryd.prog.cellsOf 203 = 4 := by kernel_rfl
@[simp] theorem zb203 : zB Tryd.prog 203 = true := by kernel_rfl
@[simp] theorem zt203 : zT Tryd.prog 203 = .agg [.nilptr, .nilptr, .nilptr, .s []] := by kernel_rfl
@[simp] theorem ty204 : tyOf Tryd.prog 204 = .arr 0 16 := by kernel_rfl
@[simp] theorem ty207 : tyOf Tryd.prog 207 = .int .u8 := by kernel_rfl
@[simp] theorem po207 : posT Tryd.prog 207 = true := by kernel_rfl
@[simp] theorem by207 : Tryd.prog.bytesOf 207 = 1 := by kernel_rfl
@[simp] theorem ce207 : Tryd.prog.cellsOf 207 = 1 := by kernel_rfl
@[simp] theorem zb207 : zB Tryd.prog 207 = true := by kernel_rfl
@[simp] theorem zt207 : zT Tryd.prog 207 = .i .u8 0 := by kernel_rfl
@[simp] theorem ty208 : tyOf Tryd.prog 208 = .int .u8 := by kernel_rfl
@[simp] theorem po208 : posT Tryd.prog 208 = true := by kernel_rfl
@[simp] theorem by208 : Tryd.prog.bytesOf 208 = 1 := by kernel_rfl
@[simp] theorem ce208 : Tryd.prog.cellsOf 208 = 1 := by kernel_rfl
@[simp] theorem zb208 : zB Tryd.prog 208 = true := by kernel_rfl
@[simp] theorem zt208 : zT Tryd.prog 208 = .i .u8 0 := by kernel_rfl
@[simp] theorem ty209 : tyOf Tryd.prog 209 = .func := by kernel_rfl
@[simp] theorem po209 : posT Tryd.prog 209 = true := by kernel_rfl
@[simp] theorem by209 : Tryd.prog.bytesOf 209 = 8 := by kernel_rfl
@[simp] theorem ce209 : Tryd.prog.cellsOf 209 = 1 := by kernel_rfl
@[simp] theorem zb209 : zB Tryd.prog 209 = true := by kernel_rfl
@[simp] theorem zt209 : zT Tryd.prog 209 = .nilfn := by kernel_rfl
@[simp] theorem ty210 : tyOf Tryd.prog 210 = .int .i32 := by kernel_rfl
@[simp] theorem po210 : posT Tryd.prog 210 = true := by kernel_rfl
@[simp] theorem by210 : Tryd.prog.bytesOf 210 = 4 := by kernel_rfl
@[simp] theorem ce210 : Tryd.prog.cellsOf 210 = 1 := by kernel_rfl
@[simp] theorem zb210 : zB Tryd.prog 210 = true := by kernel_rfl
@[simp] theorem zt210 : zT Tryd.prog 210 = .i .i32 0 := by kernel_rfl
@[simp] theorem ty211 : tyOf Tryd.prog 211 = .int .i32 := by kernel_rfl
@[simp] theorem po211 : posT Tryd.prog 211 = true := by kernel_rfl
@[simp] theorem by211 : Tryd.prog.bytesOf 211 = 4 := by kernel_rfl
@[simp] theorem ce211 : Tryd.prog.cellsOf 211 = 1 := by kernel_rfl
@[simp] theorem zb211 : zB Tryd.prog 211 = true := by kernel_rfl
@[simp] theorem zt211 : zT Tryd.prog 211 = .i .i32 0 := by kernel_rfl
@[simp] theorem ty212 : tyOf Tryd.prog 212 = .struct [12, 12, 129, 207, 5, 5, 208, 209, 146, 210, 211] := by kernel_rfl
@[simp] theorem po212 : posT Tryd.prog 212 = true := by kernel_rfl
@[simp] theorem by212 : Tryd.prog.bytesOf 212 = 48 := by kernel_rfl
@[simp] theorem ce212 : Tryd.prog.cellsOf 212 = 11 := by kernel_rfl
@[simp] theorem zb212 : zB Tryd.prog 212 = true := by kernel_rfl
@[simp] theorem zt212 : zT Tryd.prog 212 = .agg [.i .u64 0, .i .u64 0, .i .u32 0, .i .u8 0, .i .u8 0, .i .u8 0, .i .u8 0, .nilfn, .nilptr, .i .i32 0, .i .i32 0] := by kernel_rfl
@[simp] theorem ty213 : tyOf Tryd.prog 213 = .struct [12, 12, 129, 207, 5, 5, 208, 209, 146, 210, 211] := by kernel_rfl
@[simp] theorem po213 : posT Tryd.prog 213 = true := by kernel_rfl
@[simp] theorem by213 : Tryd.prog.bytesOf 213 = 48 := by kernel_rfl
@[simp] theorem ce213 : Tryd.prog.cellsOf 213 = 11 := by kernel_rfl
@[simp] theorem zb213 : zB Tryd.prog 213 = true := by kernel_rfl
@[simp] theorem zt213 : zT Tryd.prog 213 = .agg [.i .u64 0, .i .u64 0, .i .u32 0, .i .u8 0, .i .u8 0, .i .u8 0, .i .u8 0, .nilfn, .nilptr, .i .i32 0, .i .i32 0] := by kernel_rfl
end Go.Proofs.YtmkpbigaafemnaaDoor
