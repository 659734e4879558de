/- Closed facts on this seat's types and functions. Printed by a program (wip/tools/facts.py). No condition beyond each theorem's own. -/
import Derived.Test.YtaddpgjanbjcaaaChecked
import Derived.Test.YtaddpgjanbjcaaaAbSToU
set_option linter.unusedSimpArgs false
set_option linter.unusedVariables false
set_option linter.unusedSectionVars false
set_option maxRecDepth 100000
/-! Closed facts on this seat's types and functions. Printed by a program (wip/tools/facts.py). -/
namespace Go.Proofs.Ytaddpgjanbjcaaa
open Go Go.Ab
theorem laid : laidOutB Try.prog = true := by kernel_rfl
theorem mixed : Try.prog.follows .mixedOrders = true := by kernel_rfl
@[simp] theorem ty2 : tyOf Try.prog 2 = .int .i64 := by kernel_rfl
@[simp] theorem po2 : posT Try.prog 2 = true := by kernel_rfl
@[simp] theorem by2 : Try.prog.bytesOf 2 = 8 := by kernel_rfl
@[simp] theorem ce2 : Try.prog.cellsOf 2 = 1 := by kernel_rfl
@[simp] theorem zb2 : zB Try.prog 2 = true := by kernel_rfl
@[simp] theorem zt2 : zT Try.prog 2 = .i .i64 0 := by kernel_rfl
@[simp] theorem cm2 : cmpT Try.prog 8 2 = true := by kernel_rfl
@[simp] theorem ty3 : tyOf Try.prog 3 = .int .i64 := by kernel_rfl
@[simp] theorem po3 : posT Try.prog 3 = true := by kernel_rfl
@[simp] theorem by3 : Try.prog.bytesOf 3 = 8 := by kernel_rfl
@[simp] theorem ce3 : Try.prog.cellsOf 3 = 1 := by kernel_rfl
@[simp] theorem zb3 : zB Try.prog 3 = true := by kernel_rfl
@[simp] theorem zt3 : zT Try.prog 3 = .i .i64 0 := by kernel_rfl
@[simp] theorem cm3 : cmpT Try.prog 8 3 = true := by kernel_rfl
@[simp] theorem ty4 : tyOf Try.prog 4 = .bool := by kernel_rfl
@[simp] theorem po4 : posT Try.prog 4 = true := by kernel_rfl
@[simp] theorem by4 : Try.prog.bytesOf 4 = 1 := by kernel_rfl
@[simp] theorem ce4 : Try.prog.cellsOf 4 = 1 := by kernel_rfl
@[simp] theorem zb4 : zB Try.prog 4 = true := by kernel_rfl
@[simp] theorem zt4 : zT Try.prog 4 = .b false := by kernel_rfl
@[simp] theorem cm4 : cmpT Try.prog 8 4 = true := by kernel_rfl
@[simp] theorem ty5 : tyOf Try.prog 5 = .int .u8 := by kernel_rfl
@[simp] theorem po5 : posT Try.prog 5 = true := by kernel_rfl
@[simp] theorem by5 : Try.prog.bytesOf 5 = 1 := by kernel_rfl
@[simp] theorem ce5 : Try.prog.cellsOf 5 = 1 := by kernel_rfl
@[simp] theorem zb5 : zB Try.prog 5 = true := by kernel_rfl
@[simp] theorem zt5 : zT Try.prog 5 = .i .u8 0 := by kernel_rfl
@[simp] theorem cm5 : cmpT Try.prog 8 5 = true := by kernel_rfl
@[simp] theorem ty9 : tyOf Try.prog 9 = .str := by kernel_rfl
@[simp] theorem po9 : posT Try.prog 9 = true := by kernel_rfl
@[simp] theorem by9 : Try.prog.bytesOf 9 = 16 := by kernel_rfl
@[simp] theorem ce9 : Try.prog.cellsOf 9 = 1 := by kernel_rfl
@[simp] theorem zb9 : zB Try.prog 9 = true := by kernel_rfl
@[simp] theorem zt9 : zT Try.prog 9 = .s [] := by kernel_rfl
@[simp] theorem cm9 : cmpT Try.prog 8 9 = true := by kernel_rfl
@[simp] theorem ty12 : tyOf Try.prog 12 = .int .u64 := by kernel_rfl
@[simp] theorem po12 : posT Try.prog 12 = true := by kernel_rfl
@[simp] theorem by12 : Try.prog.bytesOf 12 = 8 := by kernel_rfl
@[simp] theorem ce12 : Try.prog.cellsOf 12 = 1 := by kernel_rfl
@[simp] theorem zb12 : zB Try.prog 12 = true := by kernel_rfl
@[simp] theorem zt12 : zT Try.prog 12 = .i .u64 0 := by kernel_rfl
@[simp] theorem cm12 : cmpT Try.prog 8 12 = true := by kernel_rfl
@[simp] theorem ty14 : tyOf Try.prog 14 = .struct [9, 12] := by kernel_rfl
@[simp] theorem po14 : posT Try.prog 14 = true := by kernel_rfl
@[simp] theorem by14 : Try.prog.bytesOf 14 = 24 := by kernel_rfl
@[simp] theorem ce14 : Try.prog.cellsOf 14 = 2 := by kernel_rfl
@[simp] theorem zb14 : zB Try.prog 14 = true := by kernel_rfl
@[simp] theorem zt14 : zT Try.prog 14 = .agg [.s [], .i .u64 0] := by kernel_rfl
@[simp] theorem ty15 : tyOf Try.prog 15 = .ptr := by kernel_rfl
@[simp] theorem po15 : posT Try.prog 15 = true := by kernel_rfl
@[simp] theorem by15 : Try.prog.bytesOf 15 = 8 := by kernel_rfl
@[simp] theorem ce15 : Try.prog.cellsOf 15 = 1 := by kernel_rfl
@[simp] theorem zb15 : zB Try.prog 15 = true := by kernel_rfl
@[simp] theorem zt15 : zT Try.prog 15 = .nilptr := by kernel_rfl
@[simp] theorem ty16 : tyOf Try.prog 16 = .ptr := by kernel_rfl
@[simp] theorem po16 : posT Try.prog 16 = true := by kernel_rfl
@[simp] theorem by16 : Try.prog.bytesOf 16 = 8 := by kernel_rfl
@[simp] theorem ce16 : Try.prog.cellsOf 16 = 1 := by kernel_rfl
@[simp] theorem zb16 : zB Try.prog 16 = true := by kernel_rfl
@[simp] theorem zt16 : zT Try.prog 16 = .nilptr := by kernel_rfl
@[simp] theorem ty17 : tyOf Try.prog 17 = .ptr := by kernel_rfl
@[simp] theorem po17 : posT Try.prog 17 = true := by kernel_rfl
@[simp] theorem by17 : Try.prog.bytesOf 17 = 8 := by kernel_rfl
@[simp] theorem ce17 : Try.prog.cellsOf 17 = 1 := by kernel_rfl
@[simp] theorem zb17 : zB Try.prog 17 = true := by kernel_rfl
@[simp] theorem zt17 : zT Try.prog 17 = .nilptr := by kernel_rfl
@[simp] theorem ty18 : tyOf Try.prog 18 = .struct [17] := by kernel_rfl
@[simp] theorem po18 : posT Try.prog 18 = true := by kernel_rfl
@[simp] theorem by18 : Try.prog.bytesOf 18 = 8 := by kernel_rfl
@[simp] theorem ce18 : Try.prog.cellsOf 18 = 1 := by kernel_rfl
@[simp] theorem zb18 : zB Try.prog 18 = true := by kernel_rfl
@[simp] theorem zt18 : zT Try.prog 18 = .agg [.nilptr] := by kernel_rfl
@[simp] theorem ty19 : tyOf Try.prog 19 = .struct [17] := by kernel_rfl
@[simp] theorem po19 : posT Try.prog 19 = true := by kernel_rfl
@[simp] theorem by19 : Try.prog.bytesOf 19 = 8 := by kernel_rfl
@[simp] theorem ce19 : Try.prog.cellsOf 19 = 1 := by kernel_rfl
@[simp] theorem zb19 : zB Try.prog 19 = true := by kernel_rfl
@[simp] theorem zt19 : zT Try.prog 19 = .agg [.nilptr] := by kernel_rfl
@[simp] theorem ty20 : tyOf Try.prog 20 = .iface := by kernel_rfl
@[simp] theorem po20 : posT Try.prog 20 = true := by kernel_rfl
@[simp] theorem by20 : Try.prog.bytesOf 20 = 16 := by kernel_rfl
@[simp] theorem ce20 : Try.prog.cellsOf 20 = 1 := by kernel_rfl
@[simp] theorem zb20 : zB Try.prog 20 = true := by kernel_rfl
@[simp] theorem zt20 : zT Try.prog 20 = .nilifc := by kernel_rfl
@[simp] theorem ty21 : tyOf Try.prog 21 = .int .i32 := by kernel_rfl
@[simp] theorem po21 : posT Try.prog 21 = true := by kernel_rfl
@[simp] theorem by21 : Try.prog.bytesOf 21 = 4 := by kernel_rfl
@[simp] theorem ce21 : Try.prog.cellsOf 21 = 1 := by kernel_rfl
@[simp] theorem zb21 : zB Try.prog 21 = true := by kernel_rfl
@[simp] theorem zt21 : zT Try.prog 21 = .i .i32 0 := by kernel_rfl
@[simp] theorem cm21 : cmpT Try.prog 8 21 = true := by kernel_rfl
@[simp] theorem ty22 : tyOf Try.prog 22 = .slice 35 := by kernel_rfl
@[simp] theorem po22 : posT Try.prog 22 = true := by kernel_rfl
@[simp] theorem by22 : Try.prog.bytesOf 22 = 24 := by kernel_rfl
@[simp] theorem ce22 : Try.prog.cellsOf 22 = 1 := by kernel_rfl
@[simp] theorem zb22 : zB Try.prog 22 = true := by kernel_rfl
@[simp] theorem zt22 : zT Try.prog 22 = .sl .full [] := by kernel_rfl
@[simp] theorem ty23 : tyOf Try.prog 23 = .slice 37 := by kernel_rfl
@[simp] theorem po23 : posT Try.prog 23 = true := by kernel_rfl
@[simp] theorem by23 : Try.prog.bytesOf 23 = 24 := by kernel_rfl
@[simp] theorem ce23 : Try.prog.cellsOf 23 = 1 := by kernel_rfl
@[simp] theorem zb23 : zB Try.prog 23 = true := by kernel_rfl
@[simp] theorem zt23 : zT Try.prog 23 = .sl .full [] := by kernel_rfl
@[simp] theorem ty24 : tyOf Try.prog 24 = .slice 32 := by kernel_rfl
@[simp] theorem po24 : posT Try.prog 24 = true := by kernel_rfl
@[simp] theorem by24 : Try.prog.bytesOf 24 = 24 := by kernel_rfl
@[simp] theorem ce24 : Try.prog.cellsOf 24 = 1 := by kernel_rfl
@[simp] theorem zb24 : zB Try.prog 24 = true := by kernel_rfl
@[simp] theorem zt24 : zT Try.prog 24 = .sl .full [] := by kernel_rfl
@[simp] theorem ty25 : tyOf Try.prog 25 = .func := by kernel_rfl
@[simp] theorem po25 : posT Try.prog 25 = true := by kernel_rfl
@[simp] theorem by25 : Try.prog.bytesOf 25 = 8 := by kernel_rfl
@[simp] theorem ce25 : Try.prog.cellsOf 25 = 1 := by kernel_rfl
@[simp] theorem zb25 : zB Try.prog 25 = true := by kernel_rfl
@[simp] theorem zt25 : zT Try.prog 25 = .nilfn := by kernel_rfl
@[simp] theorem ty26 : tyOf Try.prog 26 = .func := by kernel_rfl
@[simp] theorem po26 : posT Try.prog 26 = true := by kernel_rfl
@[simp] theorem by26 : Try.prog.bytesOf 26 = 8 := by kernel_rfl
@[simp] theorem ce26 : Try.prog.cellsOf 26 = 1 := by kernel_rfl
@[simp] theorem zb26 : zB Try.prog 26 = true := by kernel_rfl
@[simp] theorem zt26 : zT Try.prog 26 = .nilfn := by kernel_rfl
@[simp] theorem ty27 : tyOf Try.prog 27 = .struct [3, 9, 3] := by kernel_rfl
@[simp] theorem po27 : posT Try.prog 27 = true := by kernel_rfl
@[simp] theorem by27 : Try.prog.bytesOf 27 = 32 := by kernel_rfl
@[simp] theorem ce27 : Try.prog.cellsOf 27 = 3 := by kernel_rfl
@[simp] theorem zb27 : zB Try.prog 27 = true := by kernel_rfl
@[simp] theorem zt27 : zT Try.prog 27 = .agg [.i .i64 0, .s [], .i .i64 0] := by kernel_rfl
@[simp] theorem cm27 : cmpT Try.prog 8 27 = true := by kernel_rfl
@[simp] theorem ty28 : tyOf Try.prog 28 = .struct [3, 9, 3] := by kernel_rfl
@[simp] theorem po28 : posT Try.prog 28 = true := by kernel_rfl
@[simp] theorem by28 : Try.prog.bytesOf 28 = 32 := by kernel_rfl
@[simp] theorem ce28 : Try.prog.cellsOf 28 = 3 := by kernel_rfl
@[simp] theorem zb28 : zB Try.prog 28 = true := by kernel_rfl
@[simp] theorem zt28 : zT Try.prog 28 = .agg [.i .i64 0, .s [], .i .i64 0] := by kernel_rfl
@[simp] theorem cm28 : cmpT Try.prog 8 28 = true := by kernel_rfl
@[simp] theorem ty29 : tyOf Try.prog 29 = .func := by kernel_rfl
@[simp] theorem po29 : posT Try.prog 29 = true := by kernel_rfl
@[simp] theorem by29 : Try.prog.bytesOf 29 = 8 := by kernel_rfl
@[simp] theorem ce29 : Try.prog.cellsOf 29 = 1 := by kernel_rfl
@[simp] theorem zb29 : zB Try.prog 29 = true := by kernel_rfl
@[simp] theorem zt29 : zT Try.prog 29 = .nilfn := by kernel_rfl
@[simp] theorem ty30 : tyOf Try.prog 30 = .func := by kernel_rfl
@[simp] theorem po30 : posT Try.prog 30 = true := by kernel_rfl
@[simp] theorem by30 : Try.prog.bytesOf 30 = 8 := by kernel_rfl
@[simp] theorem ce30 : Try.prog.cellsOf 30 = 1 := by kernel_rfl
@[simp] theorem zb30 : zB Try.prog 30 = true := by kernel_rfl
@[simp] theorem zt30 : zT Try.prog 30 = .nilfn := by kernel_rfl
@[simp] theorem ty31 : tyOf Try.prog 31 = .arr 32 5 := by kernel_rfl
@[simp] theorem po31 : posT Try.prog 31 = true := by kernel_rfl
@[simp] theorem by31 : Try.prog.bytesOf 31 = 32 := by kernel_rfl
@[simp] theorem ce31 : Try.prog.cellsOf 31 = 32 := by kernel_rfl
@[simp] theorem zb31 : zB Try.prog 31 = true := by kernel_rfl
@[simp] theorem zt31 : zT Try.prog 31 = .agg (List.replicate 32 (.i .u8 0)) := by kernel_rfl
@[simp] theorem cm31 : cmpT Try.prog 8 31 = true := by kernel_rfl
@[simp] theorem ty32 : tyOf Try.prog 32 = .arr 32 5 := by kernel_rfl
@[simp] theorem po32 : posT Try.prog 32 = true := by kernel_rfl
@[simp] theorem by32 : Try.prog.bytesOf 32 = 32 := by kernel_rfl
@[simp] theorem ce32 : Try.prog.cellsOf 32 = 32 := by kernel_rfl
@[simp] theorem zb32 : zB Try.prog 32 = true := by kernel_rfl
@[simp] theorem zt32 : zT Try.prog 32 = .agg (List.replicate 32 (.i .u8 0)) := by kernel_rfl
@[simp] theorem cm32 : cmpT Try.prog 8 32 = true := by kernel_rfl
@[simp] theorem ty33 : tyOf Try.prog 33 = .slice 58 := by kernel_rfl
@[simp] theorem po33 : posT Try.prog 33 = true := by kernel_rfl
@[simp] theorem by33 : Try.prog.bytesOf 33 = 24 := by kernel_rfl
@[simp] theorem ce33 : Try.prog.cellsOf 33 = 1 := by kernel_rfl
@[simp] theorem zb33 : zB Try.prog 33 = true := by kernel_rfl
@[simp] theorem zt33 : zT Try.prog 33 = .sl .full [] := by kernel_rfl
@[simp] theorem ty34 : tyOf Try.prog 34 = .struct [32, 23, 33] := by kernel_rfl
@[simp] theorem po34 : posT Try.prog 34 = true := by kernel_rfl
@[simp] theorem by34 : Try.prog.bytesOf 34 = 80 := by kernel_rfl
@[simp] theorem ce34 : Try.prog.cellsOf 34 = 34 := by kernel_rfl
@[simp] theorem zb34 : zB Try.prog 34 = true := by kernel_rfl
@[simp] theorem zt34 : zT Try.prog 34 = .agg [zT Try.prog 32, .sl .full [], .sl .full []] := by kernel_rfl
@[simp] theorem ty35 : tyOf Try.prog 35 = .struct [32, 23, 33] := by kernel_rfl
@[simp] theorem po35 : posT Try.prog 35 = true := by kernel_rfl
@[simp] theorem by35 : Try.prog.bytesOf 35 = 80 := by kernel_rfl
@[simp] theorem ce35 : Try.prog.cellsOf 35 = 34 := by kernel_rfl
@[simp] theorem zb35 : zB Try.prog 35 = true := by kernel_rfl
@[simp] theorem zt35 : zT Try.prog 35 = .agg [zT Try.prog 32, .sl .full [], .sl .full []] := by kernel_rfl
@[simp] theorem ty36 : tyOf Try.prog 36 = .struct [9, 4, 32] := by kernel_rfl
@[simp] theorem po36 : posT Try.prog 36 = true := by kernel_rfl
@[simp] theorem by36 : Try.prog.bytesOf 36 = 56 := by kernel_rfl
@[simp] theorem ce36 : Try.prog.cellsOf 36 = 34 := by kernel_rfl
@[simp] theorem zb36 : zB Try.prog 36 = true := by kernel_rfl
@[simp] theorem zt36 : zT Try.prog 36 = .agg [.s [], .b false, zT Try.prog 32] := by kernel_rfl
@[simp] theorem cm36 : cmpT Try.prog 8 36 = true := by kernel_rfl
@[simp] theorem ty37 : tyOf Try.prog 37 = .struct [9, 4, 32] := by kernel_rfl
@[simp] theorem po37 : posT Try.prog 37 = true := by kernel_rfl
@[simp] theorem by37 : Try.prog.bytesOf 37 = 56 := by kernel_rfl
@[simp] theorem ce37 : Try.prog.cellsOf 37 = 34 := by kernel_rfl
@[simp] theorem zb37 : zB Try.prog 37 = true := by kernel_rfl
@[simp] theorem zt37 : zT Try.prog 37 = .agg [.s [], .b false, zT Try.prog 32] := by kernel_rfl
@[simp] theorem cm37 : cmpT Try.prog 8 37 = true := by kernel_rfl
@[simp] theorem ty38 : tyOf Try.prog 38 = .func := by kernel_rfl
@[simp] theorem po38 : posT Try.prog 38 = true := by kernel_rfl
@[simp] theorem by38 : Try.prog.bytesOf 38 = 8 := by kernel_rfl
@[simp] theorem ce38 : Try.prog.cellsOf 38 = 1 := by kernel_rfl
@[simp] theorem zb38 : zB Try.prog 38 = true := by kernel_rfl
@[simp] theorem zt38 : zT Try.prog 38 = .nilfn := by kernel_rfl
@[simp] theorem ty39 : tyOf Try.prog 39 = .func := by kernel_rfl
@[simp] theorem po39 : posT Try.prog 39 = true := by kernel_rfl
@[simp] theorem by39 : Try.prog.bytesOf 39 = 8 := by kernel_rfl
@[simp] theorem ce39 : Try.prog.cellsOf 39 = 1 := by kernel_rfl
@[simp] theorem zb39 : zB Try.prog 39 = true := by kernel_rfl
@[simp] theorem zt39 : zT Try.prog 39 = .nilfn := by kernel_rfl
@[simp] theorem ty40 : tyOf Try.prog 40 = .slice 47 := by kernel_rfl
@[simp] theorem po40 : posT Try.prog 40 = true := by kernel_rfl
@[simp] theorem by40 : Try.prog.bytesOf 40 = 24 := by kernel_rfl
@[simp] theorem ce40 : Try.prog.cellsOf 40 = 1 := by kernel_rfl
@[simp] theorem zb40 : zB Try.prog 40 = true := by kernel_rfl
@[simp] theorem zt40 : zT Try.prog 40 = .sl .full [] := by kernel_rfl
@[simp] theorem ty41 : tyOf Try.prog 41 = .slice 70 := by kernel_rfl
@[simp] theorem po41 : posT Try.prog 41 = true := by kernel_rfl
@[simp] theorem by41 : Try.prog.bytesOf 41 = 24 := by kernel_rfl
@[simp] theorem ce41 : Try.prog.cellsOf 41 = 1 := by kernel_rfl
@[simp] theorem zb41 : zB Try.prog 41 = true := by kernel_rfl
@[simp] theorem zt41 : zT Try.prog 41 = .sl .full [] := by kernel_rfl
@[simp] theorem ty42 : tyOf Try.prog 42 = .struct [9, 9] := by kernel_rfl
@[simp] theorem po42 : posT Try.prog 42 = true := by kernel_rfl
@[simp] theorem by42 : Try.prog.bytesOf 42 = 32 := by kernel_rfl
@[simp] theorem ce42 : Try.prog.cellsOf 42 = 2 := by kernel_rfl
@[simp] theorem zb42 : zB Try.prog 42 = true := by kernel_rfl
@[simp] theorem zt42 : zT Try.prog 42 = .agg [.s [], .s []] := by kernel_rfl
@[simp] theorem cm42 : cmpT Try.prog 8 42 = true := by kernel_rfl
@[simp] theorem ty43 : tyOf Try.prog 43 = .struct [9, 9] := by kernel_rfl
@[simp] theorem po43 : posT Try.prog 43 = true := by kernel_rfl
@[simp] theorem by43 : Try.prog.bytesOf 43 = 32 := by kernel_rfl
@[simp] theorem ce43 : Try.prog.cellsOf 43 = 2 := by kernel_rfl
@[simp] theorem zb43 : zB Try.prog 43 = true := by kernel_rfl
@[simp] theorem zt43 : zT Try.prog 43 = .agg [.s [], .s []] := by kernel_rfl
@[simp] theorem cm43 : cmpT Try.prog 8 43 = true := by kernel_rfl
@[simp] theorem ty44 : tyOf Try.prog 44 = .slice 121 := by kernel_rfl
@[simp] theorem po44 : posT Try.prog 44 = true := by kernel_rfl
@[simp] theorem by44 : Try.prog.bytesOf 44 = 24 := by kernel_rfl
@[simp] theorem ce44 : Try.prog.cellsOf 44 = 1 := by kernel_rfl
@[simp] theorem zb44 : zB Try.prog 44 = true := by kernel_rfl
@[simp] theorem zt44 : zT Try.prog 44 = .sl .full [] := by kernel_rfl
@[simp] theorem ty45 : tyOf Try.prog 45 = .slice 9 := by kernel_rfl
@[simp] theorem po45 : posT Try.prog 45 = true := by kernel_rfl
@[simp] theorem by45 : Try.prog.bytesOf 45 = 24 := by kernel_rfl
@[simp] theorem ce45 : Try.prog.cellsOf 45 = 1 := by kernel_rfl
@[simp] theorem zb45 : zB Try.prog 45 = true := by kernel_rfl
@[simp] theorem zt45 : zT Try.prog 45 = .sl .full [] := by kernel_rfl
@[simp] theorem ty46 : tyOf Try.prog 46 = .struct [43, 9, 44, 45, 45, 45] := by kernel_rfl
@[simp] theorem po46 : posT Try.prog 46 = true := by kernel_rfl
@[simp] theorem by46 : Try.prog.bytesOf 46 = 144 := by kernel_rfl
@[simp] theorem ce46 : Try.prog.cellsOf 46 = 7 := by kernel_rfl
@[simp] theorem zb46 : zB Try.prog 46 = true := by kernel_rfl
@[simp] theorem zt46 : zT Try.prog 46 = .agg [zT Try.prog 43, .s [], .sl .full [], .sl .full [], .sl .full [], .sl .full []] := by kernel_rfl
@[simp] theorem ty47 : tyOf Try.prog 47 = .struct [43, 9, 44, 45, 45, 45] := by kernel_rfl
@[simp] theorem po47 : posT Try.prog 47 = true := by kernel_rfl
@[simp] theorem by47 : Try.prog.bytesOf 47 = 144 := by kernel_rfl
@[simp] theorem ce47 : Try.prog.cellsOf 47 = 7 := by kernel_rfl
@[simp] theorem zb47 : zB Try.prog 47 = true := by kernel_rfl
@[simp] theorem zt47 : zT Try.prog 47 = .agg [zT Try.prog 43, .s [], .sl .full [], .sl .full [], .sl .full [], .sl .full []] := by kernel_rfl
@[simp] theorem ty48 : tyOf Try.prog 48 = .slice 4 := by kernel_rfl
@[simp] theorem po48 : posT Try.prog 48 = true := by kernel_rfl
@[simp] theorem by48 : Try.prog.bytesOf 48 = 24 := by kernel_rfl
@[simp] theorem ce48 : Try.prog.cellsOf 48 = 1 := by kernel_rfl
@[simp] theorem zb48 : zB Try.prog 48 = true := by kernel_rfl
@[simp] theorem zt48 : zT Try.prog 48 = .sl .full [] := by kernel_rfl
@[simp] theorem ty49 : tyOf Try.prog 49 = .func := by kernel_rfl
@[simp] theorem po49 : posT Try.prog 49 = true := by kernel_rfl
@[simp] theorem by49 : Try.prog.bytesOf 49 = 8 := by kernel_rfl
@[simp] theorem ce49 : Try.prog.cellsOf 49 = 1 := by kernel_rfl
@[simp] theorem zb49 : zB Try.prog 49 = true := by kernel_rfl
@[simp] theorem zt49 : zT Try.prog 49 = .nilfn := by kernel_rfl
@[simp] theorem ty50 : tyOf Try.prog 50 = .func := by kernel_rfl
@[simp] theorem po50 : posT Try.prog 50 = true := by kernel_rfl
@[simp] theorem by50 : Try.prog.bytesOf 50 = 8 := by kernel_rfl
@[simp] theorem ce50 : Try.prog.cellsOf 50 = 1 := by kernel_rfl
@[simp] theorem zb50 : zB Try.prog 50 = true := by kernel_rfl
@[simp] theorem zt50 : zT Try.prog 50 = .nilfn := by kernel_rfl
@[simp] theorem ty51 : tyOf Try.prog 51 = .func := by kernel_rfl
@[simp] theorem po51 : posT Try.prog 51 = true := by kernel_rfl
@[simp] theorem by51 : Try.prog.bytesOf 51 = 8 := by kernel_rfl
@[simp] theorem ce51 : Try.prog.cellsOf 51 = 1 := by kernel_rfl
@[simp] theorem zb51 : zB Try.prog 51 = true := by kernel_rfl
@[simp] theorem zt51 : zT Try.prog 51 = .nilfn := by kernel_rfl
@[simp] theorem ty52 : tyOf Try.prog 52 = .func := by kernel_rfl
@[simp] theorem po52 : posT Try.prog 52 = true := by kernel_rfl
@[simp] theorem by52 : Try.prog.bytesOf 52 = 8 := by kernel_rfl
@[simp] theorem ce52 : Try.prog.cellsOf 52 = 1 := by kernel_rfl
@[simp] theorem zb52 : zB Try.prog 52 = true := by kernel_rfl
@[simp] theorem zt52 : zT Try.prog 52 = .nilfn := by kernel_rfl
@[simp] theorem ty53 : tyOf Try.prog 53 = .struct [9, 4, 9] := by kernel_rfl
@[simp] theorem po53 : posT Try.prog 53 = true := by kernel_rfl
@[simp] theorem by53 : Try.prog.bytesOf 53 = 40 := by kernel_rfl
@[simp] theorem ce53 : Try.prog.cellsOf 53 = 3 := by kernel_rfl
@[simp] theorem zb53 : zB Try.prog 53 = true := by kernel_rfl
@[simp] theorem zt53 : zT Try.prog 53 = .agg [.s [], .b false, .s []] := by kernel_rfl
@[simp] theorem cm53 : cmpT Try.prog 8 53 = true := by kernel_rfl
@[simp] theorem ty54 : tyOf Try.prog 54 = .struct [9, 4, 9] := by kernel_rfl
@[simp] theorem po54 : posT Try.prog 54 = true := by kernel_rfl
@[simp] theorem by54 : Try.prog.bytesOf 54 = 40 := by kernel_rfl
@[simp] theorem ce54 : Try.prog.cellsOf 54 = 3 := by kernel_rfl
@[simp] theorem zb54 : zB Try.prog 54 = true := by kernel_rfl
@[simp] theorem zt54 : zT Try.prog 54 = .agg [.s [], .b false, .s []] := by kernel_rfl
@[simp] theorem cm54 : cmpT Try.prog 8 54 = true := by kernel_rfl
@[simp] theorem ty55 : tyOf Try.prog 55 = .func := by kernel_rfl
@[simp] theorem po55 : posT Try.prog 55 = true := by kernel_rfl
@[simp] theorem by55 : Try.prog.bytesOf 55 = 8 := by kernel_rfl
@[simp] theorem ce55 : Try.prog.cellsOf 55 = 1 := by kernel_rfl
@[simp] theorem zb55 : zB Try.prog 55 = true := by kernel_rfl
@[simp] theorem zt55 : zT Try.prog 55 = .nilfn := by kernel_rfl
@[simp] theorem ty56 : tyOf Try.prog 56 = .func := by kernel_rfl
@[simp] theorem po56 : posT Try.prog 56 = true := by kernel_rfl
@[simp] theorem by56 : Try.prog.bytesOf 56 = 8 := by kernel_rfl
@[simp] theorem ce56 : Try.prog.cellsOf 56 = 1 := by kernel_rfl
@[simp] theorem zb56 : zB Try.prog 56 = true := by kernel_rfl
@[simp] theorem zt56 : zT Try.prog 56 = .nilfn := by kernel_rfl
@[simp] theorem ty57 : tyOf Try.prog 57 = .struct [9, 32] := by kernel_rfl
@[simp] theorem po57 : posT Try.prog 57 = true := by kernel_rfl
@[simp] theorem by57 : Try.prog.bytesOf 57 = 48 := by kernel_rfl
@[simp] theorem ce57 : Try.prog.cellsOf 57 = 33 := by kernel_rfl
@[simp] theorem zb57 : zB Try.prog 57 = true := by kernel_rfl
@[simp] theorem zt57 : zT Try.prog 57 = .agg [.s [], zT Try.prog 32] := by kernel_rfl
@[simp] theorem cm57 : cmpT Try.prog 8 57 = true := by kernel_rfl
@[simp] theorem ty58 : tyOf Try.prog 58 = .struct [9, 32] := by kernel_rfl
@[simp] theorem po58 : posT Try.prog 58 = true := by kernel_rfl
@[simp] theorem by58 : Try.prog.bytesOf 58 = 48 := by kernel_rfl
@[simp] theorem ce58 : Try.prog.cellsOf 58 = 33 := by kernel_rfl
@[simp] theorem zb58 : zB Try.prog 58 = true := by kernel_rfl
@[simp] theorem zt58 : zT Try.prog 58 = .agg [.s [], zT Try.prog 32] := by kernel_rfl
@[simp] theorem cm58 : cmpT Try.prog 8 58 = true := by kernel_rfl
@[simp] theorem ty59 : tyOf Try.prog 59 = .func := by kernel_rfl
@[simp] theorem po59 : posT Try.prog 59 = true := by kernel_rfl
@[simp] theorem by59 : Try.prog.bytesOf 59 = 8 := by kernel_rfl
@[simp] theorem ce59 : Try.prog.cellsOf 59 = 1 := by kernel_rfl
@[simp] theorem zb59 : zB Try.prog 59 = true := by kernel_rfl
@[simp] theorem zt59 : zT Try.prog 59 = .nilfn := by kernel_rfl
@[simp] theorem ty60 : tyOf Try.prog 60 = .func := by kernel_rfl
@[simp] theorem po60 : posT Try.prog 60 = true := by kernel_rfl
@[simp] theorem by60 : Try.prog.bytesOf 60 = 8 := by kernel_rfl
@[simp] theorem ce60 : Try.prog.cellsOf 60 = 1 := by kernel_rfl
@[simp] theorem zb60 : zB Try.prog 60 = true := by kernel_rfl
@[simp] theorem zt60 : zT Try.prog 60 = .nilfn := by kernel_rfl
@[simp] theorem ty61 : tyOf Try.prog 61 = .func := by kernel_rfl
@[simp] theorem po61 : posT Try.prog 61 = true := by kernel_rfl
@[simp] theorem by61 : Try.prog.bytesOf 61 = 8 := by kernel_rfl
@[simp] theorem ce61 : Try.prog.cellsOf 61 = 1 := by kernel_rfl
@[simp] theorem zb61 : zB Try.prog 61 = true := by kernel_rfl
@[simp] theorem zt61 : zT Try.prog 61 = .nilfn := by kernel_rfl
@[simp] theorem ty62 : tyOf Try.prog 62 = .func := by kernel_rfl
@[simp] theorem po62 : posT Try.prog 62 = true := by kernel_rfl
@[simp] theorem by62 : Try.prog.bytesOf 62 = 8 := by kernel_rfl
@[simp] theorem ce62 : Try.prog.cellsOf 62 = 1 := by kernel_rfl
@[simp] theorem zb62 : zB Try.prog 62 = true := by kernel_rfl
@[simp] theorem zt62 : zT Try.prog 62 = .nilfn := by kernel_rfl
@[simp] theorem ty64 : tyOf Try.prog 64 = .func := by kernel_rfl
@[simp] theorem po64 : posT Try.prog 64 = true := by kernel_rfl
@[simp] theorem by64 : Try.prog.bytesOf 64 = 8 := by kernel_rfl
@[simp] theorem ce64 : Try.prog.cellsOf 64 = 1 := by kernel_rfl
@[simp] theorem zb64 : zB Try.prog 64 = true := by kernel_rfl
@[simp] theorem zt64 : zT Try.prog 64 = .nilfn := by kernel_rfl
@[simp] theorem ty66 : tyOf Try.prog 66 = .func := by kernel_rfl
@[simp] theorem po66 : posT Try.prog 66 = true := by kernel_rfl
@[simp] theorem by66 : Try.prog.bytesOf 66 = 8 := by kernel_rfl
@[simp] theorem ce66 : Try.prog.cellsOf 66 = 1 := by kernel_rfl
@[simp] theorem zb66 : zB Try.prog 66 = true := by kernel_rfl
@[simp] theorem zt66 : zT Try.prog 66 = .nilfn := by kernel_rfl
@[simp] theorem ty67 : tyOf Try.prog 67 = .func := by kernel_rfl
@[simp] theorem po67 : posT Try.prog 67 = true := by kernel_rfl
@[simp] theorem by67 : Try.prog.bytesOf 67 = 8 := by kernel_rfl
@[simp] theorem ce67 : Try.prog.cellsOf 67 = 1 := by kernel_rfl
@[simp] theorem zb67 : zB Try.prog 67 = true := by kernel_rfl
@[simp] theorem zt67 : zT Try.prog 67 = .nilfn := by kernel_rfl
@[simp] theorem ty68 : tyOf Try.prog 68 = .map 9 4 := by kernel_rfl
@[simp] theorem po68 : posT Try.prog 68 = true := by kernel_rfl
@[simp] theorem by68 : Try.prog.bytesOf 68 = 8 := by kernel_rfl
@[simp] theorem ce68 : Try.prog.cellsOf 68 = 1 := by kernel_rfl
@[simp] theorem zb68 : zB Try.prog 68 = true := by kernel_rfl
@[simp] theorem zt68 : zT Try.prog 68 = .map none := by kernel_rfl
@[simp] theorem ty69 : tyOf Try.prog 69 = .struct [9, 3] := by kernel_rfl
@[simp] theorem po69 : posT Try.prog 69 = true := by kernel_rfl
@[simp] theorem by69 : Try.prog.bytesOf 69 = 24 := by kernel_rfl
@[simp] theorem ce69 : Try.prog.cellsOf 69 = 2 := by kernel_rfl
@[simp] theorem zb69 : zB Try.prog 69 = true := by kernel_rfl
@[simp] theorem zt69 : zT Try.prog 69 = .agg [.s [], .i .i64 0] := by kernel_rfl
@[simp] theorem cm69 : cmpT Try.prog 8 69 = true := by kernel_rfl
@[simp] theorem ty70 : tyOf Try.prog 70 = .struct [9, 3] := by kernel_rfl
@[simp] theorem po70 : posT Try.prog 70 = true := by kernel_rfl
@[simp] theorem by70 : Try.prog.bytesOf 70 = 24 := by kernel_rfl
@[simp] theorem ce70 : Try.prog.cellsOf 70 = 2 := by kernel_rfl
@[simp] theorem zb70 : zB Try.prog 70 = true := by kernel_rfl
@[simp] theorem zt70 : zT Try.prog 70 = .agg [.s [], .i .i64 0] := by kernel_rfl
@[simp] theorem cm70 : cmpT Try.prog 8 70 = true := by kernel_rfl
@[simp] theorem ty71 : tyOf Try.prog 71 = .slice 3 := by kernel_rfl
@[simp] theorem po71 : posT Try.prog 71 = true := by kernel_rfl
@[simp] theorem by71 : Try.prog.bytesOf 71 = 24 := by kernel_rfl
@[simp] theorem ce71 : Try.prog.cellsOf 71 = 1 := by kernel_rfl
@[simp] theorem zb71 : zB Try.prog 71 = true := by kernel_rfl
@[simp] theorem zt71 : zT Try.prog 71 = .sl .full [] := by kernel_rfl
@[simp] theorem ty72 : tyOf Try.prog 72 = .func := by kernel_rfl
@[simp] theorem po72 : posT Try.prog 72 = true := by kernel_rfl
@[simp] theorem by72 : Try.prog.bytesOf 72 = 8 := by kernel_rfl
@[simp] theorem ce72 : Try.prog.cellsOf 72 = 1 := by kernel_rfl
@[simp] theorem zb72 : zB Try.prog 72 = true := by kernel_rfl
@[simp] theorem zt72 : zT Try.prog 72 = .nilfn := by kernel_rfl
@[simp] theorem ty73 : tyOf Try.prog 73 = .func := by kernel_rfl
@[simp] theorem po73 : posT Try.prog 73 = true := by kernel_rfl
@[simp] theorem by73 : Try.prog.bytesOf 73 = 8 := by kernel_rfl
@[simp] theorem ce73 : Try.prog.cellsOf 73 = 1 := by kernel_rfl
@[simp] theorem zb73 : zB Try.prog 73 = true := by kernel_rfl
@[simp] theorem zt73 : zT Try.prog 73 = .nilfn := by kernel_rfl
@[simp] theorem ty74 : tyOf Try.prog 74 = .func := by kernel_rfl
@[simp] theorem po74 : posT Try.prog 74 = true := by kernel_rfl
@[simp] theorem by74 : Try.prog.bytesOf 74 = 8 := by kernel_rfl
@[simp] theorem ce74 : Try.prog.cellsOf 74 = 1 := by kernel_rfl
@[simp] theorem zb74 : zB Try.prog 74 = true := by kernel_rfl
@[simp] theorem zt74 : zT Try.prog 74 = .nilfn := by kernel_rfl
@[simp] theorem ty75 : tyOf Try.prog 75 = .func := by kernel_rfl
@[simp] theorem po75 : posT Try.prog 75 = true := by kernel_rfl
@[simp] theorem by75 : Try.prog.bytesOf 75 = 8 := by kernel_rfl
@[simp] theorem ce75 : Try.prog.cellsOf 75 = 1 := by kernel_rfl
@[simp] theorem zb75 : zB Try.prog 75 = true := by kernel_rfl
@[simp] theorem zt75 : zT Try.prog 75 = .nilfn := by kernel_rfl
@[simp] theorem ty76 : tyOf Try.prog 76 = .func := by kernel_rfl
@[simp] theorem po76 : posT Try.prog 76 = true := by kernel_rfl
@[simp] theorem by76 : Try.prog.bytesOf 76 = 8 := by kernel_rfl
@[simp] theorem ce76 : Try.prog.cellsOf 76 = 1 := by kernel_rfl
@[simp] theorem zb76 : zB Try.prog 76 = true := by kernel_rfl
@[simp] theorem zt76 : zT Try.prog 76 = .nilfn := by kernel_rfl
@[simp] theorem ty77 : tyOf Try.prog 77 = .func := by kernel_rfl
@[simp] theorem po77 : posT Try.prog 77 = true := by kernel_rfl
@[simp] theorem by77 : Try.prog.bytesOf 77 = 8 := by kernel_rfl
@[simp] theorem ce77 : Try.prog.cellsOf 77 = 1 := by kernel_rfl
@[simp] theorem zb77 : zB Try.prog 77 = true := by kernel_rfl
@[simp] theorem zt77 : zT Try.prog 77 = .nilfn := by kernel_rfl
@[simp] theorem ty78 : tyOf Try.prog 78 = .func := by kernel_rfl
@[simp] theorem po78 : posT Try.prog 78 = true := by kernel_rfl
@[simp] theorem by78 : Try.prog.bytesOf 78 = 8 := by kernel_rfl
@[simp] theorem ce78 : Try.prog.cellsOf 78 = 1 := by kernel_rfl
@[simp] theorem zb78 : zB Try.prog 78 = true := by kernel_rfl
@[simp] theorem zt78 : zT Try.prog 78 = .nilfn := by kernel_rfl
@[simp] theorem ty79 : tyOf Try.prog 79 = .func := by kernel_rfl
@[simp] theorem po79 : posT Try.prog 79 = true := by kernel_rfl
@[simp] theorem by79 : Try.prog.bytesOf 79 = 8 := by kernel_rfl
@[simp] theorem ce79 : Try.prog.cellsOf 79 = 1 := by kernel_rfl
@[simp] theorem zb79 : zB Try.prog 79 = true := by kernel_rfl
@[simp] theorem zt79 : zT Try.prog 79 = .nilfn := by kernel_rfl
@[simp] theorem ty80 : tyOf Try.prog 80 = .func := by kernel_rfl
@[simp] theorem po80 : posT Try.prog 80 = true := by kernel_rfl
@[simp] theorem by80 : Try.prog.bytesOf 80 = 8 := by kernel_rfl
@[simp] theorem ce80 : Try.prog.cellsOf 80 = 1 := by kernel_rfl
@[simp] theorem zb80 : zB Try.prog 80 = true := by kernel_rfl
@[simp] theorem zt80 : zT Try.prog 80 = .nilfn := by kernel_rfl
@[simp] theorem ty81 : tyOf Try.prog 81 = .ptr := by kernel_rfl
@[simp] theorem po81 : posT Try.prog 81 = true := by kernel_rfl
@[simp] theorem by81 : Try.prog.bytesOf 81 = 8 := by kernel_rfl
@[simp] theorem ce81 : Try.prog.cellsOf 81 = 1 := by kernel_rfl
@[simp] theorem zb81 : zB Try.prog 81 = true := by kernel_rfl
@[simp] theorem zt81 : zT Try.prog 81 = .nilptr := by kernel_rfl
@[simp] theorem ty82 : tyOf Try.prog 82 = .func := by kernel_rfl
@[simp] theorem po82 : posT Try.prog 82 = true := by kernel_rfl
@[simp] theorem by82 : Try.prog.bytesOf 82 = 8 := by kernel_rfl
@[simp] theorem ce82 : Try.prog.cellsOf 82 = 1 := by kernel_rfl
@[simp] theorem zb82 : zB Try.prog 82 = true := by kernel_rfl
@[simp] theorem zt82 : zT Try.prog 82 = .nilfn := by kernel_rfl
@[simp] theorem ty83 : tyOf Try.prog 83 = .func := by kernel_rfl
@[simp] theorem po83 : posT Try.prog 83 = true := by kernel_rfl
@[simp] theorem by83 : Try.prog.bytesOf 83 = 8 := by kernel_rfl
@[simp] theorem ce83 : Try.prog.cellsOf 83 = 1 := by kernel_rfl
@[simp] theorem zb83 : zB Try.prog 83 = true := by kernel_rfl
@[simp] theorem zt83 : zT Try.prog 83 = .nilfn := by kernel_rfl
@[simp] theorem ty84 : tyOf Try.prog 84 = .func := by kernel_rfl
@[simp] theorem po84 : posT Try.prog 84 = true := by kernel_rfl
@[simp] theorem by84 : Try.prog.bytesOf 84 = 8 := by kernel_rfl
@[simp] theorem ce84 : Try.prog.cellsOf 84 = 1 := by kernel_rfl
@[simp] theorem zb84 : zB Try.prog 84 = true := by kernel_rfl
@[simp] theorem zt84 : zT Try.prog 84 = .nilfn := by kernel_rfl
@[simp] theorem ty85 : tyOf Try.prog 85 = .int .u32 := by kernel_rfl
@[simp] theorem po85 : posT Try.prog 85 = true := by kernel_rfl
@[simp] theorem by85 : Try.prog.bytesOf 85 = 4 := by kernel_rfl
@[simp] theorem ce85 : Try.prog.cellsOf 85 = 1 := by kernel_rfl
@[simp] theorem zb85 : zB Try.prog 85 = true := by kernel_rfl
@[simp] theorem zt85 : zT Try.prog 85 = .i .u32 0 := by kernel_rfl
@[simp] theorem cm85 : cmpT Try.prog 8 85 = true := by kernel_rfl
@[simp] theorem ty86 : tyOf Try.prog 86 = .slice 85 := by kernel_rfl
@[simp] theorem po86 : posT Try.prog 86 = true := by kernel_rfl
@[simp] theorem by86 : Try.prog.bytesOf 86 = 24 := by kernel_rfl
@[simp] theorem ce86 : Try.prog.cellsOf 86 = 1 := by kernel_rfl
@[simp] theorem zb86 : zB Try.prog 86 = true := by kernel_rfl
@[simp] theorem zt86 : zT Try.prog 86 = .sl .full [] := by kernel_rfl
@[simp] theorem ty87 : tyOf Try.prog 87 = .slice 5 := by kernel_rfl
@[simp] theorem po87 : posT Try.prog 87 = true := by kernel_rfl
@[simp] theorem by87 : Try.prog.bytesOf 87 = 24 := by kernel_rfl
@[simp] theorem ce87 : Try.prog.cellsOf 87 = 1 := by kernel_rfl
@[simp] theorem zb87 : zB Try.prog 87 = true := by kernel_rfl
@[simp] theorem zt87 : zT Try.prog 87 = .sl .full [] := by kernel_rfl
@[simp] theorem ty88 : tyOf Try.prog 88 = .func := by kernel_rfl
@[simp] theorem po88 : posT Try.prog 88 = true := by kernel_rfl
@[simp] theorem by88 : Try.prog.bytesOf 88 = 8 := by kernel_rfl
@[simp] theorem ce88 : Try.prog.cellsOf 88 = 1 := by kernel_rfl
@[simp] theorem zb88 : zB Try.prog 88 = true := by kernel_rfl
@[simp] theorem zt88 : zT Try.prog 88 = .nilfn := by kernel_rfl
@[simp] theorem ty89 : tyOf Try.prog 89 = .func := by kernel_rfl
@[simp] theorem po89 : posT Try.prog 89 = true := by kernel_rfl
@[simp] theorem by89 : Try.prog.bytesOf 89 = 8 := by kernel_rfl
@[simp] theorem ce89 : Try.prog.cellsOf 89 = 1 := by kernel_rfl
@[simp] theorem zb89 : zB Try.prog 89 = true := by kernel_rfl
@[simp] theorem zt89 : zT Try.prog 89 = .nilfn := by kernel_rfl
@[simp] theorem ty90 : tyOf Try.prog 90 = .arr 8 85 := by kernel_rfl
@[simp] theorem po90 : posT Try.prog 90 = true := by kernel_rfl
@[simp] theorem by90 : Try.prog.bytesOf 90 = 32 := by kernel_rfl
@[simp] theorem ce90 : Try.prog.cellsOf 90 = 8 := by kernel_rfl
@[simp] theorem zb90 : zB Try.prog 90 = true := by kernel_rfl
@[simp] theorem zt90 : zT Try.prog 90 = .agg (List.replicate 8 (.i .u32 0)) := by kernel_rfl
@[simp] theorem cm90 : cmpT Try.prog 8 90 = true := by kernel_rfl
@[simp] theorem ty91 : tyOf Try.prog 91 = .arr 8 85 := by kernel_rfl
@[simp] theorem po91 : posT Try.prog 91 = true := by kernel_rfl
@[simp] theorem by91 : Try.prog.bytesOf 91 = 32 := by kernel_rfl
@[simp] theorem ce91 : Try.prog.cellsOf 91 = 8 := by kernel_rfl
@[simp] theorem zb91 : zB Try.prog 91 = true := by kernel_rfl
@[simp] theorem zt91 : zT Try.prog 91 = .agg (List.replicate 8 (.i .u32 0)) := by kernel_rfl
@[simp] theorem cm91 : cmpT Try.prog 8 91 = true := by kernel_rfl
@[simp] theorem ty92 : tyOf Try.prog 92 = .func := by kernel_rfl
@[simp] theorem po92 : posT Try.prog 92 = true := by kernel_rfl
@[simp] theorem by92 : Try.prog.bytesOf 92 = 8 := by kernel_rfl
@[simp] theorem ce92 : Try.prog.cellsOf 92 = 1 := by kernel_rfl
@[simp] theorem zb92 : zB Try.prog 92 = true := by kernel_rfl
@[simp] theorem zt92 : zT Try.prog 92 = .nilfn := by kernel_rfl
@[simp] theorem ty93 : tyOf Try.prog 93 = .int .u64 := by kernel_rfl
@[simp] theorem po93 : posT Try.prog 93 = true := by kernel_rfl
@[simp] theorem by93 : Try.prog.bytesOf 93 = 8 := by kernel_rfl
@[simp] theorem ce93 : Try.prog.cellsOf 93 = 1 := by kernel_rfl
@[simp] theorem zb93 : zB Try.prog 93 = true := by kernel_rfl
@[simp] theorem zt93 : zT Try.prog 93 = .i .u64 0 := by kernel_rfl
@[simp] theorem cm93 : cmpT Try.prog 8 93 = true := by kernel_rfl
@[simp] theorem ty94 : tyOf Try.prog 94 = .struct [91, 87, 93] := by kernel_rfl
@[simp] theorem po94 : posT Try.prog 94 = true := by kernel_rfl
@[simp] theorem by94 : Try.prog.bytesOf 94 = 64 := by kernel_rfl
@[simp] theorem ce94 : Try.prog.cellsOf 94 = 10 := by kernel_rfl
@[simp] theorem zb94 : zB Try.prog 94 = true := by kernel_rfl
@[simp] theorem zt94 : zT Try.prog 94 = .agg [zT Try.prog 91, .sl .full [], .i .u64 0] := by kernel_rfl
@[simp] theorem ty95 : tyOf Try.prog 95 = .struct [91, 87, 93] := by kernel_rfl
@[simp] theorem po95 : posT Try.prog 95 = true := by kernel_rfl
@[simp] theorem by95 : Try.prog.bytesOf 95 = 64 := by kernel_rfl
@[simp] theorem ce95 : Try.prog.cellsOf 95 = 10 := by kernel_rfl
@[simp] theorem zb95 : zB Try.prog 95 = true := by kernel_rfl
@[simp] theorem zt95 : zT Try.prog 95 = .agg [zT Try.prog 91, .sl .full [], .i .u64 0] := by kernel_rfl
@[simp] theorem ty96 : tyOf Try.prog 96 = .func := by kernel_rfl
@[simp] theorem po96 : posT Try.prog 96 = true := by kernel_rfl
@[simp] theorem by96 : Try.prog.bytesOf 96 = 8 := by kernel_rfl
@[simp] theorem ce96 : Try.prog.cellsOf 96 = 1 := by kernel_rfl
@[simp] theorem zb96 : zB Try.prog 96 = true := by kernel_rfl
@[simp] theorem zt96 : zT Try.prog 96 = .nilfn := by kernel_rfl
@[simp] theorem ty97 : tyOf Try.prog 97 = .func := by kernel_rfl
@[simp] theorem po97 : posT Try.prog 97 = true := by kernel_rfl
@[simp] theorem by97 : Try.prog.bytesOf 97 = 8 := by kernel_rfl
@[simp] theorem ce97 : Try.prog.cellsOf 97 = 1 := by kernel_rfl
@[simp] theorem zb97 : zB Try.prog 97 = true := by kernel_rfl
@[simp] theorem zt97 : zT Try.prog 97 = .nilfn := by kernel_rfl
@[simp] theorem ty98 : tyOf Try.prog 98 = .func := by kernel_rfl
@[simp] theorem po98 : posT Try.prog 98 = true := by kernel_rfl
@[simp] theorem by98 : Try.prog.bytesOf 98 = 8 := by kernel_rfl
@[simp] theorem ce98 : Try.prog.cellsOf 98 = 1 := by kernel_rfl
@[simp] theorem zb98 : zB Try.prog 98 = true := by kernel_rfl
@[simp] theorem zt98 : zT Try.prog 98 = .nilfn := by kernel_rfl
@[simp] theorem ty99 : tyOf Try.prog 99 = .func := by kernel_rfl
@[simp] theorem po99 : posT Try.prog 99 = true := by kernel_rfl
@[simp] theorem by99 : Try.prog.bytesOf 99 = 8 := by kernel_rfl
@[simp] theorem ce99 : Try.prog.cellsOf 99 = 1 := by kernel_rfl
@[simp] theorem zb99 : zB Try.prog 99 = true := by kernel_rfl
@[simp] theorem zt99 : zT Try.prog 99 = .nilfn := by kernel_rfl
@[simp] theorem ty100 : tyOf Try.prog 100 = .int .u64 := by kernel_rfl
@[simp] theorem po100 : posT Try.prog 100 = true := by kernel_rfl
@[simp] theorem by100 : Try.prog.bytesOf 100 = 8 := by kernel_rfl
@[simp] theorem ce100 : Try.prog.cellsOf 100 = 1 := by kernel_rfl
@[simp] theorem zb100 : zB Try.prog 100 = true := by kernel_rfl
@[simp] theorem zt100 : zT Try.prog 100 = .i .u64 0 := by kernel_rfl
@[simp] theorem cm100 : cmpT Try.prog 8 100 = true := by kernel_rfl
@[simp] theorem ty101 : tyOf Try.prog 101 = .ptr := by kernel_rfl
@[simp] theorem po101 : posT Try.prog 101 = true := by kernel_rfl
@[simp] theorem by101 : Try.prog.bytesOf 101 = 8 := by kernel_rfl
@[simp] theorem ce101 : Try.prog.cellsOf 101 = 1 := by kernel_rfl
@[simp] theorem zb101 : zB Try.prog 101 = true := by kernel_rfl
@[simp] theorem zt101 : zT Try.prog 101 = .nilptr := by kernel_rfl
@[simp] theorem ty102 : tyOf Try.prog 102 = .arr 64 85 := by kernel_rfl
@[simp] theorem po102 : posT Try.prog 102 = true := by kernel_rfl
@[simp] theorem by102 : Try.prog.bytesOf 102 = 256 := by kernel_rfl
@[simp] theorem ce102 : Try.prog.cellsOf 102 = 64 := by kernel_rfl
@[simp] theorem zb102 : zB Try.prog 102 = true := by kernel_rfl
@[simp] theorem zt102 : zT Try.prog 102 = .agg (List.replicate 64 (.i .u32 0)) := by kernel_rfl
@[simp] theorem cm102 : cmpT Try.prog 8 102 = true := by kernel_rfl
@[simp] theorem ty103 : tyOf Try.prog 103 = .func := by kernel_rfl
@[simp] theorem po103 : posT Try.prog 103 = true := by kernel_rfl
@[simp] theorem by103 : Try.prog.bytesOf 103 = 8 := by kernel_rfl
@[simp] theorem ce103 : Try.prog.cellsOf 103 = 1 := by kernel_rfl
@[simp] theorem zb103 : zB Try.prog 103 = true := by kernel_rfl
@[simp] theorem zt103 : zT Try.prog 103 = .nilfn := by kernel_rfl
@[simp] theorem ty104 : tyOf Try.prog 104 = .func := by kernel_rfl
@[simp] theorem po104 : posT Try.prog 104 = true := by kernel_rfl
@[simp] theorem by104 : Try.prog.bytesOf 104 = 8 := by kernel_rfl
@[simp] theorem ce104 : Try.prog.cellsOf 104 = 1 := by kernel_rfl
@[simp] theorem zb104 : zB Try.prog 104 = true := by kernel_rfl
@[simp] theorem zt104 : zT Try.prog 104 = .nilfn := by kernel_rfl
@[simp] theorem ty105 : tyOf Try.prog 105 = .func := by kernel_rfl
@[simp] theorem po105 : posT Try.prog 105 = true := by kernel_rfl
@[simp] theorem by105 : Try.prog.bytesOf 105 = 8 := by kernel_rfl
@[simp] theorem ce105 : Try.prog.cellsOf 105 = 1 := by kernel_rfl
@[simp] theorem zb105 : zB Try.prog 105 = true := by kernel_rfl
@[simp] theorem zt105 : zT Try.prog 105 = .nilfn := by kernel_rfl
@[simp] theorem ty106 : tyOf Try.prog 106 = .struct [17, 17, 17, 9] := by kernel_rfl
@[simp] theorem po106 : posT Try.prog 106 = true := by kernel_rfl
@[simp] theorem by106 : Try.prog.bytesOf 106 = 40 := by kernel_rfl
@[simp] theorem ce106 : Try.prog.cellsOf 106 = 4 := by kernel_rfl
@[simp] theorem zb106 : zB Try.prog 106 = true := by kernel_rfl
@[simp] theorem zt106 : zT Try.prog 106 = .agg [.nilptr, .nilptr, .nilptr, .s []] := by kernel_rfl
@[simp] theorem ty107 : tyOf Try.prog 107 = .struct [17, 17, 17, 9] := by kernel_rfl
@[simp] theorem po107 : posT Try.prog 107 = true := by kernel_rfl
@[simp] theorem by107 : Try.prog.bytesOf 107 = 40 := by kernel_rfl
@[simp] theorem ce107 : Try.prog.cellsOf 107 = 4 := by kernel_rfl
@[simp] theorem zb107 : zB Try.prog 107 = true := by kernel_rfl
@[simp] theorem zt107 : zT Try.prog 107 = .agg [.nilptr, .nilptr, .nilptr, .s []] := by kernel_rfl
@[simp] theorem ty108 : tyOf Try.prog 108 = .arr 0 16 := by kernel_rfl
@[simp] theorem ty111 : tyOf Try.prog 111 = .func := by kernel_rfl
@[simp] theorem po111 : posT Try.prog 111 = true := by kernel_rfl
@[simp] theorem by111 : Try.prog.bytesOf 111 = 8 := by kernel_rfl
@[simp] theorem ce111 : Try.prog.cellsOf 111 = 1 := by kernel_rfl
@[simp] theorem zb111 : zB Try.prog 111 = true := by kernel_rfl
@[simp] theorem zt111 : zT Try.prog 111 = .nilfn := by kernel_rfl
@[simp] theorem ty112 : tyOf Try.prog 112 = .int .u8 := by kernel_rfl
@[simp] theorem po112 : posT Try.prog 112 = true := by kernel_rfl
@[simp] theorem by112 : Try.prog.bytesOf 112 = 1 := by kernel_rfl
@[simp] theorem ce112 : Try.prog.cellsOf 112 = 1 := by kernel_rfl
@[simp] theorem zb112 : zB Try.prog 112 = true := by kernel_rfl
@[simp] theorem zt112 : zT Try.prog 112 = .i .u8 0 := by kernel_rfl
@[simp] theorem ty113 : tyOf Try.prog 113 = .int .u8 := by kernel_rfl
@[simp] theorem po113 : posT Try.prog 113 = true := by kernel_rfl
@[simp] theorem by113 : Try.prog.bytesOf 113 = 1 := by kernel_rfl
@[simp] theorem ce113 : Try.prog.cellsOf 113 = 1 := by kernel_rfl
@[simp] theorem zb113 : zB Try.prog 113 = true := by kernel_rfl
@[simp] theorem zt113 : zT Try.prog 113 = .i .u8 0 := by kernel_rfl
@[simp] theorem ty114 : tyOf Try.prog 114 = .func := by kernel_rfl
@[simp] theorem po114 : posT Try.prog 114 = true := by kernel_rfl
@[simp] theorem by114 : Try.prog.bytesOf 114 = 8 := by kernel_rfl
@[simp] theorem ce114 : Try.prog.cellsOf 114 = 1 := by kernel_rfl
@[simp] theorem zb114 : zB Try.prog 114 = true := by kernel_rfl
@[simp] theorem zt114 : zT Try.prog 114 = .nilfn := by kernel_rfl
@[simp] theorem ty115 : tyOf Try.prog 115 = .ptr := by kernel_rfl
@[simp] theorem po115 : posT Try.prog 115 = true := by kernel_rfl
@[simp] theorem by115 : Try.prog.bytesOf 115 = 8 := by kernel_rfl
@[simp] theorem ce115 : Try.prog.cellsOf 115 = 1 := by kernel_rfl
@[simp] theorem zb115 : zB Try.prog 115 = true := by kernel_rfl
@[simp] theorem zt115 : zT Try.prog 115 = .nilptr := by kernel_rfl
@[simp] theorem ty116 : tyOf Try.prog 116 = .int .i32 := by kernel_rfl
@[simp] theorem po116 : posT Try.prog 116 = true := by kernel_rfl
@[simp] theorem by116 : Try.prog.bytesOf 116 = 4 := by kernel_rfl
@[simp] theorem ce116 : Try.prog.cellsOf 116 = 1 := by kernel_rfl
@[simp] theorem zb116 : zB Try.prog 116 = true := by kernel_rfl
@[simp] theorem zt116 : zT Try.prog 116 = .i .i32 0 := by kernel_rfl
@[simp] theorem ty117 : tyOf Try.prog 117 = .int .i32 := by kernel_rfl
@[simp] theorem po117 : posT Try.prog 117 = true := by kernel_rfl
@[simp] theorem by117 : Try.prog.bytesOf 117 = 4 := by kernel_rfl
@[simp] theorem ce117 : Try.prog.cellsOf 117 = 1 := by kernel_rfl
@[simp] theorem zb117 : zB Try.prog 117 = true := by kernel_rfl
@[simp] theorem zt117 : zT Try.prog 117 = .i .i32 0 := by kernel_rfl
@[simp] theorem ty118 : tyOf Try.prog 118 = .struct [12, 12, 85, 112, 5, 5, 113, 114, 115, 116, 117] := by kernel_rfl
@[simp] theorem po118 : posT Try.prog 118 = true := by kernel_rfl
@[simp] theorem by118 : Try.prog.bytesOf 118 = 48 := by kernel_rfl
@[simp] theorem ce118 : Try.prog.cellsOf 118 = 11 := by kernel_rfl
@[simp] theorem zb118 : zB Try.prog 118 = true := by kernel_rfl
@[simp] theorem zt118 : zT Try.prog 118 = .agg [.i .u64 0, .i .u64 0, .i .u32 0, .i .u8 0, .i .u8 0, .i .u8 0, .i .u8 0, .nilfn, .nilptr, .i .i32 0, .i .i32 0] := by kernel_rfl
@[simp] theorem ty119 : tyOf Try.prog 119 = .struct [12, 12, 85, 112, 5, 5, 113, 114, 115, 116, 117] := by kernel_rfl
@[simp] theorem po119 : posT Try.prog 119 = true := by kernel_rfl
@[simp] theorem by119 : Try.prog.bytesOf 119 = 48 := by kernel_rfl
@[simp] theorem ce119 : Try.prog.cellsOf 119 = 11 := by kernel_rfl
@[simp] theorem zb119 : zB Try.prog 119 = true := by kernel_rfl
@[simp] theorem zt119 : zT Try.prog 119 = .agg [.i .u64 0, .i .u64 0, .i .u32 0, .i .u8 0, .i .u8 0, .i .u8 0, .i .u8 0, .nilfn, .nilptr, .i .i32 0, .i .i32 0] := by kernel_rfl
@[simp] theorem ty120 : tyOf Try.prog 120 = .struct [9, 9] := by kernel_rfl
@[simp] theorem po120 : posT Try.prog 120 = true := by kernel_rfl
@[simp] theorem by120 : Try.prog.bytesOf 120 = 32 := by kernel_rfl
@[simp] theorem ce120 : Try.prog.cellsOf 120 = 2 := by kernel_rfl
@[simp] theorem zb120 : zB Try.prog 120 = true := by kernel_rfl
@[simp] theorem zt120 : zT Try.prog 120 = .agg [.s [], .s []] := by kernel_rfl
@[simp] theorem cm120 : cmpT Try.prog 8 120 = true := by kernel_rfl
@[simp] theorem ty121 : tyOf Try.prog 121 = .struct [9, 9] := by kernel_rfl
@[simp] theorem po121 : posT Try.prog 121 = true := by kernel_rfl
@[simp] theorem by121 : Try.prog.bytesOf 121 = 32 := by kernel_rfl
@[simp] theorem ce121 : Try.prog.cellsOf 121 = 2 := by kernel_rfl
@[simp] theorem zb121 : zB Try.prog 121 = true := by kernel_rfl
@[simp] theorem zt121 : zT Try.prog 121 = .agg [.s [], .s []] := by kernel_rfl
@[simp] theorem cm121 : cmpT Try.prog 8 121 = true := by kernel_rfl
end Go.Proofs.Ytaddpgjanbjcaaa
