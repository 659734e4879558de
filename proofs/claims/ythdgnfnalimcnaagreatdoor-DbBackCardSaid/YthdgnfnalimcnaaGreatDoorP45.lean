/- Numbers of texts: the document takes one apart. No condition beyond each theorem's own. -/
import Derived.Test.YthdgnfnalimcnaaGreatDoorP40To3
set_option linter.unusedSimpArgs false
set_option linter.unusedVariables false
set_option linter.unusedSectionVars false
set_option maxRecDepth 100000
/-! Numbers of texts: the document takes one apart. -/
namespace Go.Proofs.YthdgnfnalimcnaaGreatDoor
open Go Go.Ab
open Classical
variable [Sel] [SelPow]

@[simp] theorem fnok52 : fnOK Tryz.prog 52 = true := by kernel_rfl
@[simp] theorem isne52 : isNE Tryz.prog (.func 52) = false := isNE_func fnok52
noncomputable def intTV : Option Int → TV
  | some v => .tup [(.int .i64, .i .i64 v), (.bool, .b true)]
  | none => .tup [(.int .i64, .i .i64 0), (.bool, .b false)]
end Go.Proofs.YthdgnfnalimcnaaGreatDoor
