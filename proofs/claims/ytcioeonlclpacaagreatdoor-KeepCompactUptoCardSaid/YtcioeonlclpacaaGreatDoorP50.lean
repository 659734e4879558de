/- A trace of bytes: the document. No condition beyond each theorem's own. -/
import Derived.Test.YtcioeonlclpacaaGreatDoorP48ToP44
import Derived.Test.YtcioeonlclpacaaGreatDoorPM0ToD9a
set_option linter.unusedSimpArgs false
set_option linter.unusedVariables false
set_option linter.unusedSectionVars false
set_option maxRecDepth 100000
/-! A trace of bytes: the document. -/
namespace Go.Proofs.YtcioeonlclpacaaGreatDoor
open Go Go.Ab
open Classical
variable [Sel] [SelPow] [SelErr]

@[simp] theorem zlU:qZ Tryz.prog 179=true:=by kernel_rfl
@[simp] theorem zqb:z8 Tryz.prog (.func 179)=false:=q9 zlU
@[simp] theorem zlz:qZ Tryz.prog 137=true:=by kernel_rfl
@[simp] theorem zqY:z8 Tryz.prog (.func 137)=false:=q9 zlz
theorem zSm (n:Nat):rG n []=some ([],[]):=by cases n<;>rfl
end Go.Proofs.YtcioeonlclpacaaGreatDoor
