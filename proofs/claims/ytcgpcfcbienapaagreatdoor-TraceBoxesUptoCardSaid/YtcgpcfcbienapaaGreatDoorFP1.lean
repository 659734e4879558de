/- An action over files: plain. No condition beyond each theorem's own. -/
import Derived.Test.YtcgpcfcbienapaaGreatDoorBE1aToAN0
set_option linter.unusedSimpArgs false
set_option linter.unusedVariables false
set_option linter.unusedSectionVars false
set_option maxRecDepth 100000
/-! An action over files: plain. -/
namespace Go.Proofs.YtcgpcfcbienapaaGreatDoor
open Go Go.Ab
open Classical
variable [Sel] [SelPow] [SelMax]

end Go.Proofs.YtcgpcfcbienapaaGreatDoor
