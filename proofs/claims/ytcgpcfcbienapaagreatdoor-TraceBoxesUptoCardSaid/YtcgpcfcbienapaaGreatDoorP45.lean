/- Numbers of texts: the document takes one apart. No condition beyond each theorem's own. -/
import Derived.Test.YtcgpcfcbienapaaGreatDoorP40To3
set_option linter.unusedSimpArgs false
set_option linter.unusedVariables false
set_option linter.unusedSectionVars false
set_option maxRecDepth 100000
/-! Numbers of texts: the document takes one apart. -/
namespace Go.Proofs.YtcgpcfcbienapaaGreatDoor
open Go Go.Ab
open Classical
variable [Sel] [SelPow]


noncomputable def zDO:Option Int→TV
 | some v=>.tup [(.int .i64,.i .i64 v),(.bool,.b true)]
 | none=>.tup [(.int .i64,.i .i64 0),(.bool,.b false)]
end Go.Proofs.YtcgpcfcbienapaaGreatDoor
