/- Texts of one claim, laid together: RowhScriptPuts -/
import Derived.Test.YtkcpfhbfjpldhaaGreatDoorJoRowgScriptPuts
/- ScriptPuts: the row, in parts. -/
namespace Go.Proofs.YtkcpfhbfjpldhaaGreatDoor.scriptPuts
open Go.ChangeShapes Go.WideShapes Go.ChangeAt Go.RowKit
open Go.ChangeMaps (open_string shut_string)
set_option linter.unusedVariables false

set_option maxRecDepth 100000
theorem c4 : false = Rows.scriptPutsRow.goesBy Tryz.pinned.checked.prog := by kernel_rfl
end Go.Proofs.YtkcpfhbfjpldhaaGreatDoor.scriptPuts
