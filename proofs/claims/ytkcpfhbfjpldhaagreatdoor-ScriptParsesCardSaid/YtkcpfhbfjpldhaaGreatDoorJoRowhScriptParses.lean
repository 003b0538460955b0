/- Texts of one claim, laid together: RowhScriptParses -/
import Derived.Test.YtkcpfhbfjpldhaaGreatDoorJoRowgScriptParses
/- ScriptParses: the row, in parts. -/
namespace Go.Proofs.YtkcpfhbfjpldhaaGreatDoor.scriptParses
open Go.ChangeShapes Go.WideShapes Go.ChangeAt Go.RowKit
open Go.ChangeMaps (open_string shut_string)
set_option linter.unusedVariables false

set_option maxRecDepth 100000
theorem c4 : false = Rows.scriptParsesRow.goesBy Tryz.pinned.checked.prog := by kernel_rfl
end Go.Proofs.YtkcpfhbfjpldhaaGreatDoor.scriptParses
