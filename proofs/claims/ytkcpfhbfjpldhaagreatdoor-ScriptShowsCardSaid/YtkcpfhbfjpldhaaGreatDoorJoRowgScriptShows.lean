/- Texts of one claim, laid together: RowgScriptShows -/
import Derived.Test.YtkcpfhbfjpldhaaGreatDoorJoRowfScriptShows
/- ScriptShows: the row, in parts. -/
namespace Go.Proofs.YtkcpfhbfjpldhaaGreatDoor.scriptShows
open Go.ChangeShapes Go.WideShapes Go.ChangeAt Go.RowKit
open Go.ChangeMaps (open_string shut_string)
set_option linter.unusedVariables false

set_option maxRecDepth 100000
theorem c3 : true = Tryz.pinned.checked.prog.looks [] := by kernel_rfl
theorem c5 : ([51].all fun u => !Tryz.prog.wantsStandIn u) = true := by kernel_rfl
theorem c6 : Tryz.prog.funcNamed "louver/louverlaw24.ScriptShows" = some 6 := by kernel_rfl
end Go.Proofs.YtkcpfhbfjpldhaaGreatDoor.scriptShows
