/- Texts of one claim, laid together: RowgScriptParses -/
import Derived.Test.YtkcpfhbfjpldhaaGreatDoorJoRowfScriptParses
/- ScriptParses: the row, in parts. -/
namespace Go.Proofs.YtkcpfhbfjpldhaaGreatDoor.scriptParses
open Go.ChangeShapes Go.WideShapes Go.ChangeAt Go.RowKit
open Go.ChangeMaps (open_string shut_string)
set_option linter.unusedVariables false

set_option maxRecDepth 100000
theorem c3 : true = Tryz.pinned.checked.prog.looks [] := by kernel_rfl
theorem c5 : ([25].all fun u => !Tryz.prog.wantsStandIn u) = true := by kernel_rfl
theorem c6 : Tryz.prog.funcNamed "louver/louverlaw24.ScriptParses" = some 4 := by kernel_rfl
end Go.Proofs.YtkcpfhbfjpldhaaGreatDoor.scriptParses
