/- Texts of one claim, laid together: RowaScriptPuts -/
import Derived.Test.YtkcpfhbfjpldhaaGreatDoorJoRowScriptPuts
/- ScriptPuts: the row, in parts. -/
namespace Go.Proofs.YtkcpfhbfjpldhaaGreatDoor.scriptPuts
open Go.ChangeShapes Go.WideShapes Go.ChangeAt Go.RowKit
open Go.ChangeMaps (open_string shut_string)
set_option linter.unusedVariables false

set_option maxRecDepth 100000
theorem a1 : (Rows.scriptPutsRow.inPlace == Tryz.pinned.checked.prog.inPlace 3) = true := by kernel_rfl
theorem a2 : (Rows.scriptPutsRow.unfollowed == Tryz.pinned.checked.prog.unfollowed 3) = true := by kernel_rfl
end Go.Proofs.YtkcpfhbfjpldhaaGreatDoor.scriptPuts
