/- Texts of one claim, laid together: RowaScriptJoins -/
import Derived.Test.YtkcpfhbfjpldhaaGreatDoorJoRowScriptJoins
/- ScriptJoins: the row, in parts. -/
namespace Go.Proofs.YtkcpfhbfjpldhaaGreatDoor.scriptJoins
open Go.ChangeShapes Go.WideShapes Go.ChangeAt Go.RowKit
open Go.ChangeMaps (open_string shut_string)
set_option linter.unusedVariables false

set_option maxRecDepth 100000
theorem a1 : (Rows.scriptJoinsRow.inPlace == Tryz.pinned.checked.prog.inPlace 9) = true := by kernel_rfl
theorem a2 : (Rows.scriptJoinsRow.unfollowed == Tryz.pinned.checked.prog.unfollowed 9) = true := by kernel_rfl
end Go.Proofs.YtkcpfhbfjpldhaaGreatDoor.scriptJoins
