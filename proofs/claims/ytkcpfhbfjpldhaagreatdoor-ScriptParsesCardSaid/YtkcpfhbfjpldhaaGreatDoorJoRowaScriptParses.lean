/- Texts of one claim, laid together: RowaScriptParses -/
import Derived.Test.YtkcpfhbfjpldhaaGreatDoorJoRowScriptParses
/- ScriptParses: the row, in parts. -/
namespace Go.Proofs.YtkcpfhbfjpldhaaGreatDoor.scriptParses
open Go.ChangeShapes Go.WideShapes Go.ChangeAt Go.RowKit
open Go.ChangeMaps (open_string shut_string)
set_option linter.unusedVariables false

set_option maxRecDepth 100000
theorem a1 : (Rows.scriptParsesRow.inPlace == Tryz.pinned.checked.prog.inPlace 4) = true := by kernel_rfl
theorem a2 : (Rows.scriptParsesRow.unfollowed == Tryz.pinned.checked.prog.unfollowed 4) = true := by kernel_rfl
end Go.Proofs.YtkcpfhbfjpldhaaGreatDoor.scriptParses
