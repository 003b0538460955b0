/- Texts of one claim, laid together: RoweScriptJoins -/
import Derived.Test.YtkcpfhbfjpldhaaGreatDoorJoRowaScriptJoins
/- ScriptJoins: the row, in parts. -/
namespace Go.Proofs.YtkcpfhbfjpldhaaGreatDoor.scriptJoins
open Go.ChangeShapes Go.WideShapes Go.ChangeAt Go.RowKit
open Go.ChangeMaps (open_string shut_string)
set_option linter.unusedVariables false

set_option maxRecDepth 100000
theorem a3 : (Rows.scriptJoinsRow.recurses == Tryz.pinned.checked.prog.recurses 9) = true := by kernel_rfl
theorem a4 : (Rows.scriptJoinsRow.named == Tryz.pinned.checked.prog.varsNamed 9) = true := by kernel_rfl
end Go.Proofs.YtkcpfhbfjpldhaaGreatDoor.scriptJoins
