/- Texts of one claim, laid together: RoweScriptBack -/
import Derived.Test.YtkcpfhbfjpldhaaGreatDoorJoRowaScriptBack
/- ScriptBack: the row, in parts. -/
namespace Go.Proofs.YtkcpfhbfjpldhaaGreatDoor.scriptBack
open Go.ChangeShapes Go.WideShapes Go.ChangeAt Go.RowKit
open Go.ChangeMaps (open_string shut_string)
set_option linter.unusedVariables false

set_option maxRecDepth 100000
theorem a3 : (Rows.scriptBackRow.recurses == Tryz.pinned.checked.prog.recurses 5) = true := by kernel_rfl
theorem a4 : (Rows.scriptBackRow.named == Tryz.pinned.checked.prog.varsNamed 5) = true := by kernel_rfl
end Go.Proofs.YtkcpfhbfjpldhaaGreatDoor.scriptBack
