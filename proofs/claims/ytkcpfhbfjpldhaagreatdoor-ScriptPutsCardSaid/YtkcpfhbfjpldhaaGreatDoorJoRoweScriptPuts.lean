/- Texts of one claim, laid together: RoweScriptPuts -/
import Derived.Test.YtkcpfhbfjpldhaaGreatDoorJoRowaScriptPuts
/- ScriptPuts: the row, in parts. -/
namespace Go.Proofs.YtkcpfhbfjpldhaaGreatDoor.scriptPuts
open Go.ChangeShapes Go.WideShapes Go.ChangeAt Go.RowKit
open Go.ChangeMaps (open_string shut_string)
set_option linter.unusedVariables false

set_option maxRecDepth 100000
theorem a3 : (Rows.scriptPutsRow.recurses == Tryz.pinned.checked.prog.recurses 3) = true := by kernel_rfl
theorem a4 : (Rows.scriptPutsRow.named == Tryz.pinned.checked.prog.varsNamed 3) = true := by kernel_rfl
end Go.Proofs.YtkcpfhbfjpldhaaGreatDoor.scriptPuts
