/- Texts of one claim, laid together: RoweScriptParses -/
import Derived.Test.YtkcpfhbfjpldhaaGreatDoorJoRowaScriptParses
/- ScriptParses: the row, in parts. -/
namespace Go.Proofs.YtkcpfhbfjpldhaaGreatDoor.scriptParses
open Go.ChangeShapes Go.WideShapes Go.ChangeAt Go.RowKit
open Go.ChangeMaps (open_string shut_string)
set_option linter.unusedVariables false

set_option maxRecDepth 100000
theorem a3 : (Rows.scriptParsesRow.recurses == Tryz.pinned.checked.prog.recurses 4) = true := by kernel_rfl
theorem a4 : (Rows.scriptParsesRow.named == Tryz.pinned.checked.prog.varsNamed 4) = true := by kernel_rfl
end Go.Proofs.YtkcpfhbfjpldhaaGreatDoor.scriptParses
