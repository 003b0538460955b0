/- Texts of one claim, laid together: RoweScriptShows -/
import Derived.Test.YtkcpfhbfjpldhaaGreatDoorJoRowaScriptShows
/- ScriptShows: the row, in parts. -/
namespace Go.Proofs.YtkcpfhbfjpldhaaGreatDoor.scriptShows
open Go.ChangeShapes Go.WideShapes Go.ChangeAt Go.RowKit
open Go.ChangeMaps (open_string shut_string)
set_option linter.unusedVariables false

set_option maxRecDepth 100000
theorem a3 : (Rows.scriptShowsRow.recurses == Tryz.pinned.checked.prog.recurses 6) = true := by kernel_rfl
theorem a4 : (Rows.scriptShowsRow.named == Tryz.pinned.checked.prog.varsNamed 6) = true := by kernel_rfl
end Go.Proofs.YtkcpfhbfjpldhaaGreatDoor.scriptShows
