/- Texts of one claim, laid together: RowhScriptShows -/
import Derived.Test.YtkcpfhbfjpldhaaGreatDoorJoRowgScriptShows
/- ScriptShows: the row, in parts. -/
namespace Go.Proofs.YtkcpfhbfjpldhaaGreatDoor.scriptShows
open Go.ChangeShapes Go.WideShapes Go.ChangeAt Go.RowKit
open Go.ChangeMaps (open_string shut_string)
set_option linter.unusedVariables false

set_option maxRecDepth 100000
theorem c4 : false = Rows.scriptShowsRow.goesBy Tryz.pinned.checked.prog := by kernel_rfl
end Go.Proofs.YtkcpfhbfjpldhaaGreatDoor.scriptShows
