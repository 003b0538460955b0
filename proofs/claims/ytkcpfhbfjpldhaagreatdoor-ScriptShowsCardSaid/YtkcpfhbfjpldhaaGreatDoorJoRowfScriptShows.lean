/- Texts of one claim, laid together: RowfScriptShows -/
import Derived.Test.YtkcpfhbfjpldhaaGreatDoorJoRowbScriptShows
/- ScriptShows: the row, in parts. -/
namespace Go.Proofs.YtkcpfhbfjpldhaaGreatDoor.scriptShows
open Go.ChangeShapes Go.WideShapes Go.ChangeAt Go.RowKit
open Go.ChangeMaps (open_string shut_string)
set_option linter.unusedVariables false

set_option maxRecDepth 100000
theorem c1 : Rows.scriptShowsRow.wfByText (OpenSpec.ofChange Rows.scriptShowsSpec) = true := by kernel_rfl
theorem c2 : Tryz.pinned.checked.prog.mainIs = some ((true, "d178011b4b0c7c74bb7f12fdde3375bafa27dc5bcef2f57d84ef6bc750f365d0").1, (true, "d178011b4b0c7c74bb7f12fdde3375bafa27dc5bcef2f57d84ef6bc750f365d0").2.toList) := by kernel_rfl
end Go.Proofs.YtkcpfhbfjpldhaaGreatDoor.scriptShows
