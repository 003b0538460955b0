/- Texts of one claim, laid together: RowdScriptShows -/
import Derived.Test.YtkcpfhbfjpldhaaGreatDoorJoRoweScriptShows
/- ScriptShows: the row, in parts. -/
namespace Go.Proofs.YtkcpfhbfjpldhaaGreatDoor.scriptShows
open Go.ChangeShapes Go.WideShapes Go.ChangeAt Go.RowKit
open Go.ChangeMaps (open_string shut_string)
set_option linter.unusedVariables false

set_option maxRecDepth 100000
theorem closed : joinedFacts Tryz.pinned.checked.prog 6 Tryz.f6 Rows.scriptShowsSpec Rows.scriptShowsRow = true := by
  unfold joinedFacts
  rw [a1, a2, a3, a4]
  kernel_rfl
end Go.Proofs.YtkcpfhbfjpldhaaGreatDoor.scriptShows
