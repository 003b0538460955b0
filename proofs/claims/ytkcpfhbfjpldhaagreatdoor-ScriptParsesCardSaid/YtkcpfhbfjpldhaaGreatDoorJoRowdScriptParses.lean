/- Texts of one claim, laid together: RowdScriptParses -/
import Derived.Test.YtkcpfhbfjpldhaaGreatDoorJoRoweScriptParses
/- ScriptParses: the row, in parts. -/
namespace Go.Proofs.YtkcpfhbfjpldhaaGreatDoor.scriptParses
open Go.ChangeShapes Go.WideShapes Go.ChangeAt Go.RowKit
open Go.ChangeMaps (open_string shut_string)
set_option linter.unusedVariables false

set_option maxRecDepth 100000
theorem closed : joinedFacts Tryz.pinned.checked.prog 4 Tryz.f4 Rows.scriptParsesSpec Rows.scriptParsesRow = true := by
  unfold joinedFacts
  rw [a1, a2, a3, a4]
  kernel_rfl
end Go.Proofs.YtkcpfhbfjpldhaaGreatDoor.scriptParses
