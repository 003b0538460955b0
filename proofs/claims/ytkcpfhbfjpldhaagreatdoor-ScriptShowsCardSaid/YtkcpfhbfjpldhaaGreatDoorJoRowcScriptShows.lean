/- Texts of one claim, laid together: RowcScriptShows -/
import Derived.Test.YtkcpfhbfjpldhaaGreatDoorJoRowhScriptShows
/- ScriptShows: the row, in parts. -/
namespace Go.Proofs.YtkcpfhbfjpldhaaGreatDoor.scriptShows
open Go.ChangeShapes Go.WideShapes Go.ChangeAt Go.RowKit
open Go.ChangeMaps (open_string shut_string)
set_option linter.unusedVariables false

set_option maxRecDepth 100000
/-- THE STATEMENT. -/
theorem proved : Rows.ScriptShowsCardSaid :=
  Claim7.holds_tied_plain_at .later [] [.data, .data, .data] true (true, "d178011b4b0c7c74bb7f12fdde3375bafa27dc5bcef2f57d84ef6bc750f365d0") true over (fun _ h => by cases h) c1 (fun _ h => by cases h) scriptShows_row_tie rfl ⟨rfl, rfl⟩ c2 rfl
    (fun f fn hf hfn => by
      obtain rfl : f = 6 := Option.some.inj (c6.symm.trans hf) |>.symm
      obtain rfl : fn = Tryz.f6 := (Option.some.inj (Tryz.func6.symm.trans hfn)).symm
      exact ⟨c3, fun j t ht => by
        rw [Tryz.params6] at ht
        have hm : t ∈ [51] := by have := Array.mem_of_getElem? ht; simp at this ⊢; first | exact this | omega
        exact (show Tryz.prog.wantsStandIn t = false by simpa using List.all_eq_true.1 c5 t hm)⟩)
    c4
#print axioms proved
end Go.Proofs.YtkcpfhbfjpldhaaGreatDoor.scriptShows
