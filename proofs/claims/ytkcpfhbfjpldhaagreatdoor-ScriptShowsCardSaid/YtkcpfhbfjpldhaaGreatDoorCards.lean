/-
  DERIVED. GIVEN WITH THE SEED: THE CARDS: each row of YtkcpfhbfjpldhaaGreatDoorRows.lean that lists a variable, with what it lists TIED to the program's text (the seventh form; the later family's looks); each row that meets fmt, with fmt's text TOLD by the authors' own Lean function (tested against real Go, not proved from fmt's source: count such statements apart). THE CARD IS WHAT COUNTS. Prove the row's statement (the work); the ties are given (YtkcpfhbfjpldhaaGreatDoorTie.lean); close each card by the builder's one call (the guide's Derived/Test/ToyasCard.lean, 'card_holds'). Laid BY PROGRAM, IN A SANDBOX (cutbox-door.mjs). By AI agents, Wed Nov 11 2026. No macro, syntax, notation, axiom, sorry.
-/
import Derived.Test.YtkcpfhbfjpldhaaGreatDoorRows
import GoSem.ClaimSeven
namespace Go.Proofs.YtkcpfhbfjpldhaaGreatDoor
namespace Rows

/-- THE TIED CARD OF 'louverlaw24.ScriptPuts'. -/
def scriptPutsCard : Claim7 := { stood := { row := scriptPutsRow, standIns := [], harness := (true, "d178011b4b0c7c74bb7f12fdde3375bafa27dc5bcef2f57d84ef6bc750f365d0"), looks := true }, kinds := [], alts := [], laidByText := true, laidKinds := [.data, .data, .data], laidTests := true, laidLooks := .later }
def ScriptPutsCardSaid : Prop := Claim7.holds Tryz.pinned (.plain (OpenSpec.ofChange scriptPutsSpec)) scriptPutsCard

/-- THE TIED CARD OF 'louverlaw24.ScriptParses'. -/
def scriptParsesCard : Claim7 := { stood := { row := scriptParsesRow, standIns := [], harness := (true, "d178011b4b0c7c74bb7f12fdde3375bafa27dc5bcef2f57d84ef6bc750f365d0"), looks := true }, kinds := [], alts := [], laidByText := true, laidKinds := [.data, .data, .data], laidTests := true, laidLooks := .later }
def ScriptParsesCardSaid : Prop := Claim7.holds Tryz.pinned (.plain (OpenSpec.ofChange scriptParsesSpec)) scriptParsesCard

/-- THE TIED CARD OF 'louverlaw24.ScriptBack'. -/
def scriptBackCard : Claim7 := { stood := { row := scriptBackRow, standIns := [], harness := (true, "d178011b4b0c7c74bb7f12fdde3375bafa27dc5bcef2f57d84ef6bc750f365d0"), looks := true }, kinds := [], alts := [], laidByText := true, laidKinds := [.data, .data, .data], laidTests := true, laidLooks := .later }
def ScriptBackCardSaid : Prop := Claim7.holds Tryz.pinned (.plain (OpenSpec.ofChange scriptBackSpec)) scriptBackCard

/-- THE TIED CARD OF 'louverlaw24.ScriptShows'. -/
def scriptShowsCard : Claim7 := { stood := { row := scriptShowsRow, standIns := [], harness := (true, "d178011b4b0c7c74bb7f12fdde3375bafa27dc5bcef2f57d84ef6bc750f365d0"), looks := true }, kinds := [], alts := [], laidByText := true, laidKinds := [.data, .data, .data], laidTests := true, laidLooks := .later }
def ScriptShowsCardSaid : Prop := Claim7.holds Tryz.pinned (.plain (OpenSpec.ofChange scriptShowsSpec)) scriptShowsCard

/-- THE TIED CARD OF 'louverlaw24.ScriptRuns'. -/
def scriptRunsCard : Claim7 := { stood := { row := scriptRunsRow, standIns := [], harness := (true, "d178011b4b0c7c74bb7f12fdde3375bafa27dc5bcef2f57d84ef6bc750f365d0"), looks := true }, kinds := [], alts := [], laidByText := true, laidKinds := [.data, .data, .data], laidTests := true, laidLooks := .later }
def ScriptRunsCardSaid : Prop := Claim7.holds Tryz.pinned (.plain (OpenSpec.ofChange scriptRunsSpec)) scriptRunsCard

/-- THE TIED CARD OF 'louverlaw24.ScriptShown'. -/
def scriptShownCard : Claim7 := { stood := { row := scriptShownRow, standIns := [], harness := (true, "d178011b4b0c7c74bb7f12fdde3375bafa27dc5bcef2f57d84ef6bc750f365d0"), looks := true }, kinds := [], alts := [], laidByText := true, laidKinds := [.data, .data, .data], laidTests := true, laidLooks := .later }
def ScriptShownCardSaid : Prop := Claim7.holds Tryz.pinned (.plain (OpenSpec.ofChange scriptShownSpec)) scriptShownCard

/-- THE TIED CARD OF 'louverlaw24.ScriptJoins'. -/
def scriptJoinsCard : Claim7 := { stood := { row := scriptJoinsRow, standIns := [], harness := (true, "d178011b4b0c7c74bb7f12fdde3375bafa27dc5bcef2f57d84ef6bc750f365d0"), looks := true }, kinds := [], alts := [], laidByText := true, laidKinds := [.data, .data, .data], laidTests := true, laidLooks := .later }
def ScriptJoinsCardSaid : Prop := Claim7.holds Tryz.pinned (.plain (OpenSpec.ofChange scriptJoinsSpec)) scriptJoinsCard

/-- THE TIED CARD OF 'louverlaw24.ScriptFronts'. -/
def scriptFrontsCard : Claim7 := { stood := { row := scriptFrontsRow, standIns := [], harness := (true, "d178011b4b0c7c74bb7f12fdde3375bafa27dc5bcef2f57d84ef6bc750f365d0"), looks := true }, kinds := [], alts := [], laidByText := true, laidKinds := [.data, .data, .data], laidTests := true, laidLooks := .later }
def ScriptFrontsCardSaid : Prop := Claim7.holds Tryz.pinned (.plain (OpenSpec.ofChange scriptFrontsSpec)) scriptFrontsCard

/-- THE SECOND FORM's CARD OF 'louverlaw24.ScriptPuts'. -/
def scriptPutsUptoCard : Claim7 := { stood := { row := scriptPutsUptoRow, standIns := [], harness := (true, "d178011b4b0c7c74bb7f12fdde3375bafa27dc5bcef2f57d84ef6bc750f365d0"), looks := true }, kinds := [], alts := [], laidByText := true, laidKinds := [.data, .data, .data], laidTests := true, laidLooks := .later }
def ScriptPutsUptoCardSaid : Prop := Claim7.holds Tryz.pinned (.plain (OpenSpec.upto scriptPutsSpec)) scriptPutsUptoCard

/-- THE SECOND FORM's CARD OF 'louverlaw24.ScriptParses'. -/
def scriptParsesUptoCard : Claim7 := { stood := { row := scriptParsesUptoRow, standIns := [], harness := (true, "d178011b4b0c7c74bb7f12fdde3375bafa27dc5bcef2f57d84ef6bc750f365d0"), looks := true }, kinds := [], alts := [], laidByText := true, laidKinds := [.data, .data, .data], laidTests := true, laidLooks := .later }
def ScriptParsesUptoCardSaid : Prop := Claim7.holds Tryz.pinned (.plain (OpenSpec.upto scriptParsesSpec)) scriptParsesUptoCard

/-- THE SECOND FORM's CARD OF 'louverlaw24.ScriptBack'. -/
def scriptBackUptoCard : Claim7 := { stood := { row := scriptBackUptoRow, standIns := [], harness := (true, "d178011b4b0c7c74bb7f12fdde3375bafa27dc5bcef2f57d84ef6bc750f365d0"), looks := true }, kinds := [], alts := [], laidByText := true, laidKinds := [.data, .data, .data], laidTests := true, laidLooks := .later }
def ScriptBackUptoCardSaid : Prop := Claim7.holds Tryz.pinned (.plain (OpenSpec.upto scriptBackSpec)) scriptBackUptoCard

/-- THE SECOND FORM's CARD OF 'louverlaw24.ScriptShows'. -/
def scriptShowsUptoCard : Claim7 := { stood := { row := scriptShowsUptoRow, standIns := [], harness := (true, "d178011b4b0c7c74bb7f12fdde3375bafa27dc5bcef2f57d84ef6bc750f365d0"), looks := true }, kinds := [], alts := [], laidByText := true, laidKinds := [.data, .data, .data], laidTests := true, laidLooks := .later }
def ScriptShowsUptoCardSaid : Prop := Claim7.holds Tryz.pinned (.plain (OpenSpec.upto scriptShowsSpec)) scriptShowsUptoCard

/-- THE SECOND FORM's CARD OF 'louverlaw24.ScriptRuns'. -/
def scriptRunsUptoCard : Claim7 := { stood := { row := scriptRunsUptoRow, standIns := [], harness := (true, "d178011b4b0c7c74bb7f12fdde3375bafa27dc5bcef2f57d84ef6bc750f365d0"), looks := true }, kinds := [], alts := [], laidByText := true, laidKinds := [.data, .data, .data], laidTests := true, laidLooks := .later }
def ScriptRunsUptoCardSaid : Prop := Claim7.holds Tryz.pinned (.plain (OpenSpec.upto scriptRunsSpec)) scriptRunsUptoCard

/-- THE SECOND FORM's CARD OF 'louverlaw24.ScriptShown'. -/
def scriptShownUptoCard : Claim7 := { stood := { row := scriptShownUptoRow, standIns := [], harness := (true, "d178011b4b0c7c74bb7f12fdde3375bafa27dc5bcef2f57d84ef6bc750f365d0"), looks := true }, kinds := [], alts := [], laidByText := true, laidKinds := [.data, .data, .data], laidTests := true, laidLooks := .later }
def ScriptShownUptoCardSaid : Prop := Claim7.holds Tryz.pinned (.plain (OpenSpec.upto scriptShownSpec)) scriptShownUptoCard

/-- THE SECOND FORM's CARD OF 'louverlaw24.ScriptJoins'. -/
def scriptJoinsUptoCard : Claim7 := { stood := { row := scriptJoinsUptoRow, standIns := [], harness := (true, "d178011b4b0c7c74bb7f12fdde3375bafa27dc5bcef2f57d84ef6bc750f365d0"), looks := true }, kinds := [], alts := [], laidByText := true, laidKinds := [.data, .data, .data], laidTests := true, laidLooks := .later }
def ScriptJoinsUptoCardSaid : Prop := Claim7.holds Tryz.pinned (.plain (OpenSpec.upto scriptJoinsSpec)) scriptJoinsUptoCard

/-- THE SECOND FORM's CARD OF 'louverlaw24.ScriptFronts'. -/
def scriptFrontsUptoCard : Claim7 := { stood := { row := scriptFrontsUptoRow, standIns := [], harness := (true, "d178011b4b0c7c74bb7f12fdde3375bafa27dc5bcef2f57d84ef6bc750f365d0"), looks := true }, kinds := [], alts := [], laidByText := true, laidKinds := [.data, .data, .data], laidTests := true, laidLooks := .later }
def ScriptFrontsUptoCardSaid : Prop := Claim7.holds Tryz.pinned (.plain (OpenSpec.upto scriptFrontsSpec)) scriptFrontsUptoCard
end Rows
end Go.Proofs.YtkcpfhbfjpldhaaGreatDoor
