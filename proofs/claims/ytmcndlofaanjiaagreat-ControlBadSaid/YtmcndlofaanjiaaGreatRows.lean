/-
  No cell of these rows narrows 'for every input' (looked for: loops, veiled, ifaces, maps, wideKeys, modest, calm, conditions, laid).
  DERIVED. THE GIVEN ROWS OF THIS SEAT. 7 by the template 'for every input the law returns true; each argument reads behind the call as it read before'; 0 by the template 'total and deterministic' (their statements: YtmcndlofaanjiaaGreatTotals.lean).
  GIVEN WITH THE SEED: the statements are not yours to turn. If you find one false, say at which input.
  Laid BY PROGRAM, IN A SANDBOX (cutbox-rows.mjs): the forced cells as the released guide's own fill.sh prints them over the translation 9724b2c97547e12b… (all of the seat's roots in one cut). By AI agents, Wed Nov 11 2026. No macro, syntax, notation, axiom, sorry.
-/
import Derived.Test.YtmcndlofaanjiaaGreatChecked
import GoSem.Claim
import GoSem.ClaimJoined
import GoSem.ClaimMapViews
import Derived.JoinedTies
import Derived.KernelRfl
namespace Go.Proofs.YtmcndlofaanjiaaGreat
/- THE CELL 'sum', in the pinned program and in every row, IS THE sha256 OF THE DUMP (.gsa) THAT YtmcndlofaanjiaaGreatProg.lean LOADS. Nothing in Lean hashes anything: it is a label: what it is worth is what the hold of that sum in a sandbox is worth. -/
noncomputable def Tryz.pinned : Pinned := { name := "ytmcndlofaanjiaagreat", sum := "9724b2c97547e12b1a401d760a44a46a0266ea56f4a1df63e80762c6b97c4ac0", checked := Tryz.checked }
namespace Rows
def none {H : Type} : Left H := { results := [], args := [] }

/-- 'louverlaw22.ControlBad': WHATEVER THE INPUT: true; the input reads as it did. -/
def controlBadSpec : ChangeSpec := { name := "controlBad", fn := fun _ => fun
  | [d1, d2, d3] => { results := [.lit (.bool true)], args := [d1, d2, d3] }
  | _ => none }
def controlBadRow : OpenClaim := { program := "ytmcndlofaanjiaagreat", sum := "9724b2c97547e12b1a401d760a44a46a0266ea56f4a1df63e80762c6b97c4ac0", func := "louver/louverlaw22.ControlBad", spec := "controlBad", inPlace := ["slices.overlaps[louver/delta.Person]", "slices.overlaps[louver/delta.Track]", "slices.overlaps[louver/delta.Sub]"], unfollowed := true, recurses := true, plainKeys := false, apart := false }
def ControlBadSaid : Prop := controlBadRow.holds Tryz.pinned (OpenSpec.ofChange controlBadSpec)

/-- ITS FALSE NEIGHBOUR: 'it returns false'. Refute it at one input. -/
def controlBadWrong : ChangeSpec := { name := "controlBad", fn := fun _ => fun
  | [d1, d2, d3] => { results := [.lit (.bool false)], args := [d1, d2, d3] }
  | _ => none }
def ControlBadWrongFalsely : Prop := controlBadRow.holds Tryz.pinned (OpenSpec.ofChange controlBadWrong)

/-- 'louverlaw22.ControlOnce': WHATEVER THE INPUT: true; the input reads as it did. -/
def controlOnceSpec : ChangeSpec := { name := "controlOnce", fn := fun _ => fun
  | [d1, d2, d3, d4] => { results := [.lit (.bool true)], args := [d1, d2, d3, d4] }
  | _ => none }
def controlOnceRow : OpenClaim := { program := "ytmcndlofaanjiaagreat", sum := "9724b2c97547e12b1a401d760a44a46a0266ea56f4a1df63e80762c6b97c4ac0", func := "louver/louverlaw22.ControlOnce", spec := "controlOnce", inPlace := ["slices.overlaps[louver/delta.Person]", "slices.overlaps[louver/delta.Track]", "slices.overlaps[louver/delta.Sub]"], unfollowed := true, recurses := true, plainKeys := false, apart := false }
def ControlOnceSaid : Prop := controlOnceRow.holds Tryz.pinned (OpenSpec.ofChange controlOnceSpec)

/-- ITS FALSE NEIGHBOUR: 'it returns false'. Refute it at one input. -/
def controlOnceWrong : ChangeSpec := { name := "controlOnce", fn := fun _ => fun
  | [d1, d2, d3, d4] => { results := [.lit (.bool false)], args := [d1, d2, d3, d4] }
  | _ => none }
def ControlOnceWrongFalsely : Prop := controlOnceRow.holds Tryz.pinned (OpenSpec.ofChange controlOnceWrong)

/-- 'louverlaw22.ControlTurns': WHATEVER THE INPUT: true; the input reads as it did. -/
def controlTurnsSpec : ChangeSpec := { name := "controlTurns", fn := fun _ => fun
  | [d1, d2] => { results := [.lit (.bool true)], args := [d1, d2] }
  | _ => none }
def controlTurnsRow : OpenClaim := { program := "ytmcndlofaanjiaagreat", sum := "9724b2c97547e12b1a401d760a44a46a0266ea56f4a1df63e80762c6b97c4ac0", func := "louver/louverlaw22.ControlTurns", spec := "controlTurns", inPlace := ["slices.overlaps[louver/delta.Person]", "slices.overlaps[louver/delta.Track]", "slices.overlaps[louver/delta.Sub]"], unfollowed := true, recurses := true, plainKeys := false, apart := false }
def ControlTurnsSaid : Prop := controlTurnsRow.holds Tryz.pinned (OpenSpec.ofChange controlTurnsSpec)

/-- ITS FALSE NEIGHBOUR: 'it returns false'. Refute it at one input. -/
def controlTurnsWrong : ChangeSpec := { name := "controlTurns", fn := fun _ => fun
  | [d1, d2] => { results := [.lit (.bool false)], args := [d1, d2] }
  | _ => none }
def ControlTurnsWrongFalsely : Prop := controlTurnsRow.holds Tryz.pinned (OpenSpec.ofChange controlTurnsWrong)

/-- 'louverlaw22.ControlLinear': WHATEVER THE INPUT: true; the input reads as it did. -/
def controlLinearSpec : ChangeSpec := { name := "controlLinear", fn := fun _ => fun
  | [d1, d2] => { results := [.lit (.bool true)], args := [d1, d2] }
  | _ => none }
def controlLinearRow : OpenClaim := { program := "ytmcndlofaanjiaagreat", sum := "9724b2c97547e12b1a401d760a44a46a0266ea56f4a1df63e80762c6b97c4ac0", func := "louver/louverlaw22.ControlLinear", spec := "controlLinear", inPlace := ["slices.overlaps[louver/delta.Person]", "slices.overlaps[louver/delta.Track]", "slices.overlaps[louver/delta.Sub]"], unfollowed := true, recurses := true, plainKeys := false, apart := false }
def ControlLinearSaid : Prop := controlLinearRow.holds Tryz.pinned (OpenSpec.ofChange controlLinearSpec)

/-- ITS FALSE NEIGHBOUR: 'it returns false'. Refute it at one input. -/
def controlLinearWrong : ChangeSpec := { name := "controlLinear", fn := fun _ => fun
  | [d1, d2] => { results := [.lit (.bool false)], args := [d1, d2] }
  | _ => none }
def ControlLinearWrongFalsely : Prop := controlLinearRow.holds Tryz.pinned (OpenSpec.ofChange controlLinearWrong)

/-- 'louverlaw22.ControlFrees': WHATEVER THE INPUT: true; the input reads as it did. -/
def controlFreesSpec : ChangeSpec := { name := "controlFrees", fn := fun _ => fun
  | [d1, d2] => { results := [.lit (.bool true)], args := [d1, d2] }
  | _ => none }
def controlFreesRow : OpenClaim := { program := "ytmcndlofaanjiaagreat", sum := "9724b2c97547e12b1a401d760a44a46a0266ea56f4a1df63e80762c6b97c4ac0", func := "louver/louverlaw22.ControlFrees", spec := "controlFrees", inPlace := ["slices.overlaps[louver/delta.Person]", "slices.overlaps[louver/delta.Track]", "slices.overlaps[louver/delta.Sub]"], unfollowed := true, recurses := true, plainKeys := false, apart := false }
def ControlFreesSaid : Prop := controlFreesRow.holds Tryz.pinned (OpenSpec.ofChange controlFreesSpec)

/-- ITS FALSE NEIGHBOUR: 'it returns false'. Refute it at one input. -/
def controlFreesWrong : ChangeSpec := { name := "controlFrees", fn := fun _ => fun
  | [d1, d2] => { results := [.lit (.bool false)], args := [d1, d2] }
  | _ => none }
def ControlFreesWrongFalsely : Prop := controlFreesRow.holds Tryz.pinned (OpenSpec.ofChange controlFreesWrong)

/-- 'louverlaw22.ControlPlays': WHATEVER THE INPUT: true; the input reads as it did. -/
def controlPlaysSpec : ChangeSpec := { name := "controlPlays", fn := fun _ => fun
  | [d1, d2] => { results := [.lit (.bool true)], args := [d1, d2] }
  | _ => none }
def controlPlaysRow : OpenClaim := { program := "ytmcndlofaanjiaagreat", sum := "9724b2c97547e12b1a401d760a44a46a0266ea56f4a1df63e80762c6b97c4ac0", func := "louver/louverlaw22.ControlPlays", spec := "controlPlays", inPlace := ["slices.overlaps[louver/delta.Person]", "slices.overlaps[louver/delta.Track]", "slices.overlaps[louver/delta.Sub]"], unfollowed := true, recurses := true, plainKeys := false, apart := false }
def ControlPlaysSaid : Prop := controlPlaysRow.holds Tryz.pinned (OpenSpec.ofChange controlPlaysSpec)

/-- ITS FALSE NEIGHBOUR: 'it returns false'. Refute it at one input. -/
def controlPlaysWrong : ChangeSpec := { name := "controlPlays", fn := fun _ => fun
  | [d1, d2] => { results := [.lit (.bool false)], args := [d1, d2] }
  | _ => none }
def ControlPlaysWrongFalsely : Prop := controlPlaysRow.holds Tryz.pinned (OpenSpec.ofChange controlPlaysWrong)

/-- 'louverlaw22.ControlSeats': WHATEVER THE INPUT: true; the input reads as it did. -/
def controlSeatsSpec : ChangeSpec := { name := "controlSeats", fn := fun _ => fun
  | [d1, d2] => { results := [.lit (.bool true)], args := [d1, d2] }
  | _ => none }
def controlSeatsRow : OpenClaim := { program := "ytmcndlofaanjiaagreat", sum := "9724b2c97547e12b1a401d760a44a46a0266ea56f4a1df63e80762c6b97c4ac0", func := "louver/louverlaw22.ControlSeats", spec := "controlSeats", inPlace := ["slices.overlaps[louver/delta.Person]", "slices.overlaps[louver/delta.Track]", "slices.overlaps[louver/delta.Sub]"], unfollowed := true, recurses := true, plainKeys := false, apart := false }
def ControlSeatsSaid : Prop := controlSeatsRow.holds Tryz.pinned (OpenSpec.ofChange controlSeatsSpec)

/-- ITS FALSE NEIGHBOUR: 'it returns false'. Refute it at one input. -/
def controlSeatsWrong : ChangeSpec := { name := "controlSeats", fn := fun _ => fun
  | [d1, d2] => { results := [.lit (.bool false)], args := [d1, d2] }
  | _ => none }
def ControlSeatsWrongFalsely : Prop := controlSeatsRow.holds Tryz.pinned (OpenSpec.ofChange controlSeatsWrong)

/- THE SECOND FORM. 'bulk': how many values and letters a reading holds, each counted each time it is reached (what is shared counts as often as it is met; a slice's spare places count too). A statement '..UptoSaid' is the law's where the arguments, and the package variables that the reading takes, are together of bulk at most 1048576: NARROWER than '..Said'. Prove '..Said' where nothing that the law and all that it calls make is longer than what came in: it says more and counts as full. Else prove '..UptoSaid'. A law counts once. -/
mutual
def uptoBulk {H : Type} : DataW H → Nat
  | .lit (.string bytes) => bytes.length + 1
  | .lit _ => 1
  | .nil => 1
  | .ptr d => uptoBulk d + 1
  | .slice elems spare => uptoBulkAll elems + uptoBulkAll spare + 1
  | .agg parts => uptoBulkAll parts + 1
  | .iface _ d => uptoBulk d + 1
  | .map entries => uptoBulkEntries entries + 1
  | .held _ => 1
def uptoBulkAll {H : Type} : List (DataW H) → Nat
  | [] => 0
  | d :: r => uptoBulk d + uptoBulkAll r
def uptoBulkEntries {H : Type} : List (Lit × DataW H) → Nat
  | [] => 0
  | x :: r => uptoBulkEntry x + uptoBulkEntries r
def uptoBulkEntry {H : Type} : Lit × DataW H → Nat
  | (.string bytes, d) => bytes.length + uptoBulk d + 1
  | (_, d) => uptoBulk d + 1
 end
def uptoSmall : (H : Type) → List (DataW H) → Bool := fun _ ds => decide (uptoBulkAll ds ≤ 1048576)
def OpenSpec.upto (s : _root_.Go.ChangeSpec) : _root_.Go.OpenSpec := { _root_.Go.OpenSpec.ofChange s with cond := some uptoSmall }

/-- 'louverlaw22.ControlBad', WHERE WHAT IT READS IS OF BULK AT MOST 1048576: true; the input reads as it did. -/
def controlBadUptoRow : OpenClaim := { program := "ytmcndlofaanjiaagreat", sum := "9724b2c97547e12b1a401d760a44a46a0266ea56f4a1df63e80762c6b97c4ac0", func := "louver/louverlaw22.ControlBad", spec := "controlBad", inPlace := ["slices.overlaps[louver/delta.Person]", "slices.overlaps[louver/delta.Track]", "slices.overlaps[louver/delta.Sub]"], unfollowed := true, recurses := true, plainKeys := false, apart := false, narrowed := true }
def ControlBadUptoSaid : Prop := controlBadUptoRow.holds Tryz.pinned (OpenSpec.upto controlBadSpec)

/-- 'louverlaw22.ControlOnce', WHERE WHAT IT READS IS OF BULK AT MOST 1048576: true; the input reads as it did. -/
def controlOnceUptoRow : OpenClaim := { program := "ytmcndlofaanjiaagreat", sum := "9724b2c97547e12b1a401d760a44a46a0266ea56f4a1df63e80762c6b97c4ac0", func := "louver/louverlaw22.ControlOnce", spec := "controlOnce", inPlace := ["slices.overlaps[louver/delta.Person]", "slices.overlaps[louver/delta.Track]", "slices.overlaps[louver/delta.Sub]"], unfollowed := true, recurses := true, plainKeys := false, apart := false, narrowed := true }
def ControlOnceUptoSaid : Prop := controlOnceUptoRow.holds Tryz.pinned (OpenSpec.upto controlOnceSpec)

/-- 'louverlaw22.ControlTurns', WHERE WHAT IT READS IS OF BULK AT MOST 1048576: true; the input reads as it did. -/
def controlTurnsUptoRow : OpenClaim := { program := "ytmcndlofaanjiaagreat", sum := "9724b2c97547e12b1a401d760a44a46a0266ea56f4a1df63e80762c6b97c4ac0", func := "louver/louverlaw22.ControlTurns", spec := "controlTurns", inPlace := ["slices.overlaps[louver/delta.Person]", "slices.overlaps[louver/delta.Track]", "slices.overlaps[louver/delta.Sub]"], unfollowed := true, recurses := true, plainKeys := false, apart := false, narrowed := true }
def ControlTurnsUptoSaid : Prop := controlTurnsUptoRow.holds Tryz.pinned (OpenSpec.upto controlTurnsSpec)

/-- 'louverlaw22.ControlLinear', WHERE WHAT IT READS IS OF BULK AT MOST 1048576: true; the input reads as it did. -/
def controlLinearUptoRow : OpenClaim := { program := "ytmcndlofaanjiaagreat", sum := "9724b2c97547e12b1a401d760a44a46a0266ea56f4a1df63e80762c6b97c4ac0", func := "louver/louverlaw22.ControlLinear", spec := "controlLinear", inPlace := ["slices.overlaps[louver/delta.Person]", "slices.overlaps[louver/delta.Track]", "slices.overlaps[louver/delta.Sub]"], unfollowed := true, recurses := true, plainKeys := false, apart := false, narrowed := true }
def ControlLinearUptoSaid : Prop := controlLinearUptoRow.holds Tryz.pinned (OpenSpec.upto controlLinearSpec)

/-- 'louverlaw22.ControlFrees', WHERE WHAT IT READS IS OF BULK AT MOST 1048576: true; the input reads as it did. -/
def controlFreesUptoRow : OpenClaim := { program := "ytmcndlofaanjiaagreat", sum := "9724b2c97547e12b1a401d760a44a46a0266ea56f4a1df63e80762c6b97c4ac0", func := "louver/louverlaw22.ControlFrees", spec := "controlFrees", inPlace := ["slices.overlaps[louver/delta.Person]", "slices.overlaps[louver/delta.Track]", "slices.overlaps[louver/delta.Sub]"], unfollowed := true, recurses := true, plainKeys := false, apart := false, narrowed := true }
def ControlFreesUptoSaid : Prop := controlFreesUptoRow.holds Tryz.pinned (OpenSpec.upto controlFreesSpec)

/-- 'louverlaw22.ControlPlays', WHERE WHAT IT READS IS OF BULK AT MOST 1048576: true; the input reads as it did. -/
def controlPlaysUptoRow : OpenClaim := { program := "ytmcndlofaanjiaagreat", sum := "9724b2c97547e12b1a401d760a44a46a0266ea56f4a1df63e80762c6b97c4ac0", func := "louver/louverlaw22.ControlPlays", spec := "controlPlays", inPlace := ["slices.overlaps[louver/delta.Person]", "slices.overlaps[louver/delta.Track]", "slices.overlaps[louver/delta.Sub]"], unfollowed := true, recurses := true, plainKeys := false, apart := false, narrowed := true }
def ControlPlaysUptoSaid : Prop := controlPlaysUptoRow.holds Tryz.pinned (OpenSpec.upto controlPlaysSpec)

/-- 'louverlaw22.ControlSeats', WHERE WHAT IT READS IS OF BULK AT MOST 1048576: true; the input reads as it did. -/
def controlSeatsUptoRow : OpenClaim := { program := "ytmcndlofaanjiaagreat", sum := "9724b2c97547e12b1a401d760a44a46a0266ea56f4a1df63e80762c6b97c4ac0", func := "louver/louverlaw22.ControlSeats", spec := "controlSeats", inPlace := ["slices.overlaps[louver/delta.Person]", "slices.overlaps[louver/delta.Track]", "slices.overlaps[louver/delta.Sub]"], unfollowed := true, recurses := true, plainKeys := false, apart := false, narrowed := true }
def ControlSeatsUptoSaid : Prop := controlSeatsUptoRow.holds Tryz.pinned (OpenSpec.upto controlSeatsSpec)

end Rows
end Go.Proofs.YtmcndlofaanjiaaGreat
