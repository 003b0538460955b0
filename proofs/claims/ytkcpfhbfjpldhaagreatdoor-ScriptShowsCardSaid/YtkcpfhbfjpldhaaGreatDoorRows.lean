/-
  NARROWER THAN 'FOR EVERY INPUT', by the rows' own cells (each row's printed sentence says how): ScriptPuts: laid · ScriptParses: laid · ScriptBack: laid · ScriptShows: laid · ScriptRuns: laid · ScriptShown: laid · ScriptJoins: laid · ScriptFronts: laid.
  DERIVED. THE GIVEN ROWS OF THIS SEAT. 8 by the template 'for every input the law returns true; each argument reads behind the call as it read before'; 0 by the template 'total and deterministic' (their statements: YtkcpfhbfjpldhaaGreatDoorTotals.lean).
  GIVEN WITH THE SEED: the statements are not yours to turn. If you find one false, say at which input.
  Laid BY PROGRAM, IN A SANDBOX (cutbox-rows.mjs): the forced cells as the released guide's own fill.sh prints them over the translation f8e0175311d677c7… (all of the seat's roots in one cut). By AI agents, Wed Nov 11 2026. No macro, syntax, notation, axiom, sorry.
-/
import Derived.Test.YtkcpfhbfjpldhaaGreatDoorChecked
import GoSem.Claim
import GoSem.ClaimJoined
import GoSem.ClaimMapViews
import Derived.JoinedTies
import Derived.KernelRfl
namespace Go.Proofs.YtkcpfhbfjpldhaaGreatDoor
/- THE CELL 'sum', in the pinned program and in every row, IS THE sha256 OF THE DUMP (.gsa) THAT YtkcpfhbfjpldhaaGreatDoorProg.lean LOADS. Nothing in Lean hashes anything: it is a label: what it is worth is what the hold of that sum in a sandbox is worth. -/
noncomputable def Tryz.pinned : Pinned := { name := "ytkcpfhbfjpldhaagreatdoor", sum := "f8e0175311d677c74e9f15977a8947b000e29491dcda615ee3014859c859f9f7", checked := Tryz.checked }
namespace Rows
def none {H : Type} : Left H := { results := [], args := [] }

/- WHAT THE LISTED PACKAGE-LEVEL VARIABLES READ AS WHEN THE CALL BEGINS. Each datum BY PROGRAM (the guide's laid-datum.mjs) off the statement by which the dump's own 'gosem.cut.vars' lays the variable. In a bare row this is a premise. The card (YtkcpfhbfjpldhaaGreatDoorCards.lean) ties it to the program's text. -/
def laid_math_bits_deBruijn32tab {H : Type} : DataW H := .agg [.lit (.int .u8 0), .lit (.int .u8 1), .lit (.int .u8 28), .lit (.int .u8 2), .lit (.int .u8 29), .lit (.int .u8 14), .lit (.int .u8 24), .lit (.int .u8 3), .lit (.int .u8 30), .lit (.int .u8 22), .lit (.int .u8 20), .lit (.int .u8 15), .lit (.int .u8 25), .lit (.int .u8 17), .lit (.int .u8 4), .lit (.int .u8 8), .lit (.int .u8 31), .lit (.int .u8 27), .lit (.int .u8 13), .lit (.int .u8 23), .lit (.int .u8 21), .lit (.int .u8 19), .lit (.int .u8 16), .lit (.int .u8 7), .lit (.int .u8 26), .lit (.int .u8 12), .lit (.int .u8 18), .lit (.int .u8 6), .lit (.int .u8 11), .lit (.int .u8 5), .lit (.int .u8 10), .lit (.int .u8 9)]
def laid_math_bits_deBruijn64tab {H : Type} : DataW H := .agg [.lit (.int .u8 0), .lit (.int .u8 1), .lit (.int .u8 56), .lit (.int .u8 2), .lit (.int .u8 57), .lit (.int .u8 49), .lit (.int .u8 28), .lit (.int .u8 3), .lit (.int .u8 61), .lit (.int .u8 58), .lit (.int .u8 42), .lit (.int .u8 50), .lit (.int .u8 38), .lit (.int .u8 29), .lit (.int .u8 17), .lit (.int .u8 4), .lit (.int .u8 62), .lit (.int .u8 47), .lit (.int .u8 59), .lit (.int .u8 36), .lit (.int .u8 45), .lit (.int .u8 43), .lit (.int .u8 51), .lit (.int .u8 22), .lit (.int .u8 53), .lit (.int .u8 39), .lit (.int .u8 33), .lit (.int .u8 30), .lit (.int .u8 24), .lit (.int .u8 18), .lit (.int .u8 12), .lit (.int .u8 5), .lit (.int .u8 63), .lit (.int .u8 55), .lit (.int .u8 48), .lit (.int .u8 27), .lit (.int .u8 60), .lit (.int .u8 41), .lit (.int .u8 37), .lit (.int .u8 16), .lit (.int .u8 46), .lit (.int .u8 35), .lit (.int .u8 44), .lit (.int .u8 21), .lit (.int .u8 52), .lit (.int .u8 32), .lit (.int .u8 23), .lit (.int .u8 11), .lit (.int .u8 54), .lit (.int .u8 26), .lit (.int .u8 40), .lit (.int .u8 15), .lit (.int .u8 34), .lit (.int .u8 20), .lit (.int .u8 31), .lit (.int .u8 10), .lit (.int .u8 25), .lit (.int .u8 14), .lit (.int .u8 19), .lit (.int .u8 9), .lit (.int .u8 13), .lit (.int .u8 8), .lit (.int .u8 7), .lit (.int .u8 6)]
def laid_internal_strconv_uint64pow10 {H : Type} : DataW H := .agg [.lit (.int .u64 1), .lit (.int .u64 10), .lit (.int .u64 100), .lit (.int .u64 1000), .lit (.int .u64 10000), .lit (.int .u64 100000), .lit (.int .u64 1000000), .lit (.int .u64 10000000), .lit (.int .u64 100000000), .lit (.int .u64 1000000000), .lit (.int .u64 10000000000), .lit (.int .u64 100000000000), .lit (.int .u64 1000000000000), .lit (.int .u64 10000000000000), .lit (.int .u64 100000000000000), .lit (.int .u64 1000000000000000), .lit (.int .u64 10000000000000000), .lit (.int .u64 100000000000000000), .lit (.int .u64 1000000000000000000), .lit (.int .u64 10000000000000000000)]

/-- 'louverlaw24.ScriptPuts': WHATEVER THE INPUT: true; the input reads as it did. -/
def scriptPutsSpec : ChangeSpec := { name := "scriptPuts", fn := fun _ => fun
  | [d] => { results := [.lit (.bool true)], args := [d] }
  | _ => none }
def scriptPutsRow : OpenClaim := { program := "ytkcpfhbfjpldhaagreatdoor", sum := "f8e0175311d677c74e9f15977a8947b000e29491dcda615ee3014859c859f9f7", func := "louver/louverlaw24.ScriptPuts", spec := "scriptPuts", inPlace := ["slices.overlaps[louver/delta.Person]", "slices.overlaps[louver/delta.Track]", "slices.overlaps[louver/delta.Sub]"], unfollowed := true, recurses := true, named := ["internal/strconv.uint64pow10", "math/bits.deBruijn32tab", "math/bits.deBruijn64tab"], plainKeys := false, apart := false, laid := [("math/bits.deBruijn32tab", laid_math_bits_deBruijn32tab), ("math/bits.deBruijn64tab", laid_math_bits_deBruijn64tab), ("internal/strconv.uint64pow10", laid_internal_strconv_uint64pow10)] }
def ScriptPutsSaid : Prop := scriptPutsRow.holds Tryz.pinned (OpenSpec.ofChange scriptPutsSpec)

/-- ITS FALSE NEIGHBOUR: 'it returns false'. Refute it at one input. -/
def scriptPutsWrong : ChangeSpec := { name := "scriptPuts", fn := fun _ => fun
  | [d] => { results := [.lit (.bool false)], args := [d] }
  | _ => none }
def ScriptPutsWrongFalsely : Prop := scriptPutsRow.holds Tryz.pinned (OpenSpec.ofChange scriptPutsWrong)

/-- 'louverlaw24.ScriptParses': WHATEVER THE INPUT: true; the input reads as it did. -/
def scriptParsesSpec : ChangeSpec := { name := "scriptParses", fn := fun _ => fun
  | [d] => { results := [.lit (.bool true)], args := [d] }
  | _ => none }
def scriptParsesRow : OpenClaim := { program := "ytkcpfhbfjpldhaagreatdoor", sum := "f8e0175311d677c74e9f15977a8947b000e29491dcda615ee3014859c859f9f7", func := "louver/louverlaw24.ScriptParses", spec := "scriptParses", inPlace := ["slices.overlaps[louver/delta.Person]", "slices.overlaps[louver/delta.Track]", "slices.overlaps[louver/delta.Sub]"], unfollowed := true, recurses := true, named := ["internal/strconv.uint64pow10", "math/bits.deBruijn32tab", "math/bits.deBruijn64tab"], plainKeys := false, apart := false, laid := [("math/bits.deBruijn32tab", laid_math_bits_deBruijn32tab), ("math/bits.deBruijn64tab", laid_math_bits_deBruijn64tab), ("internal/strconv.uint64pow10", laid_internal_strconv_uint64pow10)] }
def ScriptParsesSaid : Prop := scriptParsesRow.holds Tryz.pinned (OpenSpec.ofChange scriptParsesSpec)

/-- ITS FALSE NEIGHBOUR: 'it returns false'. Refute it at one input. -/
def scriptParsesWrong : ChangeSpec := { name := "scriptParses", fn := fun _ => fun
  | [d] => { results := [.lit (.bool false)], args := [d] }
  | _ => none }
def ScriptParsesWrongFalsely : Prop := scriptParsesRow.holds Tryz.pinned (OpenSpec.ofChange scriptParsesWrong)

/-- 'louverlaw24.ScriptBack': WHATEVER THE INPUT: true; the input reads as it did. -/
def scriptBackSpec : ChangeSpec := { name := "scriptBack", fn := fun _ => fun
  | [d1, d2] => { results := [.lit (.bool true)], args := [d1, d2] }
  | _ => none }
def scriptBackRow : OpenClaim := { program := "ytkcpfhbfjpldhaagreatdoor", sum := "f8e0175311d677c74e9f15977a8947b000e29491dcda615ee3014859c859f9f7", func := "louver/louverlaw24.ScriptBack", spec := "scriptBack", inPlace := ["slices.overlaps[louver/delta.Person]", "slices.overlaps[louver/delta.Track]", "slices.overlaps[louver/delta.Sub]"], unfollowed := true, recurses := true, named := ["internal/strconv.uint64pow10", "math/bits.deBruijn32tab", "math/bits.deBruijn64tab"], plainKeys := false, apart := false, laid := [("math/bits.deBruijn32tab", laid_math_bits_deBruijn32tab), ("math/bits.deBruijn64tab", laid_math_bits_deBruijn64tab), ("internal/strconv.uint64pow10", laid_internal_strconv_uint64pow10)] }
def ScriptBackSaid : Prop := scriptBackRow.holds Tryz.pinned (OpenSpec.ofChange scriptBackSpec)

/-- ITS FALSE NEIGHBOUR: 'it returns false'. Refute it at one input. -/
def scriptBackWrong : ChangeSpec := { name := "scriptBack", fn := fun _ => fun
  | [d1, d2] => { results := [.lit (.bool false)], args := [d1, d2] }
  | _ => none }
def ScriptBackWrongFalsely : Prop := scriptBackRow.holds Tryz.pinned (OpenSpec.ofChange scriptBackWrong)

/-- 'louverlaw24.ScriptShows': WHATEVER THE INPUT: true; the input reads as it did. -/
def scriptShowsSpec : ChangeSpec := { name := "scriptShows", fn := fun _ => fun
  | [d] => { results := [.lit (.bool true)], args := [d] }
  | _ => none }
def scriptShowsRow : OpenClaim := { program := "ytkcpfhbfjpldhaagreatdoor", sum := "f8e0175311d677c74e9f15977a8947b000e29491dcda615ee3014859c859f9f7", func := "louver/louverlaw24.ScriptShows", spec := "scriptShows", inPlace := ["slices.overlaps[louver/delta.Person]", "slices.overlaps[louver/delta.Track]", "slices.overlaps[louver/delta.Sub]"], unfollowed := true, recurses := true, named := ["internal/strconv.uint64pow10", "math/bits.deBruijn32tab", "math/bits.deBruijn64tab"], plainKeys := false, apart := false, laid := [("math/bits.deBruijn32tab", laid_math_bits_deBruijn32tab), ("math/bits.deBruijn64tab", laid_math_bits_deBruijn64tab), ("internal/strconv.uint64pow10", laid_internal_strconv_uint64pow10)] }
def ScriptShowsSaid : Prop := scriptShowsRow.holds Tryz.pinned (OpenSpec.ofChange scriptShowsSpec)

/-- ITS FALSE NEIGHBOUR: 'it returns false'. Refute it at one input. -/
def scriptShowsWrong : ChangeSpec := { name := "scriptShows", fn := fun _ => fun
  | [d] => { results := [.lit (.bool false)], args := [d] }
  | _ => none }
def ScriptShowsWrongFalsely : Prop := scriptShowsRow.holds Tryz.pinned (OpenSpec.ofChange scriptShowsWrong)

/-- 'louverlaw24.ScriptRuns': WHATEVER THE INPUT: true; the input reads as it did. -/
def scriptRunsSpec : ChangeSpec := { name := "scriptRuns", fn := fun _ => fun
  | [d1, d2] => { results := [.lit (.bool true)], args := [d1, d2] }
  | _ => none }
def scriptRunsRow : OpenClaim := { program := "ytkcpfhbfjpldhaagreatdoor", sum := "f8e0175311d677c74e9f15977a8947b000e29491dcda615ee3014859c859f9f7", func := "louver/louverlaw24.ScriptRuns", spec := "scriptRuns", inPlace := ["slices.overlaps[louver/delta.Person]", "slices.overlaps[louver/delta.Track]", "slices.overlaps[louver/delta.Sub]"], unfollowed := true, recurses := true, named := ["internal/strconv.uint64pow10", "math/bits.deBruijn32tab", "math/bits.deBruijn64tab"], plainKeys := false, apart := false, laid := [("math/bits.deBruijn32tab", laid_math_bits_deBruijn32tab), ("math/bits.deBruijn64tab", laid_math_bits_deBruijn64tab), ("internal/strconv.uint64pow10", laid_internal_strconv_uint64pow10)] }
def ScriptRunsSaid : Prop := scriptRunsRow.holds Tryz.pinned (OpenSpec.ofChange scriptRunsSpec)

/-- ITS FALSE NEIGHBOUR: 'it returns false'. Refute it at one input. -/
def scriptRunsWrong : ChangeSpec := { name := "scriptRuns", fn := fun _ => fun
  | [d1, d2] => { results := [.lit (.bool false)], args := [d1, d2] }
  | _ => none }
def ScriptRunsWrongFalsely : Prop := scriptRunsRow.holds Tryz.pinned (OpenSpec.ofChange scriptRunsWrong)

/-- 'louverlaw24.ScriptShown': WHATEVER THE INPUT: true; the input reads as it did. -/
def scriptShownSpec : ChangeSpec := { name := "scriptShown", fn := fun _ => fun
  | [d1, d2] => { results := [.lit (.bool true)], args := [d1, d2] }
  | _ => none }
def scriptShownRow : OpenClaim := { program := "ytkcpfhbfjpldhaagreatdoor", sum := "f8e0175311d677c74e9f15977a8947b000e29491dcda615ee3014859c859f9f7", func := "louver/louverlaw24.ScriptShown", spec := "scriptShown", inPlace := ["slices.overlaps[louver/delta.Person]", "slices.overlaps[louver/delta.Track]", "slices.overlaps[louver/delta.Sub]"], unfollowed := true, recurses := true, named := ["internal/strconv.uint64pow10", "math/bits.deBruijn32tab", "math/bits.deBruijn64tab"], plainKeys := false, apart := false, laid := [("math/bits.deBruijn32tab", laid_math_bits_deBruijn32tab), ("math/bits.deBruijn64tab", laid_math_bits_deBruijn64tab), ("internal/strconv.uint64pow10", laid_internal_strconv_uint64pow10)] }
def ScriptShownSaid : Prop := scriptShownRow.holds Tryz.pinned (OpenSpec.ofChange scriptShownSpec)

/-- ITS FALSE NEIGHBOUR: 'it returns false'. Refute it at one input. -/
def scriptShownWrong : ChangeSpec := { name := "scriptShown", fn := fun _ => fun
  | [d1, d2] => { results := [.lit (.bool false)], args := [d1, d2] }
  | _ => none }
def ScriptShownWrongFalsely : Prop := scriptShownRow.holds Tryz.pinned (OpenSpec.ofChange scriptShownWrong)

/-- 'louverlaw24.ScriptJoins': WHATEVER THE INPUT: true; the input reads as it did. -/
def scriptJoinsSpec : ChangeSpec := { name := "scriptJoins", fn := fun _ => fun
  | [d1, d2] => { results := [.lit (.bool true)], args := [d1, d2] }
  | _ => none }
def scriptJoinsRow : OpenClaim := { program := "ytkcpfhbfjpldhaagreatdoor", sum := "f8e0175311d677c74e9f15977a8947b000e29491dcda615ee3014859c859f9f7", func := "louver/louverlaw24.ScriptJoins", spec := "scriptJoins", inPlace := ["slices.overlaps[louver/delta.Person]", "slices.overlaps[louver/delta.Track]", "slices.overlaps[louver/delta.Sub]"], unfollowed := true, recurses := true, named := ["internal/strconv.uint64pow10", "math/bits.deBruijn32tab", "math/bits.deBruijn64tab"], plainKeys := false, apart := false, laid := [("math/bits.deBruijn32tab", laid_math_bits_deBruijn32tab), ("math/bits.deBruijn64tab", laid_math_bits_deBruijn64tab), ("internal/strconv.uint64pow10", laid_internal_strconv_uint64pow10)] }
def ScriptJoinsSaid : Prop := scriptJoinsRow.holds Tryz.pinned (OpenSpec.ofChange scriptJoinsSpec)

/-- ITS FALSE NEIGHBOUR: 'it returns false'. Refute it at one input. -/
def scriptJoinsWrong : ChangeSpec := { name := "scriptJoins", fn := fun _ => fun
  | [d1, d2] => { results := [.lit (.bool false)], args := [d1, d2] }
  | _ => none }
def ScriptJoinsWrongFalsely : Prop := scriptJoinsRow.holds Tryz.pinned (OpenSpec.ofChange scriptJoinsWrong)

/-- 'louverlaw24.ScriptFronts': WHATEVER THE INPUT: true; the input reads as it did. -/
def scriptFrontsSpec : ChangeSpec := { name := "scriptFronts", fn := fun _ => fun
  | [d1, d2, d3] => { results := [.lit (.bool true)], args := [d1, d2, d3] }
  | _ => none }
def scriptFrontsRow : OpenClaim := { program := "ytkcpfhbfjpldhaagreatdoor", sum := "f8e0175311d677c74e9f15977a8947b000e29491dcda615ee3014859c859f9f7", func := "louver/louverlaw24.ScriptFronts", spec := "scriptFronts", inPlace := ["slices.overlaps[louver/delta.Person]", "slices.overlaps[louver/delta.Track]", "slices.overlaps[louver/delta.Sub]"], unfollowed := true, recurses := true, named := ["internal/strconv.uint64pow10", "math/bits.deBruijn32tab", "math/bits.deBruijn64tab"], plainKeys := false, apart := false, laid := [("math/bits.deBruijn32tab", laid_math_bits_deBruijn32tab), ("math/bits.deBruijn64tab", laid_math_bits_deBruijn64tab), ("internal/strconv.uint64pow10", laid_internal_strconv_uint64pow10)] }
def ScriptFrontsSaid : Prop := scriptFrontsRow.holds Tryz.pinned (OpenSpec.ofChange scriptFrontsSpec)

/-- ITS FALSE NEIGHBOUR: 'it returns false'. Refute it at one input. -/
def scriptFrontsWrong : ChangeSpec := { name := "scriptFronts", fn := fun _ => fun
  | [d1, d2, d3] => { results := [.lit (.bool false)], args := [d1, d2, d3] }
  | _ => none }
def ScriptFrontsWrongFalsely : Prop := scriptFrontsRow.holds Tryz.pinned (OpenSpec.ofChange scriptFrontsWrong)

/- THE SECOND FORM. 'bulk': how many values and letters a reading holds, each counted each time it is reached (what is shared counts as often as it is met; a slice's spare places count too). A statement '..UptoSaid' is the law's where the arguments, and the package variables that the reading takes, are together of bulk at most 1048576: NARROWER than '..Said'. Prove '..Said' where nothing that the law and all that it calls make is longer than what came in: it says more and counts as full. Else prove '..UptoSaid'. A law counts once. -/
mutual
def uptoBulk {H : Type} : DataW H → Nat
  | .lit (.string bytes) => bytes.length + 1
  | .lit _ => 1
  | .nil => 1
  | .ptr d => uptoBulk d + 1
  | .slice elems spare => uptoBulkAll elems + uptoBulkAll spare + 1
  | .agg parts => uptoBulkAll parts + 1
  | .iface _ d => uptoBulk d + 1
  | .map entries => uptoBulkEntries entries + 1
  | .held _ => 1
def uptoBulkAll {H : Type} : List (DataW H) → Nat
  | [] => 0
  | d :: r => uptoBulk d + uptoBulkAll r
def uptoBulkEntries {H : Type} : List (Lit × DataW H) → Nat
  | [] => 0
  | x :: r => uptoBulkEntry x + uptoBulkEntries r
def uptoBulkEntry {H : Type} : Lit × DataW H → Nat
  | (.string bytes, d) => bytes.length + uptoBulk d + 1
  | (_, d) => uptoBulk d + 1
 end
def uptoSmall : (H : Type) → List (DataW H) → Bool := fun _ ds => decide (uptoBulkAll ds ≤ 1048576)
def OpenSpec.upto (s : _root_.Go.ChangeSpec) : _root_.Go.OpenSpec := { _root_.Go.OpenSpec.ofChange s with cond := some uptoSmall }

/-- 'louverlaw24.ScriptPuts', WHERE WHAT IT READS IS OF BULK AT MOST 1048576: true; the input reads as it did. -/
def scriptPutsUptoRow : OpenClaim := { program := "ytkcpfhbfjpldhaagreatdoor", sum := "f8e0175311d677c74e9f15977a8947b000e29491dcda615ee3014859c859f9f7", func := "louver/louverlaw24.ScriptPuts", spec := "scriptPuts", inPlace := ["slices.overlaps[louver/delta.Person]", "slices.overlaps[louver/delta.Track]", "slices.overlaps[louver/delta.Sub]"], unfollowed := true, recurses := true, named := ["internal/strconv.uint64pow10", "math/bits.deBruijn32tab", "math/bits.deBruijn64tab"], plainKeys := false, apart := false, laid := [("math/bits.deBruijn32tab", laid_math_bits_deBruijn32tab), ("math/bits.deBruijn64tab", laid_math_bits_deBruijn64tab), ("internal/strconv.uint64pow10", laid_internal_strconv_uint64pow10)], narrowed := true }
def ScriptPutsUptoSaid : Prop := scriptPutsUptoRow.holds Tryz.pinned (OpenSpec.upto scriptPutsSpec)

/-- 'louverlaw24.ScriptParses', WHERE WHAT IT READS IS OF BULK AT MOST 1048576: true; the input reads as it did. -/
def scriptParsesUptoRow : OpenClaim := { program := "ytkcpfhbfjpldhaagreatdoor", sum := "f8e0175311d677c74e9f15977a8947b000e29491dcda615ee3014859c859f9f7", func := "louver/louverlaw24.ScriptParses", spec := "scriptParses", inPlace := ["slices.overlaps[louver/delta.Person]", "slices.overlaps[louver/delta.Track]", "slices.overlaps[louver/delta.Sub]"], unfollowed := true, recurses := true, named := ["internal/strconv.uint64pow10", "math/bits.deBruijn32tab", "math/bits.deBruijn64tab"], plainKeys := false, apart := false, laid := [("math/bits.deBruijn32tab", laid_math_bits_deBruijn32tab), ("math/bits.deBruijn64tab", laid_math_bits_deBruijn64tab), ("internal/strconv.uint64pow10", laid_internal_strconv_uint64pow10)], narrowed := true }
def ScriptParsesUptoSaid : Prop := scriptParsesUptoRow.holds Tryz.pinned (OpenSpec.upto scriptParsesSpec)

/-- 'louverlaw24.ScriptBack', WHERE WHAT IT READS IS OF BULK AT MOST 1048576: true; the input reads as it did. -/
def scriptBackUptoRow : OpenClaim := { program := "ytkcpfhbfjpldhaagreatdoor", sum := "f8e0175311d677c74e9f15977a8947b000e29491dcda615ee3014859c859f9f7", func := "louver/louverlaw24.ScriptBack", spec := "scriptBack", inPlace := ["slices.overlaps[louver/delta.Person]", "slices.overlaps[louver/delta.Track]", "slices.overlaps[louver/delta.Sub]"], unfollowed := true, recurses := true, named := ["internal/strconv.uint64pow10", "math/bits.deBruijn32tab", "math/bits.deBruijn64tab"], plainKeys := false, apart := false, laid := [("math/bits.deBruijn32tab", laid_math_bits_deBruijn32tab), ("math/bits.deBruijn64tab", laid_math_bits_deBruijn64tab), ("internal/strconv.uint64pow10", laid_internal_strconv_uint64pow10)], narrowed := true }
def ScriptBackUptoSaid : Prop := scriptBackUptoRow.holds Tryz.pinned (OpenSpec.upto scriptBackSpec)

/-- 'louverlaw24.ScriptShows', WHERE WHAT IT READS IS OF BULK AT MOST 1048576: true; the input reads as it did. -/
def scriptShowsUptoRow : OpenClaim := { program := "ytkcpfhbfjpldhaagreatdoor", sum := "f8e0175311d677c74e9f15977a8947b000e29491dcda615ee3014859c859f9f7", func := "louver/louverlaw24.ScriptShows", spec := "scriptShows", inPlace := ["slices.overlaps[louver/delta.Person]", "slices.overlaps[louver/delta.Track]", "slices.overlaps[louver/delta.Sub]"], unfollowed := true, recurses := true, named := ["internal/strconv.uint64pow10", "math/bits.deBruijn32tab", "math/bits.deBruijn64tab"], plainKeys := false, apart := false, laid := [("math/bits.deBruijn32tab", laid_math_bits_deBruijn32tab), ("math/bits.deBruijn64tab", laid_math_bits_deBruijn64tab), ("internal/strconv.uint64pow10", laid_internal_strconv_uint64pow10)], narrowed := true }
def ScriptShowsUptoSaid : Prop := scriptShowsUptoRow.holds Tryz.pinned (OpenSpec.upto scriptShowsSpec)

/-- 'louverlaw24.ScriptRuns', WHERE WHAT IT READS IS OF BULK AT MOST 1048576: true; the input reads as it did. -/
def scriptRunsUptoRow : OpenClaim := { program := "ytkcpfhbfjpldhaagreatdoor", sum := "f8e0175311d677c74e9f15977a8947b000e29491dcda615ee3014859c859f9f7", func := "louver/louverlaw24.ScriptRuns", spec := "scriptRuns", inPlace := ["slices.overlaps[louver/delta.Person]", "slices.overlaps[louver/delta.Track]", "slices.overlaps[louver/delta.Sub]"], unfollowed := true, recurses := true, named := ["internal/strconv.uint64pow10", "math/bits.deBruijn32tab", "math/bits.deBruijn64tab"], plainKeys := false, apart := false, laid := [("math/bits.deBruijn32tab", laid_math_bits_deBruijn32tab), ("math/bits.deBruijn64tab", laid_math_bits_deBruijn64tab), ("internal/strconv.uint64pow10", laid_internal_strconv_uint64pow10)], narrowed := true }
def ScriptRunsUptoSaid : Prop := scriptRunsUptoRow.holds Tryz.pinned (OpenSpec.upto scriptRunsSpec)

/-- 'louverlaw24.ScriptShown', WHERE WHAT IT READS IS OF BULK AT MOST 1048576: true; the input reads as it did. -/
def scriptShownUptoRow : OpenClaim := { program := "ytkcpfhbfjpldhaagreatdoor", sum := "f8e0175311d677c74e9f15977a8947b000e29491dcda615ee3014859c859f9f7", func := "louver/louverlaw24.ScriptShown", spec := "scriptShown", inPlace := ["slices.overlaps[louver/delta.Person]", "slices.overlaps[louver/delta.Track]", "slices.overlaps[louver/delta.Sub]"], unfollowed := true, recurses := true, named := ["internal/strconv.uint64pow10", "math/bits.deBruijn32tab", "math/bits.deBruijn64tab"], plainKeys := false, apart := false, laid := [("math/bits.deBruijn32tab", laid_math_bits_deBruijn32tab), ("math/bits.deBruijn64tab", laid_math_bits_deBruijn64tab), ("internal/strconv.uint64pow10", laid_internal_strconv_uint64pow10)], narrowed := true }
def ScriptShownUptoSaid : Prop := scriptShownUptoRow.holds Tryz.pinned (OpenSpec.upto scriptShownSpec)

/-- 'louverlaw24.ScriptJoins', WHERE WHAT IT READS IS OF BULK AT MOST 1048576: true; the input reads as it did. -/
def scriptJoinsUptoRow : OpenClaim := { program := "ytkcpfhbfjpldhaagreatdoor", sum := "f8e0175311d677c74e9f15977a8947b000e29491dcda615ee3014859c859f9f7", func := "louver/louverlaw24.ScriptJoins", spec := "scriptJoins", inPlace := ["slices.overlaps[louver/delta.Person]", "slices.overlaps[louver/delta.Track]", "slices.overlaps[louver/delta.Sub]"], unfollowed := true, recurses := true, named := ["internal/strconv.uint64pow10", "math/bits.deBruijn32tab", "math/bits.deBruijn64tab"], plainKeys := false, apart := false, laid := [("math/bits.deBruijn32tab", laid_math_bits_deBruijn32tab), ("math/bits.deBruijn64tab", laid_math_bits_deBruijn64tab), ("internal/strconv.uint64pow10", laid_internal_strconv_uint64pow10)], narrowed := true }
def ScriptJoinsUptoSaid : Prop := scriptJoinsUptoRow.holds Tryz.pinned (OpenSpec.upto scriptJoinsSpec)

/-- 'louverlaw24.ScriptFronts', WHERE WHAT IT READS IS OF BULK AT MOST 1048576: true; the input reads as it did. -/
def scriptFrontsUptoRow : OpenClaim := { program := "ytkcpfhbfjpldhaagreatdoor", sum := "f8e0175311d677c74e9f15977a8947b000e29491dcda615ee3014859c859f9f7", func := "louver/louverlaw24.ScriptFronts", spec := "scriptFronts", inPlace := ["slices.overlaps[louver/delta.Person]", "slices.overlaps[louver/delta.Track]", "slices.overlaps[louver/delta.Sub]"], unfollowed := true, recurses := true, named := ["internal/strconv.uint64pow10", "math/bits.deBruijn32tab", "math/bits.deBruijn64tab"], plainKeys := false, apart := false, laid := [("math/bits.deBruijn32tab", laid_math_bits_deBruijn32tab), ("math/bits.deBruijn64tab", laid_math_bits_deBruijn64tab), ("internal/strconv.uint64pow10", laid_internal_strconv_uint64pow10)], narrowed := true }
def ScriptFrontsUptoSaid : Prop := scriptFrontsUptoRow.holds Tryz.pinned (OpenSpec.upto scriptFrontsSpec)

end Rows
end Go.Proofs.YtkcpfhbfjpldhaaGreatDoor
