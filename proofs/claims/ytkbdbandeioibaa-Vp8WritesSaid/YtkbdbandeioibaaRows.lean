/-
  No cell of these rows narrows 'for every input' (looked for: loops, veiled, ifaces, maps, wideKeys, modest, calm, conditions, laid).
  DERIVED. THE GIVEN ROWS OF THIS SEAT. 13 by the template 'for every input the law returns true; each argument reads behind the call as it read before'; 0 by the template 'total and deterministic' (their statements: YtkbdbandeioibaaTotals.lean).
  GIVEN WITH THE SEED: the statements are not yours to turn. If you find one false, say at which input.
  Laid BY PROGRAM, IN A SANDBOX (cutbox-rows.mjs): the forced cells as the released guide's own fill.sh prints them over the translation 137977b188f898ad… (all of the seat's roots in one cut). By AI agents, Wed Nov 11 2026. No macro, syntax, notation, axiom, sorry.
-/
import Derived.Test.YtkbdbandeioibaaChecked
import GoSem.Claim
import GoSem.ClaimJoined
import GoSem.ClaimMapViews
import Derived.JoinedTies
import Derived.KernelRfl
namespace Go.Proofs.Ytkbdbandeioibaa
/- THE CELL 'sum', in the pinned program and in every row, IS THE sha256 OF THE DUMP (.gsa) THAT YtkbdbandeioibaaProg.lean LOADS. Nothing in Lean hashes anything: it is a label: what it is worth is what the hold of that sum in a sandbox is worth. -/
noncomputable def Try.pinned : Pinned := { name := "ytkbdbandeioibaa", sum := "137977b188f898ad142e0c79146e5b610c08459aa5d38a449ea6e5ed087d976d", checked := Try.checked }
namespace Rows
def none {H : Type} : Left H := { results := [], args := [] }

/-- 'louverlaw05.ExtPuts': WHATEVER THE INPUT: true; the input reads as it did. -/
def extPutsSpec : ChangeSpec := { name := "extPuts", fn := fun _ => fun
  | [d] => { results := [.lit (.bool true)], args := [d] }
  | _ => none }
def extPutsRow : OpenClaim := { program := "ytkbdbandeioibaa", sum := "137977b188f898ad142e0c79146e5b610c08459aa5d38a449ea6e5ed087d976d", func := "louver/louverlaw05.ExtPuts", spec := "extPuts", unfollowed := true, recurses := true, apart := false }
def ExtPutsSaid : Prop := extPutsRow.holds Try.pinned (OpenSpec.ofChange extPutsSpec)

/-- ITS FALSE NEIGHBOUR: 'it returns false'. Refute it at one input. -/
def extPutsWrong : ChangeSpec := { name := "extPuts", fn := fun _ => fun
  | [d] => { results := [.lit (.bool false)], args := [d] }
  | _ => none }
def ExtPutsWrongFalsely : Prop := extPutsRow.holds Try.pinned (OpenSpec.ofChange extPutsWrong)

/-- 'louverlaw05.ExtParses': WHATEVER THE INPUT: true; the input reads as it did. -/
def extParsesSpec : ChangeSpec := { name := "extParses", fn := fun _ => fun
  | [d1, d2, d3] => { results := [.lit (.bool true)], args := [d1, d2, d3] }
  | _ => none }
def extParsesRow : OpenClaim := { program := "ytkbdbandeioibaa", sum := "137977b188f898ad142e0c79146e5b610c08459aa5d38a449ea6e5ed087d976d", func := "louver/louverlaw05.ExtParses", spec := "extParses", unfollowed := true, recurses := true, apart := false }
def ExtParsesSaid : Prop := extParsesRow.holds Try.pinned (OpenSpec.ofChange extParsesSpec)

/-- ITS FALSE NEIGHBOUR: 'it returns false'. Refute it at one input. -/
def extParsesWrong : ChangeSpec := { name := "extParses", fn := fun _ => fun
  | [d1, d2, d3] => { results := [.lit (.bool false)], args := [d1, d2, d3] }
  | _ => none }
def ExtParsesWrongFalsely : Prop := extParsesRow.holds Try.pinned (OpenSpec.ofChange extParsesWrong)

/-- 'louverlaw05.ExtBack': WHATEVER THE INPUT: true; the input reads as it did. -/
def extBackSpec : ChangeSpec := { name := "extBack", fn := fun _ => fun
  | [d1, d2, d3] => { results := [.lit (.bool true)], args := [d1, d2, d3] }
  | _ => none }
def extBackRow : OpenClaim := { program := "ytkbdbandeioibaa", sum := "137977b188f898ad142e0c79146e5b610c08459aa5d38a449ea6e5ed087d976d", func := "louver/louverlaw05.ExtBack", spec := "extBack", unfollowed := true, recurses := true, apart := false }
def ExtBackSaid : Prop := extBackRow.holds Try.pinned (OpenSpec.ofChange extBackSpec)

/-- ITS FALSE NEIGHBOUR: 'it returns false'. Refute it at one input. -/
def extBackWrong : ChangeSpec := { name := "extBack", fn := fun _ => fun
  | [d1, d2, d3] => { results := [.lit (.bool false)], args := [d1, d2, d3] }
  | _ => none }
def ExtBackWrongFalsely : Prop := extBackRow.holds Try.pinned (OpenSpec.ofChange extBackWrong)

/-- 'louverlaw05.ExtCuts': WHATEVER THE INPUT: true; the input reads as it did. -/
def extCutsSpec : ChangeSpec := { name := "extCuts", fn := fun _ => fun
  | [d1, d2, d3] => { results := [.lit (.bool true)], args := [d1, d2, d3] }
  | _ => none }
def extCutsRow : OpenClaim := { program := "ytkbdbandeioibaa", sum := "137977b188f898ad142e0c79146e5b610c08459aa5d38a449ea6e5ed087d976d", func := "louver/louverlaw05.ExtCuts", spec := "extCuts", unfollowed := true, recurses := true, apart := false }
def ExtCutsSaid : Prop := extCutsRow.holds Try.pinned (OpenSpec.ofChange extCutsSpec)

/-- ITS FALSE NEIGHBOUR: 'it returns false'. Refute it at one input. -/
def extCutsWrong : ChangeSpec := { name := "extCuts", fn := fun _ => fun
  | [d1, d2, d3] => { results := [.lit (.bool false)], args := [d1, d2, d3] }
  | _ => none }
def ExtCutsWrongFalsely : Prop := extCutsRow.holds Try.pinned (OpenSpec.ofChange extCutsWrong)

/-- 'louverlaw05.ExtSizes': WHATEVER THE INPUT: true; the input reads as it did. -/
def extSizesSpec : ChangeSpec := { name := "extSizes", fn := fun _ => fun
  | [d] => { results := [.lit (.bool true)], args := [d] }
  | _ => none }
def extSizesRow : OpenClaim := { program := "ytkbdbandeioibaa", sum := "137977b188f898ad142e0c79146e5b610c08459aa5d38a449ea6e5ed087d976d", func := "louver/louverlaw05.ExtSizes", spec := "extSizes", unfollowed := true, recurses := true, apart := false }
def ExtSizesSaid : Prop := extSizesRow.holds Try.pinned (OpenSpec.ofChange extSizesSpec)

/-- ITS FALSE NEIGHBOUR: 'it returns false'. Refute it at one input. -/
def extSizesWrong : ChangeSpec := { name := "extSizes", fn := fun _ => fun
  | [d] => { results := [.lit (.bool false)], args := [d] }
  | _ => none }
def ExtSizesWrongFalsely : Prop := extSizesRow.holds Try.pinned (OpenSpec.ofChange extSizesWrong)

/-- 'louverlaw05.ExtOthers': WHATEVER THE INPUT: true; the input reads as it did. -/
def extOthersSpec : ChangeSpec := { name := "extOthers", fn := fun _ => fun
  | [d1, d2, d3] => { results := [.lit (.bool true)], args := [d1, d2, d3] }
  | _ => none }
def extOthersRow : OpenClaim := { program := "ytkbdbandeioibaa", sum := "137977b188f898ad142e0c79146e5b610c08459aa5d38a449ea6e5ed087d976d", func := "louver/louverlaw05.ExtOthers", spec := "extOthers", unfollowed := true, recurses := true, apart := false }
def ExtOthersSaid : Prop := extOthersRow.holds Try.pinned (OpenSpec.ofChange extOthersSpec)

/-- ITS FALSE NEIGHBOUR: 'it returns false'. Refute it at one input. -/
def extOthersWrong : ChangeSpec := { name := "extOthers", fn := fun _ => fun
  | [d1, d2, d3] => { results := [.lit (.bool false)], args := [d1, d2, d3] }
  | _ => none }
def ExtOthersWrongFalsely : Prop := extOthersRow.holds Try.pinned (OpenSpec.ofChange extOthersWrong)

/-- 'louverlaw07.Vp8Parses': WHATEVER THE INPUT: true; the input reads as it did. -/
def vp8ParsesSpec : ChangeSpec := { name := "vp8Parses", fn := fun _ => fun
  | [d] => { results := [.lit (.bool true)], args := [d] }
  | _ => none }
def vp8ParsesRow : OpenClaim := { program := "ytkbdbandeioibaa", sum := "137977b188f898ad142e0c79146e5b610c08459aa5d38a449ea6e5ed087d976d", func := "louver/louverlaw07.Vp8Parses", spec := "vp8Parses", unfollowed := true, recurses := true, apart := false }
def Vp8ParsesSaid : Prop := vp8ParsesRow.holds Try.pinned (OpenSpec.ofChange vp8ParsesSpec)

/-- ITS FALSE NEIGHBOUR: 'it returns false'. Refute it at one input. -/
def vp8ParsesWrong : ChangeSpec := { name := "vp8Parses", fn := fun _ => fun
  | [d] => { results := [.lit (.bool false)], args := [d] }
  | _ => none }
def Vp8ParsesWrongFalsely : Prop := vp8ParsesRow.holds Try.pinned (OpenSpec.ofChange vp8ParsesWrong)

/-- 'louverlaw07.Vp8Writes': WHATEVER THE INPUT: true; the input reads as it did. -/
def vp8WritesSpec : ChangeSpec := { name := "vp8Writes", fn := fun _ => fun
  | [d1, d2, d3] => { results := [.lit (.bool true)], args := [d1, d2, d3] }
  | _ => none }
def vp8WritesRow : OpenClaim := { program := "ytkbdbandeioibaa", sum := "137977b188f898ad142e0c79146e5b610c08459aa5d38a449ea6e5ed087d976d", func := "louver/louverlaw07.Vp8Writes", spec := "vp8Writes", unfollowed := true, recurses := true, apart := false }
def Vp8WritesSaid : Prop := vp8WritesRow.holds Try.pinned (OpenSpec.ofChange vp8WritesSpec)

/-- ITS FALSE NEIGHBOUR: 'it returns false'. Refute it at one input. -/
def vp8WritesWrong : ChangeSpec := { name := "vp8Writes", fn := fun _ => fun
  | [d1, d2, d3] => { results := [.lit (.bool false)], args := [d1, d2, d3] }
  | _ => none }
def Vp8WritesWrongFalsely : Prop := vp8WritesRow.holds Try.pinned (OpenSpec.ofChange vp8WritesWrong)

/-- 'louverlaw07.Vp8Back': WHATEVER THE INPUT: true; the input reads as it did. -/
def vp8BackSpec : ChangeSpec := { name := "vp8Back", fn := fun _ => fun
  | [d1, d2, d3] => { results := [.lit (.bool true)], args := [d1, d2, d3] }
  | _ => none }
def vp8BackRow : OpenClaim := { program := "ytkbdbandeioibaa", sum := "137977b188f898ad142e0c79146e5b610c08459aa5d38a449ea6e5ed087d976d", func := "louver/louverlaw07.Vp8Back", spec := "vp8Back", unfollowed := true, recurses := true, apart := false }
def Vp8BackSaid : Prop := vp8BackRow.holds Try.pinned (OpenSpec.ofChange vp8BackSpec)

/-- ITS FALSE NEIGHBOUR: 'it returns false'. Refute it at one input. -/
def vp8BackWrong : ChangeSpec := { name := "vp8Back", fn := fun _ => fun
  | [d1, d2, d3] => { results := [.lit (.bool false)], args := [d1, d2, d3] }
  | _ => none }
def Vp8BackWrongFalsely : Prop := vp8BackRow.holds Try.pinned (OpenSpec.ofChange vp8BackWrong)

/-- 'louverlaw07.Vp8Numbers': WHATEVER THE INPUT: true; the input reads as it did. -/
def vp8NumbersSpec : ChangeSpec := { name := "vp8Numbers", fn := fun _ => fun
  | [d1, d2, d3] => { results := [.lit (.bool true)], args := [d1, d2, d3] }
  | _ => none }
def vp8NumbersRow : OpenClaim := { program := "ytkbdbandeioibaa", sum := "137977b188f898ad142e0c79146e5b610c08459aa5d38a449ea6e5ed087d976d", func := "louver/louverlaw07.Vp8Numbers", spec := "vp8Numbers", unfollowed := true, recurses := true, apart := false }
def Vp8NumbersSaid : Prop := vp8NumbersRow.holds Try.pinned (OpenSpec.ofChange vp8NumbersSpec)

/-- ITS FALSE NEIGHBOUR: 'it returns false'. Refute it at one input. -/
def vp8NumbersWrong : ChangeSpec := { name := "vp8Numbers", fn := fun _ => fun
  | [d1, d2, d3] => { results := [.lit (.bool false)], args := [d1, d2, d3] }
  | _ => none }
def Vp8NumbersWrongFalsely : Prop := vp8NumbersRow.holds Try.pinned (OpenSpec.ofChange vp8NumbersWrong)

/-- 'louverlaw07.Vp8Ignores': WHATEVER THE INPUT: true; the input reads as it did. -/
def vp8IgnoresSpec : ChangeSpec := { name := "vp8Ignores", fn := fun _ => fun
  | [d1, d2] => { results := [.lit (.bool true)], args := [d1, d2] }
  | _ => none }
def vp8IgnoresRow : OpenClaim := { program := "ytkbdbandeioibaa", sum := "137977b188f898ad142e0c79146e5b610c08459aa5d38a449ea6e5ed087d976d", func := "louver/louverlaw07.Vp8Ignores", spec := "vp8Ignores", unfollowed := true, recurses := true, apart := false }
def Vp8IgnoresSaid : Prop := vp8IgnoresRow.holds Try.pinned (OpenSpec.ofChange vp8IgnoresSpec)

/-- ITS FALSE NEIGHBOUR: 'it returns false'. Refute it at one input. -/
def vp8IgnoresWrong : ChangeSpec := { name := "vp8Ignores", fn := fun _ => fun
  | [d1, d2] => { results := [.lit (.bool false)], args := [d1, d2] }
  | _ => none }
def Vp8IgnoresWrongFalsely : Prop := vp8IgnoresRow.holds Try.pinned (OpenSpec.ofChange vp8IgnoresWrong)

/-- 'louverlaw07.Vp8Sizes': WHATEVER THE INPUT: true; the input reads as it did. -/
def vp8SizesSpec : ChangeSpec := { name := "vp8Sizes", fn := fun _ => fun
  | [d] => { results := [.lit (.bool true)], args := [d] }
  | _ => none }
def vp8SizesRow : OpenClaim := { program := "ytkbdbandeioibaa", sum := "137977b188f898ad142e0c79146e5b610c08459aa5d38a449ea6e5ed087d976d", func := "louver/louverlaw07.Vp8Sizes", spec := "vp8Sizes", unfollowed := true, recurses := true, apart := false }
def Vp8SizesSaid : Prop := vp8SizesRow.holds Try.pinned (OpenSpec.ofChange vp8SizesSpec)

/-- ITS FALSE NEIGHBOUR: 'it returns false'. Refute it at one input. -/
def vp8SizesWrong : ChangeSpec := { name := "vp8Sizes", fn := fun _ => fun
  | [d] => { results := [.lit (.bool false)], args := [d] }
  | _ => none }
def Vp8SizesWrongFalsely : Prop := vp8SizesRow.holds Try.pinned (OpenSpec.ofChange vp8SizesWrong)

/-- 'louverlaw07.Vp8Wholes': WHATEVER THE INPUT: true; the input reads as it did. -/
def vp8WholesSpec : ChangeSpec := { name := "vp8Wholes", fn := fun _ => fun
  | [d1, d2, d3] => { results := [.lit (.bool true)], args := [d1, d2, d3] }
  | _ => none }
def vp8WholesRow : OpenClaim := { program := "ytkbdbandeioibaa", sum := "137977b188f898ad142e0c79146e5b610c08459aa5d38a449ea6e5ed087d976d", func := "louver/louverlaw07.Vp8Wholes", spec := "vp8Wholes", unfollowed := true, recurses := true, apart := false }
def Vp8WholesSaid : Prop := vp8WholesRow.holds Try.pinned (OpenSpec.ofChange vp8WholesSpec)

/-- ITS FALSE NEIGHBOUR: 'it returns false'. Refute it at one input. -/
def vp8WholesWrong : ChangeSpec := { name := "vp8Wholes", fn := fun _ => fun
  | [d1, d2, d3] => { results := [.lit (.bool false)], args := [d1, d2, d3] }
  | _ => none }
def Vp8WholesWrongFalsely : Prop := vp8WholesRow.holds Try.pinned (OpenSpec.ofChange vp8WholesWrong)

/- THE SECOND FORM. 'bulk': how many values and letters a reading holds, each counted each time it is reached (what is shared counts as often as it is met; a slice's spare places count too). A statement '..UptoSaid' is the law's where the arguments, and the package variables that the reading takes, are together of bulk at most 1048576: NARROWER than '..Said'. Prove '..Said' where nothing that the law and all that it calls make is longer than what came in: it says more and counts as full. Else prove '..UptoSaid'. A law counts once. -/
mutual
def uptoBulk {H : Type} : DataW H → Nat
  | .lit (.string bytes) => bytes.length + 1
  | .lit _ => 1
  | .nil => 1
  | .ptr d => uptoBulk d + 1
  | .slice elems spare => uptoBulkAll elems + uptoBulkAll spare + 1
  | .agg parts => uptoBulkAll parts + 1
  | .iface _ d => uptoBulk d + 1
  | .map entries => uptoBulkEntries entries + 1
  | .held _ => 1
def uptoBulkAll {H : Type} : List (DataW H) → Nat
  | [] => 0
  | d :: r => uptoBulk d + uptoBulkAll r
def uptoBulkEntries {H : Type} : List (Lit × DataW H) → Nat
  | [] => 0
  | x :: r => uptoBulkEntry x + uptoBulkEntries r
def uptoBulkEntry {H : Type} : Lit × DataW H → Nat
  | (.string bytes, d) => bytes.length + uptoBulk d + 1
  | (_, d) => uptoBulk d + 1
 end
def uptoSmall : (H : Type) → List (DataW H) → Bool := fun _ ds => decide (uptoBulkAll ds ≤ 1048576)
def OpenSpec.upto (s : _root_.Go.ChangeSpec) : _root_.Go.OpenSpec := { _root_.Go.OpenSpec.ofChange s with cond := some uptoSmall }

/-- 'louverlaw05.ExtPuts', WHERE WHAT IT READS IS OF BULK AT MOST 1048576: true; the input reads as it did. -/
def extPutsUptoRow : OpenClaim := { program := "ytkbdbandeioibaa", sum := "137977b188f898ad142e0c79146e5b610c08459aa5d38a449ea6e5ed087d976d", func := "louver/louverlaw05.ExtPuts", spec := "extPuts", unfollowed := true, recurses := true, apart := false, narrowed := true }
def ExtPutsUptoSaid : Prop := extPutsUptoRow.holds Try.pinned (OpenSpec.upto extPutsSpec)

/-- 'louverlaw05.ExtParses', WHERE WHAT IT READS IS OF BULK AT MOST 1048576: true; the input reads as it did. -/
def extParsesUptoRow : OpenClaim := { program := "ytkbdbandeioibaa", sum := "137977b188f898ad142e0c79146e5b610c08459aa5d38a449ea6e5ed087d976d", func := "louver/louverlaw05.ExtParses", spec := "extParses", unfollowed := true, recurses := true, apart := false, narrowed := true }
def ExtParsesUptoSaid : Prop := extParsesUptoRow.holds Try.pinned (OpenSpec.upto extParsesSpec)

/-- 'louverlaw05.ExtBack', WHERE WHAT IT READS IS OF BULK AT MOST 1048576: true; the input reads as it did. -/
def extBackUptoRow : OpenClaim := { program := "ytkbdbandeioibaa", sum := "137977b188f898ad142e0c79146e5b610c08459aa5d38a449ea6e5ed087d976d", func := "louver/louverlaw05.ExtBack", spec := "extBack", unfollowed := true, recurses := true, apart := false, narrowed := true }
def ExtBackUptoSaid : Prop := extBackUptoRow.holds Try.pinned (OpenSpec.upto extBackSpec)

/-- 'louverlaw05.ExtCuts', WHERE WHAT IT READS IS OF BULK AT MOST 1048576: true; the input reads as it did. -/
def extCutsUptoRow : OpenClaim := { program := "ytkbdbandeioibaa", sum := "137977b188f898ad142e0c79146e5b610c08459aa5d38a449ea6e5ed087d976d", func := "louver/louverlaw05.ExtCuts", spec := "extCuts", unfollowed := true, recurses := true, apart := false, narrowed := true }
def ExtCutsUptoSaid : Prop := extCutsUptoRow.holds Try.pinned (OpenSpec.upto extCutsSpec)

/-- 'louverlaw05.ExtSizes', WHERE WHAT IT READS IS OF BULK AT MOST 1048576: true; the input reads as it did. -/
def extSizesUptoRow : OpenClaim := { program := "ytkbdbandeioibaa", sum := "137977b188f898ad142e0c79146e5b610c08459aa5d38a449ea6e5ed087d976d", func := "louver/louverlaw05.ExtSizes", spec := "extSizes", unfollowed := true, recurses := true, apart := false, narrowed := true }
def ExtSizesUptoSaid : Prop := extSizesUptoRow.holds Try.pinned (OpenSpec.upto extSizesSpec)

/-- 'louverlaw05.ExtOthers', WHERE WHAT IT READS IS OF BULK AT MOST 1048576: true; the input reads as it did. -/
def extOthersUptoRow : OpenClaim := { program := "ytkbdbandeioibaa", sum := "137977b188f898ad142e0c79146e5b610c08459aa5d38a449ea6e5ed087d976d", func := "louver/louverlaw05.ExtOthers", spec := "extOthers", unfollowed := true, recurses := true, apart := false, narrowed := true }
def ExtOthersUptoSaid : Prop := extOthersUptoRow.holds Try.pinned (OpenSpec.upto extOthersSpec)

/-- 'louverlaw07.Vp8Parses', WHERE WHAT IT READS IS OF BULK AT MOST 1048576: true; the input reads as it did. -/
def vp8ParsesUptoRow : OpenClaim := { program := "ytkbdbandeioibaa", sum := "137977b188f898ad142e0c79146e5b610c08459aa5d38a449ea6e5ed087d976d", func := "louver/louverlaw07.Vp8Parses", spec := "vp8Parses", unfollowed := true, recurses := true, apart := false, narrowed := true }
def Vp8ParsesUptoSaid : Prop := vp8ParsesUptoRow.holds Try.pinned (OpenSpec.upto vp8ParsesSpec)

/-- 'louverlaw07.Vp8Writes', WHERE WHAT IT READS IS OF BULK AT MOST 1048576: true; the input reads as it did. -/
def vp8WritesUptoRow : OpenClaim := { program := "ytkbdbandeioibaa", sum := "137977b188f898ad142e0c79146e5b610c08459aa5d38a449ea6e5ed087d976d", func := "louver/louverlaw07.Vp8Writes", spec := "vp8Writes", unfollowed := true, recurses := true, apart := false, narrowed := true }
def Vp8WritesUptoSaid : Prop := vp8WritesUptoRow.holds Try.pinned (OpenSpec.upto vp8WritesSpec)

/-- 'louverlaw07.Vp8Back', WHERE WHAT IT READS IS OF BULK AT MOST 1048576: true; the input reads as it did. -/
def vp8BackUptoRow : OpenClaim := { program := "ytkbdbandeioibaa", sum := "137977b188f898ad142e0c79146e5b610c08459aa5d38a449ea6e5ed087d976d", func := "louver/louverlaw07.Vp8Back", spec := "vp8Back", unfollowed := true, recurses := true, apart := false, narrowed := true }
def Vp8BackUptoSaid : Prop := vp8BackUptoRow.holds Try.pinned (OpenSpec.upto vp8BackSpec)

/-- 'louverlaw07.Vp8Numbers', WHERE WHAT IT READS IS OF BULK AT MOST 1048576: true; the input reads as it did. -/
def vp8NumbersUptoRow : OpenClaim := { program := "ytkbdbandeioibaa", sum := "137977b188f898ad142e0c79146e5b610c08459aa5d38a449ea6e5ed087d976d", func := "louver/louverlaw07.Vp8Numbers", spec := "vp8Numbers", unfollowed := true, recurses := true, apart := false, narrowed := true }
def Vp8NumbersUptoSaid : Prop := vp8NumbersUptoRow.holds Try.pinned (OpenSpec.upto vp8NumbersSpec)

/-- 'louverlaw07.Vp8Ignores', WHERE WHAT IT READS IS OF BULK AT MOST 1048576: true; the input reads as it did. -/
def vp8IgnoresUptoRow : OpenClaim := { program := "ytkbdbandeioibaa", sum := "137977b188f898ad142e0c79146e5b610c08459aa5d38a449ea6e5ed087d976d", func := "louver/louverlaw07.Vp8Ignores", spec := "vp8Ignores", unfollowed := true, recurses := true, apart := false, narrowed := true }
def Vp8IgnoresUptoSaid : Prop := vp8IgnoresUptoRow.holds Try.pinned (OpenSpec.upto vp8IgnoresSpec)

/-- 'louverlaw07.Vp8Sizes', WHERE WHAT IT READS IS OF BULK AT MOST 1048576: true; the input reads as it did. -/
def vp8SizesUptoRow : OpenClaim := { program := "ytkbdbandeioibaa", sum := "137977b188f898ad142e0c79146e5b610c08459aa5d38a449ea6e5ed087d976d", func := "louver/louverlaw07.Vp8Sizes", spec := "vp8Sizes", unfollowed := true, recurses := true, apart := false, narrowed := true }
def Vp8SizesUptoSaid : Prop := vp8SizesUptoRow.holds Try.pinned (OpenSpec.upto vp8SizesSpec)

/-- 'louverlaw07.Vp8Wholes', WHERE WHAT IT READS IS OF BULK AT MOST 1048576: true; the input reads as it did. -/
def vp8WholesUptoRow : OpenClaim := { program := "ytkbdbandeioibaa", sum := "137977b188f898ad142e0c79146e5b610c08459aa5d38a449ea6e5ed087d976d", func := "louver/louverlaw07.Vp8Wholes", spec := "vp8Wholes", unfollowed := true, recurses := true, apart := false, narrowed := true }
def Vp8WholesUptoSaid : Prop := vp8WholesUptoRow.holds Try.pinned (OpenSpec.upto vp8WholesSpec)

end Rows
end Go.Proofs.Ytkbdbandeioibaa
