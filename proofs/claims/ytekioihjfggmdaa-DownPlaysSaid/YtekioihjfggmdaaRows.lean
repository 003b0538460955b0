/-
  No cell of these rows narrows 'for every input' (looked for: loops, veiled, ifaces, maps, wideKeys, modest, calm, conditions, laid).
  DERIVED. THE GIVEN ROWS OF THIS SEAT. 7 by the template 'for every input the law returns true; each argument reads behind the call as it read before'; 0 by the template 'total and deterministic' (their statements: YtekioihjfggmdaaTotals.lean).
  GIVEN WITH THE SEED: the statements are not yours to turn. If you find one false, say at which input.
  Laid BY PROGRAM, IN A SANDBOX (cutbox-rows.mjs): the forced cells as the released guide's own fill.sh prints them over the translation 099ae79e5610c40a… (all of the seat's roots in one cut). By AI agents, Wed Nov 11 2026. No macro, syntax, notation, axiom, sorry.
-/
import Derived.Test.YtekioihjfggmdaaChecked
import GoSem.Claim
import GoSem.ClaimJoined
import GoSem.ClaimMapViews
import Derived.JoinedTies
import Derived.KernelRfl
namespace Go.Proofs.Ytekioihjfggmdaa
/- THE CELL 'sum', in the pinned program and in every row, IS THE sha256 OF THE DUMP (.gsa) THAT YtekioihjfggmdaaProg.lean LOADS. Nothing in Lean hashes anything: it is a label: what it is worth is what the hold of that sum in a sandbox is worth. -/
noncomputable def Try.pinned : Pinned := { name := "ytekioihjfggmdaa", sum := "099ae79e5610c40ace508863db3617f836db8523331755a7004587c6a89072e0", checked := Try.checked }
namespace Rows
def none {H : Type} : Left H := { results := [], args := [] }

/-- 'louverlaw14.DownPlays': WHATEVER THE INPUT: true; the input reads as it did. -/
def downPlaysSpec : ChangeSpec := { name := "downPlays", fn := fun _ => fun
  | [d1, d2, d3] => { results := [.lit (.bool true)], args := [d1, d2, d3] }
  | _ => none }
def downPlaysRow : OpenClaim := { program := "ytekioihjfggmdaa", sum := "099ae79e5610c40ace508863db3617f836db8523331755a7004587c6a89072e0", func := "louver/louverlaw14.DownPlays", spec := "downPlays", unfollowed := true, recurses := true, apart := false }
def DownPlaysSaid : Prop := downPlaysRow.holds Try.pinned (OpenSpec.ofChange downPlaysSpec)

/-- ITS FALSE NEIGHBOUR: 'it returns false'. Refute it at one input. -/
def downPlaysWrong : ChangeSpec := { name := "downPlays", fn := fun _ => fun
  | [d1, d2, d3] => { results := [.lit (.bool false)], args := [d1, d2, d3] }
  | _ => none }
def DownPlaysWrongFalsely : Prop := downPlaysRow.holds Try.pinned (OpenSpec.ofChange downPlaysWrong)

/-- 'louverlaw14.DownSame': WHATEVER THE INPUT: true; the input reads as it did. -/
def downSameSpec : ChangeSpec := { name := "downSame", fn := fun _ => fun
  | [d1, d2] => { results := [.lit (.bool true)], args := [d1, d2] }
  | _ => none }
def downSameRow : OpenClaim := { program := "ytekioihjfggmdaa", sum := "099ae79e5610c40ace508863db3617f836db8523331755a7004587c6a89072e0", func := "louver/louverlaw14.DownSame", spec := "downSame", unfollowed := true, recurses := true, apart := false }
def DownSameSaid : Prop := downSameRow.holds Try.pinned (OpenSpec.ofChange downSameSpec)

/-- ITS FALSE NEIGHBOUR: 'it returns false'. Refute it at one input. -/
def downSameWrong : ChangeSpec := { name := "downSame", fn := fun _ => fun
  | [d1, d2] => { results := [.lit (.bool false)], args := [d1, d2] }
  | _ => none }
def DownSameWrongFalsely : Prop := downSameRow.holds Try.pinned (OpenSpec.ofChange downSameWrong)

/-- 'louverlaw14.DownOrder': WHATEVER THE INPUT: true; the input reads as it did. -/
def downOrderSpec : ChangeSpec := { name := "downOrder", fn := fun _ => fun
  | [d1, d2, d3] => { results := [.lit (.bool true)], args := [d1, d2, d3] }
  | _ => none }
def downOrderRow : OpenClaim := { program := "ytekioihjfggmdaa", sum := "099ae79e5610c40ace508863db3617f836db8523331755a7004587c6a89072e0", func := "louver/louverlaw14.DownOrder", spec := "downOrder", unfollowed := true, recurses := true, apart := false }
def DownOrderSaid : Prop := downOrderRow.holds Try.pinned (OpenSpec.ofChange downOrderSpec)

/-- ITS FALSE NEIGHBOUR: 'it returns false'. Refute it at one input. -/
def downOrderWrong : ChangeSpec := { name := "downOrder", fn := fun _ => fun
  | [d1, d2, d3] => { results := [.lit (.bool false)], args := [d1, d2, d3] }
  | _ => none }
def DownOrderWrongFalsely : Prop := downOrderRow.holds Try.pinned (OpenSpec.ofChange downOrderWrong)

/-- 'louverlaw14.DownStreams': WHATEVER THE INPUT: true; the input reads as it did. -/
def downStreamsSpec : ChangeSpec := { name := "downStreams", fn := fun _ => fun
  | [d] => { results := [.lit (.bool true)], args := [d] }
  | _ => none }
def downStreamsRow : OpenClaim := { program := "ytekioihjfggmdaa", sum := "099ae79e5610c40ace508863db3617f836db8523331755a7004587c6a89072e0", func := "louver/louverlaw14.DownStreams", spec := "downStreams", unfollowed := true, recurses := true, apart := false }
def DownStreamsSaid : Prop := downStreamsRow.holds Try.pinned (OpenSpec.ofChange downStreamsSpec)

/-- ITS FALSE NEIGHBOUR: 'it returns false'. Refute it at one input. -/
def downStreamsWrong : ChangeSpec := { name := "downStreams", fn := fun _ => fun
  | [d] => { results := [.lit (.bool false)], args := [d] }
  | _ => none }
def DownStreamsWrongFalsely : Prop := downStreamsRow.holds Try.pinned (OpenSpec.ofChange downStreamsWrong)

/-- 'louverlaw14.DownAgain': WHATEVER THE INPUT: true; the input reads as it did. -/
def downAgainSpec : ChangeSpec := { name := "downAgain", fn := fun _ => fun
  | [d1, d2] => { results := [.lit (.bool true)], args := [d1, d2] }
  | _ => none }
def downAgainRow : OpenClaim := { program := "ytekioihjfggmdaa", sum := "099ae79e5610c40ace508863db3617f836db8523331755a7004587c6a89072e0", func := "louver/louverlaw14.DownAgain", spec := "downAgain", unfollowed := true, recurses := true, apart := false }
def DownAgainSaid : Prop := downAgainRow.holds Try.pinned (OpenSpec.ofChange downAgainSpec)

/-- ITS FALSE NEIGHBOUR: 'it returns false'. Refute it at one input. -/
def downAgainWrong : ChangeSpec := { name := "downAgain", fn := fun _ => fun
  | [d1, d2] => { results := [.lit (.bool false)], args := [d1, d2] }
  | _ => none }
def DownAgainWrongFalsely : Prop := downAgainRow.holds Try.pinned (OpenSpec.ofChange downAgainWrong)

/-- 'louverlaw14.DownCounts': WHATEVER THE INPUT: true; the input reads as it did. -/
def downCountsSpec : ChangeSpec := { name := "downCounts", fn := fun _ => fun
  | [d1, d2] => { results := [.lit (.bool true)], args := [d1, d2] }
  | _ => none }
def downCountsRow : OpenClaim := { program := "ytekioihjfggmdaa", sum := "099ae79e5610c40ace508863db3617f836db8523331755a7004587c6a89072e0", func := "louver/louverlaw14.DownCounts", spec := "downCounts", unfollowed := true, recurses := true, apart := false }
def DownCountsSaid : Prop := downCountsRow.holds Try.pinned (OpenSpec.ofChange downCountsSpec)

/-- ITS FALSE NEIGHBOUR: 'it returns false'. Refute it at one input. -/
def downCountsWrong : ChangeSpec := { name := "downCounts", fn := fun _ => fun
  | [d1, d2] => { results := [.lit (.bool false)], args := [d1, d2] }
  | _ => none }
def DownCountsWrongFalsely : Prop := downCountsRow.holds Try.pinned (OpenSpec.ofChange downCountsWrong)

/-- 'louverlaw14.DownMutes': WHATEVER THE INPUT: true; the input reads as it did. -/
def downMutesSpec : ChangeSpec := { name := "downMutes", fn := fun _ => fun
  | [d1, d2, d3] => { results := [.lit (.bool true)], args := [d1, d2, d3] }
  | _ => none }
def downMutesRow : OpenClaim := { program := "ytekioihjfggmdaa", sum := "099ae79e5610c40ace508863db3617f836db8523331755a7004587c6a89072e0", func := "louver/louverlaw14.DownMutes", spec := "downMutes", unfollowed := true, recurses := true, apart := false }
def DownMutesSaid : Prop := downMutesRow.holds Try.pinned (OpenSpec.ofChange downMutesSpec)

/-- ITS FALSE NEIGHBOUR: 'it returns false'. Refute it at one input. -/
def downMutesWrong : ChangeSpec := { name := "downMutes", fn := fun _ => fun
  | [d1, d2, d3] => { results := [.lit (.bool false)], args := [d1, d2, d3] }
  | _ => none }
def DownMutesWrongFalsely : Prop := downMutesRow.holds Try.pinned (OpenSpec.ofChange downMutesWrong)

/- THE SECOND FORM. 'bulk': how many values and letters a reading holds, each counted each time it is reached (what is shared counts as often as it is met; a slice's spare places count too). A statement '..UptoSaid' is the law's where the arguments, and the package variables that the reading takes, are together of bulk at most 1048576: NARROWER than '..Said'. Prove '..Said' where nothing that the law and all that it calls make is longer than what came in: it says more and counts as full. Else prove '..UptoSaid'. A law counts once. -/
mutual
def uptoBulk {H : Type} : DataW H → Nat
  | .lit (.string bytes) => bytes.length + 1
  | .lit _ => 1
  | .nil => 1
  | .ptr d => uptoBulk d + 1
  | .slice elems spare => uptoBulkAll elems + uptoBulkAll spare + 1
  | .agg parts => uptoBulkAll parts + 1
  | .iface _ d => uptoBulk d + 1
  | .map entries => uptoBulkEntries entries + 1
  | .held _ => 1
def uptoBulkAll {H : Type} : List (DataW H) → Nat
  | [] => 0
  | d :: r => uptoBulk d + uptoBulkAll r
def uptoBulkEntries {H : Type} : List (Lit × DataW H) → Nat
  | [] => 0
  | x :: r => uptoBulkEntry x + uptoBulkEntries r
def uptoBulkEntry {H : Type} : Lit × DataW H → Nat
  | (.string bytes, d) => bytes.length + uptoBulk d + 1
  | (_, d) => uptoBulk d + 1
 end
def uptoSmall : (H : Type) → List (DataW H) → Bool := fun _ ds => decide (uptoBulkAll ds ≤ 1048576)
def OpenSpec.upto (s : _root_.Go.ChangeSpec) : _root_.Go.OpenSpec := { _root_.Go.OpenSpec.ofChange s with cond := some uptoSmall }

/-- 'louverlaw14.DownPlays', WHERE WHAT IT READS IS OF BULK AT MOST 1048576: true; the input reads as it did. -/
def downPlaysUptoRow : OpenClaim := { program := "ytekioihjfggmdaa", sum := "099ae79e5610c40ace508863db3617f836db8523331755a7004587c6a89072e0", func := "louver/louverlaw14.DownPlays", spec := "downPlays", unfollowed := true, recurses := true, apart := false, narrowed := true }
def DownPlaysUptoSaid : Prop := downPlaysUptoRow.holds Try.pinned (OpenSpec.upto downPlaysSpec)

/-- 'louverlaw14.DownSame', WHERE WHAT IT READS IS OF BULK AT MOST 1048576: true; the input reads as it did. -/
def downSameUptoRow : OpenClaim := { program := "ytekioihjfggmdaa", sum := "099ae79e5610c40ace508863db3617f836db8523331755a7004587c6a89072e0", func := "louver/louverlaw14.DownSame", spec := "downSame", unfollowed := true, recurses := true, apart := false, narrowed := true }
def DownSameUptoSaid : Prop := downSameUptoRow.holds Try.pinned (OpenSpec.upto downSameSpec)

/-- 'louverlaw14.DownOrder', WHERE WHAT IT READS IS OF BULK AT MOST 1048576: true; the input reads as it did. -/
def downOrderUptoRow : OpenClaim := { program := "ytekioihjfggmdaa", sum := "099ae79e5610c40ace508863db3617f836db8523331755a7004587c6a89072e0", func := "louver/louverlaw14.DownOrder", spec := "downOrder", unfollowed := true, recurses := true, apart := false, narrowed := true }
def DownOrderUptoSaid : Prop := downOrderUptoRow.holds Try.pinned (OpenSpec.upto downOrderSpec)

/-- 'louverlaw14.DownStreams', WHERE WHAT IT READS IS OF BULK AT MOST 1048576: true; the input reads as it did. -/
def downStreamsUptoRow : OpenClaim := { program := "ytekioihjfggmdaa", sum := "099ae79e5610c40ace508863db3617f836db8523331755a7004587c6a89072e0", func := "louver/louverlaw14.DownStreams", spec := "downStreams", unfollowed := true, recurses := true, apart := false, narrowed := true }
def DownStreamsUptoSaid : Prop := downStreamsUptoRow.holds Try.pinned (OpenSpec.upto downStreamsSpec)

/-- 'louverlaw14.DownAgain', WHERE WHAT IT READS IS OF BULK AT MOST 1048576: true; the input reads as it did. -/
def downAgainUptoRow : OpenClaim := { program := "ytekioihjfggmdaa", sum := "099ae79e5610c40ace508863db3617f836db8523331755a7004587c6a89072e0", func := "louver/louverlaw14.DownAgain", spec := "downAgain", unfollowed := true, recurses := true, apart := false, narrowed := true }
def DownAgainUptoSaid : Prop := downAgainUptoRow.holds Try.pinned (OpenSpec.upto downAgainSpec)

/-- 'louverlaw14.DownCounts', WHERE WHAT IT READS IS OF BULK AT MOST 1048576: true; the input reads as it did. -/
def downCountsUptoRow : OpenClaim := { program := "ytekioihjfggmdaa", sum := "099ae79e5610c40ace508863db3617f836db8523331755a7004587c6a89072e0", func := "louver/louverlaw14.DownCounts", spec := "downCounts", unfollowed := true, recurses := true, apart := false, narrowed := true }
def DownCountsUptoSaid : Prop := downCountsUptoRow.holds Try.pinned (OpenSpec.upto downCountsSpec)

/-- 'louverlaw14.DownMutes', WHERE WHAT IT READS IS OF BULK AT MOST 1048576: true; the input reads as it did. -/
def downMutesUptoRow : OpenClaim := { program := "ytekioihjfggmdaa", sum := "099ae79e5610c40ace508863db3617f836db8523331755a7004587c6a89072e0", func := "louver/louverlaw14.DownMutes", spec := "downMutes", unfollowed := true, recurses := true, apart := false, narrowed := true }
def DownMutesUptoSaid : Prop := downMutesUptoRow.holds Try.pinned (OpenSpec.upto downMutesSpec)

end Rows
end Go.Proofs.Ytekioihjfggmdaa
