/-
  No cell of these rows narrows 'for every input' (looked for: loops, veiled, ifaces, maps, wideKeys, modest, calm, conditions, laid).
  DERIVED. THE GIVEN ROWS OF THIS SEAT. 12 by the template 'for every input the law returns true; each argument reads behind the call as it read before'; 0 by the template 'total and deterministic' (their statements: YtlfomilalkkbeaaTotals.lean).
  GIVEN WITH THE SEED: the statements are not yours to turn. If you find one false, say at which input.
  Laid BY PROGRAM, IN A SANDBOX (cutbox-rows.mjs): the forced cells as the released guide's own fill.sh prints them over the translation a50bf75267095a4d… (all of the seat's roots in one cut). By AI agents, Wed Nov 11 2026. No macro, syntax, notation, axiom, sorry.
-/
import Derived.Test.YtlfomilalkkbeaaChecked
import GoSem.Claim
import GoSem.ClaimJoined
import GoSem.ClaimMapViews
import Derived.JoinedTies
import Derived.KernelRfl
namespace Go.Proofs.Ytlfomilalkkbeaa
/- THE CELL 'sum', in the pinned program and in every row, IS THE sha256 OF THE DUMP (.gsa) THAT YtlfomilalkkbeaaProg.lean LOADS. Nothing in Lean hashes anything: it is a label: what it is worth is what the hold of that sum in a sandbox is worth. -/
noncomputable def Try.pinned : Pinned := { name := "ytlfomilalkkbeaa", sum := "a50bf75267095a4d6e1d7ac69c90d46f96bf39a1ba3edcca4601f5075fae5b2a", checked := Try.checked }
namespace Rows
def none {H : Type} : Left H := { results := [], args := [] }

/-- 'louverlaw01.OctetPuts': WHATEVER THE INPUT: true; the input reads as it did. -/
def octetPutsSpec : ChangeSpec := { name := "octetPuts", fn := fun _ => fun
  | [d] => { results := [.lit (.bool true)], args := [d] }
  | _ => none }
def octetPutsRow : OpenClaim := { program := "ytlfomilalkkbeaa", sum := "a50bf75267095a4d6e1d7ac69c90d46f96bf39a1ba3edcca4601f5075fae5b2a", func := "louver/louverlaw01.OctetPuts", spec := "octetPuts", apart := false }
def OctetPutsSaid : Prop := octetPutsRow.holds Try.pinned (OpenSpec.ofChange octetPutsSpec)

/-- ITS FALSE NEIGHBOUR: 'it returns false'. Refute it at one input. -/
def octetPutsWrong : ChangeSpec := { name := "octetPuts", fn := fun _ => fun
  | [d] => { results := [.lit (.bool false)], args := [d] }
  | _ => none }
def OctetPutsWrongFalsely : Prop := octetPutsRow.holds Try.pinned (OpenSpec.ofChange octetPutsWrong)

/-- 'louverlaw01.OctetParts': WHATEVER THE INPUT: true; the input reads as it did. -/
def octetPartsSpec : ChangeSpec := { name := "octetParts", fn := fun _ => fun
  | [d1, d2, d3] => { results := [.lit (.bool true)], args := [d1, d2, d3] }
  | _ => none }
def octetPartsRow : OpenClaim := { program := "ytlfomilalkkbeaa", sum := "a50bf75267095a4d6e1d7ac69c90d46f96bf39a1ba3edcca4601f5075fae5b2a", func := "louver/louverlaw01.OctetParts", spec := "octetParts", apart := false }
def OctetPartsSaid : Prop := octetPartsRow.holds Try.pinned (OpenSpec.ofChange octetPartsSpec)

/-- ITS FALSE NEIGHBOUR: 'it returns false'. Refute it at one input. -/
def octetPartsWrong : ChangeSpec := { name := "octetParts", fn := fun _ => fun
  | [d1, d2, d3] => { results := [.lit (.bool false)], args := [d1, d2, d3] }
  | _ => none }
def OctetPartsWrongFalsely : Prop := octetPartsRow.holds Try.pinned (OpenSpec.ofChange octetPartsWrong)

/-- 'louverlaw01.OctetTakes': WHATEVER THE INPUT: true; the input reads as it did. -/
def octetTakesSpec : ChangeSpec := { name := "octetTakes", fn := fun _ => fun
  | [d1, d2] => { results := [.lit (.bool true)], args := [d1, d2] }
  | _ => none }
def octetTakesRow : OpenClaim := { program := "ytlfomilalkkbeaa", sum := "a50bf75267095a4d6e1d7ac69c90d46f96bf39a1ba3edcca4601f5075fae5b2a", func := "louver/louverlaw01.OctetTakes", spec := "octetTakes", apart := false }
def OctetTakesSaid : Prop := octetTakesRow.holds Try.pinned (OpenSpec.ofChange octetTakesSpec)

/-- ITS FALSE NEIGHBOUR: 'it returns false'. Refute it at one input. -/
def octetTakesWrong : ChangeSpec := { name := "octetTakes", fn := fun _ => fun
  | [d1, d2] => { results := [.lit (.bool false)], args := [d1, d2] }
  | _ => none }
def OctetTakesWrongFalsely : Prop := octetTakesRow.holds Try.pinned (OpenSpec.ofChange octetTakesWrong)

/-- 'louverlaw01.OctetBack': WHATEVER THE INPUT: true; the input reads as it did. -/
def octetBackSpec : ChangeSpec := { name := "octetBack", fn := fun _ => fun
  | [d1, d2] => { results := [.lit (.bool true)], args := [d1, d2] }
  | _ => none }
def octetBackRow : OpenClaim := { program := "ytlfomilalkkbeaa", sum := "a50bf75267095a4d6e1d7ac69c90d46f96bf39a1ba3edcca4601f5075fae5b2a", func := "louver/louverlaw01.OctetBack", spec := "octetBack", apart := false }
def OctetBackSaid : Prop := octetBackRow.holds Try.pinned (OpenSpec.ofChange octetBackSpec)

/-- ITS FALSE NEIGHBOUR: 'it returns false'. Refute it at one input. -/
def octetBackWrong : ChangeSpec := { name := "octetBack", fn := fun _ => fun
  | [d1, d2] => { results := [.lit (.bool false)], args := [d1, d2] }
  | _ => none }
def OctetBackWrongFalsely : Prop := octetBackRow.holds Try.pinned (OpenSpec.ofChange octetBackWrong)

/-- 'louverlaw01.OctetOwn': WHATEVER THE INPUT: true; the input reads as it did. -/
def octetOwnSpec : ChangeSpec := { name := "octetOwn", fn := fun _ => fun
  | [d1, d2] => { results := [.lit (.bool true)], args := [d1, d2] }
  | _ => none }
def octetOwnRow : OpenClaim := { program := "ytlfomilalkkbeaa", sum := "a50bf75267095a4d6e1d7ac69c90d46f96bf39a1ba3edcca4601f5075fae5b2a", func := "louver/louverlaw01.OctetOwn", spec := "octetOwn", apart := false }
def OctetOwnSaid : Prop := octetOwnRow.holds Try.pinned (OpenSpec.ofChange octetOwnSpec)

/-- ITS FALSE NEIGHBOUR: 'it returns false'. Refute it at one input. -/
def octetOwnWrong : ChangeSpec := { name := "octetOwn", fn := fun _ => fun
  | [d1, d2] => { results := [.lit (.bool false)], args := [d1, d2] }
  | _ => none }
def OctetOwnWrongFalsely : Prop := octetOwnRow.holds Try.pinned (OpenSpec.ofChange octetOwnWrong)

/-- 'louverlaw01.OctetStays': WHATEVER THE INPUT: true; the input reads as it did. -/
def octetStaysSpec : ChangeSpec := { name := "octetStays", fn := fun _ => fun
  | [d1, d2] => { results := [.lit (.bool true)], args := [d1, d2] }
  | _ => none }
def octetStaysRow : OpenClaim := { program := "ytlfomilalkkbeaa", sum := "a50bf75267095a4d6e1d7ac69c90d46f96bf39a1ba3edcca4601f5075fae5b2a", func := "louver/louverlaw01.OctetStays", spec := "octetStays", apart := false }
def OctetStaysSaid : Prop := octetStaysRow.holds Try.pinned (OpenSpec.ofChange octetStaysSpec)

/-- ITS FALSE NEIGHBOUR: 'it returns false'. Refute it at one input. -/
def octetStaysWrong : ChangeSpec := { name := "octetStays", fn := fun _ => fun
  | [d1, d2] => { results := [.lit (.bool false)], args := [d1, d2] }
  | _ => none }
def OctetStaysWrongFalsely : Prop := octetStaysRow.holds Try.pinned (OpenSpec.ofChange octetStaysWrong)

/-- 'louverlaw01.OctetSizes': WHATEVER THE INPUT: true; the input reads as it did. -/
def octetSizesSpec : ChangeSpec := { name := "octetSizes", fn := fun _ => fun
  | [d1, d2] => { results := [.lit (.bool true)], args := [d1, d2] }
  | _ => none }
def octetSizesRow : OpenClaim := { program := "ytlfomilalkkbeaa", sum := "a50bf75267095a4d6e1d7ac69c90d46f96bf39a1ba3edcca4601f5075fae5b2a", func := "louver/louverlaw01.OctetSizes", spec := "octetSizes", apart := false }
def OctetSizesSaid : Prop := octetSizesRow.holds Try.pinned (OpenSpec.ofChange octetSizesSpec)

/-- ITS FALSE NEIGHBOUR: 'it returns false'. Refute it at one input. -/
def octetSizesWrong : ChangeSpec := { name := "octetSizes", fn := fun _ => fun
  | [d1, d2] => { results := [.lit (.bool false)], args := [d1, d2] }
  | _ => none }
def OctetSizesWrongFalsely : Prop := octetSizesRow.holds Try.pinned (OpenSpec.ofChange octetSizesWrong)

/-- 'louverlaw19.ReqPuts': WHATEVER THE INPUT: true; the input reads as it did. -/
def reqPutsSpec : ChangeSpec := { name := "reqPuts", fn := fun _ => fun
  | [d1, d2] => { results := [.lit (.bool true)], args := [d1, d2] }
  | _ => none }
def reqPutsRow : OpenClaim := { program := "ytlfomilalkkbeaa", sum := "a50bf75267095a4d6e1d7ac69c90d46f96bf39a1ba3edcca4601f5075fae5b2a", func := "louver/louverlaw19.ReqPuts", spec := "reqPuts", unfollowed := true, recurses := true, apart := false }
def ReqPutsSaid : Prop := reqPutsRow.holds Try.pinned (OpenSpec.ofChange reqPutsSpec)

/-- ITS FALSE NEIGHBOUR: 'it returns false'. Refute it at one input. -/
def reqPutsWrong : ChangeSpec := { name := "reqPuts", fn := fun _ => fun
  | [d1, d2] => { results := [.lit (.bool false)], args := [d1, d2] }
  | _ => none }
def ReqPutsWrongFalsely : Prop := reqPutsRow.holds Try.pinned (OpenSpec.ofChange reqPutsWrong)

/-- 'louverlaw19.ReqParses': WHATEVER THE INPUT: true; the input reads as it did. -/
def reqParsesSpec : ChangeSpec := { name := "reqParses", fn := fun _ => fun
  | [d1, d2, d3, d4, d5] => { results := [.lit (.bool true)], args := [d1, d2, d3, d4, d5] }
  | _ => none }
def reqParsesRow : OpenClaim := { program := "ytlfomilalkkbeaa", sum := "a50bf75267095a4d6e1d7ac69c90d46f96bf39a1ba3edcca4601f5075fae5b2a", func := "louver/louverlaw19.ReqParses", spec := "reqParses", unfollowed := true, recurses := true, apart := false }
def ReqParsesSaid : Prop := reqParsesRow.holds Try.pinned (OpenSpec.ofChange reqParsesSpec)

/-- ITS FALSE NEIGHBOUR: 'it returns false'. Refute it at one input. -/
def reqParsesWrong : ChangeSpec := { name := "reqParses", fn := fun _ => fun
  | [d1, d2, d3, d4, d5] => { results := [.lit (.bool false)], args := [d1, d2, d3, d4, d5] }
  | _ => none }
def ReqParsesWrongFalsely : Prop := reqParsesRow.holds Try.pinned (OpenSpec.ofChange reqParsesWrong)

/-- 'louverlaw19.ReqBack': WHATEVER THE INPUT: true; the input reads as it did. -/
def reqBackSpec : ChangeSpec := { name := "reqBack", fn := fun _ => fun
  | [d1, d2, d3, d4] => { results := [.lit (.bool true)], args := [d1, d2, d3, d4] }
  | _ => none }
def reqBackRow : OpenClaim := { program := "ytlfomilalkkbeaa", sum := "a50bf75267095a4d6e1d7ac69c90d46f96bf39a1ba3edcca4601f5075fae5b2a", func := "louver/louverlaw19.ReqBack", spec := "reqBack", unfollowed := true, recurses := true, apart := false }
def ReqBackSaid : Prop := reqBackRow.holds Try.pinned (OpenSpec.ofChange reqBackSpec)

/-- ITS FALSE NEIGHBOUR: 'it returns false'. Refute it at one input. -/
def reqBackWrong : ChangeSpec := { name := "reqBack", fn := fun _ => fun
  | [d1, d2, d3, d4] => { results := [.lit (.bool false)], args := [d1, d2, d3, d4] }
  | _ => none }
def ReqBackWrongFalsely : Prop := reqBackRow.holds Try.pinned (OpenSpec.ofChange reqBackWrong)

/-- 'louverlaw19.ReqTells': WHATEVER THE INPUT: true; the input reads as it did. -/
def reqTellsSpec : ChangeSpec := { name := "reqTells", fn := fun _ => fun
  | [d1, d2, d3] => { results := [.lit (.bool true)], args := [d1, d2, d3] }
  | _ => none }
def reqTellsRow : OpenClaim := { program := "ytlfomilalkkbeaa", sum := "a50bf75267095a4d6e1d7ac69c90d46f96bf39a1ba3edcca4601f5075fae5b2a", func := "louver/louverlaw19.ReqTells", spec := "reqTells", unfollowed := true, recurses := true, apart := false }
def ReqTellsSaid : Prop := reqTellsRow.holds Try.pinned (OpenSpec.ofChange reqTellsSpec)

/-- ITS FALSE NEIGHBOUR: 'it returns false'. Refute it at one input. -/
def reqTellsWrong : ChangeSpec := { name := "reqTells", fn := fun _ => fun
  | [d1, d2, d3] => { results := [.lit (.bool false)], args := [d1, d2, d3] }
  | _ => none }
def ReqTellsWrongFalsely : Prop := reqTellsRow.holds Try.pinned (OpenSpec.ofChange reqTellsWrong)

/-- 'louverlaw19.ReqLong': WHATEVER THE INPUT: true; the input reads as it did. -/
def reqLongSpec : ChangeSpec := { name := "reqLong", fn := fun _ => fun
  | [d1, d2, d3] => { results := [.lit (.bool true)], args := [d1, d2, d3] }
  | _ => none }
def reqLongRow : OpenClaim := { program := "ytlfomilalkkbeaa", sum := "a50bf75267095a4d6e1d7ac69c90d46f96bf39a1ba3edcca4601f5075fae5b2a", func := "louver/louverlaw19.ReqLong", spec := "reqLong", unfollowed := true, recurses := true, apart := false }
def ReqLongSaid : Prop := reqLongRow.holds Try.pinned (OpenSpec.ofChange reqLongSpec)

/-- ITS FALSE NEIGHBOUR: 'it returns false'. Refute it at one input. -/
def reqLongWrong : ChangeSpec := { name := "reqLong", fn := fun _ => fun
  | [d1, d2, d3] => { results := [.lit (.bool false)], args := [d1, d2, d3] }
  | _ => none }
def ReqLongWrongFalsely : Prop := reqLongRow.holds Try.pinned (OpenSpec.ofChange reqLongWrong)

/- THE SECOND FORM. 'bulk': how many values and letters a reading holds, each counted each time it is reached (what is shared counts as often as it is met; a slice's spare places count too). A statement '..UptoSaid' is the law's where the arguments, and the package variables that the reading takes, are together of bulk at most 1048576: NARROWER than '..Said'. Prove '..Said' where nothing that the law and all that it calls make is longer than what came in: it says more and counts as full. Else prove '..UptoSaid'. A law counts once. -/
mutual
def uptoBulk {H : Type} : DataW H → Nat
  | .lit (.string bytes) => bytes.length + 1
  | .lit _ => 1
  | .nil => 1
  | .ptr d => uptoBulk d + 1
  | .slice elems spare => uptoBulkAll elems + uptoBulkAll spare + 1
  | .agg parts => uptoBulkAll parts + 1
  | .iface _ d => uptoBulk d + 1
  | .map entries => uptoBulkEntries entries + 1
  | .held _ => 1
def uptoBulkAll {H : Type} : List (DataW H) → Nat
  | [] => 0
  | d :: r => uptoBulk d + uptoBulkAll r
def uptoBulkEntries {H : Type} : List (Lit × DataW H) → Nat
  | [] => 0
  | x :: r => uptoBulkEntry x + uptoBulkEntries r
def uptoBulkEntry {H : Type} : Lit × DataW H → Nat
  | (.string bytes, d) => bytes.length + uptoBulk d + 1
  | (_, d) => uptoBulk d + 1
 end
def uptoSmall : (H : Type) → List (DataW H) → Bool := fun _ ds => decide (uptoBulkAll ds ≤ 1048576)
def OpenSpec.upto (s : _root_.Go.ChangeSpec) : _root_.Go.OpenSpec := { _root_.Go.OpenSpec.ofChange s with cond := some uptoSmall }

/-- 'louverlaw01.OctetPuts', WHERE WHAT IT READS IS OF BULK AT MOST 1048576: true; the input reads as it did. -/
def octetPutsUptoRow : OpenClaim := { program := "ytlfomilalkkbeaa", sum := "a50bf75267095a4d6e1d7ac69c90d46f96bf39a1ba3edcca4601f5075fae5b2a", func := "louver/louverlaw01.OctetPuts", spec := "octetPuts", apart := false, narrowed := true }
def OctetPutsUptoSaid : Prop := octetPutsUptoRow.holds Try.pinned (OpenSpec.upto octetPutsSpec)

/-- 'louverlaw01.OctetParts', WHERE WHAT IT READS IS OF BULK AT MOST 1048576: true; the input reads as it did. -/
def octetPartsUptoRow : OpenClaim := { program := "ytlfomilalkkbeaa", sum := "a50bf75267095a4d6e1d7ac69c90d46f96bf39a1ba3edcca4601f5075fae5b2a", func := "louver/louverlaw01.OctetParts", spec := "octetParts", apart := false, narrowed := true }
def OctetPartsUptoSaid : Prop := octetPartsUptoRow.holds Try.pinned (OpenSpec.upto octetPartsSpec)

/-- 'louverlaw01.OctetTakes', WHERE WHAT IT READS IS OF BULK AT MOST 1048576: true; the input reads as it did. -/
def octetTakesUptoRow : OpenClaim := { program := "ytlfomilalkkbeaa", sum := "a50bf75267095a4d6e1d7ac69c90d46f96bf39a1ba3edcca4601f5075fae5b2a", func := "louver/louverlaw01.OctetTakes", spec := "octetTakes", apart := false, narrowed := true }
def OctetTakesUptoSaid : Prop := octetTakesUptoRow.holds Try.pinned (OpenSpec.upto octetTakesSpec)

/-- 'louverlaw01.OctetBack', WHERE WHAT IT READS IS OF BULK AT MOST 1048576: true; the input reads as it did. -/
def octetBackUptoRow : OpenClaim := { program := "ytlfomilalkkbeaa", sum := "a50bf75267095a4d6e1d7ac69c90d46f96bf39a1ba3edcca4601f5075fae5b2a", func := "louver/louverlaw01.OctetBack", spec := "octetBack", apart := false, narrowed := true }
def OctetBackUptoSaid : Prop := octetBackUptoRow.holds Try.pinned (OpenSpec.upto octetBackSpec)

/-- 'louverlaw01.OctetOwn', WHERE WHAT IT READS IS OF BULK AT MOST 1048576: true; the input reads as it did. -/
def octetOwnUptoRow : OpenClaim := { program := "ytlfomilalkkbeaa", sum := "a50bf75267095a4d6e1d7ac69c90d46f96bf39a1ba3edcca4601f5075fae5b2a", func := "louver/louverlaw01.OctetOwn", spec := "octetOwn", apart := false, narrowed := true }
def OctetOwnUptoSaid : Prop := octetOwnUptoRow.holds Try.pinned (OpenSpec.upto octetOwnSpec)

/-- 'louverlaw01.OctetStays', WHERE WHAT IT READS IS OF BULK AT MOST 1048576: true; the input reads as it did. -/
def octetStaysUptoRow : OpenClaim := { program := "ytlfomilalkkbeaa", sum := "a50bf75267095a4d6e1d7ac69c90d46f96bf39a1ba3edcca4601f5075fae5b2a", func := "louver/louverlaw01.OctetStays", spec := "octetStays", apart := false, narrowed := true }
def OctetStaysUptoSaid : Prop := octetStaysUptoRow.holds Try.pinned (OpenSpec.upto octetStaysSpec)

/-- 'louverlaw01.OctetSizes', WHERE WHAT IT READS IS OF BULK AT MOST 1048576: true; the input reads as it did. -/
def octetSizesUptoRow : OpenClaim := { program := "ytlfomilalkkbeaa", sum := "a50bf75267095a4d6e1d7ac69c90d46f96bf39a1ba3edcca4601f5075fae5b2a", func := "louver/louverlaw01.OctetSizes", spec := "octetSizes", apart := false, narrowed := true }
def OctetSizesUptoSaid : Prop := octetSizesUptoRow.holds Try.pinned (OpenSpec.upto octetSizesSpec)

/-- 'louverlaw19.ReqPuts', WHERE WHAT IT READS IS OF BULK AT MOST 1048576: true; the input reads as it did. -/
def reqPutsUptoRow : OpenClaim := { program := "ytlfomilalkkbeaa", sum := "a50bf75267095a4d6e1d7ac69c90d46f96bf39a1ba3edcca4601f5075fae5b2a", func := "louver/louverlaw19.ReqPuts", spec := "reqPuts", unfollowed := true, recurses := true, apart := false, narrowed := true }
def ReqPutsUptoSaid : Prop := reqPutsUptoRow.holds Try.pinned (OpenSpec.upto reqPutsSpec)

/-- 'louverlaw19.ReqParses', WHERE WHAT IT READS IS OF BULK AT MOST 1048576: true; the input reads as it did. -/
def reqParsesUptoRow : OpenClaim := { program := "ytlfomilalkkbeaa", sum := "a50bf75267095a4d6e1d7ac69c90d46f96bf39a1ba3edcca4601f5075fae5b2a", func := "louver/louverlaw19.ReqParses", spec := "reqParses", unfollowed := true, recurses := true, apart := false, narrowed := true }
def ReqParsesUptoSaid : Prop := reqParsesUptoRow.holds Try.pinned (OpenSpec.upto reqParsesSpec)

/-- 'louverlaw19.ReqBack', WHERE WHAT IT READS IS OF BULK AT MOST 1048576: true; the input reads as it did. -/
def reqBackUptoRow : OpenClaim := { program := "ytlfomilalkkbeaa", sum := "a50bf75267095a4d6e1d7ac69c90d46f96bf39a1ba3edcca4601f5075fae5b2a", func := "louver/louverlaw19.ReqBack", spec := "reqBack", unfollowed := true, recurses := true, apart := false, narrowed := true }
def ReqBackUptoSaid : Prop := reqBackUptoRow.holds Try.pinned (OpenSpec.upto reqBackSpec)

/-- 'louverlaw19.ReqTells', WHERE WHAT IT READS IS OF BULK AT MOST 1048576: true; the input reads as it did. -/
def reqTellsUptoRow : OpenClaim := { program := "ytlfomilalkkbeaa", sum := "a50bf75267095a4d6e1d7ac69c90d46f96bf39a1ba3edcca4601f5075fae5b2a", func := "louver/louverlaw19.ReqTells", spec := "reqTells", unfollowed := true, recurses := true, apart := false, narrowed := true }
def ReqTellsUptoSaid : Prop := reqTellsUptoRow.holds Try.pinned (OpenSpec.upto reqTellsSpec)

/-- 'louverlaw19.ReqLong', WHERE WHAT IT READS IS OF BULK AT MOST 1048576: true; the input reads as it did. -/
def reqLongUptoRow : OpenClaim := { program := "ytlfomilalkkbeaa", sum := "a50bf75267095a4d6e1d7ac69c90d46f96bf39a1ba3edcca4601f5075fae5b2a", func := "louver/louverlaw19.ReqLong", spec := "reqLong", unfollowed := true, recurses := true, apart := false, narrowed := true }
def ReqLongUptoSaid : Prop := reqLongUptoRow.holds Try.pinned (OpenSpec.upto reqLongSpec)

end Rows
end Go.Proofs.Ytlfomilalkkbeaa
