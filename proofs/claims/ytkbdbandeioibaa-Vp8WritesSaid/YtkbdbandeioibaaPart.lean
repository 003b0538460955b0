/- Parts as cells; a value that comes back while old blocks stay. -/
import Derived.Test.YtkbdbandeioibaaHeld
import Derived.Test.YtkbdbandeioibaaRow
import Derived.Test.YtkbdbandeioibaaTail
import Derived.Test.YtkbdbandeioibaaMid
import Derived.Test.YtkbdbandeioibaaW
namespace Go.Proofs.Ytkbdbandeioibaa
open Go.RowKit
set_option linter.unusedVariables false

/-- a value comes back, old blocks stay -/
def Gives (w : World) (v : Value) (r : Ending) (w' : World) : Prop := r = .returned v ∧ Below w.heap.size w w'
def encPart (p : Nat × Int) : List Value := [.int .u64 p.1, .int .i64 p.2]
theorem rsl_parts {w : World} {l : List (Nat × Int)} {A : Option Addr} {n cap : Nat} (hn : n = l.length) (hcap : n ≤ cap) (hx : ∀ p ∈ l, (p.1 : Int) < 18446744073709551616) (hc : Cells w A (l.flatMap encPart)) : RSl 2 RPart w l (.slice A n cap) :=
  rsl_of_cells hn hcap (fun _ _ => rfl) (fun x h => ⟨rfl, hx x h⟩) (by omega) hc
end Go.Proofs.Ytkbdbandeioibaa
