/- A slice of bytes as an argument, opened. -/
import Derived.Test.YtkbdbandeioibaaOpen
import Derived.Test.YtkbdbandeioibaaOct
namespace Go.Proofs.Ytkbdbandeioibaa
open Go.RowKit Go.ChangeShapes Go.WideShapes Go.Deep
set_option linter.unusedVariables false
theorem open_u8s {H : Type} {enc : TypeId × Value → H} {w : World} {base : Nat} {spare : Nat → Bool} {held : Bool} {d : DataW H} {ps : List MemPlace} {A : Option Addr} {n c : Nat} (h : DataW.Trod enc Try.prog w base spare held 26 (.slice A n c) d ps) : ∃ l, RSl 1 RU8 w l (.slice A n c) := by
  obtain ⟨fuel, hf⟩ := h
  exact rsl_of_trod Try.underlying26 (by kernel_rfl) (by omega) (fun n cs y h => u8_open Try.underlying5 h) hf
end Go.Proofs.Ytkbdbandeioibaa
