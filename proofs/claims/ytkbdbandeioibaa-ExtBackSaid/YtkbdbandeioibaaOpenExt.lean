/- A slice of items as an argument, opened. -/
import Derived.Test.YtkbdbandeioibaaOpenU8
import Derived.Test.YtkbdbandeioibaaExt1
namespace Go.Proofs.Ytkbdbandeioibaa
open Go.RowKit Go.ChangeShapes Go.WideShapes Go.Deep
set_option linter.unusedVariables false
section
variable {H : Type} {enc : TypeId × Value → H} {w : World} {base : Nat} {spare : Nat → Bool} {held : Bool} {d : DataW H} {ps : List MemPlace}
theorem item_open (n : Nat) (cs : List Value) (y : DataW H × List MemPlace) (h : DataW.trod enc Try.prog w base spare held n 46 cs = some y) : ∃ p : It, RItem w p cs := by
  obtain ⟨hl, hf⟩ := st_open Try.underlying46 (by kernel_rfl) (by kernel_rfl) h
  obtain ⟨v0, y0, m0, e0, h0⟩ := hf 0 _ rfl
  obtain ⟨v1, y1, m1, e1, h1⟩ := hf 1 _ rfl
  obtain ⟨a0, g0⟩ := u8_open Try.underlying5 h0
  obtain ⟨l1, g1⟩ := rsl_of_trod (R := RU8) (size := 1) Try.underlying26 (by kernel_rfl) (by omega) (fun n cs y h => u8_open Try.underlying5 h) h1
  match cs, hl with
  | [c0, c1], _ =>
    simp only [RU8, List.cons.injEq, and_true] at g0
    simp at e0 e1
    subst e0 e1 g0
    exact ⟨(a0, l1), _, rfl, g1⟩
theorem open_items {A : Option Addr} {n c : Nat} (h : DataW.Trod enc Try.prog w base spare held 22 (.slice A n c) d ps) : ∃ l : List It, RSl 2 RItem w l (.slice A n c) ∧ l.length ≤ 9223372036854775807 := by
  obtain ⟨fuel, hf⟩ := h
  have hf : DataW.trod enc Try.prog w base spare held fuel 22 [.slice A n c] = some (d, ps) := hf
  obtain ⟨l, hl⟩ := rsl_of_trod (R := RItem) (size := 2) Try.underlying22 (by kernel_rfl) (by omega) item_open hf
  refine ⟨l, hl, ?_⟩
  have hl2 := hl
  obtain ⟨A', c', hv, hc, _⟩ := hl2
  injection hv with e1 e2 e3
  rcases open_slice Try.underlying22 hf with ⟨hcs, _⟩ | ⟨a, len, cap, m, k, D, Pl, hcs, _, hlc, hcm, _⟩
  · simp at hcs
    omega
  · simp at hcs
    have : cap ≤ 9223372036854775807 := by simpa [maxLen] using hcm
    omega
end
end Go.Proofs.Ytkbdbandeioibaa
