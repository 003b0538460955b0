/- Each kind of argument of this seat's laws, opened. -/
import Derived.Test.YtlfomilalkkbeaaOpen
import Derived.Test.YtlfomilalkkbeaaLaw1
namespace Go.Proofs.Ytlfomilalkkbeaa
open Go.RowKit Go.ChangeShapes Go.WideShapes Go.Deep
set_option linter.unusedVariables false
section
variable {H : Type} {enc : TypeId × Value → H} {w : World} {base : Nat} {spare : Nat → Bool} {held : Bool} {d : DataW H} {ps : List MemPlace}

theorem part_open (n : Nat) (cs : List Value) (y : DataW H × List MemPlace) (h : DataW.trod enc Try.prog w base spare held n 28 cs = some y) : ∃ p : Nat × Int, RPart w p cs := by
  obtain ⟨hl, hf⟩ := st_open Try.underlying28 (by kernel_rfl) (by kernel_rfl) h
  obtain ⟨v0, y0, m0, e0, h0⟩ := hf 0 _ rfl
  obtain ⟨v1, y1, m1, e1, h1⟩ := hf 1 _ rfl
  obtain ⟨a0, g0, w0⟩ := int_open Try.underlying26 h0
  obtain ⟨a1, g1, w1⟩ := int_open Try.underlying3 h1
  obtain ⟨x, rfl, hx⟩ := wf_u64 w0
  match cs, hl with
  | [c0, c1], _ =>
    simp at e0 e1 g0 g1
    subst e0 e1 g0 g1
    exact ⟨(x, a1), rfl, hx⟩

theorem open_parts {A : Option Addr} {n c : Nat} (h : DataW.Trod enc Try.prog w base spare held 22 (.slice A n c) d ps) : ∃ l, RSl 2 RPart w l (.slice A n c) := by
  obtain ⟨fuel, hf⟩ := h
  exact rsl_of_trod Try.underlying22 (by kernel_rfl) (by omega) part_open hf

theorem open_u8s {A : Option Addr} {n c : Nat} (h : DataW.Trod enc Try.prog w base spare held 24 (.slice A n c) d ps) : ∃ l, RSl 1 RU8 w l (.slice A n c) := by
  obtain ⟨fuel, hf⟩ := h
  exact rsl_of_trod Try.underlying24 (by kernel_rfl) (by omega) (fun n cs y h => u8_open Try.underlying5 h) hf

theorem step_open (n : Nat) (cs : List Value) (y : DataW H × List MemPlace) (h : DataW.trod enc Try.prog w base spare held n 40 cs = some y) : ∃ p : Bool × Int, RStep w p cs := by
  obtain ⟨hl, hf⟩ := st_open Try.underlying40 (by kernel_rfl) (by kernel_rfl) h
  obtain ⟨v0, y0, m0, e0, h0⟩ := hf 0 _ rfl
  obtain ⟨v1, y1, m1, e1, h1⟩ := hf 1 _ rfl
  obtain ⟨a0, g0, _⟩ := DataW.trod_bool Try.underlying4 h0
  obtain ⟨a1, g1, w1⟩ := int_open Try.underlying3 h1
  match cs, hl with
  | [c0, c1], _ =>
    simp at e0 e1 g0 g1
    subst e0 e1 g0 g1
    exact ⟨(a0, a1), rfl, wf_i64 w1⟩

theorem open_steps {A : Option Addr} {n c : Nat} (h : DataW.Trod enc Try.prog w base spare held 33 (.slice A n c) d ps) : ∃ l, RSl 2 RStep w l (.slice A n c) := by
  obtain ⟨fuel, hf⟩ := h
  exact rsl_of_trod Try.underlying33 (by kernel_rfl) (by omega) step_open hf
end
end Go.Proofs.Ytlfomilalkkbeaa
