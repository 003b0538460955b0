/- A vp8 descriptor as an argument, opened. -/
import Derived.Test.YtkbdbandeioibaaOpen
import Derived.Test.YtkbdbandeioibaaOct
import Derived.Test.YtkbdbandeioibaaVp8L
namespace Go.Proofs.Ytkbdbandeioibaa
open Go.RowKit Go.ChangeShapes Go.WideShapes Go.Deep
set_option linter.unusedVariables false
section
variable {H : Type} {enc : TypeId × Value → H} {w : World} {base : Nat} {spare : Nat → Bool} {held : Bool} {d : DataW H} {ps : List MemPlace}

theorem bool_open8 {n : Nat} {cs : List Value} {y : DataW H × List MemPlace} (h : DataW.trod enc Try.prog w base spare held n 4 cs = some y) : ∃ b : Bool, cs = [.bool b] := by
  obtain ⟨a, e, _⟩ := DataW.trod_bool Try.underlying4 h
  exact ⟨a, e⟩
theorem open_desc {r : Reach} {b0 : Nat} {v : Value} (hv : Value.okWide Try.prog w r b0 49 v) (h : DataW.Trod enc Try.prog w base spare held 49 v d ps) : ∃ q : Dsc, v = q.val ∧ q.Ok := by
  obtain ⟨cs, rfl, hsz⟩ := okWide_struct Try.underlying49 hv
  obtain ⟨l⟩ := cs
  obtain ⟨fuel, hf⟩ := h
  obtain ⟨hl, hg⟩ := st_open Try.underlying49 (by kernel_rfl) (by kernel_rfl) hf
  obtain ⟨v0, y0, m0, e0, h0⟩ := hg 0 _ rfl
  obtain ⟨v1, y1, m1, e1, h1⟩ := hg 1 _ rfl
  obtain ⟨v2, y2, m2, e2, h2⟩ := hg 2 _ rfl
  obtain ⟨v3, y3, m3, e3, h3⟩ := hg 3 _ rfl
  obtain ⟨v4, y4, m4, e4, h4⟩ := hg 4 _ rfl
  obtain ⟨v5, y5, m5, e5, h5⟩ := hg 5 _ rfl
  obtain ⟨v6, y6, m6, e6, h6⟩ := hg 6 _ rfl
  obtain ⟨v7, y7, m7, e7, h7⟩ := hg 7 _ rfl
  obtain ⟨v8, y8, m8, e8, h8⟩ := hg 8 _ rfl
  obtain ⟨v9, y9, m9, e9, h9⟩ := hg 9 _ rfl
  obtain ⟨v10, y10, m10, e10, h10⟩ := hg 10 _ rfl
  obtain ⟨v11, y11, m11, e11, h11⟩ := hg 11 _ rfl
  obtain ⟨v12, y12, m12, e12, h12⟩ := hg 12 _ rfl
  obtain ⟨v13, y13, m13, e13, h13⟩ := hg 13 _ rfl
  obtain ⟨a0, g0⟩ := bool_open8 h0
  obtain ⟨a1, g1⟩ := bool_open8 h1
  obtain ⟨a2, g2⟩ := bool_open8 h2
  obtain ⟨b3, g3, k3⟩ := int_open Try.underlying5 h3
  obtain ⟨a3, rfl, l3⟩ := wf_u8 k3
  obtain ⟨a4, g4⟩ := bool_open8 h4
  obtain ⟨a5, g5⟩ := bool_open8 h5
  obtain ⟨b6, g6, k6⟩ := int_open Try.underlying25 h6
  obtain ⟨a6, rfl, l6⟩ := wf_u16 k6
  obtain ⟨a7, g7⟩ := bool_open8 h7
  obtain ⟨b8, g8, k8⟩ := int_open Try.underlying5 h8
  obtain ⟨a8, rfl, l8⟩ := wf_u8 k8
  obtain ⟨a9, g9⟩ := bool_open8 h9
  obtain ⟨b10, g10, k10⟩ := int_open Try.underlying5 h10
  obtain ⟨a10, rfl, l10⟩ := wf_u8 k10
  obtain ⟨a11, g11⟩ := bool_open8 h11
  obtain ⟨a12, g12⟩ := bool_open8 h12
  obtain ⟨b13, g13, k13⟩ := int_open Try.underlying5 h13
  obtain ⟨a13, rfl, l13⟩ := wf_u8 k13
  match l, hl with
  | [c0, c1, c2, c3, c4, c5, c6, c7, c8, c9, c10, c11, c12, c13], _ =>
    simp [Value.cells] at e0 e1 e2 e3 e4 e5 e6 e7 e8 e9 e10 e11 e12 e13 g0 g1 g2 g3 g4 g5 g6 g7 g8 g9 g10 g11 g12 g13
    subst e0 e1 e2 e3 e4 e5 e6 e7 e8 e9 e10 e11 e12 e13 g0 g1 g2 g3 g4 g5 g6 g7 g8 g9 g10 g11 g12 g13
    exact ⟨⟨a0, a1, a2, a3, a4, a5, a6, a7, a8, a9, a10, a11, a12, a13⟩, rfl, ⟨l3, l6, l8, l10, l13⟩⟩
end
end Go.Proofs.Ytkbdbandeioibaa
