/- A request as an argument, opened. -/
import Derived.Test.YtlfomilalkkbeaaOpeners
import Derived.Test.YtlfomilalkkbeaaReq
namespace Go.Proofs.Ytlfomilalkkbeaa
open Go.RowKit Go.ChangeShapes Go.WideShapes Go.Deep
set_option linter.unusedVariables false
section
variable {H : Type} {enc : TypeId × Value → H} {w : World} {base : Nat} {spare : Nat → Bool} {held : Bool} {d : DataW H} {ps : List MemPlace}

theorem u32_open (n : Nat) (cs : List Value) (y : DataW H × List MemPlace) (h : DataW.trod enc Try.prog w base spare held n 83 cs = some y) : ∃ p : Nat, RU32 w p cs := by
  obtain ⟨a, rfl, hw⟩ := int_open Try.underlying83 h
  obtain ⟨x, rfl, hx⟩ := wf_u32 hw
  exact ⟨x, rfl, by omega⟩
theorem u32s_field {n : Nat} {v : Value} {y : DataW H × List MemPlace} (h : DataW.trod enc Try.prog w base spare held n 54 [v] = some y) : ∃ l, RSl 1 RU32 w l v :=
  rsl_of_trod Try.underlying54 (by kernel_rfl) (by omega) u32_open h

theorem open_req {r : Reach} {b0 : Nat} {v : Value} (hv : Value.okWide Try.prog w r b0 56 v) (h : DataW.Trod enc Try.prog w base spare held 56 v d ps) :
    ∃ (q : Rq) (A : Option Addr) (n c : Nat), v = .agg #[.int .i64 q.kind, .int .i64 q.who, .int .i64 q.room, .int .i64 q.rights, .int .i64 q.track, .slice A n c, .int .i64 q.layer, .int .i64 q.tid] ∧ RSl 1 RU32 w q.ssrcs (.slice A n c) := by
  obtain ⟨cs, rfl, hsz⟩ := okWide_struct Try.underlying56 hv
  obtain ⟨l⟩ := cs
  obtain ⟨fuel, hf⟩ := h
  obtain ⟨hl, hg⟩ := st_open Try.underlying56 (by kernel_rfl) (by kernel_rfl) hf
  obtain ⟨v0, y0, m0, e0, h0⟩ := hg 0 _ rfl
  obtain ⟨v1, y1, m1, e1, h1⟩ := hg 1 _ rfl
  obtain ⟨v2, y2, m2, e2, h2⟩ := hg 2 _ rfl
  obtain ⟨v3, y3, m3, e3, h3⟩ := hg 3 _ rfl
  obtain ⟨v4, y4, m4, e4, h4⟩ := hg 4 _ rfl
  obtain ⟨v5, y5, m5, e5, h5⟩ := hg 5 _ rfl
  obtain ⟨v6, y6, m6, e6, h6⟩ := hg 6 _ rfl
  obtain ⟨v7, y7, m7, e7, h7⟩ := hg 7 _ rfl
  obtain ⟨a0, g0, _⟩ := int_open Try.underlying3 h0
  obtain ⟨a1, g1, _⟩ := int_open Try.underlying3 h1
  obtain ⟨a2, g2, _⟩ := int_open Try.underlying3 h2
  obtain ⟨a3, g3, _⟩ := int_open Try.underlying3 h3
  obtain ⟨a4, g4, _⟩ := int_open Try.underlying3 h4
  obtain ⟨s5, g5⟩ := u32s_field h5
  obtain ⟨a6, g6, _⟩ := int_open Try.underlying3 h6
  obtain ⟨a7, g7, _⟩ := int_open Try.underlying3 h7
  match l, hl with
  | [c0, c1, c2, c3, c4, c5, c6, c7], _ =>
    simp [Value.cells] at e0 e1 e2 e3 e4 e5 e6 e7 g0 g1 g2 g3 g4 g6 g7
    subst e0 e1 e2 e3 e4 e5 e6 e7 g0 g1 g2 g3 g4 g6 g7
    have g5' := g5
    obtain ⟨A, c, rfl, _⟩ := g5'
    exact ⟨⟨a0, a1, a2, a3, a4, a6, a7, s5⟩, A, s5.length, c, rfl, g5⟩

theorem u16_open (n : Nat) (cs : List Value) (y : DataW H × List MemPlace) (h : DataW.trod enc Try.prog w base spare held n 50 cs = some y) : ∃ p : Nat, cs = [.int .u16 p] ∧ p < 65536 := by
  obtain ⟨a, rfl, hw⟩ := int_open Try.underlying50 h
  obtain ⟨x, rfl, hx⟩ := wf_u16 hw
  exact ⟨x, rfl, hx⟩
end

def RU16 : Rd Nat := fun _ n cs => cs = [.int .u16 n] ∧ n < 65536
theorem keeps_u16 : Keeps RU16 := fun _ _ _ _ h _ => h
theorem open_u16s {H : Type} {enc : TypeId × Value → H} {w : World} {base : Nat} {spare : Nat → Bool} {held : Bool} {d : DataW H} {ps : List MemPlace} {A : Option Addr} {n c : Nat} (h : DataW.Trod enc Try.prog w base spare held 64 (.slice A n c) d ps) : ∃ l, RSl 1 RU16 w l (.slice A n c) := by
  obtain ⟨fuel, hf⟩ := h
  exact rsl_of_trod Try.underlying64 (by kernel_rfl) (by omega) u16_open hf
end Go.Proofs.Ytlfomilalkkbeaa
