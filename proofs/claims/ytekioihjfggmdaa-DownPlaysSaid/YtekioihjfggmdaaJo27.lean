/- Texts of one claim, laid together: OpenDown -/
import Derived.Test.YtekioihjfggmdaaJo26
/- A slice of louverlaw14.Step as an argument, opened. -/
namespace Go.Proofs.Ytekioihjfggmdaa
open Go.RowKit Go.ChangeShapes Go.WideShapes Go.Deep
set_option linter.unusedVariables false
section
variable {H : Type} {enc : TypeId × Value → H} {P : Program} {w : World} {base : Nat} {spare : Nat → Bool} {held : Bool}
theorem st_mid {e : TypeId} {fs : Array Field} {n : Nat} {cs : List Value} {x : DataW H × List MemPlace} (he : P.underlying e = some (.struct fs)) (h : DataW.trod enc P w base spare held n e cs = some x) :
    cs.length = P.cellsOf e ∧ ∃ m, ∀ (i : Nat) (t : TypeId) (o : Nat), (fs[i]?.map fun f => (f.type, f.offset)) = some (t, o) → ∃ y, DataW.trod enc P w base spare held m t ((cs.drop o).take (P.cellsOf t)) = some y := by
  obtain ⟨xs, m, _, _, hlen, hxl, hf⟩ := DataW.trod_struct he h
  refine ⟨hlen, m, fun i t o hi => ?_⟩
  obtain ⟨f, hif, e⟩ := Option.map_eq_some_iff.1 hi
  injection e with e1 e2
  subst e1 e2
  have hil : i < fs.size := (Array.getElem?_eq_some_iff.1 hif).1
  have h1 := hf i f hif
  rw [List.getElem?_eq_getElem (by omega)] at h1
  exact ⟨_, h1⟩
theorem trod_len {t e : TypeId} {fuel : Nat} {A : Option Addr} {n c : Nat} {x : DataW H × List MemPlace} (ht : P.underlying t = some (.slice e)) (h : DataW.trod enc P w base spare held fuel t [.slice A n c] = some x) : n ≤ 9223372036854775807 := by
  rcases open_slice ht h with ⟨hcs, _⟩ | ⟨a, len, cap, m, k, D, Pl, hcs, _, hlc, hcm, _⟩
  · simp at hcs
    omega
  · simp at hcs
    have : cap ≤ 9223372036854775807 := by simpa [maxLen] using hcm
    omega
theorem nat_open {t : TypeId} {n : Nat} {cs : List Value} {y : DataW H × List MemPlace} (ht : P.underlying t = some (.int .u32)) (h : DataW.trod enc P w base spare held n t cs = some y) : ∃ p : Nat, cs = [.int .u32 p] ∧ p < 4294967296 := by
  obtain ⟨b, g, k⟩ := int_open ht h
  obtain ⟨a, rfl, l⟩ := wf_u32 k
  exact ⟨a, g, l⟩
end
section
variable {H : Type} {enc : TypeId × Value → H} {w : World} {base : Nat} {spare : Nat → Bool} {held : Bool} {d : DataW H} {ps : List MemPlace}
theorem bool_open {n : Nat} {cs : List Value} {y : DataW H × List MemPlace} (h : DataW.trod enc Try.prog w base spare held n 4 cs = some y) : ∃ b : Bool, cs = [.bool b] := by
  obtain ⟨a, e, _⟩ := DataW.trod_bool Try.underlying4 h
  exact ⟨a, e⟩
/-- numbers that fit in four bytes -/
def RN32 : Rd Nat := fun w n cs => RNat .u32 w n cs ∧ n < 4294967296
theorem rn32 {w : World} {l : List Nat} {v : Value} (h : RSl 1 RN32 w l v) : RSl 1 (RNat .u32) w l v ∧ ∀ x ∈ l, x < 4294967296 := by
  obtain ⟨A, cap, rfl, hc, hi⟩ := h
  refine ⟨⟨A, cap, rfl, hc, fun hne => ?_⟩, fun x hx => ?_⟩
  · obtain ⟨b, off, rfl, hg⟩ := hi hne
    refine ⟨b, off, rfl, fun i hi => ?_⟩
    obtain ⟨cs, h1, h2, h3⟩ := hg i hi
    exact ⟨cs, h1, h2, h3.1⟩
  · obtain ⟨i, hl, rfl⟩ := List.getElem_of_mem hx
    obtain ⟨b, off, rfl, hg⟩ := hi (by rintro rfl; simp at hl)
    obtain ⟨cs, h1, h2, h3⟩ := hg i hl
    exact h3.2
theorem head_open {n : Nat} {cs : List Value} {y : DataW H × List MemPlace} (h : DataW.trod enc Try.prog w base spare held n 43 cs = some y) :
    ∃ (mk : Bool) (t s tm ss : Nat) (c : List Nat) (x : List It) (v5 v6 : Value), cs = [.bool mk, .int .u8 t, .int .u16 s, .int .u32 tm, .int .u32 ss, v5, v6] ∧ RSl 1 (RNat .u32) w c v5 ∧ RSl 2 RItem w x v6 ∧ t < 256 ∧ s < 65536 ∧ tm < 4294967296 ∧ ss < 4294967296 ∧ (∀ z ∈ c, z < 4294967296) ∧ c.length ≤ 9223372036854775807 ∧ x.length ≤ 9223372036854775807 := by
  obtain ⟨hl, hg⟩ := st_open Try.underlying43 (by kernel_rfl) (by kernel_rfl) h
  obtain ⟨v0, y0, m0, e0, h0⟩ := hg 0 _ rfl
  obtain ⟨v1, y1, m1, e1, h1⟩ := hg 1 _ rfl
  obtain ⟨v2, y2, m2, e2, h2⟩ := hg 2 _ rfl
  obtain ⟨v3, y3, m3, e3, h3⟩ := hg 3 _ rfl
  obtain ⟨v4, y4, m4, e4, h4⟩ := hg 4 _ rfl
  obtain ⟨v5, y5, m5, e5, h5⟩ := hg 5 _ rfl
  obtain ⟨v6, y6, m6, e6, h6⟩ := hg 6 _ rfl
  obtain ⟨a0, g0⟩ := bool_open h0
  obtain ⟨b1, g1, k1⟩ := int_open Try.underlying5 h1
  obtain ⟨a1, rfl, l1⟩ := wf_u8 k1
  obtain ⟨b2, g2, k2⟩ := int_open Try.underlying39 h2
  obtain ⟨a2, rfl, l2⟩ := wf_u16 k2
  obtain ⟨a3, g3, l3⟩ := nat_open Try.underlying22 h3
  obtain ⟨a4, g4, l4⟩ := nat_open Try.underlying22 h4
  obtain ⟨c, gc⟩ := rsl_of_trod (R := RN32) (size := 1) Try.underlying40 (by kernel_rfl) (by omega) (fun n cs y h => nat_open Try.underlying22 h) h5
  obtain ⟨x, gx⟩ := rsl_of_trod (R := RItem) (size := 2) Try.underlying41 (by kernel_rfl) (by omega) item_open h6
  obtain ⟨A5, c5, e5', _⟩ := id gc
  obtain ⟨A6, c6, e6', _⟩ := id gx
  subst e5' e6'
  have n5 := trod_len Try.underlying40 h5
  have n6 := trod_len Try.underlying41 h6
  match cs, hl with
  | [c0, c1, c2, c3, c4, c5, c6], _ =>
    simp at e0 e1 e2 e3 e4 e5 e6 g0 g1 g2 g3 g4
    subst e0 e1 e2 e3 e4 e5 e6 g0 g1 g2 g3 g4
    exact ⟨_, _, _, _, _, c, x, _, _, rfl, (rn32 gc).1, gx, l1, l2, l3, l4, (rn32 gc).2, n5, n6⟩
theorem want_open {n : Nat} {cs : List Value} {y : DataW H × List MemPlace} (h : DataW.trod enc Try.prog w base spare held n 48 cs = some y) : ∃ x : Wnt, cs = [.int .i64 x.src, .int .i64 x.layer, .int .i64 x.tid] := by
  obtain ⟨hl, hg⟩ := st_open Try.underlying48 (by kernel_rfl) (by kernel_rfl) h
  obtain ⟨v0, y0, m0, e0, h0⟩ := hg 0 _ rfl
  obtain ⟨v1, y1, m1, e1, h1⟩ := hg 1 _ rfl
  obtain ⟨v2, y2, m2, e2, h2⟩ := hg 2 _ rfl
  obtain ⟨b0, g0, _⟩ := int_open Try.underlying3 h0
  obtain ⟨b1, g1, _⟩ := int_open Try.underlying3 h1
  obtain ⟨b2, g2, _⟩ := int_open Try.underlying3 h2
  match cs, hl with
  | [c0, c1, c2], _ =>
    simp at e0 e1 e2 g0 g1 g2
    subst e0 e1 e2 g0 g1 g2
    exact ⟨⟨b0, b1, b2⟩, rfl⟩
set_option maxRecDepth 100000 in
theorem step_open (n : Nat) (cs : List Value) (y : DataW H × List MemPlace) (h : DataW.trod enc Try.prog w base spare held n 50 cs = some y) : ∃ s : Stp, RStp w s cs := by
  obtain ⟨hl, m, hf⟩ := st_mid Try.underlying50 h
  rw [show Try.prog.cellsOf 50 = 15 from by kernel_rfl] at hl
  match cs, hl with
  | [c0, c1, c2, c3, c4, c5, c6, c7, c8, c9, c10, c11, c12, c13, c14], _ =>
    obtain ⟨y0, h0⟩ := hf 0 46 0 rfl
    obtain ⟨y1, h1⟩ := hf 1 3 9 rfl
    obtain ⟨y2, h2⟩ := hf 2 3 10 rfl
    obtain ⟨y3, h3⟩ := hf 3 48 11 rfl
    obtain ⟨y4, h4⟩ := hf 4 4 14 rfl
    rw [show Try.prog.cellsOf 46 = 9 from by kernel_rfl] at h0
    rw [show Try.prog.cellsOf 3 = 1 from by kernel_rfl] at h1 h2
    rw [show Try.prog.cellsOf 48 = 3 from by kernel_rfl] at h3
    rw [show Try.prog.cellsOf 4 = 1 from by kernel_rfl] at h4
    simp only [List.drop_zero, List.drop_succ_cons, List.take_succ_cons, List.take_zero] at h0 h1 h2 h3 h4
    obtain ⟨_, m', hf'⟩ := st_mid Try.underlying46 h0
    obtain ⟨z0, k0⟩ := hf' 0 43 0 rfl
    obtain ⟨z1, k1⟩ := hf' 1 44 7 rfl
    obtain ⟨z2, k2⟩ := hf' 2 3 8 rfl
    rw [show Try.prog.cellsOf 43 = 7 from by kernel_rfl] at k0
    rw [show Try.prog.cellsOf 44 = 1 from by kernel_rfl] at k1
    rw [show Try.prog.cellsOf 3 = 1 from by kernel_rfl] at k2
    simp only [List.drop_zero, List.drop_succ_cons, List.take_succ_cons, List.take_zero] at k0 k1 k2
    obtain ⟨mk, t, s, tm, ss, c, x, v5, v6, e, r5, r6, q1, q2, q3, q4, q5, q6, q7⟩ := head_open k0
    obtain ⟨l7, g7⟩ := rsl_of_trod (R := RU8) (size := 1) Try.underlying44 (by kernel_rfl) (by omega) (fun n cs y h => u8_open Try.underlying5 h) k1
    obtain ⟨pd, e8, wp⟩ := int_open Try.underlying3 k2
    obtain ⟨sr, e9, _⟩ := int_open Try.underlying3 h1
    obtain ⟨la, e10, _⟩ := int_open Try.underlying3 h2
    obtain ⟨wn, e11⟩ := want_open h3
    obtain ⟨mu, e14⟩ := bool_open h4
    obtain ⟨A7, cp7, e7, _⟩ := id g7
    subst e7
    have n7 := trod_len Try.underlying44 k1
    simp only [List.cons.injEq, and_true] at e e8 e9 e10 e11 e14
    obtain ⟨rfl, rfl, rfl, rfl, rfl, rfl, rfl⟩ := e
    obtain ⟨rfl, rfl, rfl⟩ := e11
    subst e8 e9 e10 e14
    exact ⟨⟨⟨mk, t, s, tm, ss, c, x, l7, pd⟩, sr, la, wn, mu⟩, _, _, _, rfl, ⟨r5, r6, g7⟩, ⟨q1, q2, q3, q4, q5, q6, q7, n7, wf_i64 wp⟩⟩
theorem open_steps14 {A : Option Addr} {n c : Nat} (h : DataW.Trod enc Try.prog w base spare held 23 (.slice A n c) d ps) : ∃ l : List Stp, RSl 15 RStp w l (.slice A n c) ∧ l.length ≤ 9223372036854775807 := by
  obtain ⟨fuel, hf⟩ := h
  have hf : DataW.trod enc Try.prog w base spare held fuel 23 [.slice A n c] = some (d, ps) := hf
  obtain ⟨l, hl⟩ := rsl_of_trod (R := RStp) (size := 15) Try.underlying23 (by kernel_rfl) (by omega) step_open hf
  have hn := trod_len Try.underlying23 hf
  refine ⟨l, hl, ?_⟩
  obtain ⟨A', c', hv, hc, _⟩ := hl
  injection hv with e1 e2 e3
  omega
end
end Go.Proofs.Ytekioihjfggmdaa
