/- How an argument that was read as data opens to the words of memory. -/
import Derived.Test.YtkbdbandeioibaaBase
import Derived.ProofKit
import Derived.Deep.Slices
import Derived.Deep.Fields
namespace Go.Proofs.Ytkbdbandeioibaa
open Go.RowKit Go.ChangeShapes Go.WideShapes Go.Deep
set_option linter.unusedVariables false

section
variable {H : Type} {enc : TypeId × Value → H} {P : Program} {w : World} {base : Nat} {spare : Nat → Bool} {held : Bool}

theorem rsl_of_trod {α : Type} {size : Nat} {R : Rd α} {t e : TypeId} {fuel : Nat} {v : Value} {x : DataW H × List MemPlace} (ht : P.underlying t = some (.slice e)) (hC : P.cellsOf e = size) (hsz : 0 < size)
    (elem : ∀ n cs y, DataW.trod enc P w base spare held n e cs = some y → ∃ a : α, R w a cs) (h : DataW.trod enc P w base spare held fuel t [v] = some x) : ∃ l : List α, RSl size R w l v := by
  rcases open_slice ht h with ⟨hcs, _⟩ | ⟨a, len, cap, m, n, D, Pl, hcs, _, hl, _, hm, _, hi⟩
  · simp at hcs
    subst hcs
    exact ⟨[], RSl.nil⟩
  · simp at hcs
    subst hcs
    have hlm : len ≤ m := by rw [hm]; split <;> omega
    have hall : ∀ i : Fin len, ∃ p : α × List Value, p.2.length = size ∧ (∀ j, j < size → w.cell? ((a.add (i.1 * size)).add j) = p.2[j]?) ∧ R w p.1 p.2 := by
      intro i
      obtain ⟨cs, hc, htr⟩ := hi i.1 (by omega)
      rw [hC] at hc
      obtain ⟨_, hcl, hat⟩ := World.cells?_some hc
      obtain ⟨b, hb⟩ := elem n cs _ htr
      exact ⟨(b, cs), hcl, fun j hj => hat j hj, hb⟩
    let f : Fin len → α × List Value := fun i => Classical.choose (hall i)
    have hf : ∀ i : Fin len, (f i).2.length = size ∧ (∀ j, j < size → w.cell? ((a.add (i.1 * size)).add j) = (f i).2[j]?) ∧ R w (f i).1 (f i).2 := fun i => Classical.choose_spec (hall i)
    refine ⟨List.ofFn fun i => (f i).1, some a, cap, by simp, by simpa using hl, fun hne => ?_⟩
    have hpos : 0 < len := by
      rcases Nat.eq_zero_or_pos len with h0 | h0
      · subst h0; simp at hne
      · exact h0
    obtain ⟨b, off, spot⟩ := a
    have hspot : spot = none := by
      obtain ⟨h1, h2, _⟩ := hf ⟨0, hpos⟩
      have h3 := h2 0 hsz
      have h4 : ((f ⟨0, hpos⟩).2)[0]? = some (((f ⟨0, hpos⟩).2)[0]'(by omega)) := List.getElem?_eq_getElem _
      rw [h4] at h3
      have := World.cell?_spot h3
      simpa [Addr.add] using this
    subst hspot
    refine ⟨b, off, rfl, fun i hi' => ?_⟩
    have hi2 : i < len := by simpa using hi'
    obtain ⟨h1, h2, h3⟩ := hf ⟨i, hi2⟩
    refine ⟨(f ⟨i, hi2⟩).2, h1, fun j hj => ?_, by simpa using h3⟩
    have := h2 j hj
    rwa [addr_add, addr_add] at this

theorem st_open {e : TypeId} {fs : Array Field} {n : Nat} {cs : List Value} {x : DataW H × List MemPlace} (he : P.underlying e = some (.struct fs)) (hone : oneCellFields P fs = true) (hC : P.cellsOf e = fs.size)
    (h : DataW.trod enc P w base spare held n e cs = some x) : cs.length = fs.size ∧ ∀ (i : Nat) (f : Field), fs[i]? = some f → ∃ v y m, cs[i]? = some v ∧ DataW.trod enc P w base spare held m f.type [v] = some y := by
  obtain ⟨xs, m, _, _, hlen, hxl, hf⟩ := DataW.trod_struct he h
  rw [hC] at hlen
  refine ⟨hlen, fun i f hi => ?_⟩
  obtain ⟨ho, hk⟩ := hone_of hone i f hi
  have hil : i < fs.size := (Array.getElem?_eq_some_iff.1 hi).1
  have h1 := hf i f hi
  rw [ho, hk, List.drop_eq_getElem_cons (by omega)] at h1
  have h2 : xs[i]? = some (xs[i]'(by omega)) := List.getElem?_eq_getElem (by omega)
  rw [h2] at h1
  exact ⟨_, _, m, List.getElem?_eq_getElem (by omega), h1⟩

theorem int_open {t : TypeId} {k : IntKind} {n : Nat} {cs : List Value} {x : DataW H × List MemPlace} (ht : P.underlying t = some (.int k)) (h : DataW.trod enc P w base spare held n t cs = some x) : ∃ a : Int, cs = [.int k a] ∧ (Lit.int k a).wf = true := by
  obtain ⟨a, e, _, hw⟩ := DataW.trod_int ht h
  exact ⟨a, e, hw⟩

theorem u8_open {t : TypeId} {n : Nat} {cs : List Value} {x : DataW H × List MemPlace} (ht : P.underlying t = some (.int .u8)) (h : DataW.trod enc P w base spare held n t cs = some x) : ∃ a : UInt8, RU8 w a cs := by
  obtain ⟨a, rfl, hw⟩ := int_open ht h
  have hb : 0 ≤ a ∧ a ≤ 255 := by simpa [Lit.wf, IntKind.min, IntKind.max, IntKind.signed, IntKind.bits] using hw
  refine ⟨UInt8.ofNat a.toNat, ?_⟩
  have : ((UInt8.ofNat a.toNat).toNat : Int) = a := by rw [UInt8.toNat_ofNat']; omega
  show [Value.int .u8 a] = [Value.int .u8 ((UInt8.ofNat a.toNat).toNat : Int)]
  rw [this]
end

theorem wf_u64 {a : Int} (h : (Lit.int .u64 a).wf = true) : ∃ n : Nat, a = n ∧ (n : Int) < 18446744073709551616 := by
  have hb : 0 ≤ a ∧ a ≤ 18446744073709551615 := by simpa [Lit.wf, IntKind.min, IntKind.max, IntKind.signed, IntKind.bits] using h
  exact ⟨a.toNat, by omega, by omega⟩
theorem wf_i64 {a : Int} (h : (Lit.int .i64 a).wf = true) : -9223372036854775808 ≤ a ∧ a ≤ 9223372036854775807 := by
  simpa [Lit.wf, IntKind.min, IntKind.max, IntKind.signed, IntKind.bits] using h
theorem wf_u32 {a : Int} (h : (Lit.int .u32 a).wf = true) : ∃ n : Nat, a = n ∧ n < 4294967296 := by
  have hb : 0 ≤ a ∧ a ≤ 4294967295 := by simpa [Lit.wf, IntKind.min, IntKind.max, IntKind.signed, IntKind.bits] using h
  exact ⟨a.toNat, by omega, by omega⟩
theorem wf_u16 {a : Int} (h : (Lit.int .u16 a).wf = true) : ∃ n : Nat, a = n ∧ n < 65536 := by
  have hb : 0 ≤ a ∧ a ≤ 65535 := by simpa [Lit.wf, IntKind.min, IntKind.max, IntKind.signed, IntKind.bits] using h
  exact ⟨a.toNat, by omega, by omega⟩
theorem wf_u8 {a : Int} (h : (Lit.int .u8 a).wf = true) : ∃ n : Nat, a = n ∧ n < 256 := by
  have hb : 0 ≤ a ∧ a ≤ 255 := by simpa [Lit.wf, IntKind.min, IntKind.max, IntKind.signed, IntKind.bits] using h
  exact ⟨a.toNat, by omega, by omega⟩
end Go.Proofs.Ytkbdbandeioibaa
