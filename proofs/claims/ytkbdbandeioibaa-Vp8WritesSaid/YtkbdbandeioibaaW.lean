/- Words for walks: cells of a box, conversions, slices cut. -/
import Derived.Test.YtkbdbandeioibaaReg
namespace Go.Proofs.Ytkbdbandeioibaa
open Go.RowKit
set_option linter.unusedVariables false

theorem box_cell {wb : World} {p : Nat} {cs : Array Value} {T : TypeId} {fr : Nat × Nat} (h : wb.heap[p]? = some (.cells cs T fr)) (i : Nat) (v : Value) (hv : cs[i]? = some v) : ∀ W, Le wb W → W.cell? ⟨p, i, none⟩ = some v :=
  fun W hW => (cell_block (hW.heap h) i).trans hv
theorem conv_le {w : World} {A : Option Addr} {n cap : Nat} {l : List UInt8} (h : RSl 1 RU8 w l (.slice A n cap)) (W : World) (hW : Le w W) : (convert 26 9 (.slice A n cap)).run Try.prog W = .ok (.string (str l)) W :=
  conv_str (P := Try.prog) W 26 9 5 A n cap l Try.underlying26 Try.underlying5 Try.underlying9 (hW.rsl keeps_u8 h)
theorem rsl_drop {α : Type} {R : Rd α} {w : World} {l : List α} {b off n cap k : Nat} (h : RSl 1 R w l (.slice (some ⟨b, off, none⟩) n cap)) (hk : k ≤ l.length) : RSl 1 R w (l.drop k) (.slice (some ⟨b, off + k, none⟩) (n - k) (cap - k)) := by
  obtain ⟨A', cap', hv, hc, hr⟩ := h
  injection hv with e1 e2 e3
  subst e1 e2 e3
  refine ⟨some ⟨b, off + k, none⟩, cap - k, by simp, by simp; omega, fun hne => ⟨b, off + k, rfl, fun i hi => ?_⟩⟩
  have hi' : k + i < l.length := by simp at hi; omega
  obtain ⟨b', off', hA, hg⟩ := hr (by rintro rfl; simp at hi')
  injection hA with hA
  injection hA with e1 e2
  subst e1 e2
  obtain ⟨cs, h1, h2, h3⟩ := hg (k + i) hi'
  refine ⟨cs, h1, fun j hj => ?_, by simpa using h3⟩
  have := h2 j hj
  rw [← this]
  congr 2
  omega

theorem wrap_u8 (x : Nat) : IntKind.u8.wrap (x : Int) = ((UInt8.ofNat x).toNat : Int) := by
  have : IntKind.u8.wrap (x : Int) = (x : Int) % 256 := by simp [IntKind.wrap, IntKind.bits, IntKind.signed]
  rw [this, UInt8.toNat_ofNat']; omega
theorem cells_at {w : World} {l : List Value} {t : TypeId} {p : Nat} (h : w.heap.size = p) : Cells (w.alloc (.cells l.toArray t)) (some ⟨p, 0, none⟩) l := by
  subst h; exact cells_new w l t
theorem heap_at {w : World} {o : Obj} {p : Nat} (h : w.heap.size = p) : (w.alloc o).heap[p]? = some o := by
  subst h; exact heap_alloc_new w o
/-- a slice that is not empty has a place -/
theorem rsl_addr {α : Type} {size : Nat} {R : Rd α} {w : World} {l : List α} {A : Option Addr} {n cap : Nat} (h : RSl size R w l (.slice A n cap)) (hne : 0 < l.length) : ∃ b off, A = some ⟨b, off, none⟩ := by
  obtain ⟨A', c', hv, _, hi⟩ := h
  injection hv with e1 e2 e3
  subst e1
  obtain ⟨b, off, e, _⟩ := hi (by rintro rfl; simp at hne)
  exact ⟨b, off, e⟩
theorem Le.own {w w' : World} (h : Le w w') {base : Nat} {e : TypeId} {size n : Nat} {v : Value} {xs : List Value} (ho : w.ownsRow base e size v n xs) : w'.ownsRow base e size v n xs := own_below ho h.out (Nat.le_refl _)
end Go.Proofs.Ytkbdbandeioibaa
