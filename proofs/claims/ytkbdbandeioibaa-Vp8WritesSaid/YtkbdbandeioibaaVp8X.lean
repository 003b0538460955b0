/- Two cells of a block, stored in whichever order. -/
import Derived.Test.YtkbdbandeioibaaVp8F
import Derived.Test.YtkbdbandeioibaaVp8U
namespace Go.Proofs.Ytkbdbandeioibaa
open Go.RowKit
set_option linter.unusedVariables false

theorem setCell_comm (w : World) (g i j : Nat) (u v : Value) (h : i ≠ j) : (w.setCell ⟨g, i, none⟩ u).setCell ⟨g, j, none⟩ v = (w.setCell ⟨g, j, none⟩ v).setCell ⟨g, i, none⟩ u := by
  simp only [World.setCell]
  congr 1
  apply Array.ext
  · simp
  · intro k h1 h2
    simp only [Array.getElem_modify]
    by_cases hk : g = k
    · subst hk
      simp only [if_true]
      cases w.heap[g]'(by simpa using h1) with
      | cells c e f =>
        show Obj.cells ((c.setIfInBounds i u).setIfInBounds j v) e f = Obj.cells ((c.setIfInBounds j v).setIfInBounds i u) e f
        obtain ⟨l⟩ := c
        simp only [List.setIfInBounds_toArray]
        rw [List.set_comm _ _ h]
      | _ => rfl
    · simp [hk]
theorem setCell_again (w : World) (g i : Nat) (u : Value) : (w.setCell ⟨g, i, none⟩ u).setCell ⟨g, i, none⟩ u = w.setCell ⟨g, i, none⟩ u := by
  simp only [World.setCell]
  congr 1
  apply Array.ext
  · simp
  · intro k h1 h2
    simp only [Array.getElem_modify]
    by_cases hk : g = k
    · subst hk
      simp only [if_true]
      cases w.heap[g]'(by simpa using h1) with
      | cells c e f =>
        show Obj.cells ((c.setIfInBounds i u).setIfInBounds i u) e f = Obj.cells (c.setIfInBounds i u) e f
        obtain ⟨l⟩ := c
        simp only [List.setIfInBounds_toArray, List.set_set]
      | _ => rfl
    · simp [hk]

/-- of two stores none, one, or both have been done -/
def Two (g i j : Nat) (u v : Value) (w w' : World) : Prop :=
  w' = w ∨ w' = w.setCell ⟨g, i, none⟩ u ∨ w' = w.setCell ⟨g, j, none⟩ v ∨ w' = (w.setCell ⟨g, i, none⟩ u).setCell ⟨g, j, none⟩ v
section
variable {g i j : Nat} {u v : Value}
theorem Two.refl (w : World) : Two g i j u v w w := .inl rfl
theorem Two.trans (h : i ≠ j) {a b c : World} (h1 : Two g i j u v a b) (h2 : Two g i j u v b c) : Two g i j u v a c := by
  have e1 : ∀ w : World, (w.setCell ⟨g, j, none⟩ v).setCell ⟨g, i, none⟩ u = (w.setCell ⟨g, i, none⟩ u).setCell ⟨g, j, none⟩ v := fun w => (setCell_comm w g i j u v h).symm
  have e2 : ∀ w : World, ((w.setCell ⟨g, i, none⟩ u).setCell ⟨g, j, none⟩ v).setCell ⟨g, i, none⟩ u = (w.setCell ⟨g, i, none⟩ u).setCell ⟨g, j, none⟩ v := fun w => by rw [e1, setCell_again]
  rcases h1 with rfl | rfl | rfl | rfl
  · exact h2
  · rcases h2 with rfl | rfl | rfl | rfl
    · exact .inr (.inl rfl)
    · exact .inr (.inl (setCell_again ..))
    · exact .inr (.inr (.inr rfl))
    · exact .inr (.inr (.inr (by rw [setCell_again])))
  · rcases h2 with rfl | rfl | rfl | rfl
    · exact .inr (.inr (.inl rfl))
    · exact .inr (.inr (.inr (e1 _)))
    · exact .inr (.inr (.inl (setCell_again ..)))
    · exact .inr (.inr (.inr (by rw [e1, setCell_again])))
  · rcases h2 with rfl | rfl | rfl | rfl
    · exact .inr (.inr (.inr rfl))
    · exact .inr (.inr (.inr (e2 _)))
    · exact .inr (.inr (.inr (setCell_again ..)))
    · exact .inr (.inr (.inr (by rw [e2, setCell_again])))
theorem Two.heap {a b : World} (h : Two g i j u v a b) {k : Nat} {o : Obj} (hk : a.heap[k]? = some o) (hne : k ≠ g) : b.heap[k]? = some o := by
  rcases h with rfl | rfl | rfl | rfl
  · exact hk
  · exact heap_far _ hk hne
  · exact heap_far _ hk hne
  · exact heap_far _ (heap_far _ hk hne) hne
/-- both have been done -/
theorem Two.both (h : i ≠ j) {a b : World} (h1 : Two g i j u v a b) (hu : b.setCell ⟨g, i, none⟩ u = b) (hv : b.setCell ⟨g, j, none⟩ v = b) : b = (a.setCell ⟨g, i, none⟩ u).setCell ⟨g, j, none⟩ v := by
  rcases h1 with rfl | rfl | rfl | rfl
  · rw [hu, hv]
  · exact hv.symm
  · rw [setCell_comm _ g i j u v h, hu]
  · rfl
theorem Two.keep1 (h : i ≠ j) {a b : World} (h1 : Two g i j u v a b) (hu : a.setCell ⟨g, i, none⟩ u = a) : b.setCell ⟨g, i, none⟩ u = b := by
  rcases h1 with rfl | rfl | rfl | rfl
  · exact hu
  · exact setCell_again ..
  · rw [← setCell_comm _ g i j u v h, hu]
  · rw [← setCell_comm _ g i j u v h, setCell_again]
theorem Two.keep2 (h : i ≠ j) {a b : World} (h1 : Two g i j u v a b) (hv : a.setCell ⟨g, j, none⟩ v = a) : b.setCell ⟨g, j, none⟩ v = b := by
  rcases h1 with rfl | rfl | rfl | rfl
  · exact hv
  · rw [setCell_comm _ g i j u v h, hv]
  · exact setCell_again ..
  · exact setCell_again ..
end
end Go.Proofs.Ytkbdbandeioibaa
