/- A whole struct loaded from, or stored into, a block that is known whole. -/
import Derived.Test.YtkbdbandeioibaaReg
import Derived.Deep.MidRow
namespace Go.Proofs.Ytkbdbandeioibaa
open Go.RowKit
set_option linter.unusedVariables false

theorem setCells_grown (g : Nat) : ∀ (vs : List Value) (o : Nat) (w : World), w.grownBy (w.setCells g o vs) (some g)
  | [], _, w => World.grownBy.refl w _
  | v :: vs, o, w => by
    have h1 : w.grownBy (w.setCell ⟨g, o, none⟩ v) (some g) := grown_set v
    have h2 := setCells_grown g vs (o + 1) (w.setCell ⟨g, o, none⟩ v)
    exact ⟨h2.os.trans h1.os, h2.tape.trans h1.tape, h2.output.trans h1.output, Nat.le_trans h1.size h2.size, fun k hk hne => (h2.block k (Nat.lt_of_lt_of_le hk h1.size) hne).trans (h1.block k hk hne)⟩
theorem heap_setCells (g : Nat) {T : TypeId} {fr : Nat × Nat} : ∀ (vs pre old : List Value) (w : World), old.length = vs.length → w.heap[g]? = some (.cells (pre ++ old).toArray T fr) → (w.setCells g pre.length vs).heap[g]? = some (.cells (pre ++ vs).toArray T fr)
  | [], pre, old, w, hl, h => by
    obtain rfl := List.eq_nil_of_length_eq_zero hl
    exact h
  | v :: vs, pre, [], w, hl, h => by simp at hl
  | v :: vs, pre, u :: old, w, hl, h => by
    have h1 := heap_set (i := pre.length) v h
    have e : (pre ++ u :: old).toArray.setIfInBounds pre.length v = ((pre ++ [v]) ++ old).toArray := by simp
    rw [e] at h1
    have := heap_setCells g vs (pre ++ [v]) old _ (by simpa using hl) h1
    simpa [World.setCells] using this
theorem there_block {w : World} {g : Nat} {cs : List Value} {T : TypeId} (h : w.heap[g]? = some (.cells cs.toArray T (0, 0))) : w.there g 0 cs.length := fun j hj => by
  rw [Nat.zero_add, cell_block h, free_block h]
  simp [hj]
theorem range_block {w : World} {g : Nat} {cs : List Value} {T : TypeId} {fr : Nat × Nat} (h : w.heap[g]? = some (.cells cs.toArray T fr)) : w.rangeAt g 0 cs := fun j v hj => by
  rw [Nat.zero_add, cell_block h]
  simpa using hj

section
variable {P : Program} {ops : Array Oper} {rest : List Oper} {o : Oper} {a : Act} {w : World} {Q : Exit → Act → World → Prop}
theorem wp_store_blk {K : Act → World → Prop} (ty : TypeId) (x y : Operand) (ho : o.op = .store ty x y) {g : Nat} {cs old : List Value} {T : TypeId} (hx : a.eval x = .pointer (some ⟨g, 0, none⟩)) (hy : a.eval y = .agg cs.toArray)
    (hi : (P.info? ty).map (·.size) = some cs.length) (h1 : ∀ v ∈ cs, v.oneCell' = true) (hg : w.heap[g]? = some (.cells old.toArray T (0, 0))) (hl : old.length = cs.length)
    (h : ∀ w', w'.heap[g]? = some (.cells cs.toArray T (0, 0)) → w.grownBy w' (some g) → K (a.put o.dst undef) w') : o.wp P a w K Q := by
  refine wp_store_mid ty x y ho g 0 cs.toArray hx hy (by have := there_block hg; rw [hl] at this; simpa using this) (by simpa using hi) (all_oneCell_toArray h1) (h _ ?_ ?_)
  · have := heap_setCells g cs [] old w hl (by simpa using hg)
    simpa using this
  · exact setCells_grown g _ 0 w
theorem wpl_store_blk (hgd : o.guard = none) (ty : TypeId) (x y : Operand) (ho : o.op = .store ty x y) {g : Nat} {cs old : List Value} {T : TypeId} (hx : a.eval x = .pointer (some ⟨g, 0, none⟩)) (hy : a.eval y = .agg cs.toArray)
    (hi : (P.info? ty).map (·.size) = some cs.length) (h1 : ∀ v ∈ cs, v.oneCell' = true) (hg : w.heap[g]? = some (.cells old.toArray T (0, 0))) (hl : old.length = cs.length)
    (h : ∀ w', w'.heap[g]? = some (.cells cs.toArray T (0, 0)) → w.grownBy w' (some g) → wpList P ops Q rest (a.put o.dst undef) w') : wpList P ops Q (o :: rest) a w :=
  wpList_plain hgd fun _ hK => wp_store_blk ty x y ho hx hy hi h1 hg hl fun w' h2 h3 => hK _ _ (h w' h2 h3)
theorem wp_load_blk {K : Act → World → Prop} (ty : TypeId) (x : Operand) (ho : o.op = .load ty x) {g : Nat} {cs : List Value} {T : TypeId} {fr : Nat × Nat} (d : TypeDesc) (hx : a.eval x = .pointer (some ⟨g, 0, none⟩))
    (hu : P.underlying ty = some d) (hd : d.isRow = true) (hi : (P.info? ty).map (·.size) = some cs.length) (hg : w.heap[g]? = some (.cells cs.toArray T fr))
    (h : K (a.put o.dst (.agg cs.toArray)) w) : o.wp P a w K Q :=
  wp_load_mid ty x ho g 0 hx cs d (range_block hg) hu hd hi h
theorem wpl_load_blk (hgd : o.guard = none) (ty : TypeId) (x : Operand) (ho : o.op = .load ty x) {g : Nat} {cs : List Value} {T : TypeId} {fr : Nat × Nat} (d : TypeDesc) (hx : a.eval x = .pointer (some ⟨g, 0, none⟩))
    (hu : P.underlying ty = some d) (hd : d.isRow = true) (hi : (P.info? ty).map (·.size) = some cs.length) (hg : w.heap[g]? = some (.cells cs.toArray T fr))
    (h : wpList P ops Q rest (a.put o.dst (.agg cs.toArray)) w) : wpList P ops Q (o :: rest) a w :=
  wpList_load_mid hgd ty x ho g 0 hx cs d (range_block hg) hu hd hi h
end
end Go.Proofs.Ytkbdbandeioibaa
