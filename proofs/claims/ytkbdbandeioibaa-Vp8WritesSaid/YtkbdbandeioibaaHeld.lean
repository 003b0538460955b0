/- Words for a region whose order is open: what holds of every world on the way. -/
import Derived.Test.YtkbdbandeioibaaOct
import Derived.Deep.RegionHeld3
import Derived.Deep.DeepCutAuto
import Derived.Deep.QuietTactic
import Derived.BigQuiet
namespace Go.Proofs.Ytkbdbandeioibaa
open Go.RowKit
set_option linter.unusedVariables false

theorem below_swap {B : Nat} {a w : World} {o o' : Obj} (h : Below B a (w.alloc o)) (hB : B ≤ w.heap.size) : Below B a (w.alloc o') :=
  ⟨h.os, h.tape, h.output, by simpa using h.size, fun k hk => by
    rw [← h.block k hk, Below.heap_alloc _ _ _ (by omega), Below.heap_alloc _ _ _ (by omega)]⟩

theorem quietL {P : Program} {f : FuncId} {args : Array Value} {w : World} {n : Nat} {v : Value} (h : Calls P f args (w.drewN n) fun e w' => e = .returned v ∧ w.drewN n = w') :
    Calls P f args (w.drewN n) fun e w'' => e = .returned v ∧ ∃ m, w'' = w.drewN m := h.mono fun _ _ ⟨he, hm⟩ => ⟨he, n, hm.symm⟩
section
variable {w w' : World} {o o' : Obj}
theorem hk0 : Below w.heap.size w w.drew := (Below.refl _ _).drew
theorem hkA : Below w.heap.size w (w.drew.alloc o) := (Below.refl _ _).drew.alloc (Nat.le_refl _) o
theorem hkC (h : Below w.drew.heap.size w.drew w') : Below w.heap.size w w' := (Below.refl _ _).drew.trans h
theorem hkCA (h : Below w.drew.heap.size w.drew w') : Below w.heap.size w (w'.alloc o) := (hkC h).alloc h.size o
theorem hkAC (h : Below (w.drew.alloc o).heap.size (w.drew.alloc o) w') : Below w.heap.size w w' := (hkA (o := o)).trans (h.mono (by simp))
theorem hkACS (h : Below (w.drew.alloc o).heap.size (w.drew.alloc o) w') {i : Nat} {u : Value} : Below w.heap.size w (w'.setCell ⟨w.heap.size, i, none⟩ u) := (hkAC h).setCell (Nat.le_refl _) u
theorem hkACSS (h : Below (w.drew.alloc o).heap.size (w.drew.alloc o) w') {i j : Nat} {u v : Value} : Below w.heap.size w ((w'.setCell ⟨w.heap.size, i, none⟩ u).setCell ⟨w.heap.size, j, none⟩ v) := (hkACS h).setCell (Nat.le_refl _) v
end

theorem held0 {w0 w' : World} (h : Below w0.heap.size w0 w') : Below w0.heap.size w0 w' ∧ True := ⟨h, trivial⟩
theorem held1 {w0 w' : World} (h : Below w0.heap.size w0 w') {a0 : Addr} {v0 : Value} (c0 : w0.cell? a0 = some v0) : Below w0.heap.size w0 w' ∧ w'.cell? a0 = some v0 := ⟨h, cell_later h c0⟩
theorem held2 {w0 w' : World} (h : Below w0.heap.size w0 w') {a0 a1 : Addr} {v0 v1 : Value} (c0 : w0.cell? a0 = some v0) (c1 : w0.cell? a1 = some v1) :
    Below w0.heap.size w0 w' ∧ w'.cell? a0 = some v0 ∧ w'.cell? a1 = some v1 := ⟨h, cell_later h c0, cell_later h c1⟩
theorem held3 {w0 w' : World} (h : Below w0.heap.size w0 w') {a0 a1 a2 : Addr} {v0 v1 v2 : Value} (c0 : w0.cell? a0 = some v0) (c1 : w0.cell? a1 = some v1) (c2 : w0.cell? a2 = some v2) :
    Below w0.heap.size w0 w' ∧ w'.cell? a0 = some v0 ∧ w'.cell? a1 = some v1 ∧ w'.cell? a2 = some v2 := ⟨h, cell_later h c0, cell_later h c1, cell_later h c2⟩
theorem held4 {w0 w' : World} (h : Below w0.heap.size w0 w') {a0 a1 a2 a3 : Addr} {v0 v1 v2 v3 : Value} (c0 : w0.cell? a0 = some v0) (c1 : w0.cell? a1 = some v1) (c2 : w0.cell? a2 = some v2) (c3 : w0.cell? a3 = some v3) :
    Below w0.heap.size w0 w' ∧ w'.cell? a0 = some v0 ∧ w'.cell? a1 = some v1 ∧ w'.cell? a2 = some v2 ∧ w'.cell? a3 = some v3 := ⟨h, cell_later h c0, cell_later h c1, cell_later h c2, cell_later h c3⟩

theorem rsl_take {α : Type} {size : Nat} {R : Rd α} {w : World} {l : List α} {A : Option Addr} {n cap k : Nat} (h : RSl size R w l (.slice A n cap)) (hk : k ≤ l.length) : RSl size R w (l.take k) (.slice A k cap) := by
  obtain ⟨A', cap', hv, hc, hr⟩ := h
  injection hv with e1 e2 e3
  subst e1 e2 e3
  refine ⟨A, cap, by simp; omega, by simp; omega, fun hne => ?_⟩
  obtain ⟨b, off, hA, hi⟩ := hr (by rintro rfl; simp at hne)
  refine ⟨b, off, hA, fun i hi' => ?_⟩
  obtain ⟨cs, h1, h2, h3⟩ := hi i (by simp at hi'; omega)
  exact ⟨cs, h1, h2, by simpa using h3⟩
theorem own_base {w : World} {base base' : Nat} {e : TypeId} {size n : Nat} {v : Value} {xs : List Value} (h : w.ownsRow base e size v n xs) (hb : base' ≤ base) : w.ownsRow base' e size v n xs := by
  refine ⟨h.1, ?_⟩
  rcases h.2 with h2 | ⟨g, cap, cur, h1, h2, h3⟩
  · exact .inl h2
  · exact .inr ⟨g, cap, cur, h1, Nat.le_trans hb h2, h3⟩
theorem own_rsl {α : Type} {size : Nat} {R : Rd α} {w : World} {l : List α} {v : Value} (h : RSl size R w l v) : ∃ A cap, v = .slice A l.length cap ∧ l.length ≤ cap ∧ True := by
  obtain ⟨A, cap, h1, h2, _⟩ := h
  exact ⟨A, cap, h1, h2, trivial⟩

theorem CutAt.set_other {w : World} {base p : Nat} {l : List UInt8} {e : Int} (h : CutAt w base p l e) {q i : Nat} {cs : Array Value} {t : TypeId} {fr : Nat × Nat} (hq : w.heap[q]? = some (.cells cs t fr)) (h1 : t ≠ 92) (h2 : t ≠ 5) (u : Value) :
    CutAt (w.setCell ⟨q, i, none⟩ u) base p l e := by
  obtain ⟨hb, A, cap, hp, hc, hd⟩ := h
  have hne : ∀ {g : Nat} {cs' : Array Value} {t' : TypeId} {fr' : Nat × Nat}, w.heap[g]? = some (.cells cs' t' fr') → t ≠ t' → g ≠ q := by
    intro g cs' t' fr' hg hn e
    rw [e, hq] at hg
    injection hg with hg
    injection hg with _ hg _
    exact hn hg
  refine ⟨hb, A, cap, heap_far u hp (hne hp h1), hc, fun hn => ?_⟩
  obtain ⟨g, off, cur, h3, h4, h5, h6⟩ := hd hn
  exact ⟨g, off, cur, h3, h4, heap_far u h5 (hne h5 h2), h6⟩
/-- append, at a step of a region that draws -/
theorem step_app {P : Program} {ops : Array Oper} {o : Oper} {a : Act} {w : World} {K : Act → World → Prop} {Q : Exit → Act → World → Prop} {E : Prop} (hgd : o.guard = none) {base : Nat} {t e : TypeId} {z : Value} {size bytes : Nat} (T : SlT P t e z size bytes)
    (s x : Operand) (ho : o.op = .call { callee := .builtin .append, args := #[s, x], argTypes := #[t, t] })
    {v : Value} {n : Nat} {xs : List Value} (hown : w.ownsRow base e size v n xs) (hs : a.eval s = v) (A : Option Addr) (m c : Nat) (hx : a.eval x = .slice A m c) {news : List Value} (hc : Cells w A news) (hl : news.length = m * size)
    (h1 : ∀ u ∈ news, u.oneCell' = true) (hbytes : (n + m) * bytes ≤ 140737488355328) (h63 : n + m ≤ 9223372036854775807) (hbase : base ≤ w.heap.size)
    (h : ∀ v' w', w'.ownsRow base e size v' (n + m) (xs ++ news) → w.grownBy w' v.ownBlock → (v'.ownBlock = v.ownBlock ∨ v'.ownBlock = some w.heap.size) → K (a.put o.dst v') w') :
    if Region.wanted o (yielded ops a.tmps) = true then Oper.wp P o a w K Q else E := by
  have hw : Region.wanted o (yielded ops a.tmps) = true := by simp [Region.wanted, hgd]
  rw [if_pos hw]
  exact wp_app T s x ho hown hs hx hc hl h1 hbytes h63 hbase h
end Go.Proofs.Ytkbdbandeioibaa
