/- make with a size that is a variable. -/
import Derived.Test.YtkbdbandeioibaaPart
import Derived.Laws.OwnMore
namespace Go.Proofs.Ytkbdbandeioibaa
open Go.RowKit
set_option linter.unusedVariables false

theorem wp_make {P : Program} {o : Oper} {a : Act} {w : World} {K : Act → World → Prop} {Q : Exit → Act → World → Prop} {t e : TypeId} {z : Value} {size bytes : Nat} (T : SlT P t e z size bytes)
    (x y : Operand) (ho : o.op = .makeSlice t x y) {kl kc : IntKind} {n : Nat} (hx : a.eval x = .int kl n) (hy : a.eval y = .int kc n) (hbytes : bytes * n ≤ 281474976710656) (h63 : n ≤ 9223372036854775807)
    (h : ∀ w', w'.ownsRow w.heap.size e size (.slice (some ⟨w.heap.size, 0, none⟩) n n) n (madeCells z.cells (n * size)).toList → Le w w' → K (a.put o.dst (.slice (some ⟨w.heap.size, 0, none⟩) n n)) w') : o.wp P a w K Q := by
  obtain ⟨i, hi, hz, hsz, hby⟩ := info_parts T.info
  obtain ⟨w', hr, h2, h3⟩ := run_make_full (P := P) w w.heap.size t e i z size T.under hi hz hsz kl kc n (by rw [hby]; exact hbytes) (by simp only [maxLen]; omega) (Nat.le_refl _)
  unfold Oper.wp execOp
  simp only [ho, hx, hy, Sem.run_bind, Sem.run_pure]
  rw [hr]
  exact h w' h2 ⟨⟨h3.os, h3.tape, h3.output, h3.size, fun k hk => h3.block k hk (by simp)⟩⟩

theorem wpl_make {P : Program} {ops : Array Oper} {rest : List Oper} {o : Oper} {a : Act} {w : World} {Q : Exit → Act → World → Prop} (hgd : o.guard = none) {t e : TypeId} {z : Value} {size bytes : Nat} (T : SlT P t e z size bytes)
    (x y : Operand) (ho : o.op = .makeSlice t x y) {kl kc : IntKind} {n : Nat} (hx : a.eval x = .int kl n) (hy : a.eval y = .int kc n) (hbytes : bytes * n ≤ 281474976710656) (h63 : n ≤ 9223372036854775807)
    (h : ∀ w', w'.ownsRow w.heap.size e size (.slice (some ⟨w.heap.size, 0, none⟩) n n) n (madeCells z.cells (n * size)).toList → Le w w' → wpList P ops Q rest (a.put o.dst (.slice (some ⟨w.heap.size, 0, none⟩) n n)) w') : wpList P ops Q (o :: rest) a w :=
  wpList_plain hgd fun _ hK => wp_make T x y ho hx hy hbytes h63 fun w' h2 h3 => hK _ _ (h w' h2 h3)

theorem made_u8 (n : Nat) : (madeCells (Value.int .u8 0).cells (n * 1)).toList = u8s (List.replicate n 0) := by
  have := toList_madeCells_one (.int .u8 0) (n * 1)
  rw [show (Value.int .u8 0).cells = #[.int .u8 0] from rfl, this]
  simp [u8s]
end Go.Proofs.Ytkbdbandeioibaa
