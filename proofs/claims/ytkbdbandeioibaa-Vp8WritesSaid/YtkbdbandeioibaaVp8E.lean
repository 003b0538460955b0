/- vp8 descriptors compared. -/
import Derived.Test.YtkbdbandeioibaaVp8L
import Derived.Laws.StructEq
namespace Go.Proofs.Ytkbdbandeioibaa
open Go.RowKit
set_option linter.unusedVariables false

theorem desc_st : (Try.prog).underlying 49 = some (.struct ((Try.prog).fieldsOf 49)) := by kernel_rfl
theorem desc_held : (Try.prog).stoodInHeld 49 = false := by kernel_rfl
theorem desc_guard : (Try.prog).eqGuardType (Try.prog).depth 49 = false := by kernel_rfl
theorem refd_st : (Try.prog).underlying 53 = some (.struct ((Try.prog).fieldsOf 53)) := by kernel_rfl
theorem refd_held : (Try.prog).stoodInHeld 53 = false := by kernel_rfl
theorem refd_guard : (Try.prog).eqGuardType (Try.prog).depth 53 = false := by kernel_rfl

theorem ite_ok (p : Prop) [Decidable p] (q : Bool) (w : World) : (if p then Result.ok q w else Result.ok false w) = Result.ok (decide p && q) w := by
  by_cases h : p <;> simp [h]

set_option maxRecDepth 100000 in
set_option maxHeartbeats 2000000 in
theorem desc_eq (a b : Dsc) (w : World) : (Op.equalIn 10000 49 a.val b.val).run Try.prog w = .ok (decide (a = b)) w := by
  obtain ⟨a1, a2, a3, a4, a5, a6, a7, a8, a9, a10, a11, a12, a13, a14⟩ := a
  obtain ⟨b1, b2, b3, b4, b5, b6, b7, b8, b9, b10, b11, b12, b13, b14⟩ := b
  simp only [Dsc.val]
  rw [show (10000 : Nat) = 9999 + 1 from rfl, run_equalIn_agg w 9999 _ _ _ desc_st desc_held]
  simp only [Program.fieldsOf, Try.underlying49]
  go_simp
  simp only [ite_ok, Int.ofNat_inj, Bool.and_true]

set_option maxRecDepth 100000 in
set_option maxHeartbeats 2000000 in
theorem refd_eq (a b : Dsc) (w : World) : (Op.equalIn 10000 53 a.ref b.ref).run Try.prog w = .ok (decide (a = b)) w := by
  obtain ⟨a1, a2, a3, a4, a5, a6, a7, a8, a9, a10, a11, a12, a13, a14⟩ := a
  obtain ⟨b1, b2, b3, b4, b5, b6, b7, b8, b9, b10, b11, b12, b13, b14⟩ := b
  simp only [Dsc.ref]
  rw [show (10000 : Nat) = 9999 + 1 from rfl, run_equalIn_agg w 9999 _ _ _ refd_st refd_held]
  simp only [Program.fieldsOf, Try.underlying53]
  go_simp
  simp only [ite_ok, Int.ofNat_inj, Bool.and_true]

theorem desc_eql (a b : Dsc) (w : World) : (binOp .eql 49 a.val b.val).run Try.prog w = .ok (.bool (decide (a = b))) w := by
  have h := desc_eq a b w
  simp only [Dsc.val] at h ⊢
  rw [run_eql_struct, h]
  rfl
theorem desc_neq (a b : Dsc) (w : World) : (binOp .neq 49 a.val b.val).run Try.prog w = .ok (.bool (!decide (a = b))) w := by
  have h := desc_eq a b w
  simp only [Dsc.val] at h ⊢
  rw [run_neq_struct, h]
  rfl
theorem refd_neq (a b : Dsc) (w : World) : (binOp .neq 53 a.ref b.ref).run Try.prog w = .ok (.bool (!decide (a = b))) w := by
  have h := refd_eq a b w
  simp only [Dsc.ref] at h ⊢
  rw [run_neq_struct, h]
  rfl
theorem desc_guarded (op : BinOp) (x y : Operand) (a b : Dsc) (w : World) : (eqGuard op 49 x y a.val b.val).run Try.prog w = .ok () w := run_eqGuard_agg w op _ x y _ _ desc_guard
theorem refd_guarded (op : BinOp) (x y : Operand) (a b : Dsc) (w : World) : (eqGuard op 53 x y a.ref b.ref).run Try.prog w = .ok () w := run_eqGuard_agg w op _ x y _ _ refd_guard
end Go.Proofs.Ytkbdbandeioibaa
