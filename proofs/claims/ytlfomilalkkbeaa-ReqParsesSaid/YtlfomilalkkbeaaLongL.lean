/- A request's bytes: how many, and what another number changes, in plain lists. -/
import Derived.Test.YtlfomilalkkbeaaTellsL
namespace Go.Proofs.Ytlfomilalkkbeaa
open Go.RowKit
set_option linter.unusedVariables false

/-- behind the number -/
def Rq.rest (q : Rq) : List UInt8 := puts ((q.head 0).tail ++ tailP q.ssrcs)
theorem bytes_rest (id : Nat) (q : Rq) : q.bytes id = putOne (id, 8) ++ q.rest := by
  unfold Rq.bytes Rq.rest Rq.head
  rw [List.cons_append, puts_cons]
  rfl
theorem one8_len (id : Nat) : (putOne (id, 8)).length = 8 := by simp [putOne, mayB, be_length]
theorem tail_bytes : ∀ l : List Nat, (puts (tailP l)).length = 4 * l.length
  | [] => by simp [tailP, puts]
  | s :: l => by
    have := tail_bytes l
    rw [tailP, List.map_cons, puts_cons, List.length_append]
    rw [tailP] at this
    rw [this]
    simp [putOne, mayB, be_length]
    omega
theorem rest_len (q : Rq) : q.rest.length = 10 + 4 * q.ssrcs.length := by
  unfold Rq.rest
  rw [puts_append, List.length_append, tail_bytes]
  simp [Rq.head, puts, putOne, mayB, be_length]
theorem bytes_len (id : Nat) (q : Rq) : (q.bytes id).length = 18 + 4 * q.ssrcs.length := by
  rw [bytes_rest, List.length_append, one8_len, rest_len]; omega
theorem bytes_drop (id : Nat) (q : Rq) : (q.bytes id).drop 8 = q.rest := by
  rw [bytes_rest, List.drop_append_of_le_length (by rw [one8_len]; omega), List.drop_of_length_le (by rw [one8_len]; omega), List.nil_append]
theorem one8_inj {a b : Nat} (ha : (a : Int) < 18446744073709551616) (hb : (b : Int) < 18446744073709551616) (h : putOne (a, 8) = putOne (b, 8)) : a = b := by
  have h1 := ok_val (a, 8) (ok_id a ha)
  have h2 := ok_val (b, 8) (ok_id b hb)
  rw [h] at h1
  exact h1.symm.trans h2
theorem bytes_eq (a b : Nat) (ha : (a : Int) < 18446744073709551616) (hb : (b : Int) < 18446744073709551616) (q : Rq) : (q.bytes a == q.bytes b) = ((a : Int) == (b : Int)) := by
  rw [Bool.eq_iff_iff, beq_iff_eq, beq_iff_eq]
  constructor
  · intro h
    rw [bytes_rest, bytes_rest] at h
    have := one8_inj ha hb (List.append_cancel_right h)
    omega
  · intro h
    rw [show a = b by omega]
end Go.Proofs.Ytlfomilalkkbeaa
