/- The request of bytes, byte by byte, in plain lists. -/
import Derived.Test.YtlfomilalkkbeaaParL
namespace Go.Proofs.Ytlfomilalkkbeaa
open Go.RowKit
set_option linter.unusedVariables false

def numAt (l : List UInt8) (k : Nat) : Nat := val ((l.drop (18 + 4 * k)).take 4)
def numsTo (l : List UInt8) (k : Nat) : List Nat := (List.range k).map (numAt l)
theorem numsTo_succ (l : List UInt8) (k : Nat) : numsTo l (k + 1) = numsTo l k ++ [numAt l k] := by simp [numsTo, List.range_succ]
theorem numsTo_len (l : List UInt8) (k : Nat) : (numsTo l k).length = k := by simp [numsTo]
theorem numAt_lt (l : List UInt8) (k : Nat) : numAt l k < 4294967296 := by
  have h1 := val_lt ((l.drop (18 + 4 * k)).take 4)
  have h2 : ((l.drop (18 + 4 * k)).take 4).length ≤ 4 := List.length_take_le _ _
  exact Nat.lt_of_lt_of_le h1 (Nat.le_trans (Nat.pow_le_pow_right (by omega) h2) (by decide))

section
variable (l : List UInt8) (h : 18 ≤ l.length)
include h
theorem rq_closed (hc : 18 + 4 * cnt l ≤ l.length) : rq l = ⟨(l[8]'(by omega)).toNat, 256 * (l[9]'(by omega)).toNat + (l[10]'(by omega)).toNat, (l[11]'(by omega)).toNat, (l[12]'(by omega)).toNat, 256 * (l[13]'(by omega)).toNat + (l[14]'(by omega)).toNat, (l[15]'(by omega)).toNat, (l[16]'(by omega)).toNat, numsTo l (cnt l)⟩ := by
  have one1 : ((1 : Int)) = ((1 : Nat) : Int) := rfl
  have two1 : ((2 : Int)) = ((2 : Nat) : Int) := rfl
  have a1 : nm (q1 l) 1 = (l[8]'(by omega)).toNat := by rw [q1_ok l h, one1, nm_ok _ 1 (by omega) (by omega) (by simp; omega), val_one l 8 (by omega)]
  have a2 : nm (q2 l) 2 = 256 * (l[9]'(by omega)).toNat + (l[10]'(by omega)).toNat := by rw [q2_ok l h, two1, nm_ok _ 2 (by omega) (by omega) (by simp; omega), val_twoB l 9 (by omega)]
  have a3 : nm (q3 l) 1 = (l[11]'(by omega)).toNat := by rw [q3_ok l h, one1, nm_ok _ 1 (by omega) (by omega) (by simp; omega), val_one l 11 (by omega)]
  have a4 : nm (q4 l) 1 = (l[12]'(by omega)).toNat := by rw [q4_ok l h, one1, nm_ok _ 1 (by omega) (by omega) (by simp; omega), val_one l 12 (by omega)]
  have a5 : nm (q5 l) 2 = 256 * (l[13]'(by omega)).toNat + (l[14]'(by omega)).toNat := by rw [q5_ok l h, two1, nm_ok _ 2 (by omega) (by omega) (by simp; omega), val_twoB l 13 (by omega)]
  have a6 : nm (q6 l) 1 = (l[15]'(by omega)).toNat := by rw [q6_ok l h, one1, nm_ok _ 1 (by omega) (by omega) (by simp; omega), val_one l 15 (by omega)]
  have a7 : nm (q7 l) 1 = (l[16]'(by omega)).toNat := by rw [q7_ok l h, one1, nm_ok _ 1 (by omega) (by omega) (by simp; omega), val_one l 16 (by omega)]
  unfold rq
  rw [a1, a2, a3, a4, a5, a6, a7]
  congr 1
  unfold numsTo
  refine List.map_congr_left fun k hk => ?_
  have hk' : k < nm (q8 l) 1 := by simpa using hk
  have hk2 : k < cnt l := hk'
  exact ssrc_ok l h k (by omega)
theorem id_closed : nm (l, 0) 8 = val (l.take 8) := nm_ok l 8 (by omega) (by omega) (by omega)
end
theorem pr_ok (l : List UInt8) (h : rqErr l = 0) : prId l = nm (l, 0) 8 ∧ prRq l = rq l := by
  unfold prId prRq
  rw [if_pos h, if_pos h]
  exact ⟨rfl, rfl⟩
theorem pr_bad (l : List UInt8) (h : rqErr l ≠ 0) : prId l = 0 ∧ prRq l = ⟨0, 0, 0, 0, 0, 0, 0, []⟩ := by
  unfold prId prRq
  rw [if_neg h, if_neg h]
  exact ⟨rfl, rfl⟩
end Go.Proofs.Ytlfomilalkkbeaa
