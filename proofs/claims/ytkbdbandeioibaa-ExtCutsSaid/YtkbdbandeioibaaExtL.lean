/- Extensions as bytes, in plain lists. -/
import Derived.Test.YtkbdbandeioibaaExt1
namespace Go.Proofs.Ytkbdbandeioibaa
open Go.RowKit
set_option linter.unusedVariables false

def itemB (s : Bool) (x : It) : List UInt8 := if s then UInt8.ofNat (16 * x.1.toNat + x.2.length - 1) :: x.2 else x.1 :: UInt8.ofNat x.2.length :: x.2
def bodyB (s : Bool) (l : List It) : List UInt8 := l.flatMap (itemB s)
def padN (n : Nat) : Nat := (4 - n % 4) % 4
def padB (l : List UInt8) : List UInt8 := l ++ List.replicate (padN l.length) 0
def shortB (l : List It) : Bool := !l.any bigB
def extErr (l : List It) : Int := if 14 < l.length then 13 else if l.any badB then 1 else 0
def extProf (l : List It) : Nat := if extErr l = 0 then (if shortB l then 48862 else 4096) else 0
def extB (l : List It) : List UInt8 := if extErr l = 0 then padB (bodyB (shortB l) l) else []

theorem bodyB_take (s : Bool) (l : List It) (k : Nat) (h : k < l.length) : bodyB s (l.take (k + 1)) = bodyB s (l.take k) ++ itemB s l[k] := by
  rw [bodyB, bodyB, List.take_succ_eq_append_getElem h, List.flatMap_append]
  simp
theorem itemB_len (s : Bool) (x : It) : (itemB s x).length ≤ x.2.length + 2 := by
  unfold itemB; split <;> simp
theorem bodyB_len (s : Bool) (m : Nat) : ∀ (l : List It) (h : ∀ x ∈ l, x.2.length ≤ m), (bodyB s l).length ≤ (m + 2) * l.length
  | [], _ => by simp [bodyB]
  | x :: l, h => by
    have h1 := itemB_len s x
    have h2 := h x (by simp)
    have h3 := bodyB_len s m l (fun y hy => h y (by simp [hy]))
    have e : bodyB s (x :: l) = itemB s x ++ bodyB s l := by simp [bodyB]
    rw [e, List.length_append, List.length_cons, Nat.mul_succ]
    omega
theorem short_all {l : List It} (h : l.any bigB = false) (x : It) (hx : x ∈ l) : 1 ≤ x.1.toNat ∧ x.1.toNat < 15 ∧ 1 ≤ x.2.length ∧ x.2.length ≤ 16 := by
  have h1 := List.any_eq_false.1 h x hx
  have h2 : smallB x = true := by
    cases h : smallB x with
    | true => rfl
    | false => exact absurd (by simp [bigB, h]) h1
  simp only [smallB, smallN, Bool.and_eq_true, decide_eq_true_eq] at h2
  omega
theorem good_all {l : List It} (h : l.any badB = false) (x : It) (hx : x ∈ l) : x.1.toNat ≠ 0 ∧ x.2.length ≤ 255 := by
  have h1 := List.any_eq_false.1 h x hx
  simp only [badB, badN, Bool.or_eq_true, decide_eq_true_eq] at h1
  omega
theorem first_short (i n : Nat) (h1 : 1 ≤ i) (h2 : i < 15) (h3 : 1 ≤ n) (h4 : n ≤ 16) : bits .or .u8 ((i : Int) * 16) ((n : Int) - 1) = ((UInt8.ofNat (16 * i + n - 1)).toNat : Int) := by
  have e1 : (i : Int) * 16 = ((i * 16 : Nat) : Int) := by omega
  have e2 : (n : Int) - 1 = ((n - 1 : Nat) : Int) := by omega
  rw [e1, e2, u8_or_nat _ _ (by omega) (by omega), show i * 16 = i <<< 4 by rw [Nat.shiftLeft_eq], ← Nat.shiftLeft_add_eq_or_of_lt (show n - 1 < 2 ^ 4 by omega), UInt8.toNat_ofNat', Nat.shiftLeft_eq]
  omega
end Go.Proofs.Ytkbdbandeioibaa
