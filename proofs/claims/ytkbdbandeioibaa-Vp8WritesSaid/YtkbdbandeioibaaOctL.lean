/- Numbers as bytes, in plain lists: what the octet package computes. No program stands here. -/
import Derived.Test.YtkbdbandeioibaaBase
namespace Go.Proofs.Ytkbdbandeioibaa
open Go.RowKit
set_option linter.unusedVariables false

def mayB (n : Int) : Bool := decide (1 ≤ n) && decide (n ≤ 8)
/-- byte i of a number put in s bytes -/
def bAt (x s i : Nat) : UInt8 := UInt8.ofNat (x / 2 ^ (8 * (s - 1 - i)))
def be (x s : Nat) : List UInt8 := (List.range s).map (bAt x s)
def beTo (x s i : Nat) : List UInt8 := (List.range i).map (bAt x s)
def putOne (p : Nat × Int) : List UInt8 := if mayB p.2 then be p.1 p.2.toNat else []
def puts (l : List (Nat × Int)) : List UInt8 := l.flatMap putOne

theorem be_length (x s : Nat) : (be x s).length = s := by simp [be]
theorem beTo_length (x s i : Nat) : (beTo x s i).length = i := by simp [beTo]
theorem beTo_succ (x s i : Nat) : beTo x s (i + 1) = beTo x s i ++ [bAt x s i] := by simp [beTo, List.range_succ]
theorem putOne_length (p : Nat × Int) : (putOne p).length ≤ 8 := by
  unfold putOne; split
  · rename_i h; simp [mayB] at h; rw [be_length]; omega
  · simp
theorem puts_nil : puts [] = [] := rfl
theorem puts_append (a b : List (Nat × Int)) : puts (a ++ b) = puts a ++ puts b := List.flatMap_append
theorem puts_cons (p : Nat × Int) (b : List (Nat × Int)) : puts (p :: b) = putOne p ++ puts b := List.flatMap_cons
theorem puts_length (l : List (Nat × Int)) : (puts l).length ≤ 8 * l.length := by
  induction l with
  | nil => simp [puts]
  | cons p l ih => rw [puts_cons]; have := putOne_length p; simp; omega
theorem puts_take (l : List (Nat × Int)) (k : Nat) (h : k < l.length) : puts (l.take (k + 1)) = puts (l.take k) ++ putOne l[k] := by
  rw [List.take_succ_eq_append_getElem h, puts_append]; simp [puts]

/-- a number of bytes, the highest first -/
def val (l : List UInt8) : Nat := l.foldl (fun x b => x * 256 + b.toNat) 0
theorem val_snoc (l : List UInt8) (b : UInt8) : val (l ++ [b]) = val l * 256 + b.toNat := by simp [val]
theorem val_lt (l : List UInt8) : val l < 256 ^ l.length := by
  suffices h : ∀ n (l : List UInt8), l.length = n → val l < 256 ^ n from h _ l rfl
  intro n
  induction n with
  | zero => intro l h; obtain rfl := List.eq_nil_of_length_eq_zero h; simp [val]
  | succ n ih =>
    intro l h
    have hne : l ≠ [] := by intro e; simp [e] at h
    obtain ⟨l', b, rfl⟩ : ∃ l' b, l = l' ++ [b] := ⟨l.dropLast, l.getLast hne, (List.dropLast_concat_getLast hne).symm⟩
    rw [val_snoc]
    have h1 := ih l' (by simpa using h)
    have h2 := b.toNat_lt
    rw [Nat.pow_succ]
    omega
/-- what a Cut does: what is left, what went wrong first, what is taken -/
def cut (l : List UInt8) (e n : Int) (is : Bool) : List UInt8 × Int × List UInt8 :=
  if e ≠ 0 then (l, e, []) else if is = false then (l, 1, []) else if (l.length : Int) < n then (l, 10, []) else (l.drop n.toNat, 0, l.take n.toNat)

theorem cut_length (l : List UInt8) (e n : Int) : (cut l e n (mayB n)).2.2.length ≤ 8 := by
  unfold cut
  repeat' split
  all_goals simp
  rename_i h1 h2 h3
  simp [mayB] at h2
  omega
theorem be_succ (x i : Nat) : be x (i + 1) = UInt8.ofNat (x / 2 ^ (8 * i) % 256) :: be x i := by
  apply List.ext_getElem
  · simp [be]
  · intro j h1 h2
    simp [be] at h1 h2
    rcases j with _ | j
    · simp [be, bAt]
      apply UInt8.toNat_inj.1
      simp
    · simp [be, bAt]
      rw [show i - (j + 1) = i - 1 - j by omega]
theorem div_step (x i : Nat) : x / 2 ^ (8 * i) / 256 = x / 2 ^ (8 * (i + 1)) := by
  rw [Nat.div_div_eq_div_mul, show 8 * (i + 1) = 8 * i + 8 by omega, Nat.pow_add]

theorem be_parts (x n m : Nat) : be x (n + m) = be (x / 2 ^ (8 * m)) n ++ be x m := by
  apply List.ext_getElem
  · simp [be]
  · intro i h1 h2
    simp [be] at h1
    by_cases hi : i < n
    · rw [List.getElem_append_left (by simpa [be] using hi)]
      simp [be, bAt]
      rw [Nat.div_div_eq_div_mul, ← Nat.pow_add, show 8 * (n + m - 1 - i) = 8 * m + 8 * (n - 1 - i) by omega]
    · rw [List.getElem_append_right (by simpa [be] using hi)]
      simp [be, bAt]
      rw [show 8 * (n + m - 1 - i) = 8 * (m - 1 - (i - n)) by omega]
theorem puts_two (p q : Nat × Int) : puts [p, q] = putOne p ++ putOne q := by simp [puts]
theorem puts_one (p : Nat × Int) : puts [p] = putOne p := by simp [puts]
theorem putOne_be (x n : Nat) (h1 : 1 ≤ n) (h8 : n ≤ 8) : putOne (x, (n : Int)) = be x n := by simp [putOne, mayB]; omega

theorem cut_bad (l : List UInt8) (e n : Int) (is : Bool) (h : e ≠ 0) : cut l e n is = (l, e, []) := by simp [cut, h]
theorem cut_err (l : List UInt8) (e n : Int) (is : Bool) (h : e = 0 ∨ e = 1 ∨ e = 10) : (cut l e n is).2.1 = 0 ∨ (cut l e n is).2.1 = 1 ∨ (cut l e n is).2.1 = 10 := by
  unfold cut
  repeat' split
  all_goals simp
  exact h
theorem cut_left (l : List UInt8) (e n : Int) (is : Bool) : (cut l e n is).1.length ≤ l.length := by
  unfold cut
  repeat' split
  all_goals simp

theorem val_cons (b : UInt8) (l : List UInt8) : val (b :: l) = b.toNat * 256 ^ l.length + val l := by
  suffices h : ∀ (l : List UInt8) (x : Nat), l.foldl (fun x b => x * 256 + b.toNat) x = x * 256 ^ l.length + val l by
    have := h l b.toNat
    simpa [val] using this
  intro l
  induction l with
  | nil => intro x; simp [val]
  | cons c l ih =>
    intro x
    simp only [List.foldl_cons, List.length_cons, val]
    rw [ih, ih (0 * 256 + c.toNat), Nat.pow_succ, Nat.add_mul, Nat.zero_mul, Nat.zero_add, Nat.add_assoc, Nat.mul_assoc x, Nat.mul_comm 256]
theorem pow8 (s : Nat) : 2 ^ (8 * s) = 256 ^ s := by rw [Nat.pow_mul]
theorem val_be (x : Nat) : ∀ s, val (be x s) = x % 256 ^ s
  | 0 => by simp [be, val]; omega
  | s + 1 => by
    rw [be_succ, val_cons, be_length, val_be x s, UInt8.toNat_ofNat', Nat.mod_mod, pow8]
    have h1 := Nat.div_add_mod x (256 ^ s)
    rw [Nat.pow_succ, Nat.mod_mul, Nat.mul_comm, Nat.add_comm]
theorem val_be_fits (x s : Nat) (h : x / 2 ^ (8 * s) = 0) : val (be x s) = x := by
  rw [val_be]
  rw [pow8] at h
  exact Nat.mod_eq_of_lt (by
    rcases Nat.div_eq_zero_iff.1 h with h | h
    · have := Nat.pow_pos (n := s) (show 0 < 256 by omega); omega
    · exact h)
/-- a part that can be taken back -/
def okPart (p : Nat × Int) : Prop := 1 ≤ p.2 ∧ p.2 ≤ 8 ∧ p.1 / 2 ^ (8 * p.2.toNat) = 0
theorem ok_length (p : Nat × Int) (h : okPart p) : ((putOne p).length : Int) = p.2 := by
  unfold putOne
  rw [if_pos (by simp [mayB]; exact ⟨h.1, h.2.1⟩), be_length]
  have := h.1; omega
theorem ok_cut (p : Nat × Int) (h : okPart p) (rest : List UInt8) : cut (putOne p ++ rest) 0 p.2 (mayB p.2) = (rest, 0, putOne p) := by
  have hl := ok_length p h
  have hm : mayB p.2 = true := by simp [mayB]; exact ⟨h.1, h.2.1⟩
  have e : p.2.toNat = (putOne p).length := by omega
  rw [cut, if_neg (by simp), if_neg (by simp [hm]), if_neg (by simp; omega), e]
  simp
theorem ok_val (p : Nat × Int) (h : okPart p) : val (putOne p) = p.1 := by
  unfold putOne
  rw [if_pos (by simp [mayB]; exact ⟨h.1, h.2.1⟩)]
  exact val_be_fits _ _ h.2.2
/-- what is left of bytes that were cut: as many fewer, or too few -/
theorem ok_short (p : Nat × Int) (h : okPart p) (l : List UInt8) : (((cut l 0 p.2 (mayB p.2)).2.1 = 0 ∧ (cut l 0 p.2 (mayB p.2)).1.length + (putOne p).length = l.length) ∨ (cut l 0 p.2 (mayB p.2)).2.1 = 10) := by
  have hl := ok_length p h
  have hm : mayB p.2 = true := by simp [mayB]; exact ⟨h.1, h.2.1⟩
  rw [cut, if_neg (by simp), if_neg (by simp [hm])]
  split
  · exact .inr rfl
  · exact .inl ⟨rfl, by simp; omega⟩

theorem bAt_cell (x s i : Nat) : (Value.int .u8 ((x : Int) / 2 ^ (8 * (s - 1 - i)) % 256)) = .int .u8 (bAt x s i).toNat := by
  have : ((x : Int) / 2 ^ (8 * (s - 1 - i)) % 256) = ((x / 2 ^ (8 * (s - 1 - i)) % 256 : Nat) : Int) := by rw [Int.natCast_emod, Int.natCast_ediv, Int.natCast_pow]; rfl
  rw [this, bAt, UInt8.toNat_ofNat']
end Go.Proofs.Ytkbdbandeioibaa
