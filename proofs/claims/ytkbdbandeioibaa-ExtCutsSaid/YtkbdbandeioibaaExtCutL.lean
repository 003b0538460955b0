/- One item, cut, and too many of it, in plain lists. -/
import Derived.Test.YtkbdbandeioibaaExtBkL
namespace Go.Proofs.Ytkbdbandeioibaa
open Go.RowKit
set_option linter.unusedVariables false

def cutI (x k : Nat) : It := (UInt8.ofNat x, List.replicate k 9)
def cutK (s : Bool) : Nat := if s then 48862 else 4096
def headB (s : Bool) (x k : Nat) : List UInt8 := if s then [UInt8.ofNat (16 * x + k - 1)] else [UInt8.ofNat x, UInt8.ofNat k]
theorem cutB (s : Bool) {x k : Nat} (hx : x ≤ 14) : itemB s (cutI x k) = headB s x k ++ List.replicate k 9 := by
  have e : (UInt8.ofNat x).toNat = x := by rw [UInt8.toNat_ofNat']; omega
  cases s <;> simp [itemB, cutI, headB, Nat.mod_eq_of_lt (show x < 256 by omega)]
theorem cut_ok {s : Bool} {x k : Nat} (h1 : 1 ≤ x) (hx : x ≤ 14) (hk1 : 1 ≤ k) (hk : k ≤ 16) : (cutI x k).1.toNat ≠ 0 ∧ (cutI x k).2.length ≤ 255 ∧ (s = true → (cutI x k).1.toNat < 15 ∧ 1 ≤ (cutI x k).2.length ∧ (cutI x k).2.length ≤ 16) := by
  have e : (UInt8.ofNat x).toNat = x := by rw [UInt8.toNat_ofNat']; omega
  simp only [cutI, e, List.length_replicate]
  omega
theorem cut_one (s : Bool) {x k : Nat} (h1 : 1 ≤ x) (hx : x ≤ 14) (hk1 : 1 ≤ k) (hk : k ≤ 16) : extParse (cutK s) (itemB s (cutI x k)) = ([cutI x k], 0) := by
  have h := cut_ok (s := s) h1 hx hk1 hk
  have := pX_item s [] (cutI x k) [] h.1 h.2.1 h.2.2 (by simp)
  rw [List.append_nil, pX_nil] at this
  rw [ext_px _ _ (by cases s <;> decide), show (profK (cutK s) == 1) = s by cases s <;> decide, this]
  rfl
theorem head_step (s : Bool) (out : List It) {x k : Nat} (h1 : 1 ≤ x) (hx : x ≤ 14) (hk1 : 1 ≤ k) (hk : k ≤ 16) (d : List UInt8) :
    ∃ f, pX s out (headB s x k ++ d) = bodyX out (UInt8.ofNat x) k d f := by
  cases s with
  | true =>
    have e : (UInt8.ofNat (16 * x + k - 1)).toNat = 16 * x + k - 1 := by rw [UInt8.toNat_ofNat']; omega
    refine ⟨parseF true d.length, ?_⟩
    simp only [headB, if_true, List.cons_append, List.nil_append]
    rw [pX, List.length_cons, parseF_short (by rw [e]; omega), e, if_neg (by omega), if_neg (by omega),
      show (16 * x + k - 1) / 16 = x by omega, show (16 * x + k - 1) % 16 + 1 = k by omega]
  | false =>
    have e : (UInt8.ofNat x).toNat = x := by rw [UInt8.toNat_ofNat']; omega
    have e2 : (UInt8.ofNat k).toNat = k := by rw [UInt8.toNat_ofNat']; omega
    refine ⟨parseF false (d.length + 1), ?_⟩
    simp only [headB, Bool.false_eq_true, if_false, List.cons_append, List.nil_append]
    rw [pX, List.length_cons, List.length_cons, parseF_long (by rw [e]; omega), e2]
theorem cut_short (s : Bool) {x k : Nat} (h1 : 1 ≤ x) (hx : x ≤ 14) (hk1 : 1 ≤ k) (hk : k ≤ 16) : extParse (cutK s) ((itemB s (cutI x k)).take ((itemB s (cutI x k)).length - 1)) = ([], 10) := by
  have e : (itemB s (cutI x k)).take ((itemB s (cutI x k)).length - 1) = headB s x k ++ List.replicate (k - 1) 9 := by
    rw [cutB s hx, List.take_append]
    simp only [List.length_append, List.length_replicate, List.take_replicate]
    rw [List.take_of_length_le (by omega), show min ((headB s x k).length + k - 1 - (headB s x k).length) k = k - 1 by omega]
  obtain ⟨f, hf⟩ := head_step s [] h1 hx hk1 hk (List.replicate (k - 1) 9)
  rw [ext_px _ _ (by cases s <;> decide), show (profK (cutK s) == 1) = s by cases s <;> decide, e, hf, bodyX_short (by simp; omega)]
def manyB (s : Bool) (x k n : Nat) : List UInt8 := bodyB s (List.replicate n (cutI x k))
theorem many_snoc (s : Bool) (x k n : Nat) : manyB s x k (n + 1) = manyB s x k n ++ itemB s (cutI x k) := by
  simp [manyB, bodyB, List.replicate_succ']
theorem many_ok (s : Bool) {x k : Nat} (h1 : 1 ≤ x) (hx : x ≤ 14) (hk1 : 1 ≤ k) (hk : k ≤ 16) : extParse (cutK s) (manyB s x k 14) = (List.replicate 14 (cutI x k), 0) := by
  have := pX_body s [] (List.replicate 14 (cutI x k)) [] (fun y hy => by rw [(List.mem_replicate.1 hy).2]; exact cut_ok h1 hx hk1 hk) (by simp)
  rw [List.append_nil, pX_nil] at this
  rw [ext_px _ _ (by cases s <;> decide), show (profK (cutK s) == 1) = s by cases s <;> decide, manyB, this]
  rfl
theorem many_big (s : Bool) {x k : Nat} (h1 : 1 ≤ x) (hx : x ≤ 14) (hk1 : 1 ≤ k) (hk : k ≤ 16) : extParse (cutK s) (manyB s x k 15) = ([], 13) := by
  have := pX_body s (itemB s (cutI x k)) (List.replicate 14 (cutI x k)) [] (fun y hy => by rw [(List.mem_replicate.1 hy).2]; exact cut_ok h1 hx hk1 hk) (by simp)
  obtain ⟨f, hf⟩ := head_step s (List.replicate 14 (cutI x k)) h1 hx hk1 hk (List.replicate k 9)
  rw [many_snoc, ext_px _ _ (by cases s <;> decide), show (profK (cutK s) == 1) = s by cases s <;> decide, manyB, this, List.nil_append, cutB s hx, hf, bodyX_big (by simp) (by simp)]
end Go.Proofs.Ytkbdbandeioibaa
