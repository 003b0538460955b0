/- What is put is parsed as it was, in plain lists. -/
import Derived.Test.YtkbdbandeioibaaExtBd
namespace Go.Proofs.Ytkbdbandeioibaa
open Go.RowKit
set_option linter.unusedVariables false

theorem body_fuel {out : List It} {id : UInt8} {n : Nat} {r : List UInt8} {g h : List It → List UInt8 → List It × Int} (e : ∀ o r', r'.length ≤ r.length → g o r' = h o r') : bodyX out id n r g = bodyX out id n r h := by
  unfold bodyX
  split
  · rfl
  · split
    · rfl
    · exact e _ _ (by simp)
theorem fuel_eq (s : Bool) : ∀ (n f g : Nat) (out : List It) (l : List UInt8), l.length ≤ n → l.length ≤ f → l.length ≤ g → parseF s f out l = parseF s g out l := by
  intro n
  induction n with
  | zero =>
    intro f g out l hn _ _
    obtain rfl := List.eq_nil_of_length_eq_zero (Nat.le_zero.1 hn)
    rw [parseF_nil, parseF_nil]
  | succ n ih =>
    intro f g out l hn hf hg
    match l with
    | [] => rw [parseF_nil, parseF_nil]
    | a :: l =>
      simp only [List.length_cons] at hn hf hg
      obtain ⟨f, rfl⟩ : ∃ k, f = k + 1 := ⟨f - 1, by omega⟩
      obtain ⟨g, rfl⟩ : ∃ k, g = k + 1 := ⟨g - 1, by omega⟩
      have e : ∀ (r : List UInt8), r.length ≤ l.length → ∀ o r', r'.length ≤ r.length → parseF s f o r' = parseF s g o r' := fun r hr o r' hr' => ih f g o r' (by omega) (by omega) (by omega)
      rw [parseF, parseF, ih f g out l (by omega) (by omega) (by omega), body_fuel (e l (Nat.le_refl _))]
      unfold longX
      clear hn hf hg
      revert e
      cases l with
      | nil => intro _; rfl
      | cons b l' =>
        intro e
        simp only
        rw [body_fuel (e l' (by simp only [List.length_cons]; omega))]
def pX (s : Bool) (out : List It) (l : List UInt8) : List It × Int := parseF s l.length out l
theorem pX_of (s : Bool) (f : Nat) (out : List It) (l : List UInt8) (h : l.length ≤ f) : parseF s f out l = pX s out l := fuel_eq s l.length f l.length out l (Nat.le_refl _) h (Nat.le_refl _)
theorem pX_nil (s : Bool) (out : List It) : pX s out [] = (out, 0) := parseF_nil _ _ _
theorem pX_zero (s : Bool) (out : List It) (l : List UInt8) : pX s out (0 :: l) = pX s out l := by
  rw [pX, List.length_cons, parseF_zero rfl]
  rfl
theorem pX_zeros (s : Bool) (out : List It) (l : List UInt8) : ∀ n, pX s out (List.replicate n 0 ++ l) = pX s out l
  | 0 => rfl
  | n + 1 => by rw [List.replicate_succ, List.cons_append, pX_zero, pX_zeros s out l n]
theorem pX_stop (out : List It) (l : List UInt8) : pX true out (240 :: l) = (out, 0) := by
  rw [pX, List.length_cons, parseF_short (by decide), if_pos (by decide)]
theorem pX_item (s : Bool) (out : List It) (x : It) (l : List UInt8) (h0 : x.1.toNat ≠ 0) (h255 : x.2.length ≤ 255) (hs : s = true → x.1.toNat < 15 ∧ 1 ≤ x.2.length ∧ x.2.length ≤ 16) (ho : out.length < 14) :
    pX s out (itemB s x ++ l) = pX s (out ++ [x]) l := by
  obtain ⟨i, d⟩ := x
  simp only at *
  cases s with
  | true =>
    obtain ⟨h1, h2, h3⟩ := hs rfl
    have e : (UInt8.ofNat (16 * i.toNat + d.length - 1)).toNat = 16 * i.toNat + d.length - 1 := by rw [UInt8.toNat_ofNat']; omega
    simp only [itemB, if_true, List.cons_append]
    rw [pX, List.length_cons, parseF_short (by rw [e]; omega), e, if_neg (by omega), if_neg (by omega),
      show (16 * i.toNat + d.length - 1) / 16 = i.toNat by omega, show (16 * i.toNat + d.length - 1) % 16 + 1 = d.length by omega,
      show UInt8.ofNat i.toNat = i from UInt8.ofNat_toNat, bodyX_on (by simp) (by omega)]
    simp only [List.take_left, List.drop_left]
    exact pX_of true _ _ _ (by simp)
  | false =>
    have e : (UInt8.ofNat d.length).toNat = d.length := by rw [UInt8.toNat_ofNat']; omega
    simp only [itemB, Bool.false_eq_true, if_false, List.cons_append]
    rw [pX, List.length_cons, parseF_long h0, e, bodyX_on (by simp) (by omega)]
    simp only [List.take_left, List.drop_left]
    exact pX_of false _ _ _ (by simp; omega)
theorem pX_body (s : Bool) (l : List UInt8) : ∀ (xs out : List It), (∀ x ∈ xs, x.1.toNat ≠ 0 ∧ x.2.length ≤ 255 ∧ (s = true → x.1.toNat < 15 ∧ 1 ≤ x.2.length ∧ x.2.length ≤ 16)) → out.length + xs.length ≤ 14 →
    pX s out (bodyB s xs ++ l) = pX s (out ++ xs) l
  | [], out, _, _ => by simp [bodyB]
  | x :: xs, out, h, hl => by
    have h1 := h x (by simp)
    simp only [List.length_cons] at hl
    have e : bodyB s (x :: xs) = itemB s x ++ bodyB s xs := by simp [bodyB]
    rw [e, List.append_assoc, pX_item s out x _ h1.1 h1.2.1 h1.2.2 (by omega), pX_body s l xs (out ++ [x]) (fun y hy => h y (by simp [hy])) (by simp; omega)]
    simp
theorem ext_px (p : Nat) (l : List UInt8) (h : profK p ≠ 0) : extParse p l = pX (profK p == 1) [] l := by
  rw [extParse, if_neg h]; rfl

/-- what was put, with noughts ahead and behind -/
theorem err_parts {l : List It} (h : extErr l = 0) : l.length ≤ 14 ∧ l.any badB = false := by
  unfold extErr at h
  by_cases h1 : 14 < l.length
  · rw [if_pos h1] at h; omega
  · rw [if_neg h1] at h
    cases hb : l.any badB
    · exact ⟨by omega, rfl⟩
    · rw [hb] at h; simp at h
theorem body_back {l : List It} (h : extErr l = 0) (a : Nat) (rest : List UInt8) : pX (shortB l) [] (List.replicate a 0 ++ (extB l ++ rest)) = pX (shortB l) l rest := by
  obtain ⟨h14, hgd⟩ := err_parts h
  have hX : extB l = padB (bodyB (shortB l) l) := by rw [extB, if_pos h]
  have hall : ∀ x ∈ l, x.1.toNat ≠ 0 ∧ x.2.length ≤ 255 ∧ (shortB l = true → x.1.toNat < 15 ∧ 1 ≤ x.2.length ∧ x.2.length ≤ 16) := fun x hx => by
    have h1 := good_all hgd x hx
    refine ⟨h1.1, h1.2, fun hs => ?_⟩
    have hb : l.any bigB = false := by
      unfold shortB at hs
      simpa using hs
    have := short_all hb x hx
    omega
  rw [pX_zeros, hX, padB, List.append_assoc, pX_body _ _ l [] hall (by simpa using h14), pX_zeros]
  simp
end Go.Proofs.Ytkbdbandeioibaa
