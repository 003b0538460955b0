/- How many items are parsed, and how long their data are, in plain lists. -/
import Derived.Test.YtkbdbandeioibaaExt2
namespace Go.Proofs.Ytkbdbandeioibaa
open Go.RowKit
set_option linter.unusedVariables false

def Bd (N : Nat) (r : List It × Int) : Prop := r.1.length ≤ 14 ∧ ∀ x ∈ r.1, x.2.length ≤ N
theorem bd_bad (N : Nat) (e : Int) : Bd N ([], e) := ⟨by simp, fun x h => by simp at h⟩
theorem bd_body {N : Nat} {out : List It} {id : UInt8} {n : Nat} {r : List UInt8} {go : List It → List UInt8 → List It × Int} (h1 : out.length ≤ 14) (h2 : ∀ x ∈ out, x.2.length ≤ N) (hr : r.length ≤ N)
    (hgo : ∀ (out' : List It) (r' : List UInt8), out'.length ≤ 14 → (∀ x ∈ out', x.2.length ≤ N) → r'.length ≤ N → Bd N (go out' r')) : Bd N (bodyX out id n r go) := by
  unfold bodyX
  split
  · exact bd_bad N 10
  · split
    · exact bd_bad N 13
    · rename_i h3 h4
      refine hgo _ _ (by simp; omega) (fun x hx => ?_) (by simp; omega)
      rcases List.mem_append.1 hx with hx | hx
      · exact h2 x hx
      · obtain rfl := List.mem_singleton.1 hx
        simp; omega
theorem bd_parse (s : Bool) (N : Nat) : ∀ (f : Nat) (out : List It) (l : List UInt8), out.length ≤ 14 → (∀ x ∈ out, x.2.length ≤ N) → l.length ≤ N → Bd N (parseF s f out l)
  | 0, out, l, h1, h2, _ => ⟨h1, h2⟩
  | f + 1, out, [], h1, h2, _ => ⟨h1, h2⟩
  | f + 1, out, a :: l, h1, h2, h3 => by
    have hl : l.length ≤ N := by simp at h3; omega
    rw [parseF]
    split
    · exact bd_parse s N f out l h1 h2 hl
    · split
      · split
        · exact ⟨h1, h2⟩
        · split
          · exact bd_bad N 11
          · exact bd_body h1 h2 hl (fun o r a b c => bd_parse s N f o r a b c)
      · unfold longX
        split
        · exact bd_bad N 10
        · rename_i b l'
          exact bd_body h1 h2 (by simp at hl; omega) (fun o r a b c => bd_parse s N f o r a b c)
theorem bd_ext (p : Nat) (l : List UInt8) : Bd l.length (extParse p l) := by
  unfold extParse
  split
  · exact bd_bad _ 0
  · exact bd_parse _ _ _ _ _ (by simp) (fun x h => by simp at h) (Nat.le_refl _)
theorem find_some {i : Nat} {l : List It} {k : Nat} (hk : k < l.length) (h : l[k].1.toNat = i) (hn : ∀ j (h : j < l.length), j < k → l[j].1.toNat ≠ i) : findD i l = some l[k].2 := by
  have e : l.findIdx (idB i) = k := (List.findIdx_eq hk).2 ⟨by simp [idB, h], fun j hj => by simp only [idB, decide_eq_false_iff_not]; exact hn j (by omega) hj⟩
  unfold findD
  rw [dif_pos (by omega)]
  simp only [e]
theorem find_none {i : Nat} {l : List It} (hn : ∀ j (h : j < l.length), l[j].1.toNat ≠ i) : findD i l = none := by
  unfold findD
  rw [dif_neg]
  intro h
  have := List.findIdx_getElem (w := h)
  simp only [idB, decide_eq_true_eq] at this
  exact hn _ h this
end Go.Proofs.Ytkbdbandeioibaa
