/- The items of bytes, in plain lists. -/
import Derived.Test.YtkbdbandeioibaaExtL
namespace Go.Proofs.Ytkbdbandeioibaa
open Go.RowKit
set_option linter.unusedVariables false

/-- an item's data, if there are so many bytes, and room; then what goes on -/
def bodyX (out : List It) (id : UInt8) (n : Nat) (r : List UInt8) (go : List It → List UInt8 → List It × Int) : List It × Int :=
  if r.length < n then ([], 10) else if out.length = 14 then ([], 13) else go (out ++ [(id, r.take n)]) (r.drop n)
def longX (out : List It) (a : UInt8) (l : List UInt8) (go : List It → List UInt8 → List It × Int) : List It × Int :=
  match l with
  | [] => ([], 10)
  | b :: l => bodyX out a b.toNat l go
def parseF (s : Bool) : Nat → List It → List UInt8 → List It × Int
  | 0, out, _ => (out, 0)
  | f + 1, out, [] => (out, 0)
  | f + 1, out, a :: l =>
    if a.toNat = 0 then parseF s f out l
    else if s then (if a.toNat / 16 = 15 then (out, 0) else if a.toNat / 16 = 0 then ([], 11) else bodyX out (UInt8.ofNat (a.toNat / 16)) (a.toNat % 16 + 1) l (parseF s f))
    else longX out a l (parseF s f)
/-- what a profile is: 1 short, 2 long, else none -/
def profK (p : Nat) : Nat := if 4096 ≤ p ∧ p < 4112 then 2 else if p = 48862 then 1 else 0
def extParse (p : Nat) (l : List UInt8) : List It × Int :=
  if profK p = 0 then ([], 0) else parseF (profK p == 1) l.length [] l

theorem parseF_nil (s : Bool) (f : Nat) (out : List It) : parseF s f out [] = (out, 0) := by
  cases f <;> rfl
theorem parseF_zero {s : Bool} {f : Nat} {out : List It} {a : UInt8} {l : List UInt8} (h : a.toNat = 0) : parseF s (f + 1) out (a :: l) = parseF s f out l := by
  rw [parseF, if_pos h]
theorem parseF_short {f : Nat} {out : List It} {a : UInt8} {l : List UInt8} (h : a.toNat ≠ 0) : parseF true (f + 1) out (a :: l) = if a.toNat / 16 = 15 then (out, 0) else if a.toNat / 16 = 0 then ([], 11) else bodyX out (UInt8.ofNat (a.toNat / 16)) (a.toNat % 16 + 1) l (parseF true f) := by
  rw [parseF, if_neg h, if_pos rfl]
theorem parseF_long1 {f : Nat} {out : List It} {a : UInt8} (h : a.toNat ≠ 0) : parseF false (f + 1) out [a] = ([], 10) := by
  rw [parseF, if_neg h, if_neg (by simp), longX]
theorem parseF_long {f : Nat} {out : List It} {a b : UInt8} {l : List UInt8} (h : a.toNat ≠ 0) : parseF false (f + 1) out (a :: b :: l) = bodyX out a b.toNat l (parseF false f) := by
  rw [parseF, if_neg h, if_neg (by simp), longX]
theorem bodyX_short {out : List It} {id : UInt8} {n : Nat} {r : List UInt8} {go : List It → List UInt8 → List It × Int} (h : r.length < n) : bodyX out id n r go = ([], 10) := if_pos h
theorem bodyX_big {out : List It} {id : UInt8} {n : Nat} {r : List UInt8} {go : List It → List UInt8 → List It × Int} (h : ¬ r.length < n) (h2 : out.length = 14) : bodyX out id n r go = ([], 13) := by
  rw [bodyX, if_neg h, if_pos h2]
theorem bodyX_on {out : List It} {id : UInt8} {n : Nat} {r : List UInt8} {go : List It → List UInt8 → List It × Int} (h : ¬ r.length < n) (h2 : out.length ≠ 14) : bodyX out id n r go = go (out ++ [(id, r.take n)]) (r.drop n) := by
  rw [bodyX, if_neg h, if_neg h2]

/-- items as cells, their data's slices given -/
def encI (out : List It) (vs : List Value) : List Value := (out.zip vs).flatMap fun p => [.int .u8 p.1.1.toNat, p.2]
theorem encI_snoc (out : List It) (vs : List Value) (x : It) (v : Value) (h : vs.length = out.length) : encI (out ++ [x]) (vs ++ [v]) = encI out vs ++ [.int .u8 x.1.toNat, v] := by
  rw [encI, List.zip_append h.symm, List.flatMap_append]
  rfl
theorem encI_len (out : List It) (vs : List Value) (h : vs.length = out.length) : (encI out vs).length = out.length * 2 := by
  rw [encI]
  have : ∀ l : List (It × Value), (l.flatMap fun p => [Value.int .u8 (p.1.1.toNat : Nat), p.2]).length = l.length * 2 := by
    intro l
    induction l with
    | nil => rfl
    | cons p l ih => rw [List.flatMap_cons, List.length_append, ih]; simp; omega
  rw [this, List.length_zip, h, Nat.min_self]
/-- their data lie where the slices say -/
def Datas (w : World) (out : List It) (vs : List Value) : Prop := vs.length = out.length ∧ ∀ (i : Nat) (h : i < out.length) (h' : i < vs.length), D8 w out[i].2 vs[i]
theorem Datas.nil {w : World} : Datas w [] [] := ⟨rfl, fun i h => by simp at h⟩
theorem Datas.snoc {w : World} {out : List It} {vs : List Value} (h : Datas w out vs) {x : It} {v : Value} (hx : D8 w x.2 v) : Datas w (out ++ [x]) (vs ++ [v]) := by
  refine ⟨by simp [h.1], fun i h1 h2 => ?_⟩
  by_cases hi : i < out.length
  · rw [List.getElem_append_left hi, List.getElem_append_left (by rw [h.1]; exact hi)]
    exact h.2 i hi _
  · have : i = out.length := by simp at h1; omega
    subst this
    rw [List.getElem_append_right (Nat.le_refl _), List.getElem_append_right (by rw [h.1]; exact Nat.le_refl _)]
    simpa [h.1] using hx
theorem Datas.grown {w w' : World} {out : List It} {vs : List Value} (h : Datas w out vs) {row : Option Nat} (hg : w.grownBy w' row) (hne : ∀ g cur fr, w.heap[g]? = some (.cells cur 5 fr) → row ≠ some g) : Datas w' out vs :=
  ⟨h.1, fun i h1 h2 => (h.2 i h1 h2).grown hg hne⟩
theorem Datas.keep {w w' : World} {out : List It} {vs : List Value} (h : Datas w out vs) (hb : Below w.heap.size w w') : Datas w' out vs :=
  ⟨h.1, fun i h1 h2 => (h.2 i h1 h2).keep hb⟩
theorem flat2 {l : List (It × Value)} (i : Nat) (h : i < l.length) (j : Nat) (hj : j < 2) : (l.flatMap fun p => [Value.int .u8 (p.1.1.toNat : Nat), p.2])[i * 2 + j]? = ([Value.int .u8 ((l[i]).1.1.toNat : Nat), (l[i]).2] : List Value)[j]? :=
  flat_get (fun p : It × Value => [Value.int .u8 (p.1.1.toNat : Nat), p.2]) 2 l (fun _ _ => rfl) i h j hj
theorem rsl_items {w : World} {base : Nat} {v : Value} {out : List It} {vs : List Value} (h : w.ownsRow base 46 2 v out.length (encI out vs)) (hd : Datas w out vs) : RSl 2 RItem w out v := by
  obtain ⟨A, cap, rfl, hc, hcl⟩ := own_slice h
  refine ⟨A, cap, rfl, hc, fun hne => ?_⟩
  have hlen : (out.zip vs).length = out.length := by rw [List.length_zip, hd.1, Nat.min_self]
  have hne' : encI out vs ≠ [] := by
    intro e
    have h2 := encI_len out vs hd.1
    rw [e, List.length_nil] at h2
    exact hne (List.eq_nil_of_length_eq_zero (by omega))
  obtain ⟨b, off, hA, hg⟩ := hcl hne'
  refine ⟨b, off, hA, fun i hi => ⟨[.int .u8 out[i].1.toNat, vs[i]'(by rw [hd.1]; exact hi)], rfl, fun j hj => ?_, vs[i]'(by rw [hd.1]; exact hi), rfl, (hd.2 i hi _).rsl⟩⟩
  have h1 := flat2 (l := out.zip vs) i (by omega) j hj
  rw [List.getElem_zip] at h1
  simp only at h1
  have h2 : ([Value.int .u8 (out[i].1.toNat : Nat), vs[i]'(by rw [hd.1]; exact hi)] : List Value)[j]? = some (([Value.int .u8 (out[i].1.toNat : Nat), vs[i]'(by rw [hd.1]; exact hi)] : List Value)[j]'(by simpa using hj)) := List.getElem?_eq_getElem _
  rw [h2] at h1 ⊢
  rw [Nat.add_assoc]
  exact hg _ _ h1
end Go.Proofs.Ytkbdbandeioibaa
