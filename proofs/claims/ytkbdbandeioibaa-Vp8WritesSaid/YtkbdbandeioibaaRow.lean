/- A region by facts, whose slots lie in a row: the frame is written once. -/
import Derived.Test.YtkbdbandeioibaaReg
namespace Go.Proofs.Ytkbdbandeioibaa
open Go.RowKit
set_option linter.unusedVariables false

/-- values laid into a row of slots -/
def putRow (k : Nat) (vs : List Value) (a : Act) : Act := ⟨(a.tmps.toList.take k ++ (vs ++ a.tmps.toList.drop (k + vs.length))).toArray, a.defers⟩
def actOf (l : List Oper) (n k : Nat) (a : Act) (vs : List Value) : Act := putAll (l.drop n) (vs.drop n) (putRow k (vs.take n) a)
def rowOk (l : List Oper) (n k size : Nat) : Bool := ((List.range n).all fun i => (l[i]?).bind (·.dst) == some (k + i)) && decide (k + n ≤ size) && decide (n ≤ l.length)

theorem putRow_nil (k : Nat) (a : Act) : putRow k [] a = a := by simp [putRow]
theorem putRow_succ (k : Nat) (v : Value) (vs : List Value) (a : Act) (h : k < a.tmps.size) : putRow (k + 1) vs (a.put (some k) v) = putRow k (v :: vs) a := by
  obtain ⟨⟨t⟩, ds⟩ := a
  simp only [putRow, Act.put, List.setIfInBounds_toArray]
  simp only [List.size_toArray] at h
  congr 2
  apply List.ext_getElem?
  intro i
  have e1 : ((t.set k v).take (k + 1)) = t.take k ++ [v] := by
    rw [List.take_succ_eq_append_getElem (by simpa using h), List.take_set_of_le (Nat.le_refl k)]
    simp
  have e2 : (t.set k v).drop (k + 1 + vs.length) = t.drop (k + (v :: vs).length) := by
    rw [List.drop_set_of_lt (by omega), List.length_cons]
    congr 1
    omega
  rw [e1, e2]
  simp
theorem putAll_row : ∀ (os : List Oper) (vs : List Value) (a : Act) (k : Nat), (∀ i, i < os.length → (os[i]?).bind (·.dst) = some (k + i)) → vs.length = os.length → k + os.length ≤ a.tmps.size → putAll os vs a = putRow k vs a
  | [], [], a, k, _, _, _ => by rw [putRow_nil]; rfl
  | o :: os, v :: vs, a, k, h, hl, hs => by
    have h0 : o.dst = some k := by simpa using h 0 (by simp)
    simp only [List.length_cons] at hs
    rw [putAll, h0, putAll_row os vs _ (k + 1) (fun i hi => by
      have := h (i + 1) (by simpa using hi)
      rw [show k + 1 + i = k + (i + 1) by omega]
      simpa using this) (by simpa using hl) (by simp [Act.put]; omega), putRow_succ k v vs a (by omega)]
  | [], _ :: _, _, _, _, hl, _ => by simp at hl
  | _ :: _, [], _, _, _, hl, _ => by simp at hl
theorem putAll_append : ∀ (a b : List Oper) (vs us : List Value) (c : Act), vs.length = a.length → putAll (a ++ b) (vs ++ us) c = putAll b us (putAll a vs c)
  | [], _, [], _, _, _ => rfl
  | o :: a, b, v :: vs, us, c, h => by
    simp only [List.cons_append, putAll]
    exact putAll_append a b vs us _ (by simpa using h)
  | [], _, _ :: _, _, _, h => by simp at h
  | _ :: _, _, [], _, _, h => by simp at h
theorem actOf_eq {l : List Oper} {n k : Nat} {a : Act} (h : rowOk l n k a.tmps.size = true) {vs : List Value} (hl : vs.length = l.length) : actOf l n k a vs = putAll l vs a := by
  simp only [rowOk, Bool.and_eq_true, decide_eq_true_eq, List.all_eq_true, List.mem_range, beq_iff_eq] at h
  obtain ⟨⟨h1, h2⟩, h3⟩ := h
  have e1 : l.take n ++ l.drop n = l := List.take_append_drop n l
  have e2 : vs.take n ++ vs.drop n = vs := List.take_append_drop n vs
  have e3 := putAll_append (l.take n) (l.drop n) (vs.take n) (vs.drop n) a (by simp; omega)
  rw [e1, e2] at e3
  rw [actOf, e3, putAll_row (l.take n) (vs.take n) a k (fun i hi => ?_) (by simp; omega) (by simp; omega)]
  simp only [List.length_take] at hi
  rw [List.getElem?_take_of_lt (by omega)]
  exact h1 i (by omega)

section
variable (P : Program) (ops : Array Oper) (Q : Exit → Act → World → Prop) (R : World → World → Prop) (w0 : World) (Φ : List Fact) (A : List Value → Act) (vs : List Value)
def Obl2 : Nat → List Oper → List Fact → List (List Nat) → Prop
  | i, o :: os, φ :: φs, d :: ds => (∀ w, R w0 w → Leans Φ vs w d (∀ K : Act → World → Prop, (∀ v w', R w w' → φ v w' → K (A (vs.set i v)) w') →
      if Region.wanted o (yielded ops (A vs).tmps) = true then o.wp P (A vs) w K Q else K (A (vs.set i undef)) w)) ∧ Obl2 (i + 1) os φs ds
  | _, _, _, _ => True
end
theorem Leans.mono {Φ : List Fact} {vs : List Value} {w : World} {p q : Prop} (h : p → q) : ∀ {js : List Nat}, Leans Φ vs w js p → Leans Φ vs w js q
  | [], hh => h hh
  | _ :: _, hh => fun hf => Leans.mono h (hh hf)
theorem obl_of {P : Program} {l : List Oper} {Q : Exit → Act → World → Prop} {R : World → World → Prop} {w0 : World} {Φ : List Fact} {A : List Value → Act} {a0 : Act} (hA : ∀ vs : List Value, vs.length = l.length → A vs = putAll l vs a0) (hn : (l.filterMap (·.dst)).Nodup) {vs : List Value} (hl : vs.length = l.length) :
    ∀ (os : List Oper) (i : Nat) (φs : List Fact) (ds : List (List Nat)), (∀ j, os[j]? = l[i + j]?) → Obl2 P l.toArray Q R w0 Φ A vs i os φs ds → Obl P l.toArray Q R w0 Φ (putAll l vs a0) vs os φs ds
  | o :: os, i, φ :: φs, d :: ds, hi, h => by
    refine ⟨fun w hw => Leans.mono (fun hh K hK => ?_) (h.1 w hw), obl_of hA hn hl os (i + 1) φs ds (fun j => ?_) h.2⟩
    · have ho : l[i]? = some o := by simpa using (hi 0).symm
      have e : ∀ v, (putAll l vs a0).put o.dst v = A (vs.set i v) := fun v => by
        rw [putAll_set l vs a0 i o v hn hl ho, hA _ (by simpa using hl)]
      have := hh K (fun v w' h1 h2 => by rw [← e]; exact hK v w' h1 h2)
      rw [hA vs hl, ← e] at this
      exact this
    · have := hi (j + 1)
      rw [show i + 1 + j = i + (j + 1) by omega, ← this]
      simp
  | [], _, _, _, _, _ => by simp [Obl]
  | _ :: _, _, [], _, _, _ => by simp [Obl]
  | _ :: _, _, _ :: _, [], _, _ => by simp [Obl]

theorem wp_region_rows {P : Program} {Q : Exit → Act → World → Prop} {a0 : Act} {w0 : World} {id : Nat} {l : List Oper} (n k : Nat) (R : World → World → Prop) (Φ : List Fact) (ds : List (List Nat)) (hm : P.follows .mixedOrders = true) (hok : regOk l.toArray ds = true) (hΦ : (Φ.length == l.length) = true)
    (hrow : rowOk l n k a0.tmps.size = true) (hrf : ∀ a, R a a) (htr : ∀ a b c, R a b → R b c → R a c) (hst : StAll R Φ)
    (h : AllV l fun vs => Obl2 P l.toArray Q R w0.drew Φ (actOf l n k a0) vs 0 l Φ ds ∧ ∀ w, R w0.drew w → allFacts w Φ vs (Q .normal (actOf l n k a0 vs) w)) : (Code.region id l.toArray true).wp P Q a0 w0 := by
  have hn : (l.filterMap (·.dst)).Nodup := by
    simp only [regOk, Bool.and_eq_true, beq_iff_eq, decide_eq_true_eq] at hok
    exact hok.1.1.2
  refine wp_region_facts R Φ ds hm hok hΦ hrf htr hst ?_
  have hall : ∀ {os : List Oper} {p q : List Value → Prop}, (∀ vs : List Value, vs.length = os.length → p vs → q vs) → AllV os p → AllV os q := by
    intro os
    induction os with
    | nil => intro p q h1 h2; exact h1 [] rfl h2
    | cons o os ih => intro p q h1 h2 v; exact ih (fun vs hl hp => h1 (v :: vs) (by simp [hl]) hp) (h2 v)
  refine hall (fun vs hl hp => ⟨obl_of (A := actOf l n k a0) (fun vs hl => actOf_eq hrow hl) hn hl l 0 Φ ds (fun j => by simp) hp.1, fun w hw => ?_⟩) h
  have := hp.2 w hw
  rwa [actOf_eq hrow hl] at this
end Go.Proofs.Ytkbdbandeioibaa
