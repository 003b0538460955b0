/- Texts of one claim, laid together: Reg2 -/
import Derived.Test.YtkcpfhbfjpldhaaGreatDoorJo04
/- A region whose order is open, by facts that may name what their operation waits for. -/
namespace Go.Proofs.YtkcpfhbfjpldhaaGreatDoor
open Go.RowKit
set_option linter.unusedVariables false

abbrev FactD := List Value → Value → World → Prop
def IsD (c : Value) : FactD := fun _ v _ => v = c
theorem IsD.mk (c : Value) (us : List Value) (w : World) : IsD c us c w := rfl
def depV (d : List Nat) (vs : List Value) : List Value := d.map fun k => (vs[k]?).getD undef
def factAtD (Φ : List FactD) (ds : List (List Nat)) (vs : List Value) (w : World) (j : Nat) : Prop :=
  match Φ[j]?, ds[j]?, vs[j]? with
  | some φ, some d, some v => φ (depV d vs) v w
  | _, _, _ => True
def StAllD (R : World → World → Prop) : List FactD → Prop
  | [] => True
  | φ :: φs => (∀ us v w w', R w w' → φ us v w → φ us v w') ∧ StAllD R φs
theorem StAllD.use {R : World → World → Prop} : ∀ {Φ : List FactD}, StAllD R Φ → ∀ φ ∈ Φ, ∀ us v w w', R w w' → φ us v w → φ us v w'
  | φ :: φs, h, ψ, hm => by
    rcases List.mem_cons.1 hm with rfl | hm
    · exact h.1
    · exact StAllD.use h.2 ψ hm
theorem StD.is {R : World → World → Prop} {c : Value} : ∀ us v w w', R w w' → IsD c us v w → IsD c us v w' := fun _ _ _ _ _ h => h

def LeansD (Φ : List FactD) (ds : List (List Nat)) (vs : List Value) (w : World) : List Nat → Prop → Prop
  | [], p => p
  | j :: js, p => factAtD Φ ds vs w j → LeansD Φ ds vs w js p
theorem LeansD.use {Φ : List FactD} {ds : List (List Nat)} {vs : List Value} {w : World} {p : Prop} : ∀ {js : List Nat}, LeansD Φ ds vs w js p → (∀ j ∈ js, factAtD Φ ds vs w j) → p
  | [], h, _ => h
  | j :: js, h, hf => LeansD.use (h (hf j (by simp))) fun k hk => hf k (by simp [hk])

section
variable (P : Program) (ops : Array Oper) (Q : Exit → Act → World → Prop) (R : World → World → Prop) (w0 : World) (Φ : List FactD) (dsA : List (List Nat)) (A : List Value → Act) (vs : List Value)
def OblD : Nat → List Oper → List FactD → List (List Nat) → Prop
  | i, o :: os, φ :: φs, d :: ds => (∀ w, R w0 w → LeansD Φ dsA vs w d (∀ K : Act → World → Prop, (∀ v w', R w w' → φ (depV d vs) v w' → K (A (vs.set i v)) w') →
      if Region.wanted o (yielded ops (A vs).tmps) = true then o.wp P (A vs) w K Q else K (A (vs.set i undef)) w)) ∧ OblD (i + 1) os φs ds
  | _, _, _, _ => True
def allFactsD (w : World) (full : List Value) : List FactD → List (List Nat) → List Value → Prop → Prop
  | φ :: φs, d :: ds, v :: vs, p => φ (depV d full) v w → allFactsD w full φs ds vs p
  | _, _, _, p => p
end
theorem OblD.use {P ops Q R w0 Φ dsA A vs} : ∀ {os : List Oper} {n : Nat} {φs : List FactD} {ds : List (List Nat)}, OblD P ops Q R w0 Φ dsA A vs n os φs ds → ∀ (i : Nat) (o : Oper) (φ : FactD) (d : List Nat), os[i]? = some o → φs[i]? = some φ → ds[i]? = some d →
    ∀ w, R w0 w → LeansD Φ dsA vs w d (∀ K : Act → World → Prop, (∀ v w', R w w' → φ (depV d vs) v w' → K (A (vs.set (n + i) v)) w') →
      if Region.wanted o (yielded ops (A vs).tmps) = true then o.wp P (A vs) w K Q else K (A (vs.set (n + i) undef)) w)
  | o :: os, n, φ :: φs, d :: ds, h, 0, o', φ', d', ho, hφ, hd => by
    simp only [List.getElem?_cons_zero, Option.some.injEq] at ho hφ hd
    subst ho hφ hd
    exact h.1
  | o :: os, n, φ :: φs, d :: ds, h, i + 1, o', φ', d', ho, hφ, hd => by
    have := OblD.use h.2 i o' φ' d' (by simpa using ho) (by simpa using hφ) (by simpa using hd)
    rw [show n + 1 + i = n + (i + 1) by omega] at this
    exact this
  | [], _, _, _, _, _, _, _, _, ho, _, _ => by simp at ho
  | _ :: _, _, [], _, _, _, _, _, _, _, hφ, _ => by simp at hφ
  | _ :: _, _, _ :: _, [], _, _, _, _, _, _, _, hd => by simp at hd
theorem allFactsD.use {w : World} {full : List Value} {p : Prop} : ∀ {φs : List FactD} {ds : List (List Nat)} {vs : List Value}, allFactsD w full φs ds vs p → (∀ (i : Nat) (φ : FactD) (d : List Nat) (v : Value), φs[i]? = some φ → ds[i]? = some d → vs[i]? = some v → φ (depV d full) v w) → p
  | φ :: φs, d :: ds, v :: vs, h, hf => allFactsD.use (h (hf 0 φ d v rfl rfl rfl)) fun i φ' d' v' h1 h2 h3 => hf (i + 1) φ' d' v' (by simpa using h1) (by simpa using h2) (by simpa using h3)
  | [], _, _, h, _ => h
  | _ :: _, [], _, h, _ => h
  | _ :: _, _ :: _, [], h, _ => h

theorem depV_set {d : List Nat} {vs : List Value} {i : Nat} {v : Value} (h : ∀ j ∈ d, j ≠ i) : depV d (vs.set i v) = depV d vs := by
  unfold depV
  refine List.map_congr_left fun j hj => ?_
  rw [List.getElem?_set_ne (Ne.symm (h j hj))]

/-- what is listed waits for nothing that is not -/
def Closed (ops : Array Oper) (listed : Array Bool) : Prop := ∀ (k : Nat) (o : Oper), listed.getD k false = true → ops[k]? = some o → ∀ e ∈ o.after, Region.binds .any e = true → listed.getD e.on false = true
theorem Closed.set {ops : Array Oper} {listed : Array Bool} {i : Nat} {o : Oper} (h : Closed ops listed) (hi : i < listed.size) (ho : ops[i]? = some o) (hall : ∀ e ∈ o.after, Region.binds .any e = true → listed.getD e.on false = true) : Closed ops (listed.setIfInBounds i true) := by
  intro k o' hk ho' e he hb
  have hin : (listed.setIfInBounds i true).getD i false = true := by simp [hi]
  have up : ∀ j, listed.getD j false = true → (listed.setIfInBounds i true).getD j false = true := by
    intro j hj
    by_cases hji : j = i
    · subst hji; exact hin
    · rwa [getD_set_ne false (fun e => hji e.symm)]
  by_cases hki : k = i
  · subst hki
    rw [ho] at ho'
    injection ho' with ho'
    subst ho'
    exact up _ (hall e he hb)
  · rw [getD_set_ne false (fun e => hki e.symm)] at hk
    exact up _ (h k o' hk ho' e he hb)

section
variable {P : Program} {Q : Exit → Act → World → Prop} {R : World → World → Prop} {Φ : List FactD} {ds : List (List Nat)} {a0 : Act} {w0 : World} {l : List Oper} {m : Nat}

/-- one step: what was known of what is listed stays -/
theorem facts_set {ops : Array Oper} {listed : Array Bool} {vs : List Value} {i : Nat} {v : Value} {w w' : World} {φ : FactD} {d : List Nat} {M : Nat} (hst : StAllD R Φ) (hφ : Φ[i]? = some φ) (hd : ds[i]? = some d) (hi : i < vs.length) (hR : R w w')
    (hv : φ (depV d vs) v w') (hcl : Closed ops listed) (hnl : listed.getD i true = false) (hfw : ∀ j ∈ d, j ≠ i)
    (hdep : ∀ k dk, k < M → ds[k]? = some dk → listed.getD k false = true → ∀ j ∈ dk, listed.getD j false = true)
    (hf : ∀ k, k < M → listed.getD k false = true → factAtD Φ ds vs w k) : ∀ k, k < M → (listed.setIfInBounds i true).getD k false = true → factAtD Φ ds (vs.set i v) w' k := by
  intro k hkM hk
  by_cases hki : k = i
  · subst hki
    have hsv : (vs.set k v)[k]? = some v := List.getElem?_set_self hi
    rw [factAtD, hφ, hd, hsv]
    show φ (depV d (vs.set k v)) v w'
    rw [depV_set hfw]
    exact hv
  · rw [getD_set_ne false (fun e => hki e.symm)] at hk
    have h4 := hf k hkM hk
    have hsv : (vs.set i v)[k]? = vs[k]? := by simp [Ne.symm hki]
    unfold factAtD at h4 ⊢
    rw [hsv]
    cases hk1 : Φ[k]? with
    | none => trivial
    | some φ' =>
      cases hk3 : ds[k]? with
      | none => trivial
      | some dk =>
        cases hk2 : vs[k]? with
        | none => trivial
        | some u =>
          simp only [hk1, hk2, hk3] at h4 ⊢
          rw [depV_set (fun j hj e => by
            subst e
            have := hdep k dk hkM hk3 hk j hj
            rw [Array.getD_eq_getD_getElem?] at this hnl
            cases hh : listed[j]? with
            | none => rw [hh] at hnl; cases hnl
            | some b => rw [hh] at this hnl; simp at this hnl; rw [this] at hnl; cases hnl)]
          exact hst.use φ' (List.mem_of_getElem? hk1) _ u w w' hR h4

theorem wpAny_facts_tailD {A : List Value → Act} (hA : ∀ vs : List Value, vs.length = (l.take m).length → A vs = putAll (l.take m) vs a0) (hok : regOk (l.take m).toArray ds = true) (hΦ : Φ.length = (l.take m).length) (htl : tailOk l.toArray m = true) (htr : ∀ a b c, R a b → R b c → R a c) (hst : StAllD R Φ)
    (h : AllV (l.take m) fun vs => OblD P l.toArray Q R w0 Φ ds A vs 0 (l.take m) Φ ds ∧ ∀ w, R w0 w → allFactsD w vs Φ ds vs (wpList P l.toArray Q (l.drop m) (A vs) w)) :
    ∀ (f : Nat) (listed : Array Bool) (a : Act) (w : World), HeadInv .any l.toArray m listed → Closed l.toArray listed → unl m listed = f → R w0 w →
      (∃ vs : List Value, vs.length = (l.take m).length ∧ a = A vs ∧ ∀ i, i < m → listed.getD i false = true → factAtD Φ ds vs w i) → wpAny P .any l.toArray Q (f + (l.toArray.size - m)) listed a w := by
  simp only [tailOk, Bool.and_eq_true, decide_eq_true_eq] at htl
  obtain ⟨⟨⟨hm, hsink⟩, hchain⟩, hseq⟩ := htl
  have hml : m < l.length := by simpa using hm
  have htk : (l.take m).length = m := by simp; omega
  have hget : ∀ i, i < m → (l.take m).toArray[i]? = l.toArray[i]? := fun i hi => by simp [hi]
  simp only [regOk, Bool.and_eq_true, beq_iff_eq, decide_eq_true_eq] at hok
  obtain ⟨⟨⟨hdl, hnd⟩, hfw⟩, hdp⟩ := hok
  have hsz : (l.take m).toArray.size = m := by simp; omega
  rw [hsz] at hfw hdp hdl
  have hnd : ((l.take m).filterMap (·.dst)).Nodup := by simpa using hnd
  have hready : ∀ (listed : Array Bool), HeadInv .any l.toArray m listed → (∃ i, i < m ∧ listed.getD i true = false) → Region.ready .any l.toArray listed ≠ [] := by
    rintro listed inv ⟨i, hi, hb⟩
    induction i using Nat.strongRecOn with
    | _ i ih =>
      by_cases hex : ∃ j, j < i ∧ listed.getD j true = false
      · obtain ⟨j, hj, hb'⟩ := hex
        exact ih j hj (by omega) hb'
      · have hin : i < l.toArray.size := by omega
        have hmem : i ∈ Region.ready .any l.toArray listed := by
          refine mem_ready.2 ⟨hb, l.toArray[i], by simp at hin; simp [hin], fun e he hbd => ?_⟩
          have h1 := List.all_eq_true.1 hfw i (by simpa using hi)
          rw [hget i hi, Array.getElem?_eq_getElem hin] at h1
          have h2 := Array.all_eq_true_iff_forall_mem.1 h1 e he
          simp only [hbd, Bool.not_true, Bool.false_or, decide_eq_true_eq] at h2
          cases hl : listed.getD e.on false with
          | true => rfl
          | false =>
            exact absurd ⟨e.on, h2, getD_in (by rw [inv.size]; omega) hl⟩ hex
        intro h0
        rw [h0] at hmem
        cases hmem
  -- what an operation's facts lean on are edges of it
  have hedge : ∀ k dk o, k < m → ds[k]? = some dk → l.toArray[k]? = some o → ∀ j ∈ dk, ∃ e ∈ o.after, Region.binds .any e = true ∧ e.on = j ∧ j < k := by
    intro k dk o hk hd ho j hj
    have h2 := List.all_eq_true.1 hdp k (by simpa using hk)
    rw [hget k hk, ho, hd] at h2
    simp only at h2
    have h3 := List.all_eq_true.1 h2 j hj
    obtain ⟨e, he, hb⟩ := Array.any_eq_true'.1 h3
    simp only [Bool.and_eq_true, beq_iff_eq] at hb
    have h4 := List.all_eq_true.1 hfw k (by simpa using hk)
    rw [hget k hk, ho] at h4
    have h5 := Array.all_eq_true_iff_forall_mem.1 h4 e he
    simp only [hb.1, Bool.not_true, Bool.false_or, decide_eq_true_eq] at h5
    exact ⟨e, he, hb.1, hb.2, by rw [← hb.2]; exact h5⟩
  intro f
  induction f with
  | zero =>
    intro listed a w inv hcl hu hw ⟨vs, hl, ha, hf⟩
    subst ha
    have hall : ∀ i, i < m → listed.getD i false = true := fun i hi => by
      have hlt : i < listed.toList.length := by simp [inv.size]; simp at hm; omega
      have h0 := List.countP_eq_zero.1 hu (listed.toList[i]) (List.mem_of_getElem? (i := i) (by rw [List.getElem?_take_of_lt hi, List.getElem?_eq_getElem hlt]))
      simp at hlt
      simp [hlt] at h0 ⊢
      exact h0
    have hle : listed = (List.replicate m true ++ List.replicate (l.toArray.size - m) false).toArray := by
      apply Array.ext
      · rw [inv.size]; simp; omega
      · intro i h1 h2
        by_cases hi : i < m
        · have := hall i hi
          simp [h1] at this
          rw [this]
          simp [hi]
        · have := inv.tail i (by omega) (by rw [← inv.size]; exact h1)
          simp [h1] at this
          rw [this, List.getElem_toArray, List.getElem_append_right (by simp; omega)]
          simp
    have hq := ((h.use vs (by simpa using hl)).2 w hw).use (fun i φ d v h1 h2 h3 => by
      have hi : i < m := by have := (List.getElem?_eq_some_iff.1 h1).1; omega
      have := hf i hi (hall i hi)
      rw [factAtD, h1, h2, h3] at this
      exact this)
    have := wpAny_of_seq (md := .any) (Q' := Q) (ops := l.toArray) (l.drop m) m listed _ w (fun j => by simp [List.getElem?_drop]) (by rw [hle]; simpa using hseq) hq
    simpa using this
  | succ f ih =>
    intro listed a w inv hcl hu hw ⟨vs, hl, ha, hf⟩
    subst ha
    have hex : ∃ i, i < m ∧ listed.getD i true = false := by
      have hp : 0 < (listed.toList.take m).countP (fun b => !b) := by unfold unl at hu; omega
      obtain ⟨b, hb, hbf⟩ := List.countP_pos_iff.1 hp
      obtain ⟨i, hi, rfl⟩ := List.getElem_of_mem hb
      simp only [List.length_take] at hi
      refine ⟨i, by omega, ?_⟩
      have hi2 : i < listed.size := by simp at hi; omega
      simp at hbf
      simp [hi2, hbf]
    rw [show f + 1 + (l.toArray.size - m) = (f + (l.toArray.size - m)) + 1 by omega]
    refine ⟨fun hr => absurd hr (hready listed inv hex), fun i hi => ?_⟩
    have him : i < m := by
      obtain ⟨i0, hi0, hb0⟩ := hex
      rcases Nat.lt_or_ge i m with h' | h'
      · exact h'
      · exact absurd hi (tail_waits hsink hchain hm inv _ i0 rfl hi0 hb0 i h')
    obtain ⟨h0, o, ho, hall⟩ := mem_ready.1 hi
    have hlt : i < listed.size := by rw [inv.size]; omega
    have ho' : (l.take m)[i]? = some o := by
      have := hget i him
      rw [ho] at this
      simpa using this
    obtain ⟨φ, hφ⟩ : ∃ φ, Φ[i]? = some φ := ⟨Φ[i]'(by omega), by simp⟩
    obtain ⟨d, hd⟩ : ∃ d, ds[i]? = some d := ⟨ds[i]'(by omega), by simp⟩
    have hO0 := (h.use vs (by simpa using hl)).1.use i o φ d ho' hφ hd w hw
    rw [Nat.zero_add] at hO0
    have hO := hO0.use (fun j hj => by
      obtain ⟨e, he, hb, hej, hlt⟩ := hedge i d o him hd ho j hj
      rw [← hej]
      exact hf _ (by omega) (hall e he hb))
    have e : ∀ v, A (vs.set i v) = (A vs).put o.dst v := fun v => by rw [hA _ (by simpa using hl), hA _ hl, putAll_set _ _ _ _ _ _ hnd (by simpa using hl) ho']
    refine wpOp_step ho fun K hK => ?_
    suffices hs : ∀ v w', R w w' → φ (depV d vs) v w' → K (A (vs.set i v)) w' by
      have := hO K hs
      rw [e] at this
      exact this
    intro v w' hR hv
    rw [e]
    refine hK _ _ ?_
    rw [← e]
    refine ih _ _ _ (inv.set hi him) (hcl.set hlt ho hall) ?_ (htr _ _ _ hw hR) ⟨vs.set i v, by simpa using hl, rfl, ?_⟩
    · have h1 : (listed.toList.take m)[i]? = some false := by
        rw [List.getElem?_take_of_lt him]
        simp [hlt] at h0 ⊢
        exact h0
      have := countP_set _ _ h1
      unfold unl at hu ⊢
      have e : (listed.setIfInBounds i true).toList.take m = (listed.toList.take m).set i true := by
        rw [← List.take_set]
        simp
      rw [e]
      omega
    · exact facts_set (M := m) hst hφ hd (by omega) hR hv hcl h0 (fun j hj => by obtain ⟨e, _, _, _, hlt⟩ := hedge i d o him hd ho j hj; omega)
        (fun k dk hk hdk hlk j hj => by
          obtain ⟨ok, hok⟩ : ∃ ok, l.toArray[k]? = some ok := ⟨l[k]'(by omega), by simp⟩
          obtain ⟨e, he, hb, hej, _⟩ := hedge k dk ok hk hdk hok j hj
          rw [← hej]
          exact hcl k ok hlk hok e he hb) hf

theorem wp_region_tailD {id : Nat} (m n k : Nat) (R : World → World → Prop) (Φ : List FactD) (ds : List (List Nat)) (hm : P.follows .mixedOrders = true) (hok : regOk (l.take m).toArray ds = true) (hΦ : (Φ.length == (l.take m).length) = true) (htl : tailOk l.toArray m = true)
    (hrow : rowOk (l.take m) n k a0.tmps.size = true) (hrf : ∀ a, R a a) (htr : ∀ a b c, R a b → R b c → R a c) (hst : StAllD R Φ)
    (h : AllV (l.take m) fun vs => OblD P l.toArray Q R w0.drew Φ ds (actOf (l.take m) n k a0) vs 0 (l.take m) Φ ds ∧ ∀ w, R w0.drew w → allFactsD w vs Φ ds vs (wpList P l.toArray Q (l.drop m) (actOf (l.take m) n k a0 vs) w)) : (Code.region id l.toArray true).wp P Q a0 w0 := by
  refine wp_region_any hm ?_
  have hmt := htl
  simp only [tailOk, Bool.and_eq_true, decide_eq_true_eq] at hmt
  have hml : m < l.length := by simpa using hmt.1.1.1
  obtain ⟨vs, hl, he⟩ := putAll_self (l.take m) a0
  have inv0 : HeadInv .any l.toArray m (Array.replicate l.toArray.size false) :=
    ⟨by simp, fun j oj _ hl => (by rw [getD_replicate_false] at hl; cases hl), fun t _ ht => getD_in (by simpa using ht) (getD_replicate_false _ _)⟩
  have hu : unl m (Array.replicate l.toArray.size false) = m := by
    unfold unl
    rw [List.countP_eq_length.2 (fun b hb => by
      have := List.mem_of_mem_take hb
      simp at this
      rw [this.2]; rfl)]
    simp; omega
  have hA : ∀ vs : List Value, vs.length = (l.take m).length → actOf (l.take m) n k a0 vs = putAll (l.take m) vs a0 := fun vs hl => actOf_eq hrow hl
  have := wpAny_facts_tailD (a0 := a0) (w0 := w0.drew) (Q := Q) (l := l) (m := m) hA hok (by simpa using hΦ) htl htr hst h
    m _ a0 w0.drew inv0 (fun k o hk => by rw [getD_replicate_false] at hk; cases hk) hu (hrf _) ⟨vs, hl, by rw [hA vs hl, he], fun i hi hb => by rw [getD_replicate_false] at hb; cases hb⟩
  rw [show m + (l.toArray.size - m) = l.toArray.size by simp; omega] at this
  exact this

theorem wpAny_factsD {A : List Value → Act} (hA : ∀ vs : List Value, vs.length = l.length → A vs = putAll l vs a0) (hok : regOk l.toArray ds = true) (hΦ : Φ.length = l.length) (htr : ∀ a b c, R a b → R b c → R a c) (hst : StAllD R Φ)
    (h : AllV l fun vs => OblD P l.toArray Q R w0 Φ ds A vs 0 l Φ ds ∧ ∀ w, R w0 w → allFactsD w vs Φ ds vs (Q .normal (A vs) w)) :
    ∀ (fuel : Nat) (listed : Array Bool) (a : Act) (w : World), listed.size = l.length → Closed l.toArray listed → unlisted listed ≤ fuel → R w0 w →
      (∃ vs : List Value, vs.length = l.length ∧ a = A vs ∧ ∀ i, i < l.length → listed.getD i false = true → factAtD Φ ds vs w i) → wpAny P .any l.toArray Q fuel listed a w := by
  simp only [regOk, Bool.and_eq_true, beq_iff_eq, decide_eq_true_eq] at hok
  obtain ⟨⟨⟨hdl, hnd⟩, hfw⟩, hdp⟩ := hok
  have hsz : l.toArray.size = l.length := by simp
  rw [hsz] at hfw hdp hdl
  have hnd : (l.filterMap (·.dst)).Nodup := by simpa using hnd
  have hedge : ∀ k dk o, k < l.length → ds[k]? = some dk → l.toArray[k]? = some o → ∀ j ∈ dk, ∃ e ∈ o.after, Region.binds .any e = true ∧ e.on = j ∧ j < k := by
    intro k dk o hk hd ho j hj
    have h2 := List.all_eq_true.1 hdp k (by simpa using hk)
    rw [ho, hd] at h2
    simp only at h2
    have h3 := List.all_eq_true.1 h2 j hj
    obtain ⟨e, he, hb⟩ := Array.any_eq_true'.1 h3
    simp only [Bool.and_eq_true, beq_iff_eq] at hb
    have h4 := List.all_eq_true.1 hfw k (by simpa using hk)
    rw [ho] at h4
    have h5 := Array.all_eq_true_iff_forall_mem.1 h4 e he
    simp only [hb.1, Bool.not_true, Bool.false_or, decide_eq_true_eq] at h5
    exact ⟨e, he, hb.1, hb.2, by rw [← hb.2]; exact h5⟩
  have hnone : ∀ (listed : Array Bool), listed.size = l.length → Region.ready .any l.toArray listed = [] → ∀ i, i < l.length → listed.getD i false = true := by
    intro listed hs hr i
    induction i using Nat.strongRecOn with
    | _ i ih =>
      intro hi
      cases hb : listed.getD i false with
      | true => rfl
      | false =>
        exfalso
        have hm : i ∈ Region.ready .any l.toArray listed := by
          refine mem_ready.2 ⟨?_, l[i], by simp [hi], fun e he hbd => ?_⟩
          · have hlt : i < listed.size := by omega
            simp [hlt] at hb ⊢
            exact hb
          · have h1 := List.all_eq_true.1 hfw i (by simpa using hi)
            rw [show l.toArray[i]? = some l[i] by simp [hi]] at h1
            have h2 := Array.all_eq_true_iff_forall_mem.1 h1 e he
            simp only [hbd, Bool.not_true, Bool.false_or, decide_eq_true_eq] at h2
            exact ih e.on h2 (by omega)
        rw [hr] at hm
        cases hm
  have hfin : ∀ (listed : Array Bool) (a : Act) (w : World), listed.size = l.length → Region.ready .any l.toArray listed = [] → R w0 w →
      (∃ vs : List Value, vs.length = l.length ∧ a = A vs ∧ ∀ i, i < l.length → listed.getD i false = true → factAtD Φ ds vs w i) → Q .normal a w := by
    rintro listed a w hs hr hw ⟨vs, hl, rfl, hf⟩
    refine ((h.use vs hl).2 w hw).use fun i φ d v h1 h2 h3 => ?_
    have hi : i < l.length := by have := (List.getElem?_eq_some_iff.1 h1).1; omega
    have := hf i hi (hnone listed hs hr i hi)
    rw [factAtD, h1, h2, h3] at this
    exact this
  intro fuel
  induction fuel with
  | zero =>
    intro listed a w hs hcl hu hw hv
    have hr : Region.ready .any l.toArray listed = [] := by
      cases hr : Region.ready .any l.toArray listed with
      | nil => rfl
      | cons i rs =>
        exfalso
        have hm : i ∈ Region.ready .any l.toArray listed := by rw [hr]; simp
        have h0 := (mem_ready.1 hm).1
        have hlt : i < listed.size := by
          rcases Nat.lt_or_ge i listed.size with h' | h'
          · exact h'
          · simp [Array.getElem?_eq_none h'] at h0
        have h1 : listed.toList[i]? = some false := by simp [hlt] at h0 ⊢; exact h0
        have := countP_set _ _ h1
        unfold unlisted at hu
        omega
    exact ⟨hr, hfin listed a w hs hr hw hv⟩
  | succ fuel ih =>
    intro listed a w hs hcl hu hw hv
    refine ⟨fun hr => hfin listed a w hs hr hw hv, fun i hi => ?_⟩
    obtain ⟨h0, o, ho, hall⟩ := mem_ready.1 hi
    have hin : i < l.length := by have := (Array.getElem?_eq_some_iff.1 ho).1; simpa using this
    have hlt : i < listed.size := by omega
    have h1 : listed.toList[i]? = some false := by simp [hlt] at h0 ⊢; exact h0
    obtain ⟨vs, hl, rfl, hf⟩ := hv
    have ho' : l[i]? = some o := by simpa using ho
    obtain ⟨φ, hφ⟩ : ∃ φ, Φ[i]? = some φ := ⟨Φ[i]'(by omega), by simp⟩
    obtain ⟨d, hd⟩ : ∃ d, ds[i]? = some d := ⟨ds[i]'(by omega), by simp⟩
    have hO0 := (h.use vs hl).1.use i o φ d ho' hφ hd w hw
    rw [Nat.zero_add] at hO0
    have hO := hO0.use (fun j hj => by
      obtain ⟨e, he, hb, hej, hlt⟩ := hedge i d o hin hd ho j hj
      rw [← hej]
      exact hf _ (by omega) (hall e he hb))
    have e : ∀ v, A (vs.set i v) = (A vs).put o.dst v := fun v => by rw [hA _ (by simpa using hl), hA _ hl, putAll_set _ _ _ _ _ _ hnd hl ho']
    refine wpOp_step ho fun K hK => ?_
    suffices hs : ∀ v w', R w w' → φ (depV d vs) v w' → K (A (vs.set i v)) w' by
      have := hO K hs
      rw [e] at this
      exact this
    intro v w' hR hv
    rw [e]
    refine hK _ _ ?_
    rw [← e]
    refine ih _ _ _ (by simpa using hs) (hcl.set hlt ho hall) ?_ (htr _ _ _ hw hR) ⟨vs.set i v, by simpa using hl, rfl, ?_⟩
    · unfold unlisted at hu ⊢
      have := countP_set _ _ h1
      have e : (listed.setIfInBounds i true).toList = listed.toList.set i true := by simp
      rw [e]
      omega
    · exact facts_set (M := l.length) hst hφ hd (by omega) hR hv hcl h0 (fun j hj => by obtain ⟨e, _, _, _, hlt⟩ := hedge i d o hin hd ho j hj; omega)
        (fun k dk hk hdk hlk j hj => by
          obtain ⟨ok, hok⟩ : ∃ ok, l.toArray[k]? = some ok := ⟨l[k]'(by omega), by simp [hk]⟩
          obtain ⟨e, he, hb, hej, _⟩ := hedge k dk ok hk hdk hok j hj
          rw [← hej]
          exact hcl k ok hlk hok e he hb) hf

theorem wp_region_rowsD {id : Nat} (n k : Nat) (R : World → World → Prop) (Φ : List FactD) (ds : List (List Nat)) (hm : P.follows .mixedOrders = true) (hok : regOk l.toArray ds = true) (hΦ : (Φ.length == l.length) = true)
    (hrow : rowOk l n k a0.tmps.size = true) (hrf : ∀ a, R a a) (htr : ∀ a b c, R a b → R b c → R a c) (hst : StAllD R Φ)
    (h : AllV l fun vs => OblD P l.toArray Q R w0.drew Φ ds (actOf l n k a0) vs 0 l Φ ds ∧ ∀ w, R w0.drew w → allFactsD w vs Φ ds vs (Q .normal (actOf l n k a0 vs) w)) : (Code.region id l.toArray true).wp P Q a0 w0 := by
  refine wp_region_any hm ?_
  obtain ⟨vs, hl, he⟩ := putAll_self l a0
  have hA : ∀ vs : List Value, vs.length = l.length → actOf l n k a0 vs = putAll l vs a0 := fun vs hl => actOf_eq hrow hl
  refine wpAny_factsD (a0 := a0) (w0 := w0.drew) hA hok (by simpa using hΦ) htr hst h _ _ _ _ (by simp) (fun k o hk => by rw [getD_replicate_false] at hk; cases hk) (by unfold unlisted; exact Nat.le_trans List.countP_le_length (by simp)) (hrf _) ⟨vs, hl, by rw [hA vs hl, he], fun i hi hb => by rw [getD_replicate_false] at hb; cases hb⟩
end

/-- new blocks of two types may still be given what they end with -/
def Ends (T : Nat) (c : Array Value) (o o' : Obj) : Prop := o' = .cells c T (0, 0) ∧ ∃ cs : Array Value, o = .cells cs T (0, 0) ∧ cs.size = c.size
structure Bx (B T : Nat) (c : Array Value) (T' : Nat) (c' : Array Value) (w w' : World) : Prop where
  os : w'.os = w.os
  tape : w'.tape = w.tape
  output : w'.output = w.output
  size : w.heap.size ≤ w'.heap.size
  block : ∀ k, k < B → w'.heap[k]? = w.heap[k]?
  new : ∀ k o, B ≤ k → w.heap[k]? = some o → w'.heap[k]? = some o ∨ (∃ o', w'.heap[k]? = some o' ∧ (Ends T c o o' ∨ Ends T' c' o o'))
section
variable {B T T' : Nat} {c c' : Array Value} {w w' w'' : World}
theorem Bx.refl (w : World) : Bx B T c T' c' w w := ⟨rfl, rfl, rfl, Nat.le_refl _, fun _ _ => rfl, fun _ _ _ h => .inl h⟩
theorem Bx.trans (hne : T ≠ T') (h : Bx B T c T' c' w w') (h' : Bx B T c T' c' w' w'') : Bx B T c T' c' w w'' := by
  refine ⟨h'.os.trans h.os, h'.tape.trans h.tape, h'.output.trans h.output, Nat.le_trans h.size h'.size, fun k hk => (h'.block k hk).trans (h.block k hk), fun k o hk ho => ?_⟩
  rcases h.new k o hk ho with h1 | ⟨o1, h1, e1⟩
  · exact h'.new k o hk h1
  · rcases h'.new k o1 hk h1 with h2 | ⟨o2, h2, e2⟩
    · exact .inr ⟨o1, h2, e1⟩
    · refine .inr ⟨o2, h2, ?_⟩
      rcases e1 with e1 | e1 <;> rcases e2 with e2 | e2
      · exact .inl ⟨e2.1, e1.2⟩
      · exfalso
        obtain ⟨cs, hcs, _⟩ := e2.2
        rw [e1.1] at hcs
        injection hcs with _ hcs
        exact hne hcs
      · exfalso
        obtain ⟨cs, hcs, _⟩ := e2.2
        rw [e1.1] at hcs
        injection hcs with _ hcs
        exact hne hcs.symm
      · exact .inr ⟨e2.1, e1.2⟩
theorem Bx.of_le (h : Le w w') (hB : B ≤ w.heap.size) : Bx B T c T' c' w w' := ⟨h.out.os, h.out.tape, h.out.output, h.out.size, fun k hk => h.out.block k (by omega), fun k o _ hk => .inl (h.heap hk)⟩
theorem Bx.old (h : Bx B T c T' c' w w') {k : Nat} {o : Obj} (hk : w.heap[k]? = some o) (hB : k < B) : w'.heap[k]? = some o := (h.block k hB).trans hk
theorem Bx.le (h : Bx B T c T' c' w w') (hB : B = w.heap.size) : Le w w' := ⟨h.os, h.tape, h.output, h.size, fun k hk => h.block k (by omega)⟩
theorem Bx.below (h : Bx B T c T' c' w w') : Below B w w' := ⟨h.os, h.tape, h.output, h.size, h.block⟩
/-- a block of such a type: there, and as wide -/
def Slot (T n B : Nat) (v : Value) (W : World) : Prop := ∃ g cs, v = .pointer (some ⟨g, 0, none⟩) ∧ B ≤ g ∧ W.heap[g]? = some (.cells cs T (0, 0)) ∧ cs.size = n
def Filled (T : Nat) (c : Array Value) (v : Value) (W : World) : Prop := ∃ g, v = .pointer (some ⟨g, 0, none⟩) ∧ W.heap[g]? = some (.cells c T (0, 0))
theorem Slot.stay1 {v : Value} (h : Bx B T c T' c' w w') (hs : Slot T c.size B v w) : Slot T c.size B v w' := by
  obtain ⟨g, cs, rfl, hB, hg, hn⟩ := hs
  rcases h.new g _ hB hg with h1 | ⟨o, h1, e | e⟩
  · exact ⟨g, cs, rfl, hB, h1, hn⟩
  · exact ⟨g, c, rfl, hB, by rw [h1, e.1], rfl⟩
  · obtain ⟨e1, cs', e2, e3⟩ := e
    injection e2 with e2 e4 _
    exact ⟨g, c', rfl, hB, by rw [h1, e1, e4], by rw [← e3, ← e2, hn]⟩
theorem Slot.stay2 {v : Value} (h : Bx B T c T' c' w w') (hs : Slot T' c'.size B v w) : Slot T' c'.size B v w' := by
  obtain ⟨g, cs, rfl, hB, hg, hn⟩ := hs
  rcases h.new g _ hB hg with h1 | ⟨o, h1, e | e⟩
  · exact ⟨g, cs, rfl, hB, h1, hn⟩
  · obtain ⟨e1, cs', e2, e3⟩ := e
    injection e2 with e2 e4 _
    exact ⟨g, c, rfl, hB, by rw [h1, e1, e4], by rw [← e3, ← e2, hn]⟩
  · exact ⟨g, c', rfl, hB, by rw [h1, e.1], rfl⟩
theorem Filled.stay1 {v : Value} (hne : T ≠ T') (h : Bx B T c T' c' w w') (hs : Filled T c v w) : Filled T c v w' := by
  obtain ⟨g, rfl, hg⟩ := hs
  refine ⟨g, rfl, ?_⟩
  by_cases hB : g < B
  · exact h.old hg hB
  · rcases h.new g _ (by omega) hg with h1 | ⟨o, h1, e | e⟩
    · exact h1
    · rw [h1, e.1]
    · obtain ⟨_, cs', e2, _⟩ := e
      injection e2 with _ e2 _
      exact absurd e2 hne
theorem Filled.stay2 {v : Value} (hne : T ≠ T') (h : Bx B T c T' c' w w') (hs : Filled T' c' v w) : Filled T' c' v w' := by
  obtain ⟨g, rfl, hg⟩ := hs
  refine ⟨g, rfl, ?_⟩
  by_cases hB : g < B
  · exact h.old hg hB
  · rcases h.new g _ (by omega) hg with h1 | ⟨o, h1, e | e⟩
    · exact h1
    · obtain ⟨_, cs', e2, _⟩ := e
      injection e2 with _ e2 _
      exact absurd e2.symm hne
    · rw [h1, e.1]
/-- a store into such a block -/
theorem Bx.store1 {g : Nat} (hB : B ≤ g) {cs : Array Value} (hg : w.heap[g]? = some (.cells cs T (0, 0))) (hn : cs.size = c.size) (h : w'.heap[g]? = some (.cells c T (0, 0))) (hw : w.grownBy w' (some g)) : Bx B T c T' c' w w' :=
  ⟨hw.os, hw.tape, hw.output, hw.size, fun k hk => by
    by_cases hks : k < w.heap.size
    · exact hw.block k hks (fun e => by injection e with e; omega)
    · have := lt_of_heap hg; omega, fun k o hk ho => by
    by_cases e : k = g
    · subst e
      rw [hg] at ho
      injection ho with ho
      exact .inr ⟨_, h, .inl ⟨rfl, cs, ho.symm, hn⟩⟩
    · exact .inl ((hw.block k (lt_of_heap ho) (fun e' => by injection e' with e'; exact e e')).trans ho)⟩
theorem Bx.store2 {g : Nat} (hB : B ≤ g) {cs : Array Value} (hg : w.heap[g]? = some (.cells cs T' (0, 0))) (hn : cs.size = c'.size) (h : w'.heap[g]? = some (.cells c' T' (0, 0))) (hw : w.grownBy w' (some g)) : Bx B T c T' c' w w' :=
  ⟨hw.os, hw.tape, hw.output, hw.size, fun k hk => by
    by_cases hks : k < w.heap.size
    · exact hw.block k hks (fun e => by injection e with e; omega)
    · have := lt_of_heap hg; omega, fun k o hk ho => by
    by_cases e : k = g
    · subst e
      rw [hg] at ho
      injection ho with ho
      exact .inr ⟨_, h, .inr ⟨rfl, cs, ho.symm, hn⟩⟩
    · exact .inl ((hw.block k (lt_of_heap ho) (fun e' => by injection e' with e'; exact e e')).trans ho)⟩
theorem Slot.new {n : Nat} {cs : Array Value} (hB : B ≤ w.heap.size) (hn : cs.size = n) : Slot T n B (.pointer (some ⟨w.heap.size, 0, none⟩)) (w.alloc (.cells cs T)) := ⟨_, cs, rfl, hB, heap_alloc_new w _, hn⟩
end
end Go.Proofs.YtkcpfhbfjpldhaaGreatDoor
