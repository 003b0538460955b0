/- Texts of one claim, laid together: Reg3 AwkE -/
import Derived.BigQuiet
import Derived.Test.YtkcpfhbfjpldhaaGreatDoorJo05
import Derived.Test.YtkcpfhbfjpldhaaGreatDoorJo04
/- A region whose order is open, in which one operation (the q-th: an append, a call) does more than the others: what it leaves stays over the others alone. -/
namespace Go.Proofs.YtkcpfhbfjpldhaaGreatDoor
open Go.RowKit
set_option linter.unusedVariables false

section
variable (q : Nat) (N S : World → World → Prop)
def StAllQ : Nat → List FactD → Prop
  | _, [] => True
  | i, φ :: φs => (∀ us v w w', (cond (i == q) N S) w w' → φ us v w → φ us v w') ∧ StAllQ (i + 1) φs
end
theorem StAllQ.use {q : Nat} {N S : World → World → Prop} : ∀ {Φ : List FactD} {i0 : Nat}, StAllQ q N S i0 Φ → ∀ k φ, Φ[k]? = some φ → ∀ us v w w', (cond (i0 + k == q) N S) w w' → φ us v w → φ us v w'
  | [], _, _, _, _, h, _, _, _, _, _, _ => by simp at h
  | φ :: φs, i0, h, 0, ψ, hm, us, v, w, w', hc, hp => by
    simp only [List.getElem?_cons_zero, Option.some.injEq] at hm
    subst hm
    exact h.1 us v w w' (by simpa using hc) hp
  | φ :: φs, i0, h, k + 1, ψ, hm, us, v, w, w', hc, hp => StAllQ.use h.2 k ψ (by simpa using hm) us v w w' (by rw [show i0 + 1 + k = i0 + (k + 1) by omega]; exact hc) hp
theorem StQ.is {i q : Nat} {N S : World → World → Prop} {c : Value} : ∀ us v w w', (cond (i == q) N S) w w' → IsD c us v w → IsD c us v w' := fun _ _ _ _ _ h => h
section
variable (q : Nat) (N S : World → World → Prop) (P : Program) (ops : Array Oper) (Q : Exit → Act → World → Prop) (w0 : World) (Φ : List FactD) (dsA : List (List Nat)) (A : List Value → Act) (vs : List Value)
def OblQ : Nat → List Oper → List FactD → List (List Nat) → Prop
  | i, o :: os, φ :: φs, d :: ds => (∀ w, (cond (i == q) N S) w0 w → LeansD Φ dsA vs w d (∀ K : Act → World → Prop, (∀ v w', (cond (i == q) S N) w w' → φ (depV d vs) v w' → K (A (vs.set i v)) w') →
      if Region.wanted o (yielded ops (A vs).tmps) = true then o.wp P (A vs) w K Q else K (A (vs.set i undef)) w)) ∧ OblQ (i + 1) os φs ds
  | _, _, _, _ => True
end
theorem OblQ.use {q N S P ops Q w0 Φ dsA A vs} : ∀ {os : List Oper} {n : Nat} {φs : List FactD} {ds : List (List Nat)}, OblQ q N S P ops Q w0 Φ dsA A vs n os φs ds → ∀ (i : Nat) (o : Oper) (φ : FactD) (d : List Nat), os[i]? = some o → φs[i]? = some φ → ds[i]? = some d →
    ∀ w, (cond (n + i == q) N S) w0 w → LeansD Φ dsA vs w d (∀ K : Act → World → Prop, (∀ v w', (cond (n + i == q) S N) w w' → φ (depV d vs) v w' → K (A (vs.set (n + i) v)) w') →
      if Region.wanted o (yielded ops (A vs).tmps) = true then o.wp P (A vs) w K Q else K (A (vs.set (n + i) undef)) w)
  | o :: os, n, φ :: φs, d :: ds, h, 0, o', φ', d', ho, hφ, hd => by
    simp only [List.getElem?_cons_zero, Option.some.injEq] at ho hφ hd
    subst ho hφ hd
    exact h.1
  | o :: os, n, φ :: φs, d :: ds, h, i + 1, o', φ', d', ho, hφ, hd => by
    have := OblQ.use h.2 i o' φ' d' (by simpa using ho) (by simpa using hφ) (by simpa using hd)
    rw [show n + 1 + i = n + (i + 1) by omega] at this
    exact this
  | [], _, _, _, _, _, _, _, _, ho, _, _ => by simp at ho
  | _ :: _, _, [], _, _, _, _, _, _, _, hφ, _ => by simp at hφ
  | _ :: _, _, _ :: _, [], _, _, _, _, _, _, _, hd => by simp at hd

section
variable {P : Program} {Q : Exit → Act → World → Prop} {q : Nat} {N S : World → World → Prop} {Φ : List FactD} {ds : List (List Nat)} {a0 : Act} {w0 : World} {l : List Oper} {m : Nat}

/-- one step: what was known of what is listed stays -/
theorem facts_setQ {ops : Array Oper} {listed : Array Bool} {vs : List Value} {i : Nat} {v : Value} {w w' : World} {φ : FactD} {d : List Nat} {M : Nat} (hst : ∀ k φ', k ≠ i → Φ[k]? = some φ' → ∀ us v, φ' us v w → φ' us v w') (hφ : Φ[i]? = some φ) (hd : ds[i]? = some d) (hi : i < vs.length) 
    (hv : φ (depV d vs) v w') (hcl : Closed ops listed) (hnl : listed.getD i true = false) (hfw : ∀ j ∈ d, j ≠ i)
    (hdep : ∀ k dk, k < M → ds[k]? = some dk → listed.getD k false = true → ∀ j ∈ dk, listed.getD j false = true)
    (hf : ∀ k, k < M → listed.getD k false = true → factAtD Φ ds vs w k) : ∀ k, k < M → (listed.setIfInBounds i true).getD k false = true → factAtD Φ ds (vs.set i v) w' k := by
  intro k hkM hk
  by_cases hki : k = i
  · subst hki
    have hsv : (vs.set k v)[k]? = some v := List.getElem?_set_self hi
    rw [factAtD, hφ, hd, hsv]
    show φ (depV d (vs.set k v)) v w'
    rw [depV_set hfw]
    exact hv
  · rw [getD_set_ne false (fun e => hki e.symm)] at hk
    have h4 := hf k hkM hk
    have hsv : (vs.set i v)[k]? = vs[k]? := by simp [Ne.symm hki]
    unfold factAtD at h4 ⊢
    rw [hsv]
    cases hk1 : Φ[k]? with
    | none => trivial
    | some φ' =>
      cases hk3 : ds[k]? with
      | none => trivial
      | some dk =>
        cases hk2 : vs[k]? with
        | none => trivial
        | some u =>
          simp only [hk1, hk2, hk3] at h4 ⊢
          rw [depV_set (fun j hj e => by
            subst e
            have := hdep k dk hkM hk3 hk j hj
            rw [Array.getD_eq_getD_getElem?] at this hnl
            cases hh : listed[j]? with
            | none => rw [hh] at hnl; cases hnl
            | some b => rw [hh] at this hnl; simp at this hnl; rw [this] at hnl; cases hnl)]
          exact hst k φ' hki hk1 _ u h4

theorem wpAny_facts_tailQ {A : List Value → Act} (hA : ∀ vs : List Value, vs.length = (l.take m).length → A vs = putAll (l.take m) vs a0) (hok : regOk (l.take m).toArray ds = true) (hΦ : Φ.length = (l.take m).length) (htl : tailOk l.toArray m = true) (htrN : ∀ a b c, N a b → N b c → N a c) (htr : ∀ a b c, S a b → S b c → S a c) (hNS : ∀ a b, N a b → S a b) (hst : StAllQ q N S 0 Φ)
    (h : AllV (l.take m) fun vs => OblQ q N S P l.toArray Q w0 Φ ds A vs 0 (l.take m) Φ ds ∧ ∀ w, S w0 w → allFactsD w vs Φ ds vs (wpList P l.toArray Q (l.drop m) (A vs) w)) :
    ∀ (f : Nat) (listed : Array Bool) (a : Act) (w : World), HeadInv .any l.toArray m listed → Closed l.toArray listed → unl m listed = f → S w0 w → (listed.getD q false = false → N w0 w) →
      (∃ vs : List Value, vs.length = (l.take m).length ∧ a = A vs ∧ ∀ i, i < m → listed.getD i false = true → factAtD Φ ds vs w i) → wpAny P .any l.toArray Q (f + (l.toArray.size - m)) listed a w := by
  simp only [tailOk, Bool.and_eq_true, decide_eq_true_eq] at htl
  obtain ⟨⟨⟨hm, hsink⟩, hchain⟩, hseq⟩ := htl
  have hml : m < l.length := by simpa using hm
  have htk : (l.take m).length = m := by simp; omega
  have hget : ∀ i, i < m → (l.take m).toArray[i]? = l.toArray[i]? := fun i hi => by simp [hi]
  simp only [regOk, Bool.and_eq_true, beq_iff_eq, decide_eq_true_eq] at hok
  obtain ⟨⟨⟨hdl, hnd⟩, hfw⟩, hdp⟩ := hok
  have hsz : (l.take m).toArray.size = m := by simp; omega
  rw [hsz] at hfw hdp hdl
  have hnd : ((l.take m).filterMap (·.dst)).Nodup := by simpa using hnd
  have hready : ∀ (listed : Array Bool), HeadInv .any l.toArray m listed → (∃ i, i < m ∧ listed.getD i true = false) → Region.ready .any l.toArray listed ≠ [] := by
    rintro listed inv ⟨i, hi, hb⟩
    induction i using Nat.strongRecOn with
    | _ i ih =>
      by_cases hex : ∃ j, j < i ∧ listed.getD j true = false
      · obtain ⟨j, hj, hb'⟩ := hex
        exact ih j hj (by omega) hb'
      · have hin : i < l.toArray.size := by omega
        have hmem : i ∈ Region.ready .any l.toArray listed := by
          refine mem_ready.2 ⟨hb, l.toArray[i], by simp at hin; simp [hin], fun e he hbd => ?_⟩
          have h1 := List.all_eq_true.1 hfw i (by simpa using hi)
          rw [hget i hi, Array.getElem?_eq_getElem hin] at h1
          have h2 := Array.all_eq_true_iff_forall_mem.1 h1 e he
          simp only [hbd, Bool.not_true, Bool.false_or, decide_eq_true_eq] at h2
          cases hl : listed.getD e.on false with
          | true => rfl
          | false =>
            exact absurd ⟨e.on, h2, getD_in (by rw [inv.size]; omega) hl⟩ hex
        intro h0
        rw [h0] at hmem
        cases hmem
  -- what an operation's facts lean on are edges of it
  have hedge : ∀ k dk o, k < m → ds[k]? = some dk → l.toArray[k]? = some o → ∀ j ∈ dk, ∃ e ∈ o.after, Region.binds .any e = true ∧ e.on = j ∧ j < k := by
    intro k dk o hk hd ho j hj
    have h2 := List.all_eq_true.1 hdp k (by simpa using hk)
    rw [hget k hk, ho, hd] at h2
    simp only at h2
    have h3 := List.all_eq_true.1 h2 j hj
    obtain ⟨e, he, hb⟩ := Array.any_eq_true'.1 h3
    simp only [Bool.and_eq_true, beq_iff_eq] at hb
    have h4 := List.all_eq_true.1 hfw k (by simpa using hk)
    rw [hget k hk, ho] at h4
    have h5 := Array.all_eq_true_iff_forall_mem.1 h4 e he
    simp only [hb.1, Bool.not_true, Bool.false_or, decide_eq_true_eq] at h5
    exact ⟨e, he, hb.1, hb.2, by rw [← hb.2]; exact h5⟩
  intro f
  induction f with
  | zero =>
    intro listed a w inv hcl hu hw hwN ⟨vs, hl, ha, hf⟩
    subst ha
    have hall : ∀ i, i < m → listed.getD i false = true := fun i hi => by
      have hlt : i < listed.toList.length := by simp [inv.size]; simp at hm; omega
      have h0 := List.countP_eq_zero.1 hu (listed.toList[i]) (List.mem_of_getElem? (i := i) (by rw [List.getElem?_take_of_lt hi, List.getElem?_eq_getElem hlt]))
      simp at hlt
      simp [hlt] at h0 ⊢
      exact h0
    have hle : listed = (List.replicate m true ++ List.replicate (l.toArray.size - m) false).toArray := by
      apply Array.ext
      · rw [inv.size]; simp; omega
      · intro i h1 h2
        by_cases hi : i < m
        · have := hall i hi
          simp [h1] at this
          rw [this]
          simp [hi]
        · have := inv.tail i (by omega) (by rw [← inv.size]; exact h1)
          simp [h1] at this
          rw [this, List.getElem_toArray, List.getElem_append_right (by simp; omega)]
          simp
    have hq := ((h.use vs (by simpa using hl)).2 w hw).use (fun i φ d v h1 h2 h3 => by
      have hi : i < m := by have := (List.getElem?_eq_some_iff.1 h1).1; omega
      have := hf i hi (hall i hi)
      rw [factAtD, h1, h2, h3] at this
      exact this)
    have := wpAny_of_seq (md := .any) (Q' := Q) (ops := l.toArray) (l.drop m) m listed _ w (fun j => by simp [List.getElem?_drop]) (by rw [hle]; simpa using hseq) hq
    simpa using this
  | succ f ih =>
    intro listed a w inv hcl hu hw hwN ⟨vs, hl, ha, hf⟩
    subst ha
    have hex : ∃ i, i < m ∧ listed.getD i true = false := by
      have hp : 0 < (listed.toList.take m).countP (fun b => !b) := by unfold unl at hu; omega
      obtain ⟨b, hb, hbf⟩ := List.countP_pos_iff.1 hp
      obtain ⟨i, hi, rfl⟩ := List.getElem_of_mem hb
      simp only [List.length_take] at hi
      refine ⟨i, by omega, ?_⟩
      have hi2 : i < listed.size := by simp at hi; omega
      simp at hbf
      simp [hi2, hbf]
    rw [show f + 1 + (l.toArray.size - m) = (f + (l.toArray.size - m)) + 1 by omega]
    refine ⟨fun hr => absurd hr (hready listed inv hex), fun i hi => ?_⟩
    have him : i < m := by
      obtain ⟨i0, hi0, hb0⟩ := hex
      rcases Nat.lt_or_ge i m with h' | h'
      · exact h'
      · exact absurd hi (tail_waits hsink hchain hm inv _ i0 rfl hi0 hb0 i h')
    obtain ⟨h0, o, ho, hall⟩ := mem_ready.1 hi
    have hlt : i < listed.size := by rw [inv.size]; omega
    have ho' : (l.take m)[i]? = some o := by
      have := hget i him
      rw [ho] at this
      simpa using this
    obtain ⟨φ, hφ⟩ : ∃ φ, Φ[i]? = some φ := ⟨Φ[i]'(by omega), by simp⟩
    obtain ⟨d, hd⟩ : ∃ d, ds[i]? = some d := ⟨ds[i]'(by omega), by simp⟩
    have hO0 := (h.use vs (by simpa using hl)).1.use i o φ d ho' hφ hd w (by
      rw [Nat.zero_add]
      by_cases hiq : i = q
      · rw [show (i == q) = true by simpa using hiq]
        refine hwN ?_
        subst hiq
        rw [Array.getD_eq_getD_getElem?] at h0 ⊢
        cases hh : listed[i]? with
        | none => rw [hh] at h0; cases h0
        | some b => rw [hh] at h0; simpa using h0
      · rw [show (i == q) = false by simpa using hiq]
        exact hw)
    rw [Nat.zero_add] at hO0
    have hO := hO0.use (fun j hj => by
      obtain ⟨e, he, hb, hej, hlt⟩ := hedge i d o him hd ho j hj
      rw [← hej]
      exact hf _ (by omega) (hall e he hb))
    have e : ∀ v, A (vs.set i v) = (A vs).put o.dst v := fun v => by rw [hA _ (by simpa using hl), hA _ hl, putAll_set _ _ _ _ _ _ hnd (by simpa using hl) ho']
    refine wpOp_step ho fun K hK => ?_
    suffices hs : ∀ v w', (cond (i == q) S N) w w' → φ (depV d vs) v w' → K (A (vs.set i v)) w' by
      have := hO K hs
      rw [e] at this
      exact this
    intro v w' hR hv
    have hRS : S w w' := by
      by_cases hiq : i = q
      · rw [show (i == q) = true by simpa using hiq] at hR; exact hR
      · rw [show (i == q) = false by simpa using hiq] at hR; exact hNS _ _ hR
    rw [e]
    refine hK _ _ ?_
    rw [← e]
    refine ih _ _ _ (inv.set hi him) (hcl.set hlt ho hall) ?_ (htr _ _ _ hw hRS) ?_ ⟨vs.set i v, by simpa using hl, rfl, ?_⟩
    · have h1 : (listed.toList.take m)[i]? = some false := by
        rw [List.getElem?_take_of_lt him]
        simp [hlt] at h0 ⊢
        exact h0
      have := countP_set _ _ h1
      unfold unl at hu ⊢
      have e : (listed.setIfInBounds i true).toList.take m = (listed.toList.take m).set i true := by
        rw [← List.take_set]
        simp
      rw [e]
      omega
    · intro hq
      by_cases hiq : i = q
      · subst hiq
        simp [hlt] at hq
      · rw [getD_set_ne false hiq] at hq
        rw [show (i == q) = false by simpa using hiq] at hR
        exact htrN _ _ _ (hwN hq) hR
    · exact facts_setQ (M := m) (fun k φ' hki hk us v => by
          refine hst.use k φ' hk us v w w' ?_
          rw [Nat.zero_add]
          by_cases hkq : k = q
          · rw [show (k == q) = true by simpa using hkq]
            rw [show (i == q) = false by simpa using fun e => hki (hkq.trans e.symm)] at hR
            exact hR
          · rw [show (k == q) = false by simpa using hkq]
            exact hRS) hφ hd (by omega) hv hcl h0 (fun j hj => by obtain ⟨e, _, _, _, hlt⟩ := hedge i d o him hd ho j hj; omega)
        (fun k dk hk hdk hlk j hj => by
          obtain ⟨ok, hok⟩ : ∃ ok, l.toArray[k]? = some ok := ⟨l[k]'(by omega), by simp⟩
          obtain ⟨e, he, hb, hej, _⟩ := hedge k dk ok hk hdk hok j hj
          rw [← hej]
          exact hcl k ok hlk hok e he hb) hf

theorem wp_region_tailQ {id : Nat} (q m n k : Nat) (N S : World → World → Prop) (Φ : List FactD) (ds : List (List Nat)) (hm : P.follows .mixedOrders = true) (hok : regOk (l.take m).toArray ds = true) (hΦ : (Φ.length == (l.take m).length) = true) (htl : tailOk l.toArray m = true)
    (hrow : rowOk (l.take m) n k a0.tmps.size = true) (hrf : ∀ a, N a a) (htrN : ∀ a b c, N a b → N b c → N a c) (htr : ∀ a b c, S a b → S b c → S a c) (hNS : ∀ a b, N a b → S a b) (hst : StAllQ q N S 0 Φ)
    (h : AllV (l.take m) fun vs => OblQ q N S P l.toArray Q w0.drew Φ ds (actOf (l.take m) n k a0) vs 0 (l.take m) Φ ds ∧ ∀ w, S w0.drew w → allFactsD w vs Φ ds vs (wpList P l.toArray Q (l.drop m) (actOf (l.take m) n k a0 vs) w)) : (Code.region id l.toArray true).wp P Q a0 w0 := by
  refine wp_region_any hm ?_
  have hmt := htl
  simp only [tailOk, Bool.and_eq_true, decide_eq_true_eq] at hmt
  have hml : m < l.length := by simpa using hmt.1.1.1
  obtain ⟨vs, hl, he⟩ := putAll_self (l.take m) a0
  have inv0 : HeadInv .any l.toArray m (Array.replicate l.toArray.size false) :=
    ⟨by simp, fun j oj _ hl => (by rw [getD_replicate_false] at hl; cases hl), fun t _ ht => getD_in (by simpa using ht) (getD_replicate_false _ _)⟩
  have hu : unl m (Array.replicate l.toArray.size false) = m := by
    unfold unl
    rw [List.countP_eq_length.2 (fun b hb => by
      have := List.mem_of_mem_take hb
      simp at this
      rw [this.2]; rfl)]
    simp; omega
  have hA : ∀ vs : List Value, vs.length = (l.take m).length → actOf (l.take m) n k a0 vs = putAll (l.take m) vs a0 := fun vs hl => actOf_eq hrow hl
  have := wpAny_facts_tailQ (a0 := a0) (w0 := w0.drew) (Q := Q) (l := l) (m := m) hA hok (by simpa using hΦ) htl htrN htr hNS hst h
    m _ a0 w0.drew inv0 (fun k o hk => by rw [getD_replicate_false] at hk; cases hk) hu (hNS _ _ (hrf _)) (fun _ => hrf _) ⟨vs, hl, by rw [hA vs hl, he], fun i hi hb => by rw [getD_replicate_false] at hb; cases hb⟩
  rw [show m + (l.toArray.size - m) = l.toArray.size by simp; omega] at this
  exact this
end

/-- old blocks stay, but for a row's -/
structure Gr (row : Option Nat) (w w' : World) : Prop where
  out : w.grownBy w' row
theorem Gr.of_le {row : Option Nat} {w w' : World} (h : Le w w') : Gr row w w' := ⟨⟨h.out.os, h.out.tape, h.out.output, h.out.size, fun k hk _ => h.out.block k hk⟩⟩
theorem Gr.trans {row : Option Nat} {a b c : World} (h : Gr row a b) (h' : Gr row b c) : Gr row a c :=
  ⟨⟨h'.out.os.trans h.out.os, h'.out.tape.trans h.out.tape, h'.out.output.trans h.out.output, Nat.le_trans h.out.size h'.out.size, fun k hk hne => (h'.out.block k (Nat.lt_of_lt_of_le hk h.out.size) hne).trans (h.out.block k hk hne)⟩⟩
theorem Gr.heap {row : Option Nat} {w w' : World} (h : Gr row w w') {k : Nat} {o : Obj} (hk : w.heap[k]? = some o) (hne : row ≠ some k) : w'.heap[k]? = some o := heap_grown h.out hk hne
theorem Gr.size {row : Option Nat} {w w' : World} (h : Gr row w w') : w.heap.size ≤ w'.heap.size := h.out.size
theorem own_fresh {w w' : World} {base : Nat} {e : TypeId} {size n : Nat} {v : Value} {xs : List Value} (h : w.ownsRow base e size v n xs) (hs : w.heap.size ≤ w'.heap.size) : v.ownBlock ≠ some w'.heap.size := fun e => by
  have := (h.lt _ e).2
  omega
end Go.Proofs.YtkcpfhbfjpldhaaGreatDoor

/- awake24: the whole in memory, its events; the queue of calls. -/
namespace Go.Proofs.YtkcpfhbfjpldhaaGreatDoor
open Go.RowKit
set_option linter.unusedVariables false

/-- blocks of other types stay -/
def KX (w w' : World) : Prop := ∀ (g : Nat) (cs : Array Value) (t : TypeId) (fr : Nat × Nat), w.heap[g]? = some (.cells cs t fr) → t ≠ 107 → t ≠ 51 → t ≠ 158 → t ≠ 250 → w'.heap[g]? = some (.cells cs t fr)
theorem KX.refl (w : World) : KX w w := fun _ _ _ _ h _ _ _ _ => h
theorem KX.trans {a b c : World} (h : KX a b) (h' : KX b c) : KX a c := fun g cs t fr hg h1 h2 h3 h4 => h' _ _ _ _ (h _ _ _ _ hg h1 h2 h3 h4) h1 h2 h3 h4
theorem KX.le {a b c : World} (h : KX a b) (h' : Le b c) : KX a c := fun g cs t fr hg h1 h2 h3 h4 => h'.heap (h _ _ _ _ hg h1 h2 h3 h4)
theorem KX.of {a b : World} (h' : Le a b) : KX a b := (KX.refl a).le h'
theorem D8.kx {w w' : World} {l : List UInt8} {v : Value} (h : D8 w l v) (hk : KX w w') : D8 w' l v := by
  obtain ⟨A, cap, rfl, hc, hd⟩ := h
  refine ⟨A, cap, rfl, hc, fun hn => ?_⟩
  obtain ⟨g, off, cur, fr, rfl, h1, h2⟩ := hd hn
  exact ⟨g, off, cur, fr, rfl, hk _ _ _ _ h1 (by decide) (by decide) (by decide) (by decide), h2⟩

structure Sfu (s : Nat) (W : World) (B a p b C A Q : Nat) (ws ev : Value) (k : Nat) (xs ring : List Value) (f n : Nat) : Prop where
  sB : s ≤ B
  sA : s ≤ A
  sQ : s ≤ Q
  hB : W.heap[B]? = some (.cells (wholeC a p b (.pointer (some ⟨C, 0, none⟩)) ws ev) 107 (0, 0))
  hC : ∃ cs, W.heap[C]? = some (.cells cs 173 (0, 0)) ∧ cs[11]? = some (.pointer (some ⟨Q, 0, none⟩))
  hA : W.heap[A]? = some (.cells ring.toArray 158 (0, 0))
  hQ : W.heap[Q]? = some (.cells #[.slice (some ⟨A, 0, none⟩) 4 4, .int .i64 f, .int .i64 n] 250 (0, 0))
  hE : W.ownsRow s 51 24 ev k xs
section
variable {s : Nat} {w w2 : World} {B a p b C A Q : Nat} {ws ev ev' : Value} {k k' : Nat} {xs xs' ring ring' : List Value} {f n f' n' : Nat}
theorem Sfu.le (h : Sfu s w B a p b C A Q ws ev k xs ring f n) (hl : Le w w2) : Sfu s w2 B a p b C A Q ws ev k xs ring f n := by
  obtain ⟨h1, h2, h3, h4, ⟨cs, h5, h6⟩, h7, h8, h9⟩ := h
  exact ⟨h1, h2, h3, hl.heap h4, ⟨cs, hl.heap h5, h6⟩, hl.heap h7, hl.heap h8, hl.own h9⟩
/-- an event is added -/
theorem Sfu.event (h : Sfu s w B a p b C A Q ws ev k xs ring f n) (hg : w.grownBy w2 ev.ownBlock) (ho : w2.ownsRow s 51 24 ev' k' xs') : Sfu s (w2.setCell ⟨B, 17, none⟩ ev') B a p b C A Q ws ev' k' xs' ring f n := by
  obtain ⟨h1, h2, h3, h4, ⟨cs, h5, h6⟩, h7, h8, h9⟩ := h
  have g4 := heap_grown hg h4 (own_ne h9 h4 (by decide))
  have g5 := heap_grown hg h5 (own_ne h9 h5 (by decide))
  have g7 := heap_grown hg h7 (own_ne h9 h7 (by decide))
  have g8 := heap_grown hg h8 (own_ne h9 h8 (by decide))
  exact ⟨h1, h2, h3, heap_set (i := 17) ev' g4, ⟨cs, heap_far _ g5 (blk_ne' g5 g4 (by decide)), h6⟩, heap_far _ g7 (blk_ne' g7 g4 (by decide)), heap_far _ g8 (blk_ne' g8 g4 (by decide)), ownsRow_setCell_other (a := ⟨B, 17, none⟩) ho (own_ne ho g4 (by decide)) _⟩
theorem Sfu.event_kx (h : Sfu s w B a p b C A Q ws ev k xs ring f n) (hg : w.grownBy w2 ev.ownBlock) : KX w (w2.setCell ⟨B, 17, none⟩ ev') := by
  intro g cs t fr hh t1 t2 t3 t4
  have g4 := heap_grown hg h.hB (own_ne h.hE h.hB (by decide))
  have g5 := heap_grown hg hh (own_ne h.hE hh (Ne.symm t2))
  exact heap_far _ g5 (blk_ne' g5 g4 t1)
/-- a block of calls is another one -/
theorem Sfu.row (h : Sfu s w B a p b C A Q ws ev k xs ring f n) (hg : w.grownBy w2 (some A)) (hA : w2.heap[A]? = some (.cells ring'.toArray 158 (0, 0))) : Sfu s w2 B a p b C A Q ws ev k xs ring' f n := by
  obtain ⟨h1, h2, h3, h4, ⟨cs, h5, h6⟩, h7, h8, h9⟩ := h
  have ne : ∀ {g cs t fr}, w.heap[g]? = some (.cells cs t fr) → t ≠ 158 → some A ≠ some g := fun hh hn e => by
    injection e with e
    exact blk_ne' hh h7 hn e.symm
  exact ⟨h1, h2, h3, heap_grown hg h4 (ne h4 (by decide)), ⟨cs, heap_grown hg h5 (ne h5 (by decide)), h6⟩, hA, heap_grown hg h8 (ne h8 (by decide)), h9.kept hg (Or.inr (own_ne h9 h7 (by decide)))⟩
theorem Sfu.row_kx (h : Sfu s w B a p b C A Q ws ev k xs ring f n) (hg : w.grownBy w2 (some A)) : KX w w2 := fun g cs t fr hh t1 t2 t3 t4 => heap_grown hg hh (fun e => by
  injection e with e
  exact blk_ne' hh h.hA t3 e.symm)
/-- the queue's numbers are others -/
theorem Sfu.queue (h : Sfu s w B a p b C A Q ws ev k xs ring f n) (hg : w.grownBy w2 (some Q)) (hQ : w2.heap[Q]? = some (.cells #[.slice (some ⟨A, 0, none⟩) 4 4, .int .i64 f', .int .i64 n'] 250 (0, 0))) : Sfu s w2 B a p b C A Q ws ev k xs ring f' n' := by
  obtain ⟨h1, h2, h3, h4, ⟨cs, h5, h6⟩, h7, h8, h9⟩ := h
  have ne : ∀ {g cs t fr}, w.heap[g]? = some (.cells cs t fr) → t ≠ 250 → some Q ≠ some g := fun hh hn e => by
    injection e with e
    exact blk_ne' hh h8 hn e.symm
  exact ⟨h1, h2, h3, heap_grown hg h4 (ne h4 (by decide)), ⟨cs, heap_grown hg h5 (ne h5 (by decide)), h6⟩, heap_grown hg h7 (ne h7 (by decide)), hQ, h9.kept hg (Or.inr (own_ne h9 h8 (by decide)))⟩
theorem Sfu.queue_kx (h : Sfu s w B a p b C A Q ws ev k xs ring f n) (hg : w.grownBy w2 (some Q)) : KX w w2 := fun g cs t fr hh t1 t2 t3 t4 => heap_grown hg hh (fun e => by
  injection e with e
  exact blk_ne' hh h.hQ t4 e.symm)
end
/-- an event's cells -/
def evC (kind n : Int) (id : Nat) (e : Int) (b : Value) : List Value := [.int .i64 kind, .int .i64 n, .int .i64 0, .int .u64 id, .int .i64 e, .int .i64 0, .int .i64 0, .int .i64 0, .int .i64 0, .int .i64 0, .slice none 0 0, .int .i64 0, .int .i64 0, .int .u64 0, .int .i64 0, .int .i64 0, .int .i64 0, .int .u32 0, .slice none 0 0, .int .i64 0, .int .u64 0, .int .i64 0, .int .u32 0, b]
theorem slEv : SlT Tryz.prog 63 51 (.agg (evC 0 0 0 0 (.slice none 0 0)).toArray) 24 240 := ⟨Tryz.underlying63, by kernel_rfl, rfl, by omega⟩

/-- load of a whole block, at a step of a region that draws -/
theorem step_load_blk {P : Program} {ops : Array Oper} {o : Oper} {a : Act} {w : World} {K : Act → World → Prop} {Q : Exit → Act → World → Prop} {E : Prop} (hgd : o.guard = none) (ty : TypeId) (x : Operand) (ho : o.op = .load ty x) {g : Nat} (cs : List Value) {T : TypeId} {fr : Nat × Nat} (d : TypeDesc) (hx : a.eval x = .pointer (some ⟨g, 0, none⟩))
    (hu : P.underlying ty = some d) (hd : d.isRow = true) (hi : (P.info? ty).map (·.size) = some cs.length) (hg : w.heap[g]? = some (.cells cs.toArray T fr))
    (h : K (a.put o.dst (.agg cs.toArray)) w) : if Region.wanted o (yielded ops a.tmps) = true then Oper.wp P o a w K Q else E := by
  have hw : Region.wanted o (yielded ops a.tmps) = true := by simp [Region.wanted, hgd]
  rw [if_pos hw]
  exact wp_load_blk ty x ho d hx hu hd hi hg h

theorem cells_drew {w : World} {A : Option Addr} {xs : List Value} (h : Cells w A xs) : Cells w.drew A xs := h
/-- what happens leaves -/
def Hap (s : Nat) (w : World) (B a p b C A Q : Nat) (ws : Value) (k : Nat) (xs ring : List Value) (f n : Nat) (r : Ending) (w' : World) : Prop := r = .returned (.int .i64 k) ∧ ∃ ev, Sfu s w' B a p b C A Q ws ev (k + 1) xs ring f n ∧ KX w w' ∧ Below s w w'

set_option maxRecDepth 100000 in
set_option maxHeartbeats 4000000 in
theorem happens_raw {s : Nat} {w : World} {B a p b C A Q : Nat} {ws ev : Value} {k : Nat} {xs ring : List Value} {f n : Nat} (h : Sfu s w B a p b C A Q ws ev k xs ring f n) (hs : s ≤ w.heap.size) (hk : k ≤ 1000000) (y0 y1 y2 y3 y4 y5 y6 y7 y8 y9 y10 y11 y12 y13 y14 y15 y16 y17 y18 y19 y20 y21 y22 y23 : Value) (h1c : ∀ v ∈ ([y0, y1, y2, y3, y4, y5, y6, y7, y8, y9, y10, y11, y12, y13, y14, y15, y16, y17, y18, y19, y20, y21, y22, y23] : List Value), v.oneCell' = true) :
    Calls Tryz.prog 52 #[.pointer (some ⟨B, 0, none⟩), .agg #[y0, y1, y2, y3, y4, y5, y6, y7, y8, y9, y10, y11, y12, y13, y14, y15, y16, y17, y18, y19, y20, y21, y22, y23]] w (Hap s w B a p b C A Q ws k (xs ++ [y0, y1, y2, y3, y4, y5, y6, y7, y8, y9, y10, y11, y12, y13, y14, y15, y16, y17, y18, y19, y20, y21, y22, y23]) ring f n) := by
  obtain ⟨R, hR⟩ : ∃ R, R = Hap s w B a p b C A Q ws k (xs ++ [y0, y1, y2, y3, y4, y5, y6, y7, y8, y9, y10, y11, y12, y13, y14, y15, y16, y17, y18, y19, y20, y21, y22, y23]) ring f n := ⟨_, rfl⟩
  rw [← hR]
  have HR := hide hR
  obtain ⟨A4, cap4, rfl, _, _⟩ := own_slice h.hE
  clear hR
  go_enter Tryz.func52, Tryz.ntmps52
  go_upto_region 1 with fail
  have hx := heap_alloc_new w (.cells #[y0, y1, y2, y3, y4, y5, y6, y7, y8, y9, y10, y11, y12, y13, y14, y15, y16, y17, y18, y19, y20, y21, y22, y23] 51)
  have hl1 := (Le.refl w).alloc (.cells #[y0, y1, y2, y3, y4, y5, y6, y7, y8, y9, y10, y11, y12, y13, y14, y15, y16, y17, y18, y19, y20, y21, y22, y23] 51)
  have hfr : (Value.slice A4 k cap4).ownBlock ≠ some w.heap.size := own_fresh h.hE (Nat.le_refl _)
  have HFR := hide hfr
  have HX := hide hx
  have HL := hide hl1
  have HS0 := hide hs
  have H1C := hide h1c
  have HSF := hide h
  clear h hs hx hl1 hfr h1c
  generalize hgx : w.heap.size = gx at *
  have HGX := hide hgx
  generalize hw1 : w.alloc _ = w1 at *
  clear hgx hw1
  have hle0 := (Le.refl w1).drew
  have HD := hide (HSF.out.le (HL.out.trans hle0))
  have HCB := hide (fun W (hW : Gr (Value.slice A4 k cap4).ownBlock w1.drew W) => box_cell (hW.heap HD.out.hB (own_ne HD.out.hE HD.out.hB (by decide))) 17 (.slice A4 k cap4) rfl W (Le.refl _))
  refine' wp_region_tailQ 7 8 8 5 Le (Gr (Value.slice A4 k cap4).ownBlock) (IsD _ :: IsD _ :: IsD _ :: IsD _ :: IsD _ :: IsD _ :: (fun _ v W => ∃ g : Nat, v = .slice (some ⟨g, 0, none⟩) 1 1 ∧ (Value.slice A4 k cap4).ownBlock ≠ some g ∧ W.heap[g]? = some (.cells #[y0, y1, y2, y3, y4, y5, y6, y7, y8, y9, y10, y11, y12, y13, y14, y15, y16, y17, y18, y19, y20, y21, y22, y23] 51 (0, 0))) :: (fun _ v W => ∃ A3 cap3, v = .slice A3 (k + 1) cap3 ∧ Hd (W.ownsRow s 51 24 v (k + 1) (xs ++ [y0, y1, y2, y3, y4, y5, y6, y7, y8, y9, y10, y11, y12, y13, y14, y15, y16, y17, y18, y19, y20, y21, y22, y23])) ∧ Hd (w1.drew.grownBy W (Value.slice A4 k cap4).ownBlock)) :: []) ([] :: [] :: [1] :: [2] :: [3] :: [] :: [5] :: [4, 6] :: []) (by kernel_rfl) (by kernel_rfl) (by rfl) (by kernel_rfl) (by kernel_rfl) Le.refl (fun _ _ _ h h' => h.trans h') (fun _ _ _ h h' => h.trans h') (fun _ _ h => Gr.of_le h) ⟨StQ.is, StQ.is, StQ.is, StQ.is, StQ.is, StQ.is, (fun _ _ _ _ h ⟨g, e1, e2, e3⟩ => ⟨g, e1, e2, h.heap e3 e2⟩), (fun _ _ _ _ h ⟨A3, cap3, e1, e2, e3⟩ => ⟨A3, cap3, e1, hide (h.own e2.out), hide ((Gr.mk e3.out).trans (Gr.of_le h)).out⟩), trivial⟩ ?m1
  case m1 =>
    simp (maxSteps := 100000000) only [AllV, OblQ, Nat.reduceBEq, cond_true, cond_false, LeansD, factAtD, allFactsD, depV, actOf, putAll, putRow, List.set_cons_succ, List.set_cons_zero, List.map_cons, List.getElem?_cons_zero, List.getElem?_cons_succ, Option.getD_some, List.map_nil, List.take_succ_cons, List.take_zero, List.drop_succ_cons, List.drop_zero, List.cons_append, List.nil_append, List.length_cons, List.length_nil, Nat.reduceAdd]
    intro x0 x1 x2 x3 x4 x5 x6 x7
    refine ⟨⟨?_, ?_, ?_, ?_, ?_, ?_, ?_, ?_, trivial⟩, ?_⟩
    -- 0: 5 := Op.move t0
    · intro w hw  K hK; go_simp; exact hK _ _ (Le.refl _) (IsD.mk _ _ _)
    -- 1: 6 := Op.move t0
    · intro w hw  K hK; go_simp; exact hK _ _ (Le.refl _) (IsD.mk _ _ _)
    -- 2: 7 := Op.nilCheck t6
    · intro w hw h1 K hK; cases h1; go_simp; exact hK _ _ (Le.refl _) (IsD.mk _ _ _)
    -- 3: 8 := Op.fieldAddr 107 t7 7
    · intro w hw h2 K hK; cases h2; go_simp; exact hK _ _ (Le.refl _) (IsD.mk _ _ _)
    -- 4: 9 := Op.load 63 t8
    · intro w hw h3 K hK; cases h3; have k0 := HCB.out w hw; go_simp; exact hK _ _ (Le.refl _) (IsD.mk _ _ _)
    -- 5: 10 := Op.load 51 t3
    · intro w hw  K hK; refine cast (if_pos (show Region.wanted _ _ = true from rfl)).symm ?_; refine wp_load_blk 51 (.tmp 3) rfl (cs := [y0, y1, y2, y3, y4, y5, y6, y7, y8, y9, y10, y11, y12, y13, y14, y15, y16, y17, y18, y19, y20, y21, y22, y23]) _ rfl Tryz.underlying51 rfl (by kernel_rfl) (hw.heap (hle0.heap HX.out) HFR.out) ?_; exact hK _ _ (Le.refl _) (IsD.mk _ _ _)
    -- 6: 11 := Op.buildSlice 63 1 #[(0, t10)]
    · intro w hw h5 K hK; cases h5; go_simp; exact hK _ _ ((Le.refl _).alloc _) ⟨_, rfl, own_fresh HD.out.hE hw.size, heap_alloc_new _ _⟩
    -- 7: 12 := Op.call { builtin append, args := #[t9, t11], argTypes := #[63, 63] }
    · intro w hw h4 h6 K hK; cases h4; obtain ⟨g, rfl, hgr, hg⟩ := h6; refine cast (if_pos (show Region.wanted _ _ = true from rfl)).symm ?_; refine wp_app slEv (.tmp 9) (.tmp 11) rfl (HD.out.le hw).hE rfl rfl (news := [y0, y1, y2, y3, y4, y5, y6, y7, y8, y9, y10, y11, y12, y13, y14, y15, y16, y17, y18, y19, y20, y21, y22, y23]) (fun _ => ⟨g, 0, rfl, fun j u hu => by rw [Nat.zero_add, cell_block hg]; simpa using hu⟩) rfl H1C.out (by omega) (by omega) (by have h1 := hw.size; have h2 := (HL.out.trans hle0).size; have h3 := HS0.out; have h4 := HGX.out; omega) ?_; intro v' w' h1 h2 h3; obtain ⟨A3, cap3, rfl, _, _⟩ := own_slice h1; exact hK _ _ ⟨h2⟩ ⟨A3, cap3, rfl, hide h1, hide ((Gr.of_le hw).trans ⟨h2⟩).out⟩
    · intro wz hz h0 h1 h2 h3 h4 h5 h6 h7; cases h0; cases h1; cases h2; cases h3; cases h4; cases h5; obtain ⟨g, rfl, hgr, hg⟩ := h6; skip
      have HSZ := hide hz.size
      obtain ⟨A3, cap3, rfl, HO3, HG3⟩ := h7
      have HB6 := hide (hz.heap HD.out.hB (own_ne HD.out.hE HD.out.hB (by decide)))
      have z5 : wz.cell? ⟨B, 17, none⟩ = some (.slice A4 k cap4) := cell_block HB6.out 17
      have z6 := free_block HB6.out 17
      go_upto_region 2 with fail
      have hb0 : Below s w w1.drew := ((HL.out.trans hle0).out.mono (by rw [HGX.out]; exact HS0.out))
      have hS8 := HD.out.event HG3.out HO3.out
      have hK8 := (KX.of (HL.out.trans hle0)).trans (HD.out.event_kx (ev' := .slice A3 (k + 1) cap3) HG3.out)
      have hB8 := (below_grown hb0 HD.out.hE HG3.out (Nat.le_refl _) (by have h1 := (HL.out.trans hle0).size; have h2 := HS0.out; have h3 := HGX.out; omega)).setCell (p := ⟨B, 17, none⟩) HD.out.sB (.slice A3 (k + 1) cap3)
      have HS8 := hide hS8
      have HF8 := hide (And.intro hK8 hB8)
      clear z5 z6 hb0 hS8 hK8 hB8
      generalize wz.setCell _ _ = w8 at *
      have z8 : w8.cell? ⟨B, 17, none⟩ = some (.slice A3 (k + 1) cap3) := cell_block HS8.out.hB 17
      go_wp2_with fail
      rw [HR.out]
      exact ⟨rfl, _, HS8.out, HF8.out⟩
theorem happens_any {s : Nat} {w : World} {B a p b C A Q : Nat} {ws ev : Value} {k : Nat} {xs ring : List Value} {f n : Nat} (h : Sfu s w B a p b C A Q ws ev k xs ring f n) (hs : s ≤ w.heap.size) (hk : k ≤ 1000000) (kind m : Int) (id : Nat) (e : Int) (A1 : Option Addr) (n1 c1 : Nat) :
    Calls Tryz.prog 52 #[.pointer (some ⟨B, 0, none⟩), .agg (evC kind m id e (.slice A1 n1 c1)).toArray] w (Hap s w B a p b C A Q ws k (xs ++ evC kind m id e (.slice A1 n1 c1)) ring f n) :=
  happens_raw h hs hk _ _ _ _ _ _ _ _ _ _ _ _ _ _ _ _ _ _ _ _ _ _ _ _ (by simp [Value.oneCell'])
end Go.Proofs.YtkcpfhbfjpldhaaGreatDoor
