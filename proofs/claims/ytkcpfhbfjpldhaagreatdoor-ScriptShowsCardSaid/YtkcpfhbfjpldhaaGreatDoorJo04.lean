/- Texts of one claim, laid together: Tail Mid W Part Make MidIn AwkB -/
import Derived.StillTailTactics
import Derived.Deep.MidRow
import Derived.Laws.OwnMore
import Derived.Deep.RegionLaw
import Derived.Test.YtkcpfhbfjpldhaaGreatDoorJo03
/- A region by facts, with operations at its end that come up in one order alone. -/
namespace Go.Proofs.YtkcpfhbfjpldhaaGreatDoor
open Go.RowKit
set_option linter.unusedVariables false

def tailOk (ops : Array Oper) (m : Nat) : Bool :=
  decide (m < ops.size) && Region.sinkB .any ops m && Region.chainB .any ops m && Region.seqB .any ops (ops.size - m) m (List.replicate m true ++ List.replicate (ops.size - m) false).toArray

def unl (m : Nat) (listed : Array Bool) : Nat := (listed.toList.take m).countP (fun b => !b)

section
variable {P : Program} {Q : Exit → Act → World → Prop} {R : World → World → Prop} {Φ : List Fact} {ds : List (List Nat)} {a0 : Act} {w0 : World} {l : List Oper} {m : Nat}

theorem wpAny_facts_tail (hok : regOk (l.take m).toArray ds = true) (hΦ : Φ.length = (l.take m).length) (htl : tailOk l.toArray m = true) (htr : ∀ a b c, R a b → R b c → R a c) (hst : StAll R Φ)
    (h : AllV (l.take m) fun vs => Obl P l.toArray Q R w0 Φ (putAll (l.take m) vs a0) vs (l.take m) Φ ds ∧ ∀ w, R w0 w → allFacts w Φ vs (wpList P l.toArray Q (l.drop m) (putAll (l.take m) vs a0) w)) :
    ∀ (f : Nat) (listed : Array Bool) (a : Act) (w : World), HeadInv .any l.toArray m listed → unl m listed = f → R w0 w →
      (∃ vs : List Value, vs.length = (l.take m).length ∧ a = putAll (l.take m) vs a0 ∧ ∀ i, i < m → listed.getD i false = true → factAt Φ vs w i) → wpAny P .any l.toArray Q (f + (l.toArray.size - m)) listed a w := by
  simp only [tailOk, Bool.and_eq_true, decide_eq_true_eq] at htl
  obtain ⟨⟨⟨hm, hsink⟩, hchain⟩, hseq⟩ := htl
  have hml : m < l.length := by simpa using hm
  have htk : (l.take m).length = m := by simp; omega
  have hget : ∀ i, i < m → (l.take m).toArray[i]? = l.toArray[i]? := fun i hi => by simp [hi]
  simp only [regOk, Bool.and_eq_true, beq_iff_eq, decide_eq_true_eq] at hok
  obtain ⟨⟨⟨hdl, hnd⟩, hfw⟩, hdp⟩ := hok
  have hsz : (l.take m).toArray.size = m := by simp; omega
  rw [hsz] at hfw hdp hdl
  have hnd : ((l.take m).filterMap (·.dst)).Nodup := by simpa using hnd
  have hready : ∀ (listed : Array Bool), HeadInv .any l.toArray m listed → (∃ i, i < m ∧ listed.getD i true = false) → Region.ready .any l.toArray listed ≠ [] := by
    rintro listed inv ⟨i, hi, hb⟩
    induction i using Nat.strongRecOn with
    | _ i ih =>
      by_cases hex : ∃ j, j < i ∧ listed.getD j true = false
      · obtain ⟨j, hj, hb'⟩ := hex
        exact ih j hj (by omega) hb'
      · have hin : i < l.toArray.size := by omega
        have hmem : i ∈ Region.ready .any l.toArray listed := by
          refine mem_ready.2 ⟨hb, l.toArray[i], by simp at hin; simp [hin], fun e he hbd => ?_⟩
          have h1 := List.all_eq_true.1 hfw i (by simpa using hi)
          rw [hget i hi, Array.getElem?_eq_getElem hin] at h1
          have h2 := Array.all_eq_true_iff_forall_mem.1 h1 e he
          simp only [hbd, Bool.not_true, Bool.false_or, decide_eq_true_eq] at h2
          cases hl : listed.getD e.on false with
          | true => rfl
          | false =>
            exact absurd ⟨e.on, h2, getD_in (by rw [inv.size]; omega) hl⟩ hex
        intro h0
        rw [h0] at hmem
        cases hmem
  intro f
  induction f with
  | zero =>
    intro listed a w inv hu hw ⟨vs, hl, ha, hf⟩
    subst ha
    have hall : ∀ i, i < m → listed.getD i false = true := fun i hi => by
      have hlt : i < listed.toList.length := by simp [inv.size]; simp at hm; omega
      have h0 := List.countP_eq_zero.1 hu (listed.toList[i]) (List.mem_of_getElem? (i := i) (by rw [List.getElem?_take_of_lt hi, List.getElem?_eq_getElem hlt]))
      simp at hlt
      simp [hlt] at h0 ⊢
      exact h0
    have hle : listed = (List.replicate m true ++ List.replicate (l.toArray.size - m) false).toArray := by
      apply Array.ext
      · rw [inv.size]; simp; omega
      · intro i h1 h2
        by_cases hi : i < m
        · have := hall i hi
          simp [h1] at this
          rw [this]
          simp [hi]
        · have := inv.tail i (by omega) (by rw [← inv.size]; exact h1)
          simp [h1] at this
          rw [this, List.getElem_toArray, List.getElem_append_right (by simp; omega)]
          simp
    have hq := ((h.use vs (by simpa using hl)).2 w hw).use (fun i φ v h1 h2 => by
      have hi : i < m := by have := (List.getElem?_eq_some_iff.1 h1).1; omega
      have := hf i hi (hall i hi)
      rw [factAt, h1, h2] at this
      exact this)
    have := wpAny_of_seq (md := .any) (Q' := Q) (ops := l.toArray) (l.drop m) m listed _ w (fun j => by simp [List.getElem?_drop]) (by rw [hle]; simpa using hseq) hq
    simpa using this
  | succ f ih =>
    intro listed a w inv hu hw ⟨vs, hl, ha, hf⟩
    subst ha
    have hex : ∃ i, i < m ∧ listed.getD i true = false := by
      have hp : 0 < (listed.toList.take m).countP (fun b => !b) := by unfold unl at hu; omega
      obtain ⟨b, hb, hbf⟩ := List.countP_pos_iff.1 hp
      obtain ⟨i, hi, rfl⟩ := List.getElem_of_mem hb
      simp only [List.length_take] at hi
      refine ⟨i, by omega, ?_⟩
      have hi2 : i < listed.size := by simp at hi; omega
      simp at hbf
      simp [hi2, hbf]
    rw [show f + 1 + (l.toArray.size - m) = (f + (l.toArray.size - m)) + 1 by omega]
    refine ⟨fun hr => absurd hr (hready listed inv hex), fun i hi => ?_⟩
    have him : i < m := by
      obtain ⟨i0, hi0, hb0⟩ := hex
      rcases Nat.lt_or_ge i m with h' | h'
      · exact h'
      · exact absurd hi (tail_waits hsink hchain hm inv _ i0 rfl hi0 hb0 i h')
    obtain ⟨h0, o, ho, hall⟩ := mem_ready.1 hi
    have hlt : i < listed.size := by rw [inv.size]; omega
    have ho' : (l.take m)[i]? = some o := by
      have := hget i him
      rw [ho] at this
      simpa using this
    obtain ⟨φ, hφ⟩ : ∃ φ, Φ[i]? = some φ := ⟨Φ[i]'(by omega), by simp⟩
    obtain ⟨d, hd⟩ : ∃ d, ds[i]? = some d := ⟨ds[i]'(by omega), by simp⟩
    have hO := ((h.use vs (by simpa using hl)).1.use i o φ d ho' hφ hd w hw).use (fun j hj => by
      have h2 := List.all_eq_true.1 hdp i (by simpa using him)
      rw [hget i him, ho, hd] at h2
      simp only at h2
      have h3 := List.all_eq_true.1 h2 j hj
      obtain ⟨e, he, hb⟩ := Array.any_eq_true'.1 h3
      simp only [Bool.and_eq_true, beq_iff_eq] at hb
      have h4 := List.all_eq_true.1 hfw i (by simpa using him)
      rw [hget i him, ho] at h4
      have h5 := Array.all_eq_true_iff_forall_mem.1 h4 e he
      simp only [hb.1, Bool.not_true, Bool.false_or, decide_eq_true_eq] at h5
      rw [← hb.2]
      exact hf _ (by omega) (hall e he hb.1))
    refine wpOp_step ho fun K hK => hO K fun v w' hR hv => hK _ _ ?_
    refine ih _ _ _ (inv.set hi him) ?_ (htr _ _ _ hw hR) ⟨vs.set i v, by simpa using hl, putAll_set _ _ _ _ _ _ hnd (by simpa using hl) ho', fun k hkm hk => ?_⟩
    · have h1 : (listed.toList.take m)[i]? = some false := by
        rw [List.getElem?_take_of_lt him]
        simp [hlt] at h0 ⊢
        exact h0
      have := countP_set _ _ h1
      unfold unl at hu ⊢
      have e : (listed.setIfInBounds i true).toList.take m = (listed.toList.take m).set i true := by
        rw [← List.take_set]
        simp
      rw [e]
      omega
    · by_cases hki : k = i
      · subst hki
        have hsv : (vs.set k v)[k]? = some v := List.getElem?_set_self (by omega)
        rw [factAt, hφ, hsv]
        exact hv
      · have h4 := hf k hkm (by rwa [getD_set_ne false (fun e => hki e.symm)] at hk)
        have hsv : (vs.set i v)[k]? = vs[k]? := by simp [Ne.symm hki]
        unfold factAt at h4 ⊢
        rw [hsv]
        cases hk1 : Φ[k]? with
        | none => trivial
        | some φ' =>
          cases hk2 : vs[k]? with
          | none => trivial
          | some u =>
            simp only [hk1, hk2] at h4 ⊢
            exact hst.use φ' (List.mem_of_getElem? hk1) u w w' hR h4

theorem wp_region_tail {id : Nat} (m n k : Nat) (R : World → World → Prop) (Φ : List Fact) (ds : List (List Nat)) (hm : P.follows .mixedOrders = true) (hok : regOk (l.take m).toArray ds = true) (hΦ : (Φ.length == (l.take m).length) = true) (htl : tailOk l.toArray m = true)
    (hrow : rowOk (l.take m) n k a0.tmps.size = true) (hrf : ∀ a, R a a) (htr : ∀ a b c, R a b → R b c → R a c) (hst : StAll R Φ)
    (h : AllV (l.take m) fun vs => Obl2 P l.toArray Q R w0.drew Φ (actOf (l.take m) n k a0) vs 0 (l.take m) Φ ds ∧ ∀ w, R w0.drew w → allFacts w Φ vs (wpList P l.toArray Q (l.drop m) (actOf (l.take m) n k a0 vs) w)) : (Code.region id l.toArray true).wp P Q a0 w0 := by
  have hn : ((l.take m).filterMap (·.dst)).Nodup := by
    simp only [regOk, Bool.and_eq_true, beq_iff_eq, decide_eq_true_eq] at hok
    exact hok.1.1.2
  have hall : ∀ {os : List Oper} {p q : List Value → Prop}, (∀ vs : List Value, vs.length = os.length → p vs → q vs) → AllV os p → AllV os q := by
    intro os
    induction os with
    | nil => intro p q h1 h2; exact h1 [] rfl h2
    | cons o os ih => intro p q h1 h2 v; exact ih (fun vs hl hp => h1 (v :: vs) (by simp [hl]) hp) (h2 v)
  have hobl : ∀ (vs : List Value), vs.length = (l.take m).length → ∀ (os : List Oper) (i : Nat) (φs : List Fact) (ds : List (List Nat)), (∀ j, os[j]? = (l.take m)[i + j]?) →
      Obl2 P l.toArray Q R w0.drew Φ (actOf (l.take m) n k a0) vs i os φs ds → Obl P l.toArray Q R w0.drew Φ (putAll (l.take m) vs a0) vs os φs ds := by
    intro vs hl os
    induction os with
    | nil => intro i φs ds _ _; simp [Obl]
    | cons o os ih =>
      intro i φs ds hi hh
      match φs, ds with
      | [], _ => simp [Obl]
      | _ :: _, [] => simp [Obl]
      | φ :: φs, d :: ds =>
        refine ⟨fun w hw => Leans.mono (fun hh K hK => ?_) (hh.1 w hw), ih (i + 1) φs ds (fun j => ?_) hh.2⟩
        · have ho : (l.take m)[i]? = some o := by simpa using (hi 0).symm
          have e : ∀ v, (putAll (l.take m) vs a0).put o.dst v = actOf (l.take m) n k a0 (vs.set i v) := fun v => by
            rw [putAll_set (l.take m) vs a0 i o v hn hl ho, actOf_eq hrow (by simpa using hl)]
          have := hh K (fun v w' h1 h2 => by rw [← e]; exact hK v w' h1 h2)
          rw [actOf_eq hrow hl, ← e] at this
          exact this
        · have := hi (j + 1)
          rw [show i + 1 + j = i + (j + 1) by omega, ← this]
          simp
  refine wp_region_any hm ?_
  have hmt := htl
  simp only [tailOk, Bool.and_eq_true, decide_eq_true_eq] at hmt
  have hml : m < l.length := by simpa using hmt.1.1.1
  obtain ⟨vs, hl, he⟩ := putAll_self (l.take m) a0
  have inv0 : HeadInv .any l.toArray m (Array.replicate l.toArray.size false) :=
    ⟨by simp, fun j oj _ hl => (by rw [getD_replicate_false] at hl; cases hl), fun t _ ht => getD_in (by simpa using ht) (getD_replicate_false _ _)⟩
  have hu : unl m (Array.replicate l.toArray.size false) = m := by
    unfold unl
    rw [List.countP_eq_length.2 (fun b hb => by
      have := List.mem_of_mem_take hb
      simp at this
      rw [this.2]; rfl)]
    simp; omega
  have := wpAny_facts_tail (a0 := a0) (w0 := w0.drew) (Q := Q) (l := l) (m := m) hok (by simpa using hΦ) htl htr hst
    (hall (fun vs hl hp => ⟨hobl vs hl (l.take m) 0 Φ ds (fun j => by simp) hp.1, fun w hw => by have := hp.2 w hw; rwa [actOf_eq hrow hl] at this⟩) h)
    m _ a0 w0.drew inv0 hu (hrf _) ⟨vs, hl, he.symm, fun i hi hb => by rw [getD_replicate_false] at hb; cases hb⟩
  rw [show m + (l.toArray.size - m) = l.toArray.size by simp; omega] at this
  exact this
end
end Go.Proofs.YtkcpfhbfjpldhaaGreatDoor

/- A whole struct loaded from, or stored into, a block that is known whole. -/
namespace Go.Proofs.YtkcpfhbfjpldhaaGreatDoor
open Go.RowKit
set_option linter.unusedVariables false

theorem setCells_grown (g : Nat) : ∀ (vs : List Value) (o : Nat) (w : World), w.grownBy (w.setCells g o vs) (some g)
  | [], _, w => World.grownBy.refl w _
  | v :: vs, o, w => by
    have h1 : w.grownBy (w.setCell ⟨g, o, none⟩ v) (some g) := grown_set v
    have h2 := setCells_grown g vs (o + 1) (w.setCell ⟨g, o, none⟩ v)
    exact ⟨h2.os.trans h1.os, h2.tape.trans h1.tape, h2.output.trans h1.output, Nat.le_trans h1.size h2.size, fun k hk hne => (h2.block k (Nat.lt_of_lt_of_le hk h1.size) hne).trans (h1.block k hk hne)⟩
theorem heap_setCells (g : Nat) {T : TypeId} {fr : Nat × Nat} : ∀ (vs pre old : List Value) (w : World), old.length = vs.length → w.heap[g]? = some (.cells (pre ++ old).toArray T fr) → (w.setCells g pre.length vs).heap[g]? = some (.cells (pre ++ vs).toArray T fr)
  | [], pre, old, w, hl, h => by
    obtain rfl := List.eq_nil_of_length_eq_zero hl
    exact h
  | v :: vs, pre, [], w, hl, h => by simp at hl
  | v :: vs, pre, u :: old, w, hl, h => by
    have h1 := heap_set (i := pre.length) v h
    have e : (pre ++ u :: old).toArray.setIfInBounds pre.length v = ((pre ++ [v]) ++ old).toArray := by simp
    rw [e] at h1
    have := heap_setCells g vs (pre ++ [v]) old _ (by simpa using hl) h1
    simpa [World.setCells] using this
theorem there_block {w : World} {g : Nat} {cs : List Value} {T : TypeId} (h : w.heap[g]? = some (.cells cs.toArray T (0, 0))) : w.there g 0 cs.length := fun j hj => by
  rw [Nat.zero_add, cell_block h, free_block h]
  simp [hj]
theorem range_block {w : World} {g : Nat} {cs : List Value} {T : TypeId} {fr : Nat × Nat} (h : w.heap[g]? = some (.cells cs.toArray T fr)) : w.rangeAt g 0 cs := fun j v hj => by
  rw [Nat.zero_add, cell_block h]
  simpa using hj

section
variable {P : Program} {ops : Array Oper} {rest : List Oper} {o : Oper} {a : Act} {w : World} {Q : Exit → Act → World → Prop}
theorem wp_store_blk {K : Act → World → Prop} (ty : TypeId) (x y : Operand) (ho : o.op = .store ty x y) {g : Nat} {cs old : List Value} {T : TypeId} (hx : a.eval x = .pointer (some ⟨g, 0, none⟩)) (hy : a.eval y = .agg cs.toArray)
    (hi : (P.info? ty).map (·.size) = some cs.length) (h1 : ∀ v ∈ cs, v.oneCell' = true) (hg : w.heap[g]? = some (.cells old.toArray T (0, 0))) (hl : old.length = cs.length)
    (h : ∀ w', w'.heap[g]? = some (.cells cs.toArray T (0, 0)) → w.grownBy w' (some g) → K (a.put o.dst undef) w') : o.wp P a w K Q := by
  refine wp_store_mid ty x y ho g 0 cs.toArray hx hy (by have := there_block hg; rw [hl] at this; simpa using this) (by simpa using hi) (all_oneCell_toArray h1) (h _ ?_ ?_)
  · have := heap_setCells g cs [] old w hl (by simpa using hg)
    simpa using this
  · exact setCells_grown g _ 0 w
theorem wpl_store_blk (hgd : o.guard = none) (ty : TypeId) (x y : Operand) (ho : o.op = .store ty x y) {g : Nat} {cs old : List Value} {T : TypeId} (hx : a.eval x = .pointer (some ⟨g, 0, none⟩)) (hy : a.eval y = .agg cs.toArray)
    (hi : (P.info? ty).map (·.size) = some cs.length) (h1 : ∀ v ∈ cs, v.oneCell' = true) (hg : w.heap[g]? = some (.cells old.toArray T (0, 0))) (hl : old.length = cs.length)
    (h : ∀ w', w'.heap[g]? = some (.cells cs.toArray T (0, 0)) → w.grownBy w' (some g) → wpList P ops Q rest (a.put o.dst undef) w') : wpList P ops Q (o :: rest) a w :=
  wpList_plain hgd fun _ hK => wp_store_blk ty x y ho hx hy hi h1 hg hl fun w' h2 h3 => hK _ _ (h w' h2 h3)
theorem wp_load_blk {K : Act → World → Prop} (ty : TypeId) (x : Operand) (ho : o.op = .load ty x) {g : Nat} {cs : List Value} {T : TypeId} {fr : Nat × Nat} (d : TypeDesc) (hx : a.eval x = .pointer (some ⟨g, 0, none⟩))
    (hu : P.underlying ty = some d) (hd : d.isRow = true) (hi : (P.info? ty).map (·.size) = some cs.length) (hg : w.heap[g]? = some (.cells cs.toArray T fr))
    (h : K (a.put o.dst (.agg cs.toArray)) w) : o.wp P a w K Q :=
  wp_load_mid ty x ho g 0 hx cs d (range_block hg) hu hd hi h
theorem wpl_load_blk (hgd : o.guard = none) (ty : TypeId) (x : Operand) (ho : o.op = .load ty x) {g : Nat} {cs : List Value} {T : TypeId} {fr : Nat × Nat} (d : TypeDesc) (hx : a.eval x = .pointer (some ⟨g, 0, none⟩))
    (hu : P.underlying ty = some d) (hd : d.isRow = true) (hi : (P.info? ty).map (·.size) = some cs.length) (hg : w.heap[g]? = some (.cells cs.toArray T fr))
    (h : wpList P ops Q rest (a.put o.dst (.agg cs.toArray)) w) : wpList P ops Q (o :: rest) a w :=
  wpList_load_mid hgd ty x ho g 0 hx cs d (range_block hg) hu hd hi h
end
end Go.Proofs.YtkcpfhbfjpldhaaGreatDoor

/- Words for walks: cells of a box, conversions, slices cut. -/
namespace Go.Proofs.YtkcpfhbfjpldhaaGreatDoor
open Go.RowKit
set_option linter.unusedVariables false

theorem box_cell {wb : World} {p : Nat} {cs : Array Value} {T : TypeId} {fr : Nat × Nat} (h : wb.heap[p]? = some (.cells cs T fr)) (i : Nat) (v : Value) (hv : cs[i]? = some v) : ∀ W, Le wb W → W.cell? ⟨p, i, none⟩ = some v :=
  fun W hW => (cell_block (hW.heap h) i).trans hv
theorem conv_le {w : World} {A : Option Addr} {n cap : Nat} {l : List UInt8} (h : RSl 1 RU8 w l (.slice A n cap)) (W : World) (hW : Le w W) : (convert 25 9 (.slice A n cap)).run Tryz.prog W = .ok (.string (str l)) W :=
  conv_str (P := Tryz.prog) W 25 9 5 A n cap l Tryz.underlying25 Tryz.underlying5 Tryz.underlying9 (hW.rsl keeps_u8 h)
theorem rsl_drop {α : Type} {R : Rd α} {w : World} {l : List α} {b off n cap k : Nat} (h : RSl 1 R w l (.slice (some ⟨b, off, none⟩) n cap)) (hk : k ≤ l.length) : RSl 1 R w (l.drop k) (.slice (some ⟨b, off + k, none⟩) (n - k) (cap - k)) := by
  obtain ⟨A', cap', hv, hc, hr⟩ := h
  injection hv with e1 e2 e3
  subst e1 e2 e3
  refine ⟨some ⟨b, off + k, none⟩, cap - k, by simp, by simp; omega, fun hne => ⟨b, off + k, rfl, fun i hi => ?_⟩⟩
  have hi' : k + i < l.length := by simp at hi; omega
  obtain ⟨b', off', hA, hg⟩ := hr (by rintro rfl; simp at hi')
  injection hA with hA
  injection hA with e1 e2
  subst e1 e2
  obtain ⟨cs, h1, h2, h3⟩ := hg (k + i) hi'
  refine ⟨cs, h1, fun j hj => ?_, by simpa using h3⟩
  have := h2 j hj
  rw [← this]
  congr 2
  omega

theorem wrap_u8 (x : Nat) : IntKind.u8.wrap (x : Int) = ((UInt8.ofNat x).toNat : Int) := by
  have : IntKind.u8.wrap (x : Int) = (x : Int) % 256 := by simp [IntKind.wrap, IntKind.bits, IntKind.signed]
  rw [this, UInt8.toNat_ofNat']; omega
theorem cells_at {w : World} {l : List Value} {t : TypeId} {p : Nat} (h : w.heap.size = p) : Cells (w.alloc (.cells l.toArray t)) (some ⟨p, 0, none⟩) l := by
  subst h; exact cells_new w l t
theorem heap_at {w : World} {o : Obj} {p : Nat} (h : w.heap.size = p) : (w.alloc o).heap[p]? = some o := by
  subst h; exact heap_alloc_new w o
/-- a slice that is not empty has a place -/
theorem rsl_addr {α : Type} {size : Nat} {R : Rd α} {w : World} {l : List α} {A : Option Addr} {n cap : Nat} (h : RSl size R w l (.slice A n cap)) (hne : 0 < l.length) : ∃ b off, A = some ⟨b, off, none⟩ := by
  obtain ⟨A', c', hv, _, hi⟩ := h
  injection hv with e1 e2 e3
  subst e1
  obtain ⟨b, off, e, _⟩ := hi (by rintro rfl; simp at hne)
  exact ⟨b, off, e⟩
theorem Le.own {w w' : World} (h : Le w w') {base : Nat} {e : TypeId} {size n : Nat} {v : Value} {xs : List Value} (ho : w.ownsRow base e size v n xs) : w'.ownsRow base e size v n xs := own_below ho h.out (Nat.le_refl _)
end Go.Proofs.YtkcpfhbfjpldhaaGreatDoor

/- Parts as cells; a value that comes back while old blocks stay. -/
namespace Go.Proofs.YtkcpfhbfjpldhaaGreatDoor
open Go.RowKit
set_option linter.unusedVariables false

/-- a value comes back, old blocks stay -/
def Gives (w : World) (v : Value) (r : Ending) (w' : World) : Prop := r = .returned v ∧ Below w.heap.size w w'
def encPart (p : Nat × Int) : List Value := [.int .u64 p.1, .int .i64 p.2]
theorem rsl_parts {w : World} {l : List (Nat × Int)} {A : Option Addr} {n cap : Nat} (hn : n = l.length) (hcap : n ≤ cap) (hx : ∀ p ∈ l, (p.1 : Int) < 18446744073709551616) (hc : Cells w A (l.flatMap encPart)) : RSl 2 RPart w l (.slice A n cap) :=
  rsl_of_cells hn hcap (fun _ _ => rfl) (fun x h => ⟨rfl, hx x h⟩) (by omega) hc
end Go.Proofs.YtkcpfhbfjpldhaaGreatDoor

/- make with a size that is a variable. -/
namespace Go.Proofs.YtkcpfhbfjpldhaaGreatDoor
open Go.RowKit
set_option linter.unusedVariables false

theorem wp_make {P : Program} {o : Oper} {a : Act} {w : World} {K : Act → World → Prop} {Q : Exit → Act → World → Prop} {t e : TypeId} {z : Value} {size bytes : Nat} (T : SlT P t e z size bytes)
    (x y : Operand) (ho : o.op = .makeSlice t x y) {kl kc : IntKind} {n : Nat} (hx : a.eval x = .int kl n) (hy : a.eval y = .int kc n) (hbytes : bytes * n ≤ 281474976710656) (h63 : n ≤ 9223372036854775807)
    (h : ∀ w', w'.ownsRow w.heap.size e size (.slice (some ⟨w.heap.size, 0, none⟩) n n) n (madeCells z.cells (n * size)).toList → Le w w' → K (a.put o.dst (.slice (some ⟨w.heap.size, 0, none⟩) n n)) w') : o.wp P a w K Q := by
  obtain ⟨i, hi, hz, hsz, hby⟩ := info_parts T.info
  obtain ⟨w', hr, h2, h3⟩ := run_make_full (P := P) w w.heap.size t e i z size T.under hi hz hsz kl kc n (by rw [hby]; exact hbytes) (by simp only [maxLen]; omega) (Nat.le_refl _)
  unfold Oper.wp execOp
  simp only [ho, hx, hy, Sem.run_bind, Sem.run_pure]
  rw [hr]
  exact h w' h2 ⟨⟨h3.os, h3.tape, h3.output, h3.size, fun k hk => h3.block k hk (by simp)⟩⟩

theorem wpl_make {P : Program} {ops : Array Oper} {rest : List Oper} {o : Oper} {a : Act} {w : World} {Q : Exit → Act → World → Prop} (hgd : o.guard = none) {t e : TypeId} {z : Value} {size bytes : Nat} (T : SlT P t e z size bytes)
    (x y : Operand) (ho : o.op = .makeSlice t x y) {kl kc : IntKind} {n : Nat} (hx : a.eval x = .int kl n) (hy : a.eval y = .int kc n) (hbytes : bytes * n ≤ 281474976710656) (h63 : n ≤ 9223372036854775807)
    (h : ∀ w', w'.ownsRow w.heap.size e size (.slice (some ⟨w.heap.size, 0, none⟩) n n) n (madeCells z.cells (n * size)).toList → Le w w' → wpList P ops Q rest (a.put o.dst (.slice (some ⟨w.heap.size, 0, none⟩) n n)) w') : wpList P ops Q (o :: rest) a w :=
  wpList_plain hgd fun _ hK => wp_make T x y ho hx hy hbytes h63 fun w' h2 h3 => hK _ _ (h w' h2 h3)

theorem made_u8 (n : Nat) : (madeCells (Value.int .u8 0).cells (n * 1)).toList = u8s (List.replicate n 0) := by
  have := toList_madeCells_one (.int .u8 0) (n * 1)
  rw [show (Value.int .u8 0).cells = #[.int .u8 0] from rfl, this]
  simp [u8s]
end Go.Proofs.YtkcpfhbfjpldhaaGreatDoor

/- A struct loaded from, or stored into, the middle of a known block. -/
namespace Go.Proofs.YtkcpfhbfjpldhaaGreatDoor
open Go.RowKit
set_option linter.unusedVariables false

theorem heap_setCells_mid (g : Nat) {T : TypeId} {fr : Nat × Nat} (post : List Value) : ∀ (vs pre old : List Value) (w : World), old.length = vs.length → w.heap[g]? = some (.cells (pre ++ (old ++ post)).toArray T fr) → (w.setCells g pre.length vs).heap[g]? = some (.cells (pre ++ (vs ++ post)).toArray T fr)
  | [], pre, old, w, hl, h => by
    obtain rfl := List.eq_nil_of_length_eq_zero hl
    exact h
  | v :: vs, pre, [], w, hl, h => by simp at hl
  | v :: vs, pre, u :: old, w, hl, h => by
    have h1 := heap_set (i := pre.length) v h
    have e : (pre ++ (u :: old ++ post)).toArray.setIfInBounds pre.length v = ((pre ++ [v]) ++ (old ++ post)).toArray := by simp
    rw [e] at h1
    have := heap_setCells_mid g post vs (pre ++ [v]) old _ (by simpa using hl) h1
    simpa [World.setCells] using this
section
variable {P : Program} {ops : Array Oper} {rest : List Oper} {o : Oper} {a : Act} {w : World} {Q : Exit → Act → World → Prop}
theorem wp_store_in {K : Act → World → Prop} (ty : TypeId) (x y : Operand) (ho : o.op = .store ty x y) {g : Nat} (pre : List Value) {cs old post : List Value} {T : TypeId} (hx : a.eval x = .pointer (some ⟨g, pre.length, none⟩)) (hy : a.eval y = .agg cs.toArray)
    (hi : (P.info? ty).map (·.size) = some cs.length) (h1 : ∀ v ∈ cs, v.oneCell' = true) (hg : w.heap[g]? = some (.cells (pre ++ (old ++ post)).toArray T (0, 0))) (hl : old.length = cs.length)
    (h : ∀ w', w'.heap[g]? = some (.cells (pre ++ (cs ++ post)).toArray T (0, 0)) → w.grownBy w' (some g) → K (a.put o.dst undef) w') : o.wp P a w K Q := by
  have ht : w.there g pre.length cs.length := fun j hj => by
    rw [cell_block hg, free_block hg]
    rw [List.getElem?_toArray, List.getElem?_append_right (by omega), Nat.add_sub_cancel_left, List.getElem?_append_left (by omega)]
    simp [hl, hj]
  refine wp_store_mid ty x y ho g pre.length cs.toArray hx hy (by simpa using ht) (by simpa using hi) (all_oneCell_toArray h1) (h _ ?_ ?_)
  · have := heap_setCells_mid g post cs pre old w hl hg
    simpa using this
  · exact setCells_grown g _ _ w
theorem wpl_store_in (hgd : o.guard = none) (ty : TypeId) (x y : Operand) (ho : o.op = .store ty x y) {g : Nat} (pre : List Value) {cs old post : List Value} {T : TypeId} (hx : a.eval x = .pointer (some ⟨g, pre.length, none⟩)) (hy : a.eval y = .agg cs.toArray)
    (hi : (P.info? ty).map (·.size) = some cs.length) (h1 : ∀ v ∈ cs, v.oneCell' = true) (hg : w.heap[g]? = some (.cells (pre ++ (old ++ post)).toArray T (0, 0))) (hl : old.length = cs.length)
    (h : ∀ w', w'.heap[g]? = some (.cells (pre ++ (cs ++ post)).toArray T (0, 0)) → w.grownBy w' (some g) → wpList P ops Q rest (a.put o.dst undef) w') : wpList P ops Q (o :: rest) a w :=
  wpList_plain hgd fun _ hK => wp_store_in ty x y ho pre hx hy hi h1 hg hl fun w' h2 h3 => hK _ _ (h w' h2 h3)
theorem range_in {g : Nat} {pre cs post : List Value} {T : TypeId} {fr : Nat × Nat} (hg : w.heap[g]? = some (.cells (pre ++ (cs ++ post)).toArray T fr)) : w.rangeAt g pre.length cs := fun j v hj => by
  have hlt : j < cs.length := (List.getElem?_eq_some_iff.1 hj).1
  rw [cell_block hg, List.getElem?_toArray, List.getElem?_append_right (by omega), Nat.add_sub_cancel_left, List.getElem?_append_left hlt]
  exact hj
theorem wp_load_in {K : Act → World → Prop} (ty : TypeId) (x : Operand) (ho : o.op = .load ty x) {g : Nat} (pre cs post : List Value) {T : TypeId} {fr : Nat × Nat} (d : TypeDesc) (hx : a.eval x = .pointer (some ⟨g, pre.length, none⟩))
    (hu : P.underlying ty = some d) (hd : d.isRow = true) (hi : (P.info? ty).map (·.size) = some cs.length) (hg : w.heap[g]? = some (.cells (pre ++ (cs ++ post)).toArray T fr))
    (h : K (a.put o.dst (.agg cs.toArray)) w) : o.wp P a w K Q :=
  wp_load_mid ty x ho g pre.length hx cs d (range_in hg) hu hd hi h
theorem wpl_load_in (hgd : o.guard = none) (ty : TypeId) (x : Operand) (ho : o.op = .load ty x) {g : Nat} (pre cs post : List Value) {T : TypeId} {fr : Nat × Nat} (d : TypeDesc) (hx : a.eval x = .pointer (some ⟨g, pre.length, none⟩))
    (hu : P.underlying ty = some d) (hd : d.isRow = true) (hi : (P.info? ty).map (·.size) = some cs.length) (hg : w.heap[g]? = some (.cells (pre ++ (cs ++ post)).toArray T fr))
    (h : wpList P ops Q rest (a.put o.dst (.agg cs.toArray)) w) : wpList P ops Q (o :: rest) a w :=
  wpList_load_mid hgd ty x ho g pre.length hx cs d (range_in hg) hu hd hi h
end

end Go.Proofs.YtkcpfhbfjpldhaaGreatDoor

/- awake24: the whole in memory. -/
namespace Go.Proofs.YtkcpfhbfjpldhaaGreatDoor
open Go.RowKit
set_option linter.unusedVariables false

theorem blk_ne' {w : World} {a b : Nat} {cs cs' : Array Value} {T T' : TypeId} {fr fr' : Nat × Nat} (ha : w.heap[a]? = some (.cells cs T fr)) (hb : w.heap[b]? = some (.cells cs' T' fr')) (hn : T ≠ T') : a ≠ b := by
  intro e
  rw [e, hb] at ha
  injection ha with ha
  injection ha with _ ha _
  exact hn ha.symm
def confC : List Value := [.int .i64 2, .int .i64 4, .int .i64 20, .int .i64 4, .int .i64 6, .int .i64 4, .int .i64 4, .int .i64 8, .int .i64 6, .int .i64 3, .int .i64 8]
/-- a control with an empty queue of calls -/
def CtlV (s : Nat) (v : Value) (W : World) : Prop := ∃ C A Q cs, v = .pointer (some ⟨C, 0, none⟩) ∧ A ≠ Q ∧ s ≤ A ∧ s ≤ Q ∧ s ≤ C ∧
  W.heap[A]? = some (.cells #[.int .i64 0, .slice none 0 0, .int .i64 0, .slice none 0 0, .int .i64 0, .slice none 0 0, .int .i64 0, .slice none 0 0] 158 (0, 0)) ∧
  W.heap[Q]? = some (.cells #[.slice (some ⟨A, 0, none⟩) 4 4, .int .i64 0, .int .i64 0] 250 (0, 0)) ∧
  W.heap[C]? = some (.cells cs 173 (0, 0)) ∧ cs[11]? = some (.pointer (some ⟨Q, 0, none⟩))
theorem CtlV.le {s : Nat} {v : Value} {w w' : World} (h : CtlV s v w) (hl : Le w w') : CtlV s v w' := by
  obtain ⟨C, A, Q, cs, h1, h2, h3, h4, h5, h6, h7, h8, h9⟩ := h
  exact ⟨C, A, Q, cs, h1, h2, h3, h4, h5, hl.heap h6, hl.heap h7, hl.heap h8, h9⟩
theorem CtlV.mono {s s' : Nat} {v : Value} {w : World} (h : CtlV s v w) (hs : s' ≤ s) : CtlV s' v w := by
  obtain ⟨C, A, Q, cs, h1, h2, h3, h4, h5, h6⟩ := h
  exact ⟨C, A, Q, cs, h1, h2, by omega, by omega, by omega, h6⟩
theorem CtlV.grown {s : Nat} {v : Value} {w w' : World} (h : CtlV s v w) {row : Option Nat} (hg : w.grownBy w' row) (hne : ∀ k cs t fr, w.heap[k]? = some (.cells cs t fr) → t = 158 ∨ t = 250 ∨ t = 173 → row ≠ some k) : CtlV s v w' := by
  obtain ⟨C, A, Q, cs, h1, h2, h3, h4, h5, h6, h7, h8, h9⟩ := h
  exact ⟨C, A, Q, cs, h1, h2, h3, h4, h5, heap_grown hg h6 (hne _ _ _ _ h6 (.inl rfl)), heap_grown hg h7 (hne _ _ _ _ h7 (.inr (.inl rfl))), heap_grown hg h8 (hne _ _ _ _ h8 (.inr (.inr rfl))), h9⟩
/-- the whole's cells -/
def wholeC (a p b : Nat) (c ws ev : Value) : Array Value := #[.int .i64 2, .int .i64 4, .int .i64 20, .int .i64 4, .int .i64 6, .int .i64 4, .int .i64 4, .int .i64 8, .int .i64 6, .int .i64 3, .int .i64 8, .pointer (some ⟨a, 0, none⟩), .pointer (some ⟨p, 0, none⟩), .pointer (some ⟨b, 0, none⟩), c, ws, .slice none 0 0, ev]
/-- the whole, while it is made -/
structure Half (s : Nat) (W : World) (B a p b : Nat) (c : Value) (k : Nat) (ws : Value) (xs : List Value) : Prop where
  sB : s ≤ B
  hB : W.heap[B]? = some (.cells (wholeC a p b c ws (.slice none 0 0)) 107 (0, 0))
  hc : CtlV s c W
  hw : W.ownsRow s 109 1 ws k xs
theorem Half.le {s : Nat} {w w' : World} {B a p b : Nat} {c : Value} {k : Nat} {ws : Value} {xs : List Value} (h : Half s w B a p b c k ws xs) (hl : Le w w') : Half s w' B a p b c k ws xs :=
  ⟨h.sB, hl.heap h.hB, h.hc.le hl, hl.own h.hw⟩
theorem slWk : SlT Tryz.prog 104 109 (.pointer none) 1 8 := ⟨Tryz.underlying104, by kernel_rfl, rfl, by omega⟩
theorem Half.push {s : Nat} {w w2 : World} {B a p b : Nat} {c : Value} {k k' : Nat} {ws ws' : Value} {xs xs' : List Value} (h : Half s w B a p b c k ws xs) (hg : w.grownBy w2 ws.ownBlock) (ho : w2.ownsRow s 109 1 ws' k' xs') : Half s (w2.setCell ⟨B, 15, none⟩ ws') B a p b c k' ws' xs' := by
  have h1 := heap_grown hg h.hB (own_ne h.hw h.hB (by decide))
  refine ⟨h.sB, heap_set (i := 15) ws' h1, (h.hc.grown hg ?_).grown (grown_set _) ?_, ownsRow_setCell_other (a := ⟨B, 15, none⟩) ho (own_ne ho h1 (by decide)) _⟩
  · intro k cs t fr hk ht
    refine own_ne h.hw hk ?_
    rintro rfl
    revert ht
    decide
  · intro k cs t fr hk ht e
    injection e with e
    subst e
    rw [h1] at hk
    injection hk with hk
    injection hk with _ hk _
    subst hk
    revert ht
    decide
end Go.Proofs.YtkcpfhbfjpldhaaGreatDoor
