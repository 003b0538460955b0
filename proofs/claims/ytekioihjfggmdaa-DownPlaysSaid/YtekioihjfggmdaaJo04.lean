/- Texts of one claim, laid together: Tail Mid W Part -/
import Derived.StillTailTactics
import Derived.Deep.MidRow
import Derived.Test.YtekioihjfggmdaaJo03
/- A region by facts, with operations at its end that come up in one order alone. -/
namespace Go.Proofs.Ytekioihjfggmdaa
open Go.RowKit
set_option linter.unusedVariables false

def tailOk (ops : Array Oper) (m : Nat) : Bool :=
  decide (m < ops.size) && Region.sinkB .any ops m && Region.chainB .any ops m && Region.seqB .any ops (ops.size - m) m (List.replicate m true ++ List.replicate (ops.size - m) false).toArray

def unl (m : Nat) (listed : Array Bool) : Nat := (listed.toList.take m).countP (fun b => !b)

section
variable {P : Program} {Q : Exit → Act → World → Prop} {R : World → World → Prop} {Φ : List Fact} {ds : List (List Nat)} {a0 : Act} {w0 : World} {l : List Oper} {m : Nat}

theorem wpAny_facts_tail (hok : regOk (l.take m).toArray ds = true) (hΦ : Φ.length = (l.take m).length) (htl : tailOk l.toArray m = true) (htr : ∀ a b c, R a b → R b c → R a c) (hst : StAll R Φ)
    (h : AllV (l.take m) fun vs => Obl P l.toArray Q R w0 Φ (putAll (l.take m) vs a0) vs (l.take m) Φ ds ∧ ∀ w, R w0 w → allFacts w Φ vs (wpList P l.toArray Q (l.drop m) (putAll (l.take m) vs a0) w)) :
    ∀ (f : Nat) (listed : Array Bool) (a : Act) (w : World), HeadInv .any l.toArray m listed → unl m listed = f → R w0 w →
      (∃ vs : List Value, vs.length = (l.take m).length ∧ a = putAll (l.take m) vs a0 ∧ ∀ i, i < m → listed.getD i false = true → factAt Φ vs w i) → wpAny P .any l.toArray Q (f + (l.toArray.size - m)) listed a w := by
  simp only [tailOk, Bool.and_eq_true, decide_eq_true_eq] at htl
  obtain ⟨⟨⟨hm, hsink⟩, hchain⟩, hseq⟩ := htl
  have hml : m < l.length := by simpa using hm
  have htk : (l.take m).length = m := by simp; omega
  have hget : ∀ i, i < m → (l.take m).toArray[i]? = l.toArray[i]? := fun i hi => by simp [hi]
  simp only [regOk, Bool.and_eq_true, beq_iff_eq, decide_eq_true_eq] at hok
  obtain ⟨⟨⟨hdl, hnd⟩, hfw⟩, hdp⟩ := hok
  have hsz : (l.take m).toArray.size = m := by simp; omega
  rw [hsz] at hfw hdp hdl
  have hnd : ((l.take m).filterMap (·.dst)).Nodup := by simpa using hnd
  have hready : ∀ (listed : Array Bool), HeadInv .any l.toArray m listed → (∃ i, i < m ∧ listed.getD i true = false) → Region.ready .any l.toArray listed ≠ [] := by
    rintro listed inv ⟨i, hi, hb⟩
    induction i using Nat.strongRecOn with
    | _ i ih =>
      by_cases hex : ∃ j, j < i ∧ listed.getD j true = false
      · obtain ⟨j, hj, hb'⟩ := hex
        exact ih j hj (by omega) hb'
      · have hin : i < l.toArray.size := by omega
        have hmem : i ∈ Region.ready .any l.toArray listed := by
          refine mem_ready.2 ⟨hb, l.toArray[i], by simp at hin; simp [hin], fun e he hbd => ?_⟩
          have h1 := List.all_eq_true.1 hfw i (by simpa using hi)
          rw [hget i hi, Array.getElem?_eq_getElem hin] at h1
          have h2 := Array.all_eq_true_iff_forall_mem.1 h1 e he
          simp only [hbd, Bool.not_true, Bool.false_or, decide_eq_true_eq] at h2
          cases hl : listed.getD e.on false with
          | true => rfl
          | false =>
            exact absurd ⟨e.on, h2, getD_in (by rw [inv.size]; omega) hl⟩ hex
        intro h0
        rw [h0] at hmem
        cases hmem
  intro f
  induction f with
  | zero =>
    intro listed a w inv hu hw ⟨vs, hl, ha, hf⟩
    subst ha
    have hall : ∀ i, i < m → listed.getD i false = true := fun i hi => by
      have hlt : i < listed.toList.length := by simp [inv.size]; simp at hm; omega
      have h0 := List.countP_eq_zero.1 hu (listed.toList[i]) (List.mem_of_getElem? (i := i) (by rw [List.getElem?_take_of_lt hi, List.getElem?_eq_getElem hlt]))
      simp at hlt
      simp [hlt] at h0 ⊢
      exact h0
    have hle : listed = (List.replicate m true ++ List.replicate (l.toArray.size - m) false).toArray := by
      apply Array.ext
      · rw [inv.size]; simp; omega
      · intro i h1 h2
        by_cases hi : i < m
        · have := hall i hi
          simp [h1] at this
          rw [this]
          simp [hi]
        · have := inv.tail i (by omega) (by rw [← inv.size]; exact h1)
          simp [h1] at this
          rw [this, List.getElem_toArray, List.getElem_append_right (by simp; omega)]
          simp
    have hq := ((h.use vs (by simpa using hl)).2 w hw).use (fun i φ v h1 h2 => by
      have hi : i < m := by have := (List.getElem?_eq_some_iff.1 h1).1; omega
      have := hf i hi (hall i hi)
      rw [factAt, h1, h2] at this
      exact this)
    have := wpAny_of_seq (md := .any) (Q' := Q) (ops := l.toArray) (l.drop m) m listed _ w (fun j => by simp [List.getElem?_drop]) (by rw [hle]; simpa using hseq) hq
    simpa using this
  | succ f ih =>
    intro listed a w inv hu hw ⟨vs, hl, ha, hf⟩
    subst ha
    have hex : ∃ i, i < m ∧ listed.getD i true = false := by
      have hp : 0 < (listed.toList.take m).countP (fun b => !b) := by unfold unl at hu; omega
      obtain ⟨b, hb, hbf⟩ := List.countP_pos_iff.1 hp
      obtain ⟨i, hi, rfl⟩ := List.getElem_of_mem hb
      simp only [List.length_take] at hi
      refine ⟨i, by omega, ?_⟩
      have hi2 : i < listed.size := by simp at hi; omega
      simp at hbf
      simp [hi2, hbf]
    rw [show f + 1 + (l.toArray.size - m) = (f + (l.toArray.size - m)) + 1 by omega]
    refine ⟨fun hr => absurd hr (hready listed inv hex), fun i hi => ?_⟩
    have him : i < m := by
      obtain ⟨i0, hi0, hb0⟩ := hex
      rcases Nat.lt_or_ge i m with h' | h'
      · exact h'
      · exact absurd hi (tail_waits hsink hchain hm inv _ i0 rfl hi0 hb0 i h')
    obtain ⟨h0, o, ho, hall⟩ := mem_ready.1 hi
    have hlt : i < listed.size := by rw [inv.size]; omega
    have ho' : (l.take m)[i]? = some o := by
      have := hget i him
      rw [ho] at this
      simpa using this
    obtain ⟨φ, hφ⟩ : ∃ φ, Φ[i]? = some φ := ⟨Φ[i]'(by omega), by simp⟩
    obtain ⟨d, hd⟩ : ∃ d, ds[i]? = some d := ⟨ds[i]'(by omega), by simp⟩
    have hO := ((h.use vs (by simpa using hl)).1.use i o φ d ho' hφ hd w hw).use (fun j hj => by
      have h2 := List.all_eq_true.1 hdp i (by simpa using him)
      rw [hget i him, ho, hd] at h2
      simp only at h2
      have h3 := List.all_eq_true.1 h2 j hj
      obtain ⟨e, he, hb⟩ := Array.any_eq_true'.1 h3
      simp only [Bool.and_eq_true, beq_iff_eq] at hb
      have h4 := List.all_eq_true.1 hfw i (by simpa using him)
      rw [hget i him, ho] at h4
      have h5 := Array.all_eq_true_iff_forall_mem.1 h4 e he
      simp only [hb.1, Bool.not_true, Bool.false_or, decide_eq_true_eq] at h5
      rw [← hb.2]
      exact hf _ (by omega) (hall e he hb.1))
    refine wpOp_step ho fun K hK => hO K fun v w' hR hv => hK _ _ ?_
    refine ih _ _ _ (inv.set hi him) ?_ (htr _ _ _ hw hR) ⟨vs.set i v, by simpa using hl, putAll_set _ _ _ _ _ _ hnd (by simpa using hl) ho', fun k hkm hk => ?_⟩
    · have h1 : (listed.toList.take m)[i]? = some false := by
        rw [List.getElem?_take_of_lt him]
        simp [hlt] at h0 ⊢
        exact h0
      have := countP_set _ _ h1
      unfold unl at hu ⊢
      have e : (listed.setIfInBounds i true).toList.take m = (listed.toList.take m).set i true := by
        rw [← List.take_set]
        simp
      rw [e]
      omega
    · by_cases hki : k = i
      · subst hki
        have hsv : (vs.set k v)[k]? = some v := List.getElem?_set_self (by omega)
        rw [factAt, hφ, hsv]
        exact hv
      · have h4 := hf k hkm (by rwa [getD_set_ne false (fun e => hki e.symm)] at hk)
        have hsv : (vs.set i v)[k]? = vs[k]? := by simp [Ne.symm hki]
        unfold factAt at h4 ⊢
        rw [hsv]
        cases hk1 : Φ[k]? with
        | none => trivial
        | some φ' =>
          cases hk2 : vs[k]? with
          | none => trivial
          | some u =>
            simp only [hk1, hk2] at h4 ⊢
            exact hst.use φ' (List.mem_of_getElem? hk1) u w w' hR h4

theorem wp_region_tail {id : Nat} (m n k : Nat) (R : World → World → Prop) (Φ : List Fact) (ds : List (List Nat)) (hm : P.follows .mixedOrders = true) (hok : regOk (l.take m).toArray ds = true) (hΦ : (Φ.length == (l.take m).length) = true) (htl : tailOk l.toArray m = true)
    (hrow : rowOk (l.take m) n k a0.tmps.size = true) (hrf : ∀ a, R a a) (htr : ∀ a b c, R a b → R b c → R a c) (hst : StAll R Φ)
    (h : AllV (l.take m) fun vs => Obl2 P l.toArray Q R w0.drew Φ (actOf (l.take m) n k a0) vs 0 (l.take m) Φ ds ∧ ∀ w, R w0.drew w → allFacts w Φ vs (wpList P l.toArray Q (l.drop m) (actOf (l.take m) n k a0 vs) w)) : (Code.region id l.toArray true).wp P Q a0 w0 := by
  have hn : ((l.take m).filterMap (·.dst)).Nodup := by
    simp only [regOk, Bool.and_eq_true, beq_iff_eq, decide_eq_true_eq] at hok
    exact hok.1.1.2
  have hall : ∀ {os : List Oper} {p q : List Value → Prop}, (∀ vs : List Value, vs.length = os.length → p vs → q vs) → AllV os p → AllV os q := by
    intro os
    induction os with
    | nil => intro p q h1 h2; exact h1 [] rfl h2
    | cons o os ih => intro p q h1 h2 v; exact ih (fun vs hl hp => h1 (v :: vs) (by simp [hl]) hp) (h2 v)
  have hobl : ∀ (vs : List Value), vs.length = (l.take m).length → ∀ (os : List Oper) (i : Nat) (φs : List Fact) (ds : List (List Nat)), (∀ j, os[j]? = (l.take m)[i + j]?) →
      Obl2 P l.toArray Q R w0.drew Φ (actOf (l.take m) n k a0) vs i os φs ds → Obl P l.toArray Q R w0.drew Φ (putAll (l.take m) vs a0) vs os φs ds := by
    intro vs hl os
    induction os with
    | nil => intro i φs ds _ _; simp [Obl]
    | cons o os ih =>
      intro i φs ds hi hh
      match φs, ds with
      | [], _ => simp [Obl]
      | _ :: _, [] => simp [Obl]
      | φ :: φs, d :: ds =>
        refine ⟨fun w hw => Leans.mono (fun hh K hK => ?_) (hh.1 w hw), ih (i + 1) φs ds (fun j => ?_) hh.2⟩
        · have ho : (l.take m)[i]? = some o := by simpa using (hi 0).symm
          have e : ∀ v, (putAll (l.take m) vs a0).put o.dst v = actOf (l.take m) n k a0 (vs.set i v) := fun v => by
            rw [putAll_set (l.take m) vs a0 i o v hn hl ho, actOf_eq hrow (by simpa using hl)]
          have := hh K (fun v w' h1 h2 => by rw [← e]; exact hK v w' h1 h2)
          rw [actOf_eq hrow hl, ← e] at this
          exact this
        · have := hi (j + 1)
          rw [show i + 1 + j = i + (j + 1) by omega, ← this]
          simp
  refine wp_region_any hm ?_
  have hmt := htl
  simp only [tailOk, Bool.and_eq_true, decide_eq_true_eq] at hmt
  have hml : m < l.length := by simpa using hmt.1.1.1
  obtain ⟨vs, hl, he⟩ := putAll_self (l.take m) a0
  have inv0 : HeadInv .any l.toArray m (Array.replicate l.toArray.size false) :=
    ⟨by simp, fun j oj _ hl => (by rw [getD_replicate_false] at hl; cases hl), fun t _ ht => getD_in (by simpa using ht) (getD_replicate_false _ _)⟩
  have hu : unl m (Array.replicate l.toArray.size false) = m := by
    unfold unl
    rw [List.countP_eq_length.2 (fun b hb => by
      have := List.mem_of_mem_take hb
      simp at this
      rw [this.2]; rfl)]
    simp; omega
  have := wpAny_facts_tail (a0 := a0) (w0 := w0.drew) (Q := Q) (l := l) (m := m) hok (by simpa using hΦ) htl htr hst
    (hall (fun vs hl hp => ⟨hobl vs hl (l.take m) 0 Φ ds (fun j => by simp) hp.1, fun w hw => by have := hp.2 w hw; rwa [actOf_eq hrow hl] at this⟩) h)
    m _ a0 w0.drew inv0 hu (hrf _) ⟨vs, hl, he.symm, fun i hi hb => by rw [getD_replicate_false] at hb; cases hb⟩
  rw [show m + (l.toArray.size - m) = l.toArray.size by simp; omega] at this
  exact this
end
end Go.Proofs.Ytekioihjfggmdaa

/- A whole struct loaded from, or stored into, a block that is known whole. -/
namespace Go.Proofs.Ytekioihjfggmdaa
open Go.RowKit
set_option linter.unusedVariables false

theorem setCells_grown (g : Nat) : ∀ (vs : List Value) (o : Nat) (w : World), w.grownBy (w.setCells g o vs) (some g)
  | [], _, w => World.grownBy.refl w _
  | v :: vs, o, w => by
    have h1 : w.grownBy (w.setCell ⟨g, o, none⟩ v) (some g) := grown_set v
    have h2 := setCells_grown g vs (o + 1) (w.setCell ⟨g, o, none⟩ v)
    exact ⟨h2.os.trans h1.os, h2.tape.trans h1.tape, h2.output.trans h1.output, Nat.le_trans h1.size h2.size, fun k hk hne => (h2.block k (Nat.lt_of_lt_of_le hk h1.size) hne).trans (h1.block k hk hne)⟩
theorem heap_setCells (g : Nat) {T : TypeId} {fr : Nat × Nat} : ∀ (vs pre old : List Value) (w : World), old.length = vs.length → w.heap[g]? = some (.cells (pre ++ old).toArray T fr) → (w.setCells g pre.length vs).heap[g]? = some (.cells (pre ++ vs).toArray T fr)
  | [], pre, old, w, hl, h => by
    obtain rfl := List.eq_nil_of_length_eq_zero hl
    exact h
  | v :: vs, pre, [], w, hl, h => by simp at hl
  | v :: vs, pre, u :: old, w, hl, h => by
    have h1 := heap_set (i := pre.length) v h
    have e : (pre ++ u :: old).toArray.setIfInBounds pre.length v = ((pre ++ [v]) ++ old).toArray := by simp
    rw [e] at h1
    have := heap_setCells g vs (pre ++ [v]) old _ (by simpa using hl) h1
    simpa [World.setCells] using this
theorem there_block {w : World} {g : Nat} {cs : List Value} {T : TypeId} (h : w.heap[g]? = some (.cells cs.toArray T (0, 0))) : w.there g 0 cs.length := fun j hj => by
  rw [Nat.zero_add, cell_block h, free_block h]
  simp [hj]
theorem range_block {w : World} {g : Nat} {cs : List Value} {T : TypeId} {fr : Nat × Nat} (h : w.heap[g]? = some (.cells cs.toArray T fr)) : w.rangeAt g 0 cs := fun j v hj => by
  rw [Nat.zero_add, cell_block h]
  simpa using hj

section
variable {P : Program} {ops : Array Oper} {rest : List Oper} {o : Oper} {a : Act} {w : World} {Q : Exit → Act → World → Prop}
theorem wp_store_blk {K : Act → World → Prop} (ty : TypeId) (x y : Operand) (ho : o.op = .store ty x y) {g : Nat} {cs old : List Value} {T : TypeId} (hx : a.eval x = .pointer (some ⟨g, 0, none⟩)) (hy : a.eval y = .agg cs.toArray)
    (hi : (P.info? ty).map (·.size) = some cs.length) (h1 : ∀ v ∈ cs, v.oneCell' = true) (hg : w.heap[g]? = some (.cells old.toArray T (0, 0))) (hl : old.length = cs.length)
    (h : ∀ w', w'.heap[g]? = some (.cells cs.toArray T (0, 0)) → w.grownBy w' (some g) → K (a.put o.dst undef) w') : o.wp P a w K Q := by
  refine wp_store_mid ty x y ho g 0 cs.toArray hx hy (by have := there_block hg; rw [hl] at this; simpa using this) (by simpa using hi) (all_oneCell_toArray h1) (h _ ?_ ?_)
  · have := heap_setCells g cs [] old w hl (by simpa using hg)
    simpa using this
  · exact setCells_grown g _ 0 w
theorem wpl_store_blk (hgd : o.guard = none) (ty : TypeId) (x y : Operand) (ho : o.op = .store ty x y) {g : Nat} {cs old : List Value} {T : TypeId} (hx : a.eval x = .pointer (some ⟨g, 0, none⟩)) (hy : a.eval y = .agg cs.toArray)
    (hi : (P.info? ty).map (·.size) = some cs.length) (h1 : ∀ v ∈ cs, v.oneCell' = true) (hg : w.heap[g]? = some (.cells old.toArray T (0, 0))) (hl : old.length = cs.length)
    (h : ∀ w', w'.heap[g]? = some (.cells cs.toArray T (0, 0)) → w.grownBy w' (some g) → wpList P ops Q rest (a.put o.dst undef) w') : wpList P ops Q (o :: rest) a w :=
  wpList_plain hgd fun _ hK => wp_store_blk ty x y ho hx hy hi h1 hg hl fun w' h2 h3 => hK _ _ (h w' h2 h3)
theorem wp_load_blk {K : Act → World → Prop} (ty : TypeId) (x : Operand) (ho : o.op = .load ty x) {g : Nat} {cs : List Value} {T : TypeId} {fr : Nat × Nat} (d : TypeDesc) (hx : a.eval x = .pointer (some ⟨g, 0, none⟩))
    (hu : P.underlying ty = some d) (hd : d.isRow = true) (hi : (P.info? ty).map (·.size) = some cs.length) (hg : w.heap[g]? = some (.cells cs.toArray T fr))
    (h : K (a.put o.dst (.agg cs.toArray)) w) : o.wp P a w K Q :=
  wp_load_mid ty x ho g 0 hx cs d (range_block hg) hu hd hi h
theorem wpl_load_blk (hgd : o.guard = none) (ty : TypeId) (x : Operand) (ho : o.op = .load ty x) {g : Nat} {cs : List Value} {T : TypeId} {fr : Nat × Nat} (d : TypeDesc) (hx : a.eval x = .pointer (some ⟨g, 0, none⟩))
    (hu : P.underlying ty = some d) (hd : d.isRow = true) (hi : (P.info? ty).map (·.size) = some cs.length) (hg : w.heap[g]? = some (.cells cs.toArray T fr))
    (h : wpList P ops Q rest (a.put o.dst (.agg cs.toArray)) w) : wpList P ops Q (o :: rest) a w :=
  wpList_load_mid hgd ty x ho g 0 hx cs d (range_block hg) hu hd hi h
end
end Go.Proofs.Ytekioihjfggmdaa

/- Words for walks: cells of a box, conversions, slices cut. -/
namespace Go.Proofs.Ytekioihjfggmdaa
open Go.RowKit
set_option linter.unusedVariables false

theorem box_cell {wb : World} {p : Nat} {cs : Array Value} {T : TypeId} {fr : Nat × Nat} (h : wb.heap[p]? = some (.cells cs T fr)) (i : Nat) (v : Value) (hv : cs[i]? = some v) : ∀ W, Le wb W → W.cell? ⟨p, i, none⟩ = some v :=
  fun W hW => (cell_block (hW.heap h) i).trans hv
theorem conv_le {w : World} {A : Option Addr} {n cap : Nat} {l : List UInt8} (h : RSl 1 RU8 w l (.slice A n cap)) (W : World) (hW : Le w W) : (convert 44 9 (.slice A n cap)).run Try.prog W = .ok (.string (str l)) W :=
  conv_str (P := Try.prog) W 44 9 5 A n cap l Try.underlying44 Try.underlying5 Try.underlying9 (hW.rsl keeps_u8 h)
theorem wrap_u8 (x : Nat) : IntKind.u8.wrap (x : Int) = ((UInt8.ofNat x).toNat : Int) := by
  have : IntKind.u8.wrap (x : Int) = (x : Int) % 256 := by simp [IntKind.wrap, IntKind.bits, IntKind.signed]
  rw [this, UInt8.toNat_ofNat']; omega
theorem cells_at {w : World} {l : List Value} {t : TypeId} {p : Nat} (h : w.heap.size = p) : Cells (w.alloc (.cells l.toArray t)) (some ⟨p, 0, none⟩) l := by
  subst h; exact cells_new w l t
theorem heap_at {w : World} {o : Obj} {p : Nat} (h : w.heap.size = p) : (w.alloc o).heap[p]? = some o := by
  subst h; exact heap_alloc_new w o
/-- a slice that is not empty has a place -/
theorem rsl_addr {α : Type} {size : Nat} {R : Rd α} {w : World} {l : List α} {A : Option Addr} {n cap : Nat} (h : RSl size R w l (.slice A n cap)) (hne : 0 < l.length) : ∃ b off, A = some ⟨b, off, none⟩ := by
  obtain ⟨A', c', hv, _, hi⟩ := h
  injection hv with e1 e2 e3
  subst e1
  obtain ⟨b, off, e, _⟩ := hi (by rintro rfl; simp at hne)
  exact ⟨b, off, e⟩
theorem Le.own {w w' : World} (h : Le w w') {base : Nat} {e : TypeId} {size n : Nat} {v : Value} {xs : List Value} (ho : w.ownsRow base e size v n xs) : w'.ownsRow base e size v n xs := own_below ho h.out (Nat.le_refl _)
end Go.Proofs.Ytekioihjfggmdaa

/- Parts as cells; a value that comes back while old blocks stay. -/
namespace Go.Proofs.Ytekioihjfggmdaa
open Go.RowKit
set_option linter.unusedVariables false

/-- a value comes back, old blocks stay -/
def Gives (w : World) (v : Value) (r : Ending) (w' : World) : Prop := r = .returned v ∧ Below w.heap.size w w'
def encPart (p : Nat × Int) : List Value := [.int .u64 p.1, .int .i64 p.2]
theorem rsl_parts {w : World} {l : List (Nat × Int)} {A : Option Addr} {n cap : Nat} (hn : n = l.length) (hcap : n ≤ cap) (hx : ∀ p ∈ l, (p.1 : Int) < 18446744073709551616) (hc : Cells w A (l.flatMap encPart)) : RSl 2 RPart w l (.slice A n cap) :=
  rsl_of_cells hn hcap (fun _ _ => rfl) (fun x h => ⟨rfl, hx x h⟩) (by omega) hc
end Go.Proofs.Ytekioihjfggmdaa
