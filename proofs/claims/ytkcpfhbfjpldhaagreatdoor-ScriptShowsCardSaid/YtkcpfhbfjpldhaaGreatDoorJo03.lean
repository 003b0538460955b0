/- Texts of one claim, laid together: Held Reg Row -/
import Derived.Deep.RegionHeld3
import Derived.Deep.DeepCutAuto
import Derived.Deep.QuietTactic
import Derived.BigQuiet
import Derived.Test.YtkcpfhbfjpldhaaGreatDoorJo02
/- Words for a region whose order is open: what holds of every world on the way. -/
namespace Go.Proofs.YtkcpfhbfjpldhaaGreatDoor
open Go.RowKit
set_option linter.unusedVariables false

theorem below_swap {B : Nat} {a w : World} {o o' : Obj} (h : Below B a (w.alloc o)) (hB : B ≤ w.heap.size) : Below B a (w.alloc o') :=
  ⟨h.os, h.tape, h.output, by simpa using h.size, fun k hk => by
    rw [← h.block k hk, Below.heap_alloc _ _ _ (by omega), Below.heap_alloc _ _ _ (by omega)]⟩

theorem quietL {P : Program} {f : FuncId} {args : Array Value} {w : World} {n : Nat} {v : Value} (h : Calls P f args (w.drewN n) fun e w' => e = .returned v ∧ w.drewN n = w') :
    Calls P f args (w.drewN n) fun e w'' => e = .returned v ∧ ∃ m, w'' = w.drewN m := h.mono fun _ _ ⟨he, hm⟩ => ⟨he, n, hm.symm⟩
section
variable {w w' : World} {o o' : Obj}
theorem hk0 : Below w.heap.size w w.drew := (Below.refl _ _).drew
theorem hkA : Below w.heap.size w (w.drew.alloc o) := (Below.refl _ _).drew.alloc (Nat.le_refl _) o
theorem hkC (h : Below w.drew.heap.size w.drew w') : Below w.heap.size w w' := (Below.refl _ _).drew.trans h
theorem hkCA (h : Below w.drew.heap.size w.drew w') : Below w.heap.size w (w'.alloc o) := (hkC h).alloc h.size o
theorem hkAC (h : Below (w.drew.alloc o).heap.size (w.drew.alloc o) w') : Below w.heap.size w w' := (hkA (o := o)).trans (h.mono (by simp))
theorem hkACS (h : Below (w.drew.alloc o).heap.size (w.drew.alloc o) w') {i : Nat} {u : Value} : Below w.heap.size w (w'.setCell ⟨w.heap.size, i, none⟩ u) := (hkAC h).setCell (Nat.le_refl _) u
theorem hkACSS (h : Below (w.drew.alloc o).heap.size (w.drew.alloc o) w') {i j : Nat} {u v : Value} : Below w.heap.size w ((w'.setCell ⟨w.heap.size, i, none⟩ u).setCell ⟨w.heap.size, j, none⟩ v) := (hkACS h).setCell (Nat.le_refl _) v
end

theorem held0 {w0 w' : World} (h : Below w0.heap.size w0 w') : Below w0.heap.size w0 w' ∧ True := ⟨h, trivial⟩
theorem held1 {w0 w' : World} (h : Below w0.heap.size w0 w') {a0 : Addr} {v0 : Value} (c0 : w0.cell? a0 = some v0) : Below w0.heap.size w0 w' ∧ w'.cell? a0 = some v0 := ⟨h, cell_later h c0⟩
theorem held2 {w0 w' : World} (h : Below w0.heap.size w0 w') {a0 a1 : Addr} {v0 v1 : Value} (c0 : w0.cell? a0 = some v0) (c1 : w0.cell? a1 = some v1) :
    Below w0.heap.size w0 w' ∧ w'.cell? a0 = some v0 ∧ w'.cell? a1 = some v1 := ⟨h, cell_later h c0, cell_later h c1⟩
theorem held3 {w0 w' : World} (h : Below w0.heap.size w0 w') {a0 a1 a2 : Addr} {v0 v1 v2 : Value} (c0 : w0.cell? a0 = some v0) (c1 : w0.cell? a1 = some v1) (c2 : w0.cell? a2 = some v2) :
    Below w0.heap.size w0 w' ∧ w'.cell? a0 = some v0 ∧ w'.cell? a1 = some v1 ∧ w'.cell? a2 = some v2 := ⟨h, cell_later h c0, cell_later h c1, cell_later h c2⟩
theorem held4 {w0 w' : World} (h : Below w0.heap.size w0 w') {a0 a1 a2 a3 : Addr} {v0 v1 v2 v3 : Value} (c0 : w0.cell? a0 = some v0) (c1 : w0.cell? a1 = some v1) (c2 : w0.cell? a2 = some v2) (c3 : w0.cell? a3 = some v3) :
    Below w0.heap.size w0 w' ∧ w'.cell? a0 = some v0 ∧ w'.cell? a1 = some v1 ∧ w'.cell? a2 = some v2 ∧ w'.cell? a3 = some v3 := ⟨h, cell_later h c0, cell_later h c1, cell_later h c2, cell_later h c3⟩

theorem rsl_take {α : Type} {size : Nat} {R : Rd α} {w : World} {l : List α} {A : Option Addr} {n cap k : Nat} (h : RSl size R w l (.slice A n cap)) (hk : k ≤ l.length) : RSl size R w (l.take k) (.slice A k cap) := by
  obtain ⟨A', cap', hv, hc, hr⟩ := h
  injection hv with e1 e2 e3
  subst e1 e2 e3
  refine ⟨A, cap, by simp; omega, by simp; omega, fun hne => ?_⟩
  obtain ⟨b, off, hA, hi⟩ := hr (by rintro rfl; simp at hne)
  refine ⟨b, off, hA, fun i hi' => ?_⟩
  obtain ⟨cs, h1, h2, h3⟩ := hi i (by simp at hi'; omega)
  exact ⟨cs, h1, h2, by simpa using h3⟩
theorem own_base {w : World} {base base' : Nat} {e : TypeId} {size n : Nat} {v : Value} {xs : List Value} (h : w.ownsRow base e size v n xs) (hb : base' ≤ base) : w.ownsRow base' e size v n xs := by
  refine ⟨h.1, ?_⟩
  rcases h.2 with h2 | ⟨g, cap, cur, h1, h2, h3⟩
  · exact .inl h2
  · exact .inr ⟨g, cap, cur, h1, Nat.le_trans hb h2, h3⟩
theorem own_rsl {α : Type} {size : Nat} {R : Rd α} {w : World} {l : List α} {v : Value} (h : RSl size R w l v) : ∃ A cap, v = .slice A l.length cap ∧ l.length ≤ cap ∧ True := by
  obtain ⟨A, cap, h1, h2, _⟩ := h
  exact ⟨A, cap, h1, h2, trivial⟩

theorem CutAt.set_other {w : World} {base p : Nat} {l : List UInt8} {e : Int} (h : CutAt w base p l e) {q i : Nat} {cs : Array Value} {t : TypeId} {fr : Nat × Nat} (hq : w.heap[q]? = some (.cells cs t fr)) (h1 : t ≠ 132) (h2 : t ≠ 5) (u : Value) :
    CutAt (w.setCell ⟨q, i, none⟩ u) base p l e := by
  obtain ⟨hb, A, cap, hp, hc, hd⟩ := h
  have hne : ∀ {g : Nat} {cs' : Array Value} {t' : TypeId} {fr' : Nat × Nat}, w.heap[g]? = some (.cells cs' t' fr') → t ≠ t' → g ≠ q := by
    intro g cs' t' fr' hg hn e
    rw [e, hq] at hg
    injection hg with hg
    injection hg with _ hg _
    exact hn hg
  refine ⟨hb, A, cap, heap_far u hp (hne hp h1), hc, fun hn => ?_⟩
  obtain ⟨g, off, cur, h3, h4, h5, h6⟩ := hd hn
  exact ⟨g, off, cur, h3, h4, heap_far u h5 (hne h5 h2), h6⟩
/-- append, at a step of a region that draws -/
theorem step_app {P : Program} {ops : Array Oper} {o : Oper} {a : Act} {w : World} {K : Act → World → Prop} {Q : Exit → Act → World → Prop} {E : Prop} (hgd : o.guard = none) {base : Nat} {t e : TypeId} {z : Value} {size bytes : Nat} (T : SlT P t e z size bytes)
    (s x : Operand) (ho : o.op = .call { callee := .builtin .append, args := #[s, x], argTypes := #[t, t] })
    {v : Value} {n : Nat} {xs : List Value} (hown : w.ownsRow base e size v n xs) (hs : a.eval s = v) (A : Option Addr) (m c : Nat) (hx : a.eval x = .slice A m c) {news : List Value} (hc : Cells w A news) (hl : news.length = m * size)
    (h1 : ∀ u ∈ news, u.oneCell' = true) (hbytes : (n + m) * bytes ≤ 140737488355328) (h63 : n + m ≤ 9223372036854775807) (hbase : base ≤ w.heap.size)
    (h : ∀ v' w', w'.ownsRow base e size v' (n + m) (xs ++ news) → w.grownBy w' v.ownBlock → (v'.ownBlock = v.ownBlock ∨ v'.ownBlock = some w.heap.size) → K (a.put o.dst v') w') :
    if Region.wanted o (yielded ops a.tmps) = true then Oper.wp P o a w K Q else E := by
  have hw : Region.wanted o (yielded ops a.tmps) = true := by simp [Region.wanted, hgd]
  rw [if_pos hw]
  exact wp_app T s x ho hown hs hx hc hl h1 hbytes h63 hbase h
end Go.Proofs.YtkcpfhbfjpldhaaGreatDoor

/- A region whose order is open, by facts that stay: what each operation leaves is said once, whatever came before it but what it waits for. -/
namespace Go.Proofs.YtkcpfhbfjpldhaaGreatDoor
open Go.RowKit
set_option linter.unusedVariables false

/-- later than -/
structure Le (w w' : World) : Prop where
  out : Below w.heap.size w w'
theorem Le.refl (w : World) : Le w w := ⟨Below.refl _ _⟩
theorem Le.trans {a b c : World} (h : Le a b) (h' : Le b c) : Le a c := ⟨h.out.trans (h'.out.mono h.out.size)⟩
theorem Le.drew {a b : World} (h : Le a b) : Le a b.drew := ⟨h.out.drew⟩
theorem Le.alloc {a b : World} (h : Le a b) (o : Obj) : Le a (b.alloc o) := ⟨h.out.alloc h.out.size o⟩

theorem alloc_size (w : World) (o : Obj) : (w.alloc o).heap.size = w.heap.size + 1 := by simp
theorem lt_of_heap {w : World} {k : Nat} {o : Obj} (h : w.heap[k]? = some o) : k < w.heap.size := (Array.getElem?_eq_some_iff.1 h).1
theorem Le.heap {w w' : World} (h : Le w w') {k : Nat} {o : Obj} (hk : w.heap[k]? = some o) : w'.heap[k]? = some o := heap_below h.out hk (lt_of_heap hk)
theorem Le.cell {w w' : World} (h : Le w w') {a : Addr} {v : Value} (hk : w.cell? a = some v) : w'.cell? a = some v := cell_later h.out hk
theorem Le.rsl {α : Type} {size : Nat} {R : Rd α} (hR : Keeps R) {w w' : World} {l : List α} {v : Value} (h : Le w w') (hr : RSl size R w l v) : RSl size R w' l v := hr.keep hR h.out
theorem Le.size {w w' : World} (h : Le w w') : w.heap.size ≤ w'.heap.size := h.out.size
theorem Le.drewN {a b : World} (h : Le a b) (n : Nat) : Le a (b.drewN n) := ⟨below_drewN h.out n⟩

/-- the frame behind operations, whose values are these -/
def putAll : List Oper → List Value → Act → Act
  | o :: os, v :: vs, a => putAll os vs (a.put o.dst v)
  | _, _, a => a

def AllV : List Oper → (List Value → Prop) → Prop
  | [], p => p []
  | _ :: os, p => ∀ v, AllV os fun vs => p (v :: vs)

abbrev Fact := Value → World → Prop
def Is (c : Value) : Fact := fun v _ => v = c
theorem Is.mk (c : Value) (w : World) : Is c c w := rfl
def factAt (Φ : List Fact) (vs : List Value) (w : World) (j : Nat) : Prop :=
  match Φ[j]?, vs[j]? with
  | some φ, some v => φ v w
  | _, _ => True

/-- facts that stay -/
def StAll (R : World → World → Prop) : List Fact → Prop
  | [] => True
  | φ :: φs => (∀ v w w', R w w' → φ v w → φ v w') ∧ StAll R φs
theorem StAll.use {R : World → World → Prop} : ∀ {Φ : List Fact}, StAll R Φ → ∀ φ ∈ Φ, ∀ v w w', R w w' → φ v w → φ v w'
  | φ :: φs, h, ψ, hm => by
    rcases List.mem_cons.1 hm with rfl | hm
    · exact h.1
    · exact StAll.use h.2 ψ hm
theorem St.is {R : World → World → Prop} {c : Value} : ∀ v w w', R w w' → Is c v w → Is c v w' := fun _ _ _ _ h => h

def Leans (Φ : List Fact) (vs : List Value) (w : World) : List Nat → Prop → Prop
  | [], p => p
  | j :: js, p => factAt Φ vs w j → Leans Φ vs w js p

section
variable (P : Program) (ops : Array Oper) (Q : Exit → Act → World → Prop) (R : World → World → Prop) (w0 : World) (Φ : List Fact) (a : Act) (vs : List Value)
def Obl : List Oper → List Fact → List (List Nat) → Prop
  | o :: os, φ :: φs, d :: ds => (∀ w, R w0 w → Leans Φ vs w d (∀ K : Act → World → Prop, (∀ v w', R w w' → φ v w' → K (a.put o.dst v) w') →
      if Region.wanted o (yielded ops a.tmps) = true then o.wp P a w K Q else K (a.put o.dst undef) w)) ∧ Obl os φs ds
  | _, _, _ => True
def allFacts (w : World) : List Fact → List Value → Prop → Prop
  | φ :: φs, v :: vs, p => φ v w → allFacts w φs vs p
  | _, _, p => p
end

/-- the bare condition on a region's text -/
def regOk (ops : Array Oper) (ds : List (List Nat)) : Bool :=
  ds.length == ops.size &&
  ((ops.toList.filterMap (·.dst)).Nodup : Bool) &&
  ((List.range ops.size).all fun i => match ops[i]? with | some o => o.after.all fun e => !Region.binds .any e || decide (e.on < i) | none => true) &&
  ((List.range ops.size).all fun i => match ops[i]?, ds[i]? with | some o, some d => d.all fun j => o.after.any fun e => Region.binds .any e && e.on == j | _, _ => true)

theorem AllV.use : ∀ {os : List Oper} {p : List Value → Prop}, AllV os p → ∀ vs : List Value, vs.length = os.length → p vs
  | [], _, h, [], _ => h
  | _ :: os, _, h, v :: vs, hl => AllV.use (h v) vs (by simpa using hl)
  | [], _, _, _ :: _, hl => by simp at hl
  | _ :: _, _, _, [], hl => by simp at hl

theorem Leans.use {Φ : List Fact} {vs : List Value} {w : World} {p : Prop} : ∀ {js : List Nat}, Leans Φ vs w js p → (∀ j ∈ js, factAt Φ vs w j) → p
  | [], h, _ => h
  | j :: js, h, hf => Leans.use (h (hf j (by simp))) fun k hk => hf k (by simp [hk])

theorem Obl.use {P ops Q R w0 Φ a vs} : ∀ {os : List Oper} {φs : List Fact} {ds : List (List Nat)}, Obl P ops Q R w0 Φ a vs os φs ds → ∀ (i : Nat) (o : Oper) (φ : Fact) (d : List Nat), os[i]? = some o → φs[i]? = some φ → ds[i]? = some d →
    ∀ w, R w0 w → Leans Φ vs w d (∀ K : Act → World → Prop, (∀ v w', R w w' → φ v w' → K (a.put o.dst v) w') →
      if Region.wanted o (yielded ops a.tmps) = true then o.wp P a w K Q else K (a.put o.dst undef) w)
  | o :: os, φ :: φs, d :: ds, h, 0, o', φ', d', ho, hφ, hd => by
    simp only [List.getElem?_cons_zero, Option.some.injEq] at ho hφ hd
    subst ho hφ hd
    exact h.1
  | o :: os, φ :: φs, d :: ds, h, i + 1, o', φ', d', ho, hφ, hd => Obl.use h.2 i o' φ' d' (by simpa using ho) (by simpa using hφ) (by simpa using hd)
  | [], _, _, _, _, _, _, _, ho, _, _ => by simp at ho
  | _ :: _, [], _, _, _, _, _, _, _, hφ, _ => by simp at hφ
  | _ :: _, _ :: _, [], _, _, _, _, _, _, _, hd => by simp at hd

theorem allFacts.use {w : World} {p : Prop} : ∀ {φs : List Fact} {vs : List Value}, allFacts w φs vs p → (∀ (i : Nat) (φ : Fact) (v : Value), φs[i]? = some φ → vs[i]? = some v → φ v w) → p
  | φ :: φs, v :: vs, h, hf => allFacts.use (h (hf 0 φ v rfl rfl)) fun i φ' v' h1 h2 => hf (i + 1) φ' v' (by simpa using h1) (by simpa using h2)
  | [], _, h, _ => h
  | _ :: _, [], h, _ => h

theorem put_self (a : Act) (d : Option Tmp) : ∃ v, a.put d v = a := by
  cases d with
  | none => exact ⟨undef, rfl⟩
  | some d =>
    refine ⟨a.tmps.getD d undef, ?_⟩
    simp only [Act.put]
    congr 1
    by_cases h : d < a.tmps.size
    · simp [h, Array.setIfInBounds]
    · simp [h, Array.setIfInBounds]

theorem putAll_self : ∀ (os : List Oper) (a : Act), ∃ vs : List Value, vs.length = os.length ∧ putAll os vs a = a
  | [], a => ⟨[], rfl, rfl⟩
  | o :: os, a => by
    obtain ⟨v, hv⟩ := put_self a o.dst
    obtain ⟨vs, hl, h⟩ := putAll_self os a
    exact ⟨v :: vs, by simp [hl], by simp only [putAll, hv, h]⟩

theorem put_putAll : ∀ (os : List Oper) (vs : List Value) (a : Act) (d : Option Tmp) (v : Value), (∀ t, d = some t → ∀ o ∈ os, o.dst ≠ some t) → (putAll os vs a).put d v = putAll os vs (a.put d v)
  | [], _, _, _, _, _ => rfl
  | o :: os, [], _, _, _, _ => rfl
  | o :: os, u :: vs, a, d, v, h => by
    simp only [putAll]
    rw [put_putAll os vs _ d v (fun t ht o' ho' => h t ht o' (by simp [ho']))]
    congr 1
    exact Act.put_comm a u v (fun t ht e => h t e o (by simp) ht)

theorem put_put (a : Act) (d : Option Tmp) (u v : Value) : (a.put d u).put d v = a.put d v := by
  cases d with
  | none => rfl
  | some d => simp [Act.put]

theorem putAll_set : ∀ (os : List Oper) (vs : List Value) (a : Act) (i : Nat) (o : Oper) (v : Value), (os.filterMap (·.dst)).Nodup → vs.length = os.length → os[i]? = some o → (putAll os vs a).put o.dst v = putAll os (vs.set i v) a
  | [], _, _, _, _, _, _, _, h => by simp at h
  | _ :: _, [], _, _, _, _, _, h, _ => by simp at h
  | o :: os, u :: vs, a, 0, o', v, hn, hl, h => by
    simp only [List.getElem?_cons_zero, Option.some.injEq] at h
    subst h
    simp only [putAll, List.set_cons_zero]
    rw [put_putAll _ _ _ _ _ (fun t ht o' ho' e => ?_), put_put]
    rw [List.filterMap_cons, ht] at hn
    simp only [List.nodup_cons, List.mem_filterMap] at hn
    exact hn.1 ⟨o', ho', e⟩
  | o :: os, u :: vs, a, i + 1, o', v, hn, hl, h => by
    simp only [putAll, List.set_cons_succ]
    refine putAll_set os vs _ i o' v ?_ (by simpa using hl) (by simpa using h)
    rw [List.filterMap_cons] at hn
    cases hd : o.dst with
    | none => rw [hd] at hn; exact hn
    | some t => rw [hd] at hn; exact (List.nodup_cons.1 hn).2

def unlisted (listed : Array Bool) : Nat := listed.toList.countP (fun b => !b)
theorem countP_set : ∀ (l : List Bool) (i : Nat), l[i]? = some false → (l.set i true).countP (fun b => !b) + 1 = l.countP (fun b => !b)
  | [], _, h => by simp at h
  | b :: l, 0, h => by
    simp only [List.getElem?_cons_zero, Option.some.injEq] at h
    subst h
    simp
  | b :: l, i + 1, h => by
    have := countP_set l i (by simpa using h)
    simp only [List.set_cons_succ, List.countP_cons]
    omega

section
variable {P : Program} {ops : Array Oper} {Q : Exit → Act → World → Prop} {R : World → World → Prop} {Φ : List Fact} {ds : List (List Nat)} {a0 : Act} {w0 : World}

theorem wpAny_facts (hok : regOk ops ds = true) (hΦ : Φ.length = ops.size) (htr : ∀ a b c, R a b → R b c → R a c) (hst : StAll R Φ)
    (h : AllV ops.toList fun vs => Obl P ops Q R w0 Φ (putAll ops.toList vs a0) vs ops.toList Φ ds ∧ ∀ w, R w0 w → allFacts w Φ vs (Q .normal (putAll ops.toList vs a0) w)) :
    ∀ (fuel : Nat) (listed : Array Bool) (a : Act) (w : World), listed.size = ops.size → unlisted listed ≤ fuel → R w0 w →
      (∃ vs : List Value, vs.length = ops.size ∧ a = putAll ops.toList vs a0 ∧ ∀ i, listed.getD i false = true → factAt Φ vs w i) → wpAny P .any ops Q fuel listed a w := by
  simp only [regOk, Bool.and_eq_true, beq_iff_eq, decide_eq_true_eq] at hok
  obtain ⟨⟨⟨hdl, hnd⟩, hfw⟩, hdp⟩ := hok
  have hnone : ∀ (listed : Array Bool), listed.size = ops.size → Region.ready .any ops listed = [] → ∀ i, i < ops.size → listed.getD i false = true := by
    intro listed hs hr i
    induction i using Nat.strongRecOn with
    | _ i ih =>
      intro hi
      cases hb : listed.getD i false with
      | true => rfl
      | false =>
        exfalso
        have hm : i ∈ Region.ready .any ops listed := by
          refine mem_ready.2 ⟨?_, ops[i], by simp [hi], fun e he hbd => ?_⟩
          · have hlt : i < listed.size := by omega
            simp [hlt] at hb ⊢
            exact hb
          · have h1 := List.all_eq_true.1 hfw i (by simpa using hi)
            simp only [Array.getElem?_eq_getElem hi] at h1
            have h2 := Array.all_eq_true_iff_forall_mem.1 h1 e he
            simp only [hbd, Bool.not_true, Bool.false_or, decide_eq_true_eq] at h2
            exact ih e.on h2 (by omega)
        rw [hr] at hm
        cases hm
  have hfin : ∀ (listed : Array Bool) (a : Act) (w : World), listed.size = ops.size → Region.ready .any ops listed = [] → R w0 w →
      (∃ vs : List Value, vs.length = ops.size ∧ a = putAll ops.toList vs a0 ∧ ∀ i, listed.getD i false = true → factAt Φ vs w i) → Q .normal a w := by
    rintro listed a w hs hr hw ⟨vs, hl, rfl, hf⟩
    refine ((h.use vs (by simpa using hl)).2 w hw).use fun i φ v h1 h2 => ?_
    have := hf i (hnone listed hs hr i (by have := (List.getElem?_eq_some_iff.1 h1).1; omega))
    rw [factAt, h1, h2] at this
    exact this
  intro fuel
  induction fuel with
  | zero =>
    intro listed a w hs hu hw hv
    have hr : Region.ready .any ops listed = [] := by
      cases hr : Region.ready .any ops listed with
      | nil => rfl
      | cons i rs =>
        exfalso
        have hm : i ∈ Region.ready .any ops listed := by rw [hr]; simp
        have h0 := (mem_ready.1 hm).1
        have hlt : i < listed.size := by
          rcases Nat.lt_or_ge i listed.size with h' | h'
          · exact h'
          · simp [Array.getElem?_eq_none h'] at h0
        have h1 : listed.toList[i]? = some false := by simp [hlt] at h0 ⊢; exact h0
        have := countP_set _ _ h1
        unfold unlisted at hu
        omega
    exact ⟨hr, hfin listed a w hs hr hw hv⟩
  | succ fuel ih =>
    intro listed a w hs hu hw hv
    refine ⟨fun hr => hfin listed a w hs hr hw hv, fun i hi => ?_⟩
    obtain ⟨h0, o, ho, hall⟩ := mem_ready.1 hi
    have hin : i < ops.size := (Array.getElem?_eq_some_iff.1 ho).1
    have hlt : i < listed.size := by omega
    have h1 : listed.toList[i]? = some false := by simp [hlt] at h0 ⊢; exact h0
    obtain ⟨vs, hl, rfl, hf⟩ := hv
    obtain ⟨φ, hφ⟩ : ∃ φ, Φ[i]? = some φ := ⟨Φ[i]'(by omega), by simp⟩
    obtain ⟨d, hd⟩ : ∃ d, ds[i]? = some d := ⟨ds[i]'(by omega), by simp⟩
    have hO := ((h.use vs (by simpa using hl)).1.use i o φ d (by simpa using ho) hφ hd w hw).use (fun j hj => by
      have h2 := List.all_eq_true.1 hdp i (by simpa using hin)
      simp only [ho, hd] at h2
      have h3 := List.all_eq_true.1 h2 j hj
      obtain ⟨e, he, hb⟩ := Array.any_eq_true'.1 h3
      simp only [Bool.and_eq_true, beq_iff_eq] at hb
      rw [← hb.2]
      exact hf _ (hall e he hb.1))
    refine wpOp_step ho fun K hK => hO K fun v w' hR hv => hK _ _ ?_
    refine ih _ _ _ (by simpa using hs) ?_ (htr _ _ _ hw hR) ⟨vs.set i v, by simpa using hl, putAll_set _ _ _ _ _ _ hnd (by simpa using hl) (by simpa using ho), fun k hk => ?_⟩
    · unfold unlisted at hu ⊢
      have := countP_set _ _ h1
      have e : (listed.setIfInBounds i true).toList = listed.toList.set i true := by simp
      rw [e]
      omega
    · by_cases hki : k = i
      · subst hki
        have hsv : (vs.set k v)[k]? = some v := List.getElem?_set_self (by omega)
        rw [factAt, hφ, hsv]
        exact hv
      · have h4 := hf k (by rwa [getD_set_ne false (fun e => hki e.symm)] at hk)
        have hsv : (vs.set i v)[k]? = vs[k]? := by simp [Ne.symm hki]
        unfold factAt at h4 ⊢
        rw [hsv]
        cases hk1 : Φ[k]? with
        | none => trivial
        | some φ' =>
          cases hk2 : vs[k]? with
          | none => trivial
          | some u =>
            simp only [hk1, hk2] at h4 ⊢
            exact hst.use φ' (List.mem_of_getElem? hk1) u w w' hR h4

/-- a region that draws, each operation once -/
theorem wp_region_facts {id : Nat} {l : List Oper} (R : World → World → Prop) (Φ : List Fact) (ds : List (List Nat)) (hm : P.follows .mixedOrders = true) (hok : regOk l.toArray ds = true) (hΦ : (Φ.length == l.length) = true)
    (hrf : ∀ a, R a a) (htr : ∀ a b c, R a b → R b c → R a c) (hst : StAll R Φ)
    (h : AllV l fun vs => Obl P l.toArray Q R w0.drew Φ (putAll l vs a0) vs l Φ ds ∧ ∀ w, R w0.drew w → allFacts w Φ vs (Q .normal (putAll l vs a0) w)) : (Code.region id l.toArray true).wp P Q a0 w0 := by
  refine wp_region_any hm ?_
  have hsz : l.toArray.size = l.length := by simp
  obtain ⟨vs, hl, he⟩ := putAll_self l a0
  refine wpAny_facts (a0 := a0) (w0 := w0.drew) hok (by simpa using hΦ) htr hst (by simpa using h) _ _ _ _ (by simp) (by unfold unlisted; exact Nat.le_trans List.countP_le_length (by simp)) (hrf _) ⟨vs, by simpa using hl, he.symm, fun i hi => ?_⟩
  exfalso
  by_cases h' : i < l.length
  · simp [h'] at hi
  · simp [h'] at hi
end
end Go.Proofs.YtkcpfhbfjpldhaaGreatDoor

/- A region by facts, whose slots lie in a row: the frame is written once. -/
namespace Go.Proofs.YtkcpfhbfjpldhaaGreatDoor
open Go.RowKit
set_option linter.unusedVariables false

/-- values laid into a row of slots -/
def putRow (k : Nat) (vs : List Value) (a : Act) : Act := ⟨(a.tmps.toList.take k ++ (vs ++ a.tmps.toList.drop (k + vs.length))).toArray, a.defers⟩
def actOf (l : List Oper) (n k : Nat) (a : Act) (vs : List Value) : Act := putAll (l.drop n) (vs.drop n) (putRow k (vs.take n) a)
def rowOk (l : List Oper) (n k size : Nat) : Bool := ((List.range n).all fun i => (l[i]?).bind (·.dst) == some (k + i)) && decide (k + n ≤ size) && decide (n ≤ l.length)

theorem putRow_nil (k : Nat) (a : Act) : putRow k [] a = a := by simp [putRow]
theorem putRow_succ (k : Nat) (v : Value) (vs : List Value) (a : Act) (h : k < a.tmps.size) : putRow (k + 1) vs (a.put (some k) v) = putRow k (v :: vs) a := by
  obtain ⟨⟨t⟩, ds⟩ := a
  simp only [putRow, Act.put, List.setIfInBounds_toArray]
  simp only [List.size_toArray] at h
  congr 2
  apply List.ext_getElem?
  intro i
  have e1 : ((t.set k v).take (k + 1)) = t.take k ++ [v] := by
    rw [List.take_succ_eq_append_getElem (by simpa using h), List.take_set_of_le (Nat.le_refl k)]
    simp
  have e2 : (t.set k v).drop (k + 1 + vs.length) = t.drop (k + (v :: vs).length) := by
    rw [List.drop_set_of_lt (by omega), List.length_cons]
    congr 1
    omega
  rw [e1, e2]
  simp
theorem putAll_row : ∀ (os : List Oper) (vs : List Value) (a : Act) (k : Nat), (∀ i, i < os.length → (os[i]?).bind (·.dst) = some (k + i)) → vs.length = os.length → k + os.length ≤ a.tmps.size → putAll os vs a = putRow k vs a
  | [], [], a, k, _, _, _ => by rw [putRow_nil]; rfl
  | o :: os, v :: vs, a, k, h, hl, hs => by
    have h0 : o.dst = some k := by simpa using h 0 (by simp)
    simp only [List.length_cons] at hs
    rw [putAll, h0, putAll_row os vs _ (k + 1) (fun i hi => by
      have := h (i + 1) (by simpa using hi)
      rw [show k + 1 + i = k + (i + 1) by omega]
      simpa using this) (by simpa using hl) (by simp [Act.put]; omega), putRow_succ k v vs a (by omega)]
  | [], _ :: _, _, _, _, hl, _ => by simp at hl
  | _ :: _, [], _, _, _, hl, _ => by simp at hl
theorem putAll_append : ∀ (a b : List Oper) (vs us : List Value) (c : Act), vs.length = a.length → putAll (a ++ b) (vs ++ us) c = putAll b us (putAll a vs c)
  | [], _, [], _, _, _ => rfl
  | o :: a, b, v :: vs, us, c, h => by
    simp only [List.cons_append, putAll]
    exact putAll_append a b vs us _ (by simpa using h)
  | [], _, _ :: _, _, _, h => by simp at h
  | _ :: _, _, [], _, _, h => by simp at h
theorem actOf_eq {l : List Oper} {n k : Nat} {a : Act} (h : rowOk l n k a.tmps.size = true) {vs : List Value} (hl : vs.length = l.length) : actOf l n k a vs = putAll l vs a := by
  simp only [rowOk, Bool.and_eq_true, decide_eq_true_eq, List.all_eq_true, List.mem_range, beq_iff_eq] at h
  obtain ⟨⟨h1, h2⟩, h3⟩ := h
  have e1 : l.take n ++ l.drop n = l := List.take_append_drop n l
  have e2 : vs.take n ++ vs.drop n = vs := List.take_append_drop n vs
  have e3 := putAll_append (l.take n) (l.drop n) (vs.take n) (vs.drop n) a (by simp; omega)
  rw [e1, e2] at e3
  rw [actOf, e3, putAll_row (l.take n) (vs.take n) a k (fun i hi => ?_) (by simp; omega) (by simp; omega)]
  simp only [List.length_take] at hi
  rw [List.getElem?_take_of_lt (by omega)]
  exact h1 i (by omega)

section
variable (P : Program) (ops : Array Oper) (Q : Exit → Act → World → Prop) (R : World → World → Prop) (w0 : World) (Φ : List Fact) (A : List Value → Act) (vs : List Value)
def Obl2 : Nat → List Oper → List Fact → List (List Nat) → Prop
  | i, o :: os, φ :: φs, d :: ds => (∀ w, R w0 w → Leans Φ vs w d (∀ K : Act → World → Prop, (∀ v w', R w w' → φ v w' → K (A (vs.set i v)) w') →
      if Region.wanted o (yielded ops (A vs).tmps) = true then o.wp P (A vs) w K Q else K (A (vs.set i undef)) w)) ∧ Obl2 (i + 1) os φs ds
  | _, _, _, _ => True
end
theorem Leans.mono {Φ : List Fact} {vs : List Value} {w : World} {p q : Prop} (h : p → q) : ∀ {js : List Nat}, Leans Φ vs w js p → Leans Φ vs w js q
  | [], hh => h hh
  | _ :: _, hh => fun hf => Leans.mono h (hh hf)
theorem obl_of {P : Program} {l : List Oper} {Q : Exit → Act → World → Prop} {R : World → World → Prop} {w0 : World} {Φ : List Fact} {A : List Value → Act} {a0 : Act} (hA : ∀ vs : List Value, vs.length = l.length → A vs = putAll l vs a0) (hn : (l.filterMap (·.dst)).Nodup) {vs : List Value} (hl : vs.length = l.length) :
    ∀ (os : List Oper) (i : Nat) (φs : List Fact) (ds : List (List Nat)), (∀ j, os[j]? = l[i + j]?) → Obl2 P l.toArray Q R w0 Φ A vs i os φs ds → Obl P l.toArray Q R w0 Φ (putAll l vs a0) vs os φs ds
  | o :: os, i, φ :: φs, d :: ds, hi, h => by
    refine ⟨fun w hw => Leans.mono (fun hh K hK => ?_) (h.1 w hw), obl_of hA hn hl os (i + 1) φs ds (fun j => ?_) h.2⟩
    · have ho : l[i]? = some o := by simpa using (hi 0).symm
      have e : ∀ v, (putAll l vs a0).put o.dst v = A (vs.set i v) := fun v => by
        rw [putAll_set l vs a0 i o v hn hl ho, hA _ (by simpa using hl)]
      have := hh K (fun v w' h1 h2 => by rw [← e]; exact hK v w' h1 h2)
      rw [hA vs hl, ← e] at this
      exact this
    · have := hi (j + 1)
      rw [show i + 1 + j = i + (j + 1) by omega, ← this]
      simp
  | [], _, _, _, _, _ => by simp [Obl]
  | _ :: _, _, [], _, _, _ => by simp [Obl]
  | _ :: _, _, _ :: _, [], _, _ => by simp [Obl]

theorem wp_region_rows {P : Program} {Q : Exit → Act → World → Prop} {a0 : Act} {w0 : World} {id : Nat} {l : List Oper} (n k : Nat) (R : World → World → Prop) (Φ : List Fact) (ds : List (List Nat)) (hm : P.follows .mixedOrders = true) (hok : regOk l.toArray ds = true) (hΦ : (Φ.length == l.length) = true)
    (hrow : rowOk l n k a0.tmps.size = true) (hrf : ∀ a, R a a) (htr : ∀ a b c, R a b → R b c → R a c) (hst : StAll R Φ)
    (h : AllV l fun vs => Obl2 P l.toArray Q R w0.drew Φ (actOf l n k a0) vs 0 l Φ ds ∧ ∀ w, R w0.drew w → allFacts w Φ vs (Q .normal (actOf l n k a0 vs) w)) : (Code.region id l.toArray true).wp P Q a0 w0 := by
  have hn : (l.filterMap (·.dst)).Nodup := by
    simp only [regOk, Bool.and_eq_true, beq_iff_eq, decide_eq_true_eq] at hok
    exact hok.1.1.2
  refine wp_region_facts R Φ ds hm hok hΦ hrf htr hst ?_
  have hall : ∀ {os : List Oper} {p q : List Value → Prop}, (∀ vs : List Value, vs.length = os.length → p vs → q vs) → AllV os p → AllV os q := by
    intro os
    induction os with
    | nil => intro p q h1 h2; exact h1 [] rfl h2
    | cons o os ih => intro p q h1 h2 v; exact ih (fun vs hl hp => h1 (v :: vs) (by simp [hl]) hp) (h2 v)
  refine hall (fun vs hl hp => ⟨obl_of (A := actOf l n k a0) (fun vs hl => actOf_eq hrow hl) hn hl l 0 Φ ds (fun j => by simp) hp.1, fun w hw => ?_⟩) h
  have := hp.2 w hw
  rwa [actOf_eq hrow hl] at this
end Go.Proofs.YtkcpfhbfjpldhaaGreatDoor
