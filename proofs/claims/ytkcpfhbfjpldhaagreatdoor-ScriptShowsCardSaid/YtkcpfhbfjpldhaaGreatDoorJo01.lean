/- Texts of one claim, laid together: Base OctL -/
import Derived.Test.YtkcpfhbfjpldhaaGreatDoorRows
import Derived.WalkKit
import Derived.WalkSpells
import Derived.WalkLawsBesides
import Derived.Maps.AppendAt
import Derived.Lib.Strings
/- Words of memory for this seat: what a slice value reads as, what a world keeps. Nothing of a program stands here. -/
namespace Go.Proofs.YtkcpfhbfjpldhaaGreatDoor
open Go.RowKit
set_option linter.unusedVariables false

/-- a fact that no tactic looks into -/
structure Hd (p : Prop) : Prop where
  out : p
theorem hide {p : Prop} (h : p) : Hd p := ⟨h⟩

/-- A reading of cells as a value of a type of Lean's. -/
abbrev Rd (α : Type) := World → α → List Value → Prop

/-- A slice value reads as a list: element i lies in 'size' cells in a row. -/
def RSl {α : Type} (size : Nat) (R : Rd α) (w : World) (l : List α) (v : Value) : Prop :=
  ∃ A cap, v = .slice A l.length cap ∧ l.length ≤ cap ∧ (l ≠ [] → ∃ b off, A = some ⟨b, off, none⟩ ∧
    ∀ i (h : i < l.length), ∃ cs : List Value, cs.length = size ∧ (∀ j, j < size → w.cell? ⟨b, off + i * size + j, none⟩ = cs[j]?) ∧ R w l[i] cs)

/-- What a reading says is kept where old blocks are. -/
def Keeps {α : Type} (R : Rd α) : Prop := ∀ w w' x cs, R w x cs → Below w.heap.size w w' → R w' x cs

theorem block_lt {w : World} {a : Addr} {v : Value} (h : w.cell? a = some v) : a.block < w.heap.size := World.block_lt_of_cell? w a h

theorem RSl.keep {α : Type} {size : Nat} {R : Rd α} (hR : Keeps R) {w w' : World} {l : List α} {v : Value} (h : RSl size R w l v) (hb : Below w.heap.size w w') : RSl size R w' l v := by
  obtain ⟨A, cap, hv, hc, hr⟩ := h
  refine ⟨A, cap, hv, hc, fun hne => ?_⟩
  obtain ⟨b, off, hA, hi⟩ := hr hne
  refine ⟨b, off, hA, fun i h => ?_⟩
  obtain ⟨cs, hl, hcell, hRi⟩ := hi i h
  refine ⟨cs, hl, fun j hj => ?_, hR _ _ _ _ hRi hb⟩
  have h0 := hcell j hj
  have : (cs[j]?) = some (cs[j]'(by omega)) := List.getElem?_eq_getElem (by omega)
  rw [← h0]
  exact hb.cell (p := ⟨b, off + i * size + j, none⟩) (block_lt (h0.trans this))

theorem RSl.below {α : Type} {size : Nat} {R : Rd α} (hR : Keeps R) {w w' : World} {l : List α} {v : Value} {B : Nat} (h : RSl size R w l v) (hb : Below B w w') (hB : w.heap.size ≤ B) : RSl size R w' l v :=
  h.keep hR (hb.mono hB)

theorem RSl.alloc {α : Type} {size : Nat} {R : Rd α} (hR : Keeps R) {w : World} {l : List α} {v : Value} (h : RSl size R w l v) (o : Obj) : RSl size R (w.alloc o) l v :=
  h.keep hR ((Below.refl _ _).alloc (Nat.le_refl _) o)

theorem RSl.nil {α : Type} {size : Nat} {R : Rd α} {w : World} : RSl size R w [] (.slice none 0 0) := ⟨none, 0, rfl, by simp, fun h => absurd rfl h⟩

/-- cells of one int -/
def RInt (k : IntKind) : Rd Int := fun _ n cs => cs = [.int k n]
def RU8 : Rd UInt8 := fun _ n cs => cs = [.int .u8 n.toNat]
def RNat (k : IntKind) : Rd Nat := fun _ n cs => cs = [.int k n]
theorem keeps_int (k : IntKind) : Keeps (RInt k) := fun _ _ _ _ h _ => h
theorem keeps_u8 : Keeps RU8 := fun _ _ _ _ h _ => h
theorem keeps_nat (k : IntKind) : Keeps (RNat k) := fun _ _ _ _ h _ => h

/-- bytes as cells -/
def u8s (l : List UInt8) : List Value := l.map fun b => .int .u8 b.toNat
theorem u8s_append (a b : List UInt8) : u8s (a ++ b) = u8s a ++ u8s b := List.map_append
theorem u8s_length (a : List UInt8) : (u8s a).length = a.length := List.length_map _
theorem u8s_one {l : List UInt8} : ∀ u ∈ u8s l, u.oneCell' = true := by
  intro u hu
  simp only [u8s, List.mem_map] at hu
  obtain ⟨b, _, rfl⟩ := hu
  rfl

/-- an owned row of bytes reads as its list -/
theorem rsl_of_own {w : World} {base e n : Nat} {v : Value} {l : List UInt8} (h : w.ownsRow base e 1 v n (u8s l)) : RSl 1 RU8 w l v := by
  have hl := h.1
  simp only [u8s_length, Nat.mul_one] at hl
  subst hl
  rcases h.2 with ⟨rfl, hn⟩ | ⟨g, cap, cur, rfl, _, hh, hnc, _, hcs, ht⟩
  · exact ⟨none, 0, by rw [hn], by omega, fun hne => absurd (List.eq_nil_of_length_eq_zero hn) hne⟩
  · refine ⟨_, cap, rfl, hnc, fun _ => ⟨g, 0, rfl, fun i hi => ⟨[.int .u8 l[i].toNat], rfl, fun j hj => ?_, rfl⟩⟩⟩
    obtain rfl : j = 0 := by omega
    have hc := h.cells (g := g) rfl i (.int .u8 l[i].toNat) (by simp [u8s, hi])
    have hadd : (⟨g, 0, none⟩ : Addr).add i = ⟨g, 0 + i * 1 + 0, none⟩ := by unfold Addr.add; split <;> simp_all
    rw [hadd] at hc
    rw [hc]; rfl

/-- the same row, one cell at a time -/
theorem RSl.u8_at {w : World} {l : List UInt8} {b off n cap : Nat} (h : RSl 1 RU8 w l (.slice (some ⟨b, off, none⟩) n cap)) (k : Nat) (hk : k < l.length) : w.cell? ⟨b, off + k, none⟩ = some (.int .u8 (l[k].toNat)) := by
  obtain ⟨A, cap', hv, _, hr⟩ := h
  injection hv with hA _ _
  obtain ⟨b', off', hA', hi⟩ := hr (by intro e; rw [e] at hk; simp at hk)
  rw [hA'] at hA
  injection hA with hA
  injection hA with h1 h2
  subst h1 h2
  obtain ⟨cs, hl, hc, hR⟩ := hi k hk
  have := hc 0 (by omega)
  simp only [RU8] at hR
  subst hR
  simpa using this

theorem or_bytes (x y : Nat) (hx : x < 72057594037927936) (hy : y < 256) : bits .or .u64 ((x : Int) * 256) (y : Int) = ((x * 256 + y : Nat) : Int) := by
  have e : (x : Int) * 256 = ((x * 256 : Nat) : Int) := by omega
  rw [e, bits_or_u64_nat _ _ (by omega) (by omega), show x * 256 = x <<< 8 by rw [Nat.shiftLeft_eq], ← Nat.shiftLeft_add_eq_or_of_lt (by omega)]
theorem wrap_i64_in (n : Int) (h1 : -9223372036854775808 ≤ n) (h2 : n ≤ 9223372036854775807) : IntKind.i64.wrap n = n := IntWalk.i64_in _ (by omega)

/-- The numbers of a slice type: its element type, that type's zero, its cells and bytes. -/
structure SlT (P : Program) (t e : TypeId) (z : Value) (size bytes : Nat) : Prop where
  under : P.underlying t = some (.slice e)
  info : (P.info? e).map (fun i => (i.zero, i.size, i.bytes)) = some (some z, size, bytes)
  zs : z.cells.size = size
  pos : 0 < size

/-- Cells that lie in a row from an address on; none: nothing is asked. -/
def Cells (w : World) (A : Option Addr) (xs : List Value) : Prop :=
  xs ≠ [] → ∃ b off, A = some ⟨b, off, none⟩ ∧ ∀ j u, xs[j]? = some u → w.cell? ⟨b, off + j, none⟩ = some u

theorem addr_add (b off j : Nat) : (⟨b, off, none⟩ : Addr).add j = ⟨b, off + j, none⟩ := by
  unfold Addr.add; split <;> simp_all

theorem run_append_nothing {P : Program} {w : World} {base : Nat} {t ty e : TypeId} {i : TypeInfo} {size : Nat} (ht : P.underlying t = some (.slice e)) (hi : P.info? e = some i)
    {v : Value} {n : Nat} {xs : List Value} (hown : w.ownsRow base e size v n xs) (A : Option Addr) (c : Nat) (hs : i.size = size) :
    (Builtin.append_ #[t, t] ty #[v, .slice A 0 c]).run P w = .ok v w := by
  rcases hown.2 with ⟨rfl, rfl⟩ | ⟨g, cap, cur, rfl, _, _, hnc, _⟩ <;> rcases A with _ | ad
  · simp [Builtin.append_, run_underlying ht, sizeOf, typeInfo, hi, Builtin.lenOf, Builtin.firstCells]
  · simp [Builtin.append_, run_underlying ht, sizeOf, typeInfo, hi, Builtin.lenOf, Builtin.firstCells, loadCells, loadCellsFrom]
  · simp [Builtin.append_, run_underlying ht, sizeOf, typeInfo, hi, Builtin.lenOf, Builtin.firstCells, hnc, storeCells]
  · simp [Builtin.append_, run_underlying ht, sizeOf, typeInfo, hi, Builtin.lenOf, Builtin.firstCells, hnc, storeCells, loadCells, loadCellsFrom]

theorem run_app {P : Program} {w : World} {base : Nat} {t ty e : TypeId} {z : Value} {size bytes : Nat} (T : SlT P t e z size bytes)
    {v : Value} {n : Nat} {xs : List Value} (hown : w.ownsRow base e size v n xs) {A : Option Addr} {m c : Nat} {news : List Value} (hl : news.length = m * size) (hc : Cells w A news)
    (h1 : ∀ u ∈ news, u.oneCell' = true) (hbytes : (n + m) * bytes ≤ 140737488355328) (h63 : n + m ≤ 9223372036854775807) (hbase : base ≤ w.heap.size) :
    ∃ v' w', (Builtin.append_ #[t, t] ty #[v, .slice A m c]).run P w = .ok v' w' ∧ w'.ownsRow base e size v' (n + m) (xs ++ news) ∧ w.grownBy w' v.ownBlock ∧
      (v'.ownBlock = v.ownBlock ∨ v'.ownBlock = some w.heap.size) := by
  obtain ⟨i, hi, hz, hsz, hby⟩ := info_parts T.info
  by_cases hm : m = 0
  · subst hm
    have hn : news = [] := List.eq_nil_of_length_eq_zero (by simpa using hl)
    subst hn
    exact ⟨v, w, run_append_nothing T.under hi hown A c hsz, by simpa using hown, World.grownBy.refl w _, .inl rfl⟩
  · have hne : news ≠ [] := by
      intro e; rw [e] at hl
      have := Nat.mul_pos (Nat.pos_of_ne_zero hm) T.pos
      simp at hl; omega
    obtain ⟨b, off, rfl, hcell⟩ := hc hne
    obtain ⟨v', w', hr, h2, h3, _, h5⟩ := run_append_own_at (P := P) w base t ty e i z size bytes T.under hi hz hsz hby T.zs T.pos v n xs hown ⟨b, off, none⟩ m c news hl
      (fun j u hu => by rw [addr_add]; exact hcell j u hu) h1 (by simp only [maxLen]; omega) hbytes hbase
    exact ⟨v', w', hr, h2, h3, h5⟩

theorem wp_app {P : Program} {o : Oper} {a : Act} {w : World} {K : Act → World → Prop} {Q : Exit → Act → World → Prop} {base : Nat} {t e : TypeId} {z : Value} {size bytes : Nat} (T : SlT P t e z size bytes)
    (s x : Operand) (ho : o.op = .call { callee := .builtin .append, args := #[s, x], argTypes := #[t, t] })
    {v : Value} {n : Nat} {xs : List Value} (hown : w.ownsRow base e size v n xs) (hs : a.eval s = v) {A : Option Addr} {m c : Nat} (hx : a.eval x = .slice A m c) {news : List Value} (hc : Cells w A news) (hl : news.length = m * size)
    (h1 : ∀ u ∈ news, u.oneCell' = true) (hbytes : (n + m) * bytes ≤ 140737488355328) (h63 : n + m ≤ 9223372036854775807) (hbase : base ≤ w.heap.size)
    (h : ∀ v' w', w'.ownsRow base e size v' (n + m) (xs ++ news) → w.grownBy w' v.ownBlock → (v'.ownBlock = v.ownBlock ∨ v'.ownBlock = some w.heap.size) → K (a.put o.dst v') w') : o.wp P a w K Q := by
  obtain ⟨v', w', hr, h2, h3, h4⟩ := run_app (P := P) (ty := o.type) T hown hl hc h1 hbytes h63 hbase
  unfold Oper.wp execOp
  simp only [ho, resolve, invoke, builtin, Sem.run_bind, Sem.run_pure, Result.andThen_ok, List.map_toArray, List.map_cons, List.map_nil, hs, hx]
  have hr' : Sem.run P (Builtin.append_ #[t, t] o.type #[v, Value.slice A m c]) w = .ok v' w' := hr
  rw [hr']
  exact h v' w' h2 h3 h4

theorem wpl_app {P : Program} {ops : Array Oper} {rest : List Oper} {o : Oper} {a : Act} {w : World} {Q : Exit → Act → World → Prop} (hgd : o.guard = none) {base : Nat} {t e : TypeId} {z : Value} {size bytes : Nat} (T : SlT P t e z size bytes)
    (s x : Operand) (ho : o.op = .call { callee := .builtin .append, args := #[s, x], argTypes := #[t, t] })
    {v : Value} {n : Nat} {xs : List Value} (hown : w.ownsRow base e size v n xs) (hs : a.eval s = v) {A : Option Addr} {m c : Nat} (hx : a.eval x = .slice A m c) {news : List Value} (hc : Cells w A news) (hl : news.length = m * size)
    (h1 : ∀ u ∈ news, u.oneCell' = true) (hbytes : (n + m) * bytes ≤ 140737488355328) (h63 : n + m ≤ 9223372036854775807) (hbase : base ≤ w.heap.size)
    (h : ∀ v' w', w'.ownsRow base e size v' (n + m) (xs ++ news) → w.grownBy w' v.ownBlock → (v'.ownBlock = v.ownBlock ∨ v'.ownBlock = some w.heap.size) → wpList P ops Q rest (a.put o.dst v') w') : wpList P ops Q (o :: rest) a w :=
  wpList_plain hgd fun _ hK => wp_app T s x ho hown hs hx hc hl h1 hbytes h63 hbase fun v' w' h2 h3 h4 => hK _ _ (h v' w' h2 h3 h4)

theorem le_alloc {B : Nat} {w : World} {o : Obj} (h : B ≤ w.heap.size) : B ≤ (w.alloc o).heap.size := by simp; omega

/-- the cells of a block just made -/
theorem cells_new (w : World) (l : List Value) (t : TypeId) : Cells (w.alloc (.cells l.toArray t)) (some ⟨w.heap.size, 0, none⟩) l := by
  refine fun _ => ⟨w.heap.size, 0, rfl, fun j u hu => ?_⟩
  rw [Nat.zero_add, cell_of_row _ w.heap.size j l.toArray t (0, 0) (heap_alloc_new w _)]
  simpa using hu

theorem cells_of_rsl {w : World} {l : List UInt8} {A : Option Addr} {n cap : Nat} (h : RSl 1 RU8 w l (.slice A n cap)) : Cells w A (u8s l) := by
  intro hne
  obtain ⟨A', cap', hv, _, hr⟩ := h
  injection hv with hA _ _
  obtain ⟨b, off, hA', hi⟩ := hr (by rintro rfl; exact hne rfl)
  refine ⟨b, off, hA.trans hA', fun j u hu => ?_⟩
  have hj : j < l.length := by
    have := (List.getElem?_eq_some_iff.1 hu).1
    rwa [u8s_length] at this
  obtain ⟨cs, _, hc, hR⟩ := hi j hj
  have := hc 0 (by omega)
  simp only [RU8] at hR
  subst hR
  simp [u8s, hj] at hu
  subst hu
  simpa using this

theorem flat_get {α β : Type} (f : α → List β) (size : Nat) : ∀ (l : List α) (_ : ∀ x ∈ l, (f x).length = size) (i : Nat) (h : i < l.length) (j : Nat), j < size → (l.flatMap f)[i * size + j]? = (f l[i])[j]?
  | [], _, i, h, _, _ => by simp at h
  | x :: l, hf, i, h, j, hj => by
    have hx := hf x (by simp)
    rcases i with _ | i
    · simp only [List.flatMap_cons, Nat.zero_mul, Nat.zero_add, List.getElem_cons_zero]
      rw [List.getElem?_append_left (by omega)]
    · simp only [List.flatMap_cons, List.getElem_cons_succ]
      rw [List.getElem?_append_right (by rw [hx, Nat.succ_mul]; omega), hx, show (i + 1) * size + j - size = i * size + j by rw [Nat.succ_mul]; omega]
      exact flat_get f size l (fun y hy => hf y (by simp [hy])) i (by simpa using h) j hj

/-- cells in a row that spell a list read as it -/
theorem rsl_of_cells {α : Type} {size : Nat} {R : Rd α} {w : World} {l : List α} {enc : α → List Value} {A : Option Addr} {n cap : Nat} (hn : n = l.length) (hcap : n ≤ cap) (hs : ∀ x ∈ l, (enc x).length = size) (hR : ∀ x ∈ l, R w x (enc x)) (hp : 0 < size)
    (hc : Cells w A (l.flatMap enc)) : RSl size R w l (.slice A n cap) := by
  subst hn
  refine ⟨A, cap, rfl, hcap, fun hne => ?_⟩
  have hne' : l.flatMap enc ≠ [] := by
    rcases l with _ | ⟨x, l⟩
    · exact absurd rfl hne
    · intro e
      have h1 := hs x (by simp)
      simp at e
      rw [e.1] at h1; simp at h1; omega
  obtain ⟨b, off, hA, hg⟩ := hc hne'
  refine ⟨b, off, hA, fun i hi => ⟨enc l[i], hs _ (List.getElem_mem hi), fun j hj => ?_, hR _ (List.getElem_mem hi)⟩⟩
  have h1 := flat_get enc size l hs i hi j hj
  have h2 : (enc l[i])[j]? = some ((enc l[i])[j]'(by rw [hs _ (List.getElem_mem hi)]; exact hj)) := List.getElem?_eq_getElem _
  rw [h2] at h1 ⊢
  rw [Nat.add_assoc]
  exact hg _ _ h1

/-- an owned row is a slice, and its cells lie in a row -/
theorem own_slice {w : World} {base : Nat} {e : TypeId} {size n : Nat} {v : Value} {xs : List Value} (h : w.ownsRow base e size v n xs) :
    ∃ A cap, v = .slice A n cap ∧ n ≤ cap ∧ Cells w A xs := by
  rcases h.2 with ⟨rfl, rfl⟩ | ⟨g, cap, cur, rfl, _, hh, hnc, _, hcs, ht⟩
  · refine ⟨none, 0, rfl, Nat.le_refl _, fun hne => ?_⟩
    have h1 := h.1
    simp at h1
    exact absurd h1 hne
  · refine ⟨_, cap, rfl, hnc, fun _ => ⟨g, 0, rfl, fun j u hu => ?_⟩⟩
    have := h.cells (g := g) rfl j u hu
    rwa [addr_add] at this

theorem own_below {w w' : World} {B base : Nat} {e : TypeId} {size n : Nat} {v : Value} {xs : List Value} (h : w.ownsRow base e size v n xs) (hb : Below B w w') (hB : w.heap.size ≤ B) : w'.ownsRow base e size v n xs := by
  refine h.kept (row := none) ⟨hb.os, hb.tape, hb.output, hb.size, fun k hk _ => hb.block k (by omega)⟩ ?_
  cases hv : v.ownBlock <;> simp

/-- rows of two types never share a block -/
theorem own_ne {w : World} {base : Nat} {e : TypeId} {size n : Nat} {v : Value} {xs : List Value} (h : w.ownsRow base e size v n xs) {g : Nat} {cs : Array Value} {t : TypeId} {fr : Nat × Nat} (hg : w.heap[g]? = some (.cells cs t fr)) (hne : e ≠ t) :
    v.ownBlock ≠ some g := by
  rcases h.2 with ⟨rfl, _⟩ | ⟨g', cap, cur, rfl, _, hh, _⟩
  · simp [Value.ownBlock]
  · intro he
    simp only [Value.ownBlock, Option.some.injEq] at he
    subst he
    rw [hg] at hh
    injection hh with hh
    injection hh with _ ht _
    exact hne ht.symm

theorem heap_grown {w w' : World} {row : Option Nat} (hg : w.grownBy w' row) {k : Nat} {o : Obj} (h : w.heap[k]? = some o) (hne : row ≠ some k) : w'.heap[k]? = some o :=
  (hg.block k (Array.getElem?_eq_some_iff.1 h).1 (fun e => hne e.symm)).trans h
theorem heap_below {B : Nat} {w w' : World} (hb : Below B w w') {k : Nat} {o : Obj} (h : w.heap[k]? = some o) (hk : k < B) : w'.heap[k]? = some o := (hb.block k hk).trans h
theorem heap_alloc {w : World} {k : Nat} {o o' : Obj} (h : w.heap[k]? = some o) : (w.alloc o').heap[k]? = some o := (Below.heap_alloc w o' k (Array.getElem?_eq_some_iff.1 h).1).trans h
theorem cell_block {w : World} {g : Nat} {cs : Array Value} {t : TypeId} {fr : Nat × Nat} (h : w.heap[g]? = some (.cells cs t fr)) (i : Nat) : w.cell? ⟨g, i, none⟩ = cs[i]? := cell_of_row w g i cs t fr h
theorem free_block {w : World} {g : Nat} {cs : Array Value} {t : TypeId} (h : w.heap[g]? = some (.cells cs t (0, 0))) (i : Nat) : w.frozen? ⟨g, i, none⟩ = false := by simp [World.frozen?, h]
theorem below_grown {B : Nat} {a w w' : World} {v : Value} {base e size n} {xs : List Value} (h : Below B a w) (hown : w.ownsRow base e size v n xs) (hg : w.grownBy w' v.ownBlock) (hB : B ≤ base) (hw : B ≤ w.heap.size) : Below B a w' :=
  h.grown hg hw fun k hk => Nat.le_trans hB (hown.lt k hk).1

theorem below_row {B : Nat} {a w w' : World} {p : Nat} (h : Below B a w) (hg : w.grownBy w' (some p)) (hp : B ≤ p) (hB : B ≤ w.heap.size) : Below B a w' :=
  h.grown hg hB (fun k hk => by injection hk with hk; omega)

/-- old cells and marks, for the walk -/
theorem bcell {W w1 : World} (hb : Below W.heap.size W w1) : (∀ b o, b < W.heap.size → w1.cell? ⟨b, o, none⟩ = W.cell? ⟨b, o, none⟩) ∧ (∀ b o, b < W.heap.size → w1.frozen? ⟨b, o, none⟩ = W.frozen? ⟨b, o, none⟩) :=
  ⟨fun b o h => hb.cell (p := ⟨b, o, none⟩) h, fun b o h => hb.frozen (p := ⟨b, o, none⟩) h⟩

/-- a text of bytes -/
def str (l : List UInt8) : ByteArray := ⟨l.toArray⟩
@[go_sem] theorem str_size (l : List UInt8) : (str l).size = l.length := by simp [str, ByteArray.size]
@[go_sem] theorem str_list (l : List UInt8) : (str l).toList = l := ByteArray.toList_mk l
@[go_sem] theorem str_app (a b : List UInt8) : str a ++ str b = str (a ++ b) := ByteArray.mk_append_mk a b
theorem str_of (s : ByteArray) : s = str s.toList := by
  rw [ByteArray.toList_eq]
  simp [str]
theorem str_ext {a b : ByteArray} (h : a.toList = b.toList) : a = b := by rw [str_of a, str_of b, h]
@[go_sem] theorem str_extract (l : List UInt8) (a b : Nat) : (str l).extract a b = str ((l.drop a).take (b - a)) := by
  apply str_ext
  rw [ByteArray.toList_eq, Lib.extract_data, str_list]
  simp [str]
@[go_sem high] theorem str_extract_end (l : List UInt8) (a : Nat) : (str l).extract a l.length = str (l.drop a) := by
  rw [str_extract, List.take_of_length_le (by simp)]
@[go_sem] theorem str_get (l : List UInt8) (i : Nat) (h : i < (str l).size) : (str l)[i] = l[i]'(by simpa [str_size] using h) := by
  simp [str]; rfl
theorem str_empty : ByteArray.empty = str [] := rfl
theorem str_inj {a b : List UInt8} (h : str a = str b) : a = b := by
  have := congrArg ByteArray.toList h
  simpa [str_list] using this

/-- 'string(b)' -/
theorem conv_str {P : Program} (w : World) (src dst e : TypeId) (A : Option Addr) (n cap : Nat) (l : List UInt8) (hs : P.underlying src = some (.slice e)) (he : P.underlying e = some (.int .u8)) (hd : P.underlying dst = some .string)
    (h : RSl 1 RU8 w l (.slice A n cap)) : (convert src dst (.slice A n cap)).run P w = .ok (.string (str l)) w := by
  have hc := cells_of_rsl h
  obtain ⟨A', cap', hv, _, hr⟩ := h
  injection hv with e1 e2 e3
  subst e1 e2 e3
  by_cases hl : l = []
  · subst hl
    rw [run_convert_bytes_string w src dst e A _ cap hs he hd]
    rcases A with _ | ad <;> simp [Conv.bytesToString, loadCells, loadCellsFrom, str] <;> rfl
  · obtain ⟨b, off, rfl, hi⟩ := hc (by simpa [u8s] using hl)
    exact run_convert_bytes_back w src dst e _ cap l hs he hd (fun j hj => by rw [addr_add]; exact hi j _ (by simp [u8s, hj]))

/-- 'string' of one byte in a new row -/
theorem conv_one {P : Program} (w : World) (src dst e t : TypeId) (x : Int) (hs : P.underlying src = some (.slice e)) (he : P.underlying e = some (.int .u8)) (hd : P.underlying dst = some .string) (h0 : 0 ≤ x) (h1 : x ≤ 255) :
    (convert src dst (.slice (some ⟨w.heap.size, 0, none⟩) 1 1)).run P (w.alloc (.cells #[.int .u8 x] t)) = .ok (.string (str [UInt8.ofNat x.toNat])) (w.alloc (.cells #[.int .u8 x] t)) := by
  refine run_convert_bytes_back _ src dst e _ 1 [UInt8.ofNat x.toNat] hs he hd (fun j hj => ?_)
  simp at hj
  subst hj
  rw [addr_add]
  simp [cell_block (heap_alloc_new w (.cells #[.int .u8 x] t))]
  omega
end Go.Proofs.YtkcpfhbfjpldhaaGreatDoor

/- Numbers as bytes, in plain lists: what the octet package computes. No program stands here. -/
namespace Go.Proofs.YtkcpfhbfjpldhaaGreatDoor
open Go.RowKit
set_option linter.unusedVariables false

def mayB (n : Int) : Bool := decide (1 ≤ n) && decide (n ≤ 8)
/-- byte i of a number put in s bytes -/
def bAt (x s i : Nat) : UInt8 := UInt8.ofNat (x / 2 ^ (8 * (s - 1 - i)))
def be (x s : Nat) : List UInt8 := (List.range s).map (bAt x s)
def beTo (x s i : Nat) : List UInt8 := (List.range i).map (bAt x s)
def putOne (p : Nat × Int) : List UInt8 := if mayB p.2 then be p.1 p.2.toNat else []
def puts (l : List (Nat × Int)) : List UInt8 := l.flatMap putOne

theorem be_length (x s : Nat) : (be x s).length = s := by simp [be]
theorem beTo_length (x s i : Nat) : (beTo x s i).length = i := by simp [beTo]
theorem beTo_succ (x s i : Nat) : beTo x s (i + 1) = beTo x s i ++ [bAt x s i] := by simp [beTo, List.range_succ]
theorem putOne_length (p : Nat × Int) : (putOne p).length ≤ 8 := by
  unfold putOne; split
  · rename_i h; simp [mayB] at h; rw [be_length]; omega
  · simp
theorem puts_nil : puts [] = [] := rfl
theorem puts_append (a b : List (Nat × Int)) : puts (a ++ b) = puts a ++ puts b := List.flatMap_append
theorem puts_cons (p : Nat × Int) (b : List (Nat × Int)) : puts (p :: b) = putOne p ++ puts b := List.flatMap_cons
theorem puts_length (l : List (Nat × Int)) : (puts l).length ≤ 8 * l.length := by
  induction l with
  | nil => simp [puts]
  | cons p l ih => rw [puts_cons]; have := putOne_length p; simp; omega
theorem puts_take (l : List (Nat × Int)) (k : Nat) (h : k < l.length) : puts (l.take (k + 1)) = puts (l.take k) ++ putOne l[k] := by
  rw [List.take_succ_eq_append_getElem h, puts_append]; simp [puts]

/-- a number of bytes, the highest first -/
def val (l : List UInt8) : Nat := l.foldl (fun x b => x * 256 + b.toNat) 0
theorem val_snoc (l : List UInt8) (b : UInt8) : val (l ++ [b]) = val l * 256 + b.toNat := by simp [val]
theorem val_lt (l : List UInt8) : val l < 256 ^ l.length := by
  suffices h : ∀ n (l : List UInt8), l.length = n → val l < 256 ^ n from h _ l rfl
  intro n
  induction n with
  | zero => intro l h; obtain rfl := List.eq_nil_of_length_eq_zero h; simp [val]
  | succ n ih =>
    intro l h
    have hne : l ≠ [] := by intro e; simp [e] at h
    obtain ⟨l', b, rfl⟩ : ∃ l' b, l = l' ++ [b] := ⟨l.dropLast, l.getLast hne, (List.dropLast_concat_getLast hne).symm⟩
    rw [val_snoc]
    have h1 := ih l' (by simpa using h)
    have h2 := b.toNat_lt
    rw [Nat.pow_succ]
    omega
/-- what a Cut does: what is left, what went wrong first, what is taken -/
def cut (l : List UInt8) (e n : Int) (is : Bool) : List UInt8 × Int × List UInt8 :=
  if e ≠ 0 then (l, e, []) else if is = false then (l, 1, []) else if (l.length : Int) < n then (l, 10, []) else (l.drop n.toNat, 0, l.take n.toNat)

theorem cut_length (l : List UInt8) (e n : Int) : (cut l e n (mayB n)).2.2.length ≤ 8 := by
  unfold cut
  repeat' split
  all_goals simp
  rename_i h1 h2 h3
  simp [mayB] at h2
  omega
theorem be_succ (x i : Nat) : be x (i + 1) = UInt8.ofNat (x / 2 ^ (8 * i) % 256) :: be x i := by
  apply List.ext_getElem
  · simp [be]
  · intro j h1 h2
    simp [be] at h1 h2
    rcases j with _ | j
    · simp [be, bAt]
      apply UInt8.toNat_inj.1
      simp
    · simp [be, bAt]
      rw [show i - (j + 1) = i - 1 - j by omega]
theorem div_step (x i : Nat) : x / 2 ^ (8 * i) / 256 = x / 2 ^ (8 * (i + 1)) := by
  rw [Nat.div_div_eq_div_mul, show 8 * (i + 1) = 8 * i + 8 by omega, Nat.pow_add]

theorem be_parts (x n m : Nat) : be x (n + m) = be (x / 2 ^ (8 * m)) n ++ be x m := by
  apply List.ext_getElem
  · simp [be]
  · intro i h1 h2
    simp [be] at h1
    by_cases hi : i < n
    · rw [List.getElem_append_left (by simpa [be] using hi)]
      simp [be, bAt]
      rw [Nat.div_div_eq_div_mul, ← Nat.pow_add, show 8 * (n + m - 1 - i) = 8 * m + 8 * (n - 1 - i) by omega]
    · rw [List.getElem_append_right (by simpa [be] using hi)]
      simp [be, bAt]
      rw [show 8 * (n + m - 1 - i) = 8 * (m - 1 - (i - n)) by omega]
theorem puts_two (p q : Nat × Int) : puts [p, q] = putOne p ++ putOne q := by simp [puts]
theorem puts_one (p : Nat × Int) : puts [p] = putOne p := by simp [puts]
theorem putOne_be (x n : Nat) (h1 : 1 ≤ n) (h8 : n ≤ 8) : putOne (x, (n : Int)) = be x n := by simp [putOne, mayB]; omega

theorem cut_bad (l : List UInt8) (e n : Int) (is : Bool) (h : e ≠ 0) : cut l e n is = (l, e, []) := by simp [cut, h]
theorem cut_err (l : List UInt8) (e n : Int) (is : Bool) (h : e = 0 ∨ e = 1 ∨ e = 10) : (cut l e n is).2.1 = 0 ∨ (cut l e n is).2.1 = 1 ∨ (cut l e n is).2.1 = 10 := by
  unfold cut
  repeat' split
  all_goals simp
  exact h
theorem cut_left (l : List UInt8) (e n : Int) (is : Bool) : (cut l e n is).1.length ≤ l.length := by
  unfold cut
  repeat' split
  all_goals simp

theorem val_cons (b : UInt8) (l : List UInt8) : val (b :: l) = b.toNat * 256 ^ l.length + val l := by
  suffices h : ∀ (l : List UInt8) (x : Nat), l.foldl (fun x b => x * 256 + b.toNat) x = x * 256 ^ l.length + val l by
    have := h l b.toNat
    simpa [val] using this
  intro l
  induction l with
  | nil => intro x; simp [val]
  | cons c l ih =>
    intro x
    simp only [List.foldl_cons, List.length_cons, val]
    rw [ih, ih (0 * 256 + c.toNat), Nat.pow_succ, Nat.add_mul, Nat.zero_mul, Nat.zero_add, Nat.add_assoc, Nat.mul_assoc x, Nat.mul_comm 256]
theorem pow8 (s : Nat) : 2 ^ (8 * s) = 256 ^ s := by rw [Nat.pow_mul]
theorem val_be (x : Nat) : ∀ s, val (be x s) = x % 256 ^ s
  | 0 => by simp [be, val]; omega
  | s + 1 => by
    rw [be_succ, val_cons, be_length, val_be x s, UInt8.toNat_ofNat', Nat.mod_mod, pow8]
    have h1 := Nat.div_add_mod x (256 ^ s)
    rw [Nat.pow_succ, Nat.mod_mul, Nat.mul_comm, Nat.add_comm]
theorem val_be_fits (x s : Nat) (h : x / 2 ^ (8 * s) = 0) : val (be x s) = x := by
  rw [val_be]
  rw [pow8] at h
  exact Nat.mod_eq_of_lt (by
    rcases Nat.div_eq_zero_iff.1 h with h | h
    · have := Nat.pow_pos (n := s) (show 0 < 256 by omega); omega
    · exact h)
/-- a part that can be taken back -/
def okPart (p : Nat × Int) : Prop := 1 ≤ p.2 ∧ p.2 ≤ 8 ∧ p.1 / 2 ^ (8 * p.2.toNat) = 0
theorem ok_length (p : Nat × Int) (h : okPart p) : ((putOne p).length : Int) = p.2 := by
  unfold putOne
  rw [if_pos (by simp [mayB]; exact ⟨h.1, h.2.1⟩), be_length]
  have := h.1; omega
theorem ok_cut (p : Nat × Int) (h : okPart p) (rest : List UInt8) : cut (putOne p ++ rest) 0 p.2 (mayB p.2) = (rest, 0, putOne p) := by
  have hl := ok_length p h
  have hm : mayB p.2 = true := by simp [mayB]; exact ⟨h.1, h.2.1⟩
  have e : p.2.toNat = (putOne p).length := by omega
  rw [cut, if_neg (by simp), if_neg (by simp [hm]), if_neg (by simp; omega), e]
  simp
theorem ok_val (p : Nat × Int) (h : okPart p) : val (putOne p) = p.1 := by
  unfold putOne
  rw [if_pos (by simp [mayB]; exact ⟨h.1, h.2.1⟩)]
  exact val_be_fits _ _ h.2.2
/-- what is left of bytes that were cut: as many fewer, or too few -/
theorem ok_short (p : Nat × Int) (h : okPart p) (l : List UInt8) : (((cut l 0 p.2 (mayB p.2)).2.1 = 0 ∧ (cut l 0 p.2 (mayB p.2)).1.length + (putOne p).length = l.length) ∨ (cut l 0 p.2 (mayB p.2)).2.1 = 10) := by
  have hl := ok_length p h
  have hm : mayB p.2 = true := by simp [mayB]; exact ⟨h.1, h.2.1⟩
  rw [cut, if_neg (by simp), if_neg (by simp [hm])]
  split
  · exact .inr rfl
  · exact .inl ⟨rfl, by simp; omega⟩

theorem bAt_cell (x s i : Nat) : (Value.int .u8 ((x : Int) / 2 ^ (8 * (s - 1 - i)) % 256)) = .int .u8 (bAt x s i).toNat := by
  have : ((x : Int) / 2 ^ (8 * (s - 1 - i)) % 256) = ((x / 2 ^ (8 * (s - 1 - i)) % 256 : Nat) : Int) := by rw [Int.natCast_emod, Int.natCast_ediv, Int.natCast_pow]; rfl
  rw [this, bAt, UInt8.toNat_ofNat']
end Go.Proofs.YtkcpfhbfjpldhaaGreatDoor
