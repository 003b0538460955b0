/- Texts of one claim, laid together: Make MapI Store StoreG -/
import Derived.Laws.OwnMore
import Derived.Maps.OwnSet
import Derived.Laws.CopyOwn
import Derived.Test.YtekioihjfggmdaaJo04
/- make with a size that is a variable. -/
namespace Go.Proofs.Ytekioihjfggmdaa
open Go.RowKit
set_option linter.unusedVariables false

theorem wp_make {P : Program} {o : Oper} {a : Act} {w : World} {K : Act → World → Prop} {Q : Exit → Act → World → Prop} {t e : TypeId} {z : Value} {size bytes : Nat} (T : SlT P t e z size bytes)
    (x y : Operand) (ho : o.op = .makeSlice t x y) {kl kc : IntKind} {n : Nat} (hx : a.eval x = .int kl n) (hy : a.eval y = .int kc n) (hbytes : bytes * n ≤ 281474976710656) (h63 : n ≤ 9223372036854775807)
    (h : ∀ w', w'.ownsRow w.heap.size e size (.slice (some ⟨w.heap.size, 0, none⟩) n n) n (madeCells z.cells (n * size)).toList → Le w w' → K (a.put o.dst (.slice (some ⟨w.heap.size, 0, none⟩) n n)) w') : o.wp P a w K Q := by
  obtain ⟨i, hi, hz, hsz, hby⟩ := info_parts T.info
  obtain ⟨w', hr, h2, h3⟩ := run_make_full (P := P) w w.heap.size t e i z size T.under hi hz hsz kl kc n (by rw [hby]; exact hbytes) (by simp only [maxLen]; omega) (Nat.le_refl _)
  unfold Oper.wp execOp
  simp only [ho, hx, hy, Sem.run_bind, Sem.run_pure]
  rw [hr]
  exact h w' h2 ⟨⟨h3.os, h3.tape, h3.output, h3.size, fun k hk => h3.block k hk (by simp)⟩⟩

theorem wpl_make {P : Program} {ops : Array Oper} {rest : List Oper} {o : Oper} {a : Act} {w : World} {Q : Exit → Act → World → Prop} (hgd : o.guard = none) {t e : TypeId} {z : Value} {size bytes : Nat} (T : SlT P t e z size bytes)
    (x y : Operand) (ho : o.op = .makeSlice t x y) {kl kc : IntKind} {n : Nat} (hx : a.eval x = .int kl n) (hy : a.eval y = .int kc n) (hbytes : bytes * n ≤ 281474976710656) (h63 : n ≤ 9223372036854775807)
    (h : ∀ w', w'.ownsRow w.heap.size e size (.slice (some ⟨w.heap.size, 0, none⟩) n n) n (madeCells z.cells (n * size)).toList → Le w w' → wpList P ops Q rest (a.put o.dst (.slice (some ⟨w.heap.size, 0, none⟩) n n)) w') : wpList P ops Q (o :: rest) a w :=
  wpList_plain hgd fun _ hK => wp_make T x y ho hx hy hbytes h63 fun w' h2 h3 => hK _ _ (h w' h2 h3)

theorem made_u8 (n : Nat) : (madeCells (Value.int .u8 0).cells (n * 1)).toList = u8s (List.replicate n 0) := by
  have := toList_madeCells_one (.int .u8 0) (n * 1)
  rw [show (Value.int .u8 0).cells = #[.int .u8 0] from rfl, this]
  simp [u8s]
end Go.Proofs.Ytekioihjfggmdaa

/- A map from numbers of 16 bits to ints, as a function; blocks that may be written, all others stay. -/
namespace Go.Proofs.Ytekioihjfggmdaa
open Go.RowKit
set_option linter.unusedVariables false

/-- block b is a map of at most n entries that reads as f -/
def MapI (w : World) (b n : Nat) (f : Nat → Option Nat) : Prop :=
  ∃ D : DataW Unit, w.ownsMap Try.prog 39 (plainElem Try.prog 3) b n D ∧ ∀ k : Nat, k < 65536 → Maps.has D (.int .u16 k) = (f k).isSome ∧ ∀ i z, f k = some i → D.atKey (.int .u16 k) z = .lit (.int .i64 i)
def mupd (f : Nat → Option Nat) (k : Nat) (v : Option Nat) : Nat → Option Nat := fun x => if x = k then v else f x
theorem mupd_same (f : Nat → Option Nat) (k : Nat) (v : Option Nat) : mupd f k v k = v := by simp [mupd]
theorem mupd_ne {f : Nat → Option Nat} {k x : Nat} {v : Option Nat} (h : x ≠ k) : mupd f k v x = f x := by simp [mupd, h]

theorem key16 {k : Nat} (hk : k < 65536) : (Lit.int .u16 (k : Int)).wf = true := by simp [Lit.wf, IntKind.min, IntKind.max, IntKind.signed, IntKind.bits]; omega
theorem keyOf16 {k : Nat} (hk : k < 65536) : keyOf Try.prog 39 (.int .u16 k) = some (.int .u16 k) := Maps.keyOf_int_mk Try.underlying39 (key16 hk)
theorem zero_int (w : World) : (zeroValue 3).run Try.prog w = .ok (.int .i64 0) w := by kernel_rfl
theorem isKey16 (k : Nat) : WideAt.IsKeyLit (.int .u16 k) := by simp [WideAt.IsKeyLit]
theorem lit16_ne {k x : Nat} (h : x ≠ k) : (Lit.int .u16 (x : Int)) ≠ .int .u16 k := by intro e; injection e with _ e; omega

theorem lit_inj {a b : Int} (h : (DataW.lit (.int .i64 a) : DataW Unit) = .lit (.int .i64 b)) : b = a := by
  simp only [DataW.lit.injEq, Lit.int.injEq, true_and] at h
  exact h.symm
theorem wf64 {v : Nat} (h : v ≤ 1000000) : (Lit.int .i64 (v : Int)).wf = true := by
  simp only [Lit.wf, IntKind.min, IntKind.max, IntKind.signed, IntKind.bits]
  simp
  omega
theorem MapI.made (w : World) : MapI (w.alloc (.map #[] 0)) w.heap.size 0 (fun _ => none) :=
  ⟨.map [], World.ownsMap_made w _ _ _, fun k _ => ⟨rfl, fun i z h => by cases h⟩⟩
theorem MapI.mono {w : World} {b n n' : Nat} {f : Nat → Option Nat} (h : MapI w b n f) (hn : n ≤ n') : MapI w b n' f := by
  obtain ⟨D, h1, h2⟩ := h
  exact ⟨D, h1.mono hn, h2⟩
theorem MapI.lt {w : World} {b n : Nat} {f : Nat → Option Nat} (h : MapI w b n f) : b < w.heap.size := h.choose_spec.1.lt
theorem MapI.same {w w' : World} {b n : Nat} {f : Nat → Option Nat} (h : MapI w b n f) (he : w'.heap[b]? = w.heap[b]?) : MapI w' b n f := by
  obtain ⟨D, ⟨es, clock, hb, r⟩, h2⟩ := h
  exact ⟨D, ⟨es, clock, he.trans hb, r⟩, h2⟩
theorem MapI.look {w : World} {b n : Nat} {f : Nat → Option Nat} (h : MapI w b n f) {k : Nat} (hk : k < 65536) :
    (Instr.lookup 135 (.map (some b)) (.int .u16 k) true).run Try.prog w = .ok (.tuple #[.int .i64 ((f k).getD 0 : Nat), .bool (f k).isSome]) w := by
  obtain ⟨D, h1, h2⟩ := h
  obtain ⟨v, ps, hr, hv⟩ := h1.look_ok (Maps.int_keyed Try.underlying39) Try.underlying135 (zero_int w) (plainElem_int Try.underlying3 (q := .i64) (a := 0) (by decide)) (keyOf16 hk)
  obtain ⟨c, rfl, hc, _⟩ := plainElem_int_inv Try.underlying3 hv
  obtain ⟨h3, h4⟩ := h2 k hk
  rw [hr, h3]
  simp only [Prod.mk.injEq] at hc
  cases hf : f k with
  | none =>
    rw [hf] at h3
    rw [Maps.atKey_of_not_has (by simpa using h3)] at hc
    have : c = 0 := lit_inj hc.1
    rw [this]; rfl
  | some i =>
    rw [h4 i _ hf] at hc
    have : c = i := lit_inj hc.1
    rw [this]; rfl
theorem MapI.store {w : World} {b n : Nat} {f : Nat → Option Nat} (h : MapI w b n f) {k : Nat} (hk : k < 65536) {v : Nat} (hv : v ≤ 1000000) (hn : n ≤ 1000000) :
    ∃ w', (Instr.mapUpdate 135 (.map (some b)) (.int .u16 k) (.int .i64 v)).run Try.prog w = .ok () w' ∧ MapI w' b (n + 1) (mupd f k (some v)) ∧ w.grownBy w' (some b) := by
  obtain ⟨D, h1, h2⟩ := h
  obtain ⟨w', hr, h3, h4⟩ := h1.update (Maps.int_keyed Try.underlying39) Try.underlying135 (Nat.lt_of_le_of_lt hn (by decide)) (keyOf16 hk) (plainElem_int Try.underlying3 (q := .i64) (a := (v : Int)) (wf64 hv))
  refine ⟨w', hr, ⟨_, h3, fun x hx => ?_⟩, h4⟩
  by_cases e : x = k
  · subst e
    rw [mupd_same]
    exact ⟨Maps.has_put_same h1.isMap (isKey16 x) _, fun i z hi => by obtain rfl := Option.some.inj hi; exact Maps.atKey_put_same h1.isMap (isKey16 x) _ z⟩
  · rw [mupd_ne e]
    rw [Maps.has_put_other (lit16_ne e)]
    exact ⟨(h2 x hx).1, fun i z hi => by rw [Maps.atKey_put_other (lit16_ne e)]; exact (h2 x hx).2 i z hi⟩
theorem MapI.drop {w : World} {b n : Nat} {f : Nat → Option Nat} (h : MapI w b n f) {k : Nat} (hk : k < 65536) (ty : TypeId) :
    ∃ w', (Builtin.delete_ #[135, 39] ty #[.map (some b), .int .u16 k]).run Try.prog w = .ok (.tuple #[]) w' ∧ MapI w' b n (mupd f k none) ∧ w.grownBy w' (some b) := by
  obtain ⟨D, h1, h2⟩ := h
  obtain ⟨w', hr, h3, h4⟩ := h1.drop (Maps.int_keyed Try.underlying39) Try.underlying135 (keyOf16 hk) ty
  refine ⟨w', hr, ⟨_, h3, fun x hx => ?_⟩, h4.grown⟩
  by_cases e : x = k
  · subst e
    rw [mupd_same]
    exact ⟨Maps.has_del_same, fun i z hi => by cases hi⟩
  · rw [mupd_ne e]
    rw [Maps.has_del_other (lit16_ne e)]
    exact ⟨(h2 x hx).1, fun i z hi => by rw [Maps.atKey_del_other (lit16_ne e)]; exact (h2 x hx).2 i z hi⟩

/-- blocks of S may have been written, all others stay -/
structure Fp (S : Nat → Prop) (w w' : World) : Prop where
  os : w'.os = w.os
  tape : w'.tape = w.tape
  output : w'.output = w.output
  size : w.heap.size ≤ w'.heap.size
  block : ∀ k, k < w.heap.size → ¬ S k → w'.heap[k]? = w.heap[k]?
section
variable {S : Nat → Prop} {w w' w'' : World}
theorem Fp.refl (S : Nat → Prop) (w : World) : Fp S w w := ⟨rfl, rfl, rfl, Nat.le_refl _, fun _ _ _ => rfl⟩
theorem Fp.trans (h : Fp S w w') (h' : Fp S w' w'') : Fp S w w'' :=
  ⟨h'.os.trans h.os, h'.tape.trans h.tape, h'.output.trans h.output, Nat.le_trans h.size h'.size, fun k hk hs => (h'.block k (Nat.lt_of_lt_of_le hk h.size) hs).trans (h.block k hk hs)⟩
theorem Fp.of_le (h : Le w w') : Fp S w w' := ⟨h.out.os, h.out.tape, h.out.output, h.out.size, fun k hk _ => h.out.block k hk⟩
theorem Fp.of_grown {b : Nat} (h : w.grownBy w' (some b)) (hb : S b) : Fp S w w' := ⟨h.os, h.tape, h.output, h.size, fun k hk hs => h.block k hk (fun e => hs (by injection e with e; rw [e]; exact hb))⟩
theorem Fp.mono {T : Nat → Prop} (h : Fp S w w') (hs : ∀ k, S k → T k) : Fp T w w' := ⟨h.os, h.tape, h.output, h.size, fun k hk ht => h.block k hk (fun e => ht (hs k e))⟩
theorem Fp.drew (h : Fp S w w') : Fp S w w'.drew := ⟨h.os, h.tape, h.output, h.size, h.block⟩
theorem Fp.drewN (h : Fp S w w') (n : Nat) : Fp S w (w'.drewN n) := h.trans (Fp.of_le ((Le.refl w').drewN n))
theorem Fp.alloc (h : Fp S w w') (o : Obj) : Fp S w (w'.alloc o) := h.trans (Fp.of_le ((Le.refl w').alloc o))
theorem Fp.heap (h : Fp S w w') {k : Nat} {o : Obj} (hk : w.heap[k]? = some o) (hs : ¬ S k) : w'.heap[k]? = some o := (h.block k (lt_of_heap hk) hs).trans hk
theorem Fp.below (h : Fp S w w') {B : Nat} {w0 : World} (hb : Below B w0 w) (hB : B ≤ w.heap.size) (hs : ∀ k, S k → B ≤ k) : Below B w0 w' :=
  ⟨h.os.trans hb.os, h.tape.trans hb.tape, h.output.trans hb.output, Nat.le_trans hb.size h.size, fun k hk => (h.block k (by omega) (fun e => by have := hs k e; omega)).trans (hb.block k hk)⟩
theorem Fp.setCell (h : Fp S w w') {p : Addr} (hp : S p.block) (u : Value) : Fp S w (w'.setCell p u) :=
  h.trans ⟨rfl, rfl, rfl, by simp [World.setCell], fun k hk hs => Below.heap_setCell _ _ _ _ (fun e => hs (by rw [e]; exact hp))⟩
end

/-- bytes that nobody writes: nothing, or the whole of a block -/
def B8 (w : World) (l : List UInt8) (v : Value) : Prop :=
  (l = [] ∧ v = .slice none 0 0) ∨ ∃ g, v = .slice (some ⟨g, 0, none⟩) l.length l.length ∧ w.heap[g]? = some (.cells (u8s l).toArray 5 (0, 0))
theorem B8.nil {w : World} : B8 w [] (.slice none 0 0) := .inl ⟨rfl, rfl⟩
theorem B8.rsl {w : World} {l : List UInt8} {v : Value} (h : B8 w l v) : RSl 1 RU8 w l v := by
  rcases h with ⟨rfl, rfl⟩ | ⟨g, rfl, hg⟩
  · exact RSl.nil
  · refine ⟨_, _, rfl, Nat.le_refl _, fun hne => ⟨g, 0, rfl, fun i hi => ⟨[.int .u8 l[i].toNat], rfl, fun j hj => ?_, rfl⟩⟩⟩
    obtain rfl : j = 0 := by omega
    rw [cell_block hg]
    simp [u8s, hi]
theorem B8.later {S : Nat → Prop} {w w' : World} {l : List UInt8} {v : Value} (h : B8 w l v) (hf : Fp S w w') (hs : ∀ k cs fr, S k → w.heap[k]? ≠ some (.cells cs 5 fr)) : B8 w' l v := by
  rcases h with h | ⟨g, rfl, hg⟩
  · exact .inl h
  · exact .inr ⟨g, rfl, hf.heap hg (fun e => hs g _ _ e hg)⟩
theorem B8.le {w w' : World} {l : List UInt8} {v : Value} (h : B8 w l v) (hl : Le w w') : B8 w' l v := by
  rcases h with h | ⟨g, rfl, hg⟩
  · exact .inl h
  · exact .inr ⟨g, rfl, hl.heap hg⟩
theorem B8.slice {w : World} {l : List UInt8} {v : Value} (h : B8 w l v) : ∃ A, v = .slice A l.length l.length := by
  rcases h with ⟨rfl, rfl⟩ | ⟨g, rfl, hg⟩
  · exact ⟨_, rfl⟩
  · exact ⟨_, rfl⟩
end Go.Proofs.Ytekioihjfggmdaa

/- store: packets that may be asked for again. -/
namespace Go.Proofs.Ytekioihjfggmdaa
open Go.RowKit
set_option linter.unusedVariables false

structure St where
  room : Nat
  ring : List (Nat × List UInt8)
  at_ : Nat
  n : Nat
  wh : Nat → Option Nat
def St.new (room : Nat) : St := ⟨room, List.replicate room (0, []), 0, 0, fun _ => none⟩
def St.wh1 (s : St) : Nat → Option Nat := if s.n = s.room ∧ s.wh (s.ring.getD s.at_ (0, [])).1 = some s.at_ then mupd s.wh (s.ring.getD s.at_ (0, [])).1 none else s.wh
def St.add (s : St) (seq : Nat) (b : List UInt8) : St := ⟨s.room, s.ring.set s.at_ (seq, b), (s.at_ + 1) % s.room, min (s.n + 1) s.room, mupd s.wh1 seq (some s.at_)⟩
def St.get (s : St) (seq : Nat) : Option (List UInt8) := (s.wh seq).map fun i => (s.ring.getD i (0, [])).2
structure St.Ok (s : St) : Prop where
  pos : 0 < s.room
  le : s.room ≤ 4096
  len : s.ring.length = s.room
  at_ : s.at_ < s.room
  n : s.n ≤ s.room
  wh : ∀ k i, s.wh k = some i → i < s.room
  seq : ∀ x ∈ s.ring, x.1 < 65536 ∧ x.2.length ≤ 1000000
theorem St.new_ok {room : Nat} (h : 0 < room) (h2 : room ≤ 4096) : (St.new room).Ok :=
  ⟨h, h2, by simp [St.new], h, Nat.zero_le _, (fun k i h => by cases h), (fun x hx => by simp [St.new] at hx; rw [hx.2]; exact ⟨by decide, by decide⟩)⟩
theorem St.add_ok {s : St} (h : s.Ok) {seq : Nat} {b : List UInt8} (hs : seq < 65536) (hb : b.length ≤ 1000000) : (s.add seq b).Ok := by
  refine ⟨h.pos, h.le, by simp [St.add, h.len], Nat.mod_lt _ h.pos, Nat.min_le_right _ _, fun k i hk => ?_, fun x hx => ?_⟩
  · simp only [St.add, mupd] at hk
    split at hk
    · injection hk with hk; rw [← hk]; exact h.at_
    · unfold St.wh1 at hk
      split at hk
      · simp only [mupd] at hk
        split at hk
        · cases hk
        · exact h.wh _ _ hk
      · exact h.wh _ _ hk
  · simp only [St.add] at hx
    rcases List.mem_or_eq_of_mem_set hx with hx | rfl
    · exact h.seq x hx
    · exact ⟨hs, hb⟩

def entC (e : Nat × Value) : List Value := [.int .u16 e.1, e.2]
/-- a store in memory: its block, its ring's, its map's -/
structure StAt (w : World) (sb rb mb c : Nat) (s : St) (vs : List Value) : Prop where
  hs : w.heap[sb]? = some (.cells #[.slice (some ⟨rb, 0, none⟩) s.room s.room, .int .i64 s.at_, .int .i64 s.n, .map (some mb)] 137 (0, 0))
  hr : w.heap[rb]? = some (.cells (((s.ring.map (·.1)).zip vs).flatMap entC).toArray 169 (0, 0))
  len : vs.length = s.room
  bytes : ∀ i (h : i < s.room), B8 w (s.ring.getD i (0, [])).2 (vs.getD i undef)
  map : MapI w mb c s.wh
def stS (sb rb mb : Nat) (k : Nat) : Prop := k = sb ∨ k = rb ∨ k = mb

theorem made_blk {w w' : World} {n : Nat} (hle : Le w w') (ho : w'.ownsRow w.heap.size 5 1 (.slice (some ⟨w.heap.size, 0, none⟩) n n) n (madeCells (Value.int .u8 0).cells (n * 1)).toList) : w'.heap[w.heap.size]? = some (.cells (u8s (List.replicate n 0)).toArray 5 (0, 0)) := by
  rw [made_u8] at ho
  rcases ho.2 with ⟨hv, _⟩ | ⟨g, cap, cur, hv, _, hh, _, _, hcs, ht⟩
  · cases hv
  · injection hv with e1 e2 e3
    injection e1 with e1
    injection e1 with e1 _ _
    subst e1 e3
    rw [hh, ← ht, List.take_of_length_le (by simp; omega)]
theorem copy_src {w : World} {A : Option Addr} {cap : Nat} {l : List UInt8} (h : RSl 1 RU8 w l (.slice A l.length cap)) (g : Nat) : 0 < (u8s l).length → (some (⟨g, 0, none⟩ : Addr)) = some ⟨g, 0, none⟩ ∧ ∃ ad, A = some ad ∧ ∀ j v, (u8s l)[j]? = some v → w.cell? (ad.add j) = some v := by
  intro hne
  obtain ⟨b, off, hA, hc⟩ := cells_of_rsl h (by intro e; rw [e] at hne; simp at hne)
  exact ⟨rfl, _, hA, fun j v hj => by rw [addr_add]; exact hc j v hj⟩

set_option maxRecDepth 100000 in
set_option maxHeartbeats 1000000 in
theorem own_any (A : Option Addr) (cap : Nat) (l : List UInt8) (w : World) (hr : RSl 1 RU8 w l (.slice A l.length cap)) (hl : l.length ≤ 1000000) :
    Calls Try.prog 69 #[.slice A l.length cap] w (fun e w' => ∃ g, e = .returned (.slice (some ⟨g, 0, none⟩) l.length l.length) ∧ w.heap.size ≤ g ∧ w'.heap[g]? = some (.cells (u8s l).toArray 5 (0, 0)) ∧ Below w.heap.size w w') := by
  have HR := hide hr
  clear hr
  go_enter Try.func69, Try.ntmps69
  go_wp2_with (first | (refine wpl_make rfl sl8 (.tmp 5) (.tmp 5) rfl (kl := .i64) (kc := .i64) (n := l.length) rfl rfl (by omega) (by omega) ?_; intro w2 ho2 hle2; have HL2 := hide hle2; have hg2 := made_blk hle2 ho2; have HG2 := hide hg2; have HP2 := hide (copy_src (hle2.rsl keeps_u8 HR.out) w.heap.size); clear ho2 hg2 hle2) | (refine wpList_copy_splice rfl (.tmp 7) (.tmp 8) 44 44 rfl 5 Try.underlying44 (by kernel_rfl) _ _ _ _ _ _ rfl rfl w.heap.size 0 (u8s (List.replicate l.length 0)) 5 HG2.out (u8s l) (by simp [u8s]) HP2.out (by simp [u8s]) u8s_one w.heap.size w HL2.out.out (Nat.le_refl _) ?_; intro w3 hg3 hb3; have HG3 := hide hg3; have HB3 := hide hb3; clear hg3 hb3))
  go_ret
  refine ⟨w.heap.size, rfl, Nat.le_refl _, ?_, HB3.out⟩
  have h : w3.heap[w.heap.size]? = some (.cells (splice (u8s (List.replicate l.length 0)) 0 (u8s l)).toArray 5 (0, 0)) := HG3.out
  rw [h]
  simp [splice, u8s]

theorem sle : SlT Try.prog 134 169 (.agg #[.int .u16 0, .slice none 0 0]) 2 32 := ⟨Try.underlying134, by kernel_rfl, rfl, by omega⟩
theorem madeCells_two (a b : Value) : ∀ n : Nat, (madeCells #[a, b] (n * 2)).toList = (List.replicate n [a, b]).flatten
  | 0 => by simp [madeCells]
  | n + 1 => by
    have ih := madeCells_two a b n
    simp only [madeCells, Array.toList_map, Array.toList_range] at ih ⊢
    rw [show (n + 1) * 2 = n * 2 + 1 + 1 by omega, List.range_succ, List.range_succ, List.map_append, List.map_append, ih, List.replicate_succ']
    have e1 : n * 2 % 2 = 0 := by omega
    have e2 : (n * 2 + 1) % 2 = 1 := by omega
    simp [e1, e2]
theorem zip_rep {α β : Type} (a : α) (b : β) : ∀ n : Nat, (List.replicate n a).zip (List.replicate n b) = List.replicate n (a, b)
  | 0 => rfl
  | n + 1 => by simp [List.replicate_succ, zip_rep a b n]
theorem flat_rep {α : Type} (x : α) (f : α → List Value) : ∀ n : Nat, (List.replicate n x).flatMap f = (List.replicate n (f x)).flatten
  | 0 => rfl
  | n + 1 => by simp [List.replicate_succ, flat_rep x f n]
theorem getD_rep {α : Type} (x d : α) {n i : Nat} (h : i < n) : (List.replicate n x).getD i d = x := by simp [h]
/-- a new store's ring -/
theorem st_new_at {w w' : World} {n : Nat} (h0 : 0 < n) (hle : Le w w') (ho : w'.ownsRow w.heap.size 169 2 (.slice (some ⟨w.heap.size, 0, none⟩) n n) n (madeCells (Value.agg #[.int .u16 0, .slice none 0 0]).cells (n * 2)).toList) :
    StAt ((w'.alloc (.map #[] 0)).alloc (.cells #[.slice (some ⟨w.heap.size, 0, none⟩) n n, .int .i64 0, .int .i64 0, .map (some w'.heap.size)] 137)) (w'.heap.size + 1) w.heap.size w'.heap.size 0 (St.new n) (List.replicate n (.slice none 0 0)) := by
  have hr : w'.heap[w.heap.size]? = some (.cells (((List.replicate n 0).zip (List.replicate n (.slice none 0 0))).flatMap entC).toArray 169 (0, 0)) := by
    rw [show (Value.agg #[.int .u16 0, .slice none 0 0]).cells = #[.int .u16 0, .slice none 0 0] from rfl, madeCells_two] at ho
    rw [zip_rep, flat_rep]
    rcases ho.2 with ⟨hv, _⟩ | ⟨g, cap, cur, hv, _, hh, _, _, hcs, ht⟩
    · cases hv
    · injection hv with e1 e2 e3
      injection e1 with e1
      injection e1 with e1 _ _
      subst e1 e3
      rw [List.take_of_length_le (by simp; omega)] at ht
      rw [hh, show entC (0, Value.slice none 0 0) = [.int .u16 0, .slice none 0 0] from rfl, ← ht]
  refine ⟨heap_at (alloc_size _ _), heap_alloc (heap_alloc ?_), by simp [St.new], fun i hi => ?_, ?_⟩
  · simpa [St.new] using hr
  · simp only [St.new] at hi ⊢
    rw [getD_rep _ _ hi, getD_rep _ _ hi]
    exact B8.nil
  · have := MapI.made w'
    exact this.same ((heap_alloc (heap_at rfl)).trans (heap_at rfl).symm)

set_option maxRecDepth 100000 in
set_option maxHeartbeats 1000000 in
theorem stNew_any (n : Nat) (h0 : 0 < n) (h1 : n ≤ 4096) (w : World) : Calls Try.prog 25 #[.int .i64 n] w (fun e w' => ∃ rb mb sb, e = .returned (.pointer (some ⟨sb, 0, none⟩)) ∧ StAt w' sb rb mb 0 (St.new n) (List.replicate n (.slice none 0 0)) ∧ (w.heap.size ≤ rb ∧ rb < mb ∧ mb < sb) ∧ Below w.heap.size w w') := by
  have hb1 : ¬ (n : Int) < 1 := by omega
  have hb2 : ¬ (4096 : Int) < n := by omega
  have hmm := @run_makeMap Try.prog
  go_enter Try.func25, Try.ntmps25
  go_wp2_with (refine wpl_make rfl sle (.tmp 9) (.tmp 9) rfl (kl := .i64) (kc := .i64) (n := n) rfl rfl (by omega) (by omega) ?_; intro w2 ho2 hle2; have HL2 := hide hle2; have HO2 := hide ho2; clear ho2 hle2)
  go_ret
  refine ⟨w.heap.size, w2.heap.size, w2.heap.size + 1, rfl, st_new_at h0 HL2.out HO2.out, ⟨Nat.le_refl _, ?_, Nat.lt_succ_self _⟩, ((HL2.out.alloc _).alloc _).out⟩
  exact (HO2.out.lt _ rfl).2
end Go.Proofs.Ytekioihjfggmdaa

/- store.Get. -/
namespace Go.Proofs.Ytekioihjfggmdaa
open Go.RowKit
set_option linter.unusedVariables false

theorem ent_cells {s : St} {vs : List Value} (hl : vs.length = s.room) (hk : s.Ok) {i : Nat} (hi : i < s.room) {j : Nat} (hj : j < 2) :
    (((s.ring.map (·.1)).zip vs).flatMap entC)[i * 2 + j]? = (entC ((s.ring.getD i (0, [])).1, vs.getD i undef))[j]? := by
  have h1 : i < ((s.ring.map (·.1)).zip vs).length := by simp [hk.len, hl, hi]
  rw [flat_get entC 2 _ (fun _ _ => rfl) i h1 j hj]
  have h2 : i < s.ring.length := by rw [hk.len]; exact hi
  have h3 : i < vs.length := by rw [hl]; exact hi
  simp [h2, h3]
theorem StAt.seq_at {w : World} {sb rb mb c : Nat} {s : St} {vs : List Value} (h : StAt w sb rb mb c s vs) (hk : s.Ok) {i : Nat} (hi : i < s.room) : w.cell? ⟨rb, i * 2, none⟩ = some (.int .u16 (s.ring.getD i (0, [])).1) := by
  have := ent_cells h.len hk hi (j := 0) (by omega)
  rw [cell_block h.hr, List.getElem?_toArray]
  exact this
theorem StAt.b_at {w : World} {sb rb mb c : Nat} {s : St} {vs : List Value} (h : StAt w sb rb mb c s vs) (hk : s.Ok) {i : Nat} (hi : i < s.room) : w.cell? ⟨rb, i * 2 + 1, none⟩ = some (vs.getD i undef) := by
  have := ent_cells h.len hk hi (j := 1) (by omega)
  rw [cell_block h.hr, List.getElem?_toArray, this]
  rfl
theorem ring_len {s : St} (hk : s.Ok) (i : Nat) : (s.ring.getD i (0, [])).2.length ≤ 1000000 ∧ (s.ring.getD i (0, [])).1 < 65536 := by
  by_cases h : i < s.ring.length
  · rw [List.getD_eq_getElem?_getD, List.getElem?_eq_getElem h]
    have := hk.seq _ (List.getElem_mem h)
    exact ⟨this.2, this.1⟩
  · rw [List.getD_eq_getElem?_getD, List.getElem?_eq_none (by omega)]
    exact ⟨by decide, by decide⟩

/-- what Get gives -/
def GetP (w : World) (r : Option (List UInt8)) (e : Ending) (w' : World) : Prop := ∃ v, e = .returned (.tuple #[v, .bool r.isSome]) ∧ B8 w' (r.getD []) v ∧ Below w.heap.size w w'

set_option maxRecDepth 100000 in
set_option maxHeartbeats 1000000 in
theorem stGet_any {w : World} {sb rb mb c : Nat} {s : St} {vs : List Value} (h : StAt w sb rb mb c s vs) (hk : s.Ok) (seq : Nat) (hs : seq < 65536) :
    Calls Try.prog 37 #[.pointer (some ⟨sb, 0, none⟩), .int .u16 seq] w (GetP w (s.get seq)) := by
  have hl := h.map.look hs
  have c0 : w.cell? ⟨sb, 0, none⟩ = some (.slice (some ⟨rb, 0, none⟩) s.room s.room) := box_cell h.hs 0 _ rfl _ (Le.refl _)
  have c3 : w.cell? ⟨sb, 3, none⟩ = some (.map (some mb)) := box_cell h.hs 3 _ rfl _ (Le.refl _)
  rw [St.get]
  cases hw : s.wh seq with
  | none =>
    rw [hw] at hl
    simp only [Option.map_none, Option.getD_none, Option.isSome_none] at hl ⊢
    clear hw h hk
    go_enter Try.func37, Try.ntmps37
    go_wp2_with fail
    go_ret2
    exact ⟨_, rfl, B8.nil, Below.refl _ _⟩
  | some i =>
    rw [hw] at hl
    have hi := hk.wh _ _ hw
    have hro := hk.le
    have hb := h.b_at hk hi
    have hby := h.bytes i hi
    have hle := (ring_len hk i).1
    simp only [Option.map_some, Option.getD_some, Option.isSome_some] at hl ⊢
    generalize (s.ring.getD i (0, [])).2 = L at *
    obtain ⟨A, hA⟩ := hby.slice
    rw [hA] at hby hb
    have HO := hide (fun W (hW : Le w W) => own_any A L.length L W (hW.rsl keeps_u8 hby.rsl) hle)
    clear hw h hk hA hby
    have hi0 : (0 : Int) ≤ i := by omega
    have hi1 : (i : Int) < s.room := by omega
    go_enter Try.func37, Try.ntmps37
    go_wp2_with fail
    refine (HO.out _ (Le.refl _)).mono ?_
    rintro e w' ⟨g, rfl, hg1, hg2, hb'⟩
    have HB := hide (And.intro hg2 hb')
    clear hg1 hg2 hb'
    go_wp2_with fail
    go_ret2
    exact ⟨_, rfl, .inr ⟨g, rfl, HB.out.1⟩, HB.out.2⟩
end Go.Proofs.Ytekioihjfggmdaa
