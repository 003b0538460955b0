/- Texts of one claim, laid together: Store AwkN AwkC AwkK -/
import Derived.Laws.CopyOwn
import Derived.Deep.RegionLaw
import Derived.Test.YtkcpfhbfjpldhaaGreatDoorJo09
import Derived.Test.YtkcpfhbfjpldhaaGreatDoorJo04
import Derived.Test.YtkcpfhbfjpldhaaGreatDoorJo05
/- store: packets that may be asked for again. -/
namespace Go.Proofs.YtkcpfhbfjpldhaaGreatDoor
open Go.RowKit
set_option linter.unusedVariables false

structure St where
  room : Nat
  ring : List (Nat × List UInt8)
  at_ : Nat
  n : Nat
  wh : Nat → Option Nat
def St.new (room : Nat) : St := ⟨room, List.replicate room (0, []), 0, 0, fun _ => none⟩
def St.wh1 (s : St) : Nat → Option Nat := if s.n = s.room ∧ s.wh (s.ring.getD s.at_ (0, [])).1 = some s.at_ then mupd s.wh (s.ring.getD s.at_ (0, [])).1 none else s.wh
def St.add (s : St) (seq : Nat) (b : List UInt8) : St := ⟨s.room, s.ring.set s.at_ (seq, b), (s.at_ + 1) % s.room, min (s.n + 1) s.room, mupd s.wh1 seq (some s.at_)⟩
def St.get (s : St) (seq : Nat) : Option (List UInt8) := (s.wh seq).map fun i => (s.ring.getD i (0, [])).2
structure St.Ok (s : St) : Prop where
  pos : 0 < s.room
  le : s.room ≤ 4096
  len : s.ring.length = s.room
  at_ : s.at_ < s.room
  n : s.n ≤ s.room
  wh : ∀ k i, s.wh k = some i → i < s.room
  seq : ∀ x ∈ s.ring, x.1 < 65536 ∧ x.2.length ≤ 1000000
theorem St.new_ok {room : Nat} (h : 0 < room) (h2 : room ≤ 4096) : (St.new room).Ok :=
  ⟨h, h2, by simp [St.new], h, Nat.zero_le _, (fun k i h => by cases h), (fun x hx => by simp [St.new] at hx; rw [hx.2]; exact ⟨by decide, by decide⟩)⟩
theorem St.add_ok {s : St} (h : s.Ok) {seq : Nat} {b : List UInt8} (hs : seq < 65536) (hb : b.length ≤ 1000000) : (s.add seq b).Ok := by
  refine ⟨h.pos, h.le, by simp [St.add, h.len], Nat.mod_lt _ h.pos, Nat.min_le_right _ _, fun k i hk => ?_, fun x hx => ?_⟩
  · simp only [St.add, mupd] at hk
    split at hk
    · injection hk with hk; rw [← hk]; exact h.at_
    · unfold St.wh1 at hk
      split at hk
      · simp only [mupd] at hk
        split at hk
        · cases hk
        · exact h.wh _ _ hk
      · exact h.wh _ _ hk
  · simp only [St.add] at hx
    rcases List.mem_or_eq_of_mem_set hx with hx | rfl
    · exact h.seq x hx
    · exact ⟨hs, hb⟩

def entC (e : Nat × Value) : List Value := [.int .u16 e.1, e.2]
/-- a store in memory: its block, its ring's, its map's -/
structure StAt (w : World) (sb rb mb c : Nat) (s : St) (vs : List Value) : Prop where
  hs : w.heap[sb]? = some (.cells #[.slice (some ⟨rb, 0, none⟩) s.room s.room, .int .i64 s.at_, .int .i64 s.n, .map (some mb)] 258 (0, 0))
  hr : w.heap[rb]? = some (.cells (((s.ring.map (·.1)).zip vs).flatMap entC).toArray 438 (0, 0))
  len : vs.length = s.room
  bytes : ∀ i (h : i < s.room), B8 w (s.ring.getD i (0, [])).2 (vs.getD i undef)
  map : MapI w mb c s.wh
def stS (sb rb mb : Nat) (k : Nat) : Prop := k = sb ∨ k = rb ∨ k = mb

theorem made_blk {w w' : World} {n : Nat} (hle : Le w w') (ho : w'.ownsRow w.heap.size 5 1 (.slice (some ⟨w.heap.size, 0, none⟩) n n) n (madeCells (Value.int .u8 0).cells (n * 1)).toList) : w'.heap[w.heap.size]? = some (.cells (u8s (List.replicate n 0)).toArray 5 (0, 0)) := by
  rw [made_u8] at ho
  rcases ho.2 with ⟨hv, _⟩ | ⟨g, cap, cur, hv, _, hh, _, _, hcs, ht⟩
  · cases hv
  · injection hv with e1 e2 e3
    injection e1 with e1
    injection e1 with e1 _ _
    subst e1 e3
    rw [hh, ← ht, List.take_of_length_le (by simp; omega)]
theorem copy_src {w : World} {A : Option Addr} {cap : Nat} {l : List UInt8} (h : RSl 1 RU8 w l (.slice A l.length cap)) (g : Nat) : 0 < (u8s l).length → (some (⟨g, 0, none⟩ : Addr)) = some ⟨g, 0, none⟩ ∧ ∃ ad, A = some ad ∧ ∀ j v, (u8s l)[j]? = some v → w.cell? (ad.add j) = some v := by
  intro hne
  obtain ⟨b, off, hA, hc⟩ := cells_of_rsl h (by intro e; rw [e] at hne; simp at hne)
  exact ⟨rfl, _, hA, fun j v hj => by rw [addr_add]; exact hc j v hj⟩

set_option maxRecDepth 100000 in
set_option maxHeartbeats 1000000 in
theorem own_any (A : Option Addr) (cap : Nat) (l : List UInt8) (w : World) (hr : RSl 1 RU8 w l (.slice A l.length cap)) (hl : l.length ≤ 1000000) :
    Calls Tryz.prog 250 #[.slice A l.length cap] w (fun e w' => ∃ g, e = .returned (.slice (some ⟨g, 0, none⟩) l.length l.length) ∧ w.heap.size ≤ g ∧ w'.heap[g]? = some (.cells (u8s l).toArray 5 (0, 0)) ∧ Below w.heap.size w w') := by
  have HR := hide hr
  clear hr
  go_enter Tryz.func250, Tryz.ntmps250
  go_wp2_with (first | (refine wpl_make rfl sl8 (.tmp 5) (.tmp 5) rfl (kl := .i64) (kc := .i64) (n := l.length) rfl rfl (by omega) (by omega) ?_; intro w2 ho2 hle2; have HL2 := hide hle2; have hg2 := made_blk hle2 ho2; have HG2 := hide hg2; have HP2 := hide (copy_src (hle2.rsl keeps_u8 HR.out) w.heap.size); clear ho2 hg2 hle2) | (refine wpList_copy_splice rfl (.tmp 7) (.tmp 8) 25 25 rfl 5 Tryz.underlying25 (by kernel_rfl) _ _ _ _ _ _ rfl rfl w.heap.size 0 (u8s (List.replicate l.length 0)) 5 HG2.out (u8s l) (by simp [u8s]) HP2.out (by simp [u8s]) u8s_one w.heap.size w HL2.out.out (Nat.le_refl _) ?_; intro w3 hg3 hb3; have HG3 := hide hg3; have HB3 := hide hb3; clear hg3 hb3))
  go_ret
  refine ⟨w.heap.size, rfl, Nat.le_refl _, ?_, HB3.out⟩
  have h : w3.heap[w.heap.size]? = some (.cells (splice (u8s (List.replicate l.length 0)) 0 (u8s l)).toArray 5 (0, 0)) := HG3.out
  rw [h]
  simp [splice, u8s]

theorem sle : SlT Tryz.prog 255 438 (.agg #[.int .u16 0, .slice none 0 0]) 2 32 := ⟨Tryz.underlying255, by kernel_rfl, rfl, by omega⟩
theorem madeCells_two (a b : Value) : ∀ n : Nat, (madeCells #[a, b] (n * 2)).toList = (List.replicate n [a, b]).flatten
  | 0 => by simp [madeCells]
  | n + 1 => by
    have ih := madeCells_two a b n
    simp only [madeCells, Array.toList_map, Array.toList_range] at ih ⊢
    rw [show (n + 1) * 2 = n * 2 + 1 + 1 by omega, List.range_succ, List.range_succ, List.map_append, List.map_append, ih, List.replicate_succ']
    have e1 : n * 2 % 2 = 0 := by omega
    have e2 : (n * 2 + 1) % 2 = 1 := by omega
    simp [e1, e2]
theorem zip_rep {α β : Type} (a : α) (b : β) : ∀ n : Nat, (List.replicate n a).zip (List.replicate n b) = List.replicate n (a, b)
  | 0 => rfl
  | n + 1 => by simp [List.replicate_succ, zip_rep a b n]
theorem flat_rep {α : Type} (x : α) (f : α → List Value) : ∀ n : Nat, (List.replicate n x).flatMap f = (List.replicate n (f x)).flatten
  | 0 => rfl
  | n + 1 => by simp [List.replicate_succ, flat_rep x f n]
theorem getD_rep {α : Type} (x d : α) {n i : Nat} (h : i < n) : (List.replicate n x).getD i d = x := by simp [h]
/-- a new store's ring -/
theorem st_new_at {w w' : World} {n : Nat} (h0 : 0 < n) (hle : Le w w') (ho : w'.ownsRow w.heap.size 438 2 (.slice (some ⟨w.heap.size, 0, none⟩) n n) n (madeCells (Value.agg #[.int .u16 0, .slice none 0 0]).cells (n * 2)).toList) :
    StAt ((w'.alloc (.map #[] 0)).alloc (.cells #[.slice (some ⟨w.heap.size, 0, none⟩) n n, .int .i64 0, .int .i64 0, .map (some w'.heap.size)] 258)) (w'.heap.size + 1) w.heap.size w'.heap.size 0 (St.new n) (List.replicate n (.slice none 0 0)) := by
  have hr : w'.heap[w.heap.size]? = some (.cells (((List.replicate n 0).zip (List.replicate n (.slice none 0 0))).flatMap entC).toArray 438 (0, 0)) := by
    rw [show (Value.agg #[.int .u16 0, .slice none 0 0]).cells = #[.int .u16 0, .slice none 0 0] from rfl, madeCells_two] at ho
    rw [zip_rep, flat_rep]
    rcases ho.2 with ⟨hv, _⟩ | ⟨g, cap, cur, hv, _, hh, _, _, hcs, ht⟩
    · cases hv
    · injection hv with e1 e2 e3
      injection e1 with e1
      injection e1 with e1 _ _
      subst e1 e3
      rw [List.take_of_length_le (by simp; omega)] at ht
      rw [hh, show entC (0, Value.slice none 0 0) = [.int .u16 0, .slice none 0 0] from rfl, ← ht]
  refine ⟨heap_at (alloc_size _ _), heap_alloc (heap_alloc ?_), by simp [St.new], fun i hi => ?_, ?_⟩
  · simpa [St.new] using hr
  · simp only [St.new] at hi ⊢
    rw [getD_rep _ _ hi, getD_rep _ _ hi]
    exact B8.nil
  · have := MapI.made w'
    exact this.same ((heap_alloc (heap_at rfl)).trans (heap_at rfl).symm)

set_option maxRecDepth 100000 in
set_option maxHeartbeats 1000000 in
theorem stNew_any (n : Nat) (h0 : 0 < n) (h1 : n ≤ 4096) (w : World) : Calls Tryz.prog 86 #[.int .i64 n] w (fun e w' => ∃ rb mb sb, e = .returned (.pointer (some ⟨sb, 0, none⟩)) ∧ StAt w' sb rb mb 0 (St.new n) (List.replicate n (.slice none 0 0)) ∧ (w.heap.size ≤ rb ∧ rb < mb ∧ mb < sb) ∧ Below w.heap.size w w') := by
  have hb1 : ¬ (n : Int) < 1 := by omega
  have hb2 : ¬ (4096 : Int) < n := by omega
  have hmm := @run_makeMap Tryz.prog
  go_enter Tryz.func86, Tryz.ntmps86
  go_wp2_with (refine wpl_make rfl sle (.tmp 9) (.tmp 9) rfl (kl := .i64) (kc := .i64) (n := n) rfl rfl (by omega) (by omega) ?_; intro w2 ho2 hle2; have HL2 := hide hle2; have HO2 := hide ho2; clear ho2 hle2)
  go_ret
  refine ⟨w.heap.size, w2.heap.size, w2.heap.size + 1, rfl, st_new_at h0 HL2.out HO2.out, ⟨Nat.le_refl _, ?_, Nat.lt_succ_self _⟩, ((HL2.out.alloc _).alloc _).out⟩
  exact (HO2.out.lt _ rfl).2
/-- of no packets there is no store -/
theorem stNew_none (w : World) : Calls Tryz.prog 86 #[.int .i64 0] w (fun e w' => e = .returned (.pointer none) ∧ w = w') := by
  go_enter Tryz.func86, Tryz.ntmps86
  go_wp2_with fail
  go_ret
  exact ⟨rfl, rfl⟩
end Go.Proofs.YtkcpfhbfjpldhaaGreatDoor

/- awake24: makers of rows: a pointer comes back, nothing that was there turns. -/
namespace Go.Proofs.YtkcpfhbfjpldhaaGreatDoor
open Go.RowKit
set_option linter.unusedVariables false

/-- a pointer comes back, nothing that was there turns -/
def PtrNew (w : World) (e : Ending) (w' : World) : Prop := ∃ b, e = .returned (.pointer (some ⟨b, 0, none⟩)) ∧ Le w w'

theorem slArena : SlT Tryz.prog 138 339 (.agg #[.pointer none, .int .u32 0, .bool false]) 3 16 := ⟨Tryz.underlying138, by kernel_rfl, rfl, by omega⟩
set_option maxRecDepth 100000 in
theorem newArena (w : World) : Calls Tryz.prog 47 #[.int .i64 8] w (PtrNew w) := by
  go_enter Tryz.func47, Tryz.ntmps47
  go_wp2_with (refine wpl_make rfl slArena _ _ rfl (kl := .i64) (kc := .i64) (n := 8) rfl rfl (by omega) (by omega) ?_; intro w2 ho2 hle2; have HL2 := hide hle2; clear ho2 hle2)
  go_ret
  exact ⟨_, rfl, HL2.out.alloc _⟩

theorem slPins : SlT Tryz.prog 141 303 (.agg #[.int .u64 0, .int .u64 0, .bool false]) 3 24 := ⟨Tryz.underlying141, by kernel_rfl, rfl, by omega⟩
set_option maxRecDepth 100000 in
theorem newPins (w : World) : Calls Tryz.prog 48 #[.int .i64 2] w (PtrNew w) := by
  go_enter Tryz.func48, Tryz.ntmps48
  go_wp2_with (refine wpl_make rfl slPins _ _ rfl (kl := .i64) (kc := .i64) (n := 2) rfl rfl (by omega) (by omega) ?_; intro w2 ho2 hle2; have HL2 := hide hle2; clear ho2 hle2)
  go_ret
  exact ⟨_, rfl, HL2.out.alloc _⟩

theorem slAck : SlT Tryz.prog 242 148 (.agg #[.int .i64 0, .int .u64 0]) 2 16 := ⟨Tryz.underlying242, by kernel_rfl, rfl, by omega⟩
set_option maxRecDepth 100000 in
theorem newAck (w : World) : Calls Tryz.prog 81 #[.int .i64 6] w (PtrNew w) := by
  go_enter Tryz.func81, Tryz.ntmps81
  go_wp2_with (refine wpl_make rfl slAck _ _ rfl (kl := .i64) (kc := .i64) (n := 6) rfl rfl (by omega) (by omega) ?_; intro w2 ho2 hle2; have HL2 := hide hle2; clear ho2 hle2)
  go_ret
  exact ⟨_, rfl, HL2.out.alloc _⟩

theorem slTab : SlT Tryz.prog 245 154 (.pointer none) 1 8 := ⟨Tryz.underlying245, by kernel_rfl, rfl, by omega⟩
set_option maxRecDepth 100000 in
theorem newTab (w : World) : Calls Tryz.prog 82 #[.int .i64 3] w (PtrNew w) := by
  go_enter Tryz.func82, Tryz.ntmps82
  go_wp2_with (refine wpl_make rfl slTab _ _ rfl (kl := .i64) (kc := .i64) (n := 3) rfl rfl (by omega) (by omega) ?_; intro w2 ho2 hle2; have HL2 := hide hle2; clear ho2 hle2)
  go_ret
  exact ⟨_, rfl, HL2.out.alloc _⟩

theorem slPacket : SlT Tryz.prog 259 177 (.agg #[.int .i64 0, .slice none 0 0]) 2 32 := ⟨Tryz.underlying259, by kernel_rfl, rfl, by omega⟩
set_option maxRecDepth 100000 in
theorem newPacket (w : World) : Calls Tryz.prog 87 #[.int .i64 6] w (PtrNew w) := by
  go_enter Tryz.func87, Tryz.ntmps87
  go_wp2_with (refine wpl_make rfl slPacket _ _ rfl (kl := .i64) (kc := .i64) (n := 6) rfl rfl (by omega) (by omega) ?_; intro w2 ho2 hle2; have HL2 := hide hle2; clear ho2 hle2)
  go_ret
  exact ⟨_, rfl, HL2.out.alloc _⟩

theorem slCall : SlT Tryz.prog 248 158 (.agg #[.int .i64 0, .slice none 0 0]) 2 32 := ⟨Tryz.underlying248, by kernel_rfl, rfl, by omega⟩
/-- a queue of calls: nothing in it -/
def QNew (w : World) (e : Ending) (w' : World) : Prop := ∃ A Q, e = .returned (.pointer (some ⟨Q, 0, none⟩)) ∧ A ≠ Q ∧ w.heap.size ≤ A ∧ w.heap.size ≤ Q ∧
  w'.heap[A]? = some (.cells #[.int .i64 0, .slice none 0 0, .int .i64 0, .slice none 0 0, .int .i64 0, .slice none 0 0, .int .i64 0, .slice none 0 0] 158 (0, 0)) ∧
  w'.heap[Q]? = some (.cells #[.slice (some ⟨A, 0, none⟩) 4 4, .int .i64 0, .int .i64 0] 250 (0, 0)) ∧ Le w w'
set_option maxRecDepth 100000 in
theorem newCall (w : World) : Calls Tryz.prog 83 #[.int .i64 4] w (QNew w) := by
  go_enter Tryz.func83, Tryz.ntmps83
  go_wp2_with (refine wpl_make rfl slCall _ _ rfl (kl := .i64) (kc := .i64) (n := 4) rfl rfl (by omega) (by omega) ?_; intro w2 ho2 hle2; have HL2 := hide hle2; have HO2 := hide ho2; clear ho2 hle2)
  go_ret
  have hlt := (HO2.out.lt _ rfl).2
  have hA : w2.heap[w.heap.size]? = some (.cells #[.int .i64 0, .slice none 0 0, .int .i64 0, .slice none 0 0, .int .i64 0, .slice none 0 0, .int .i64 0, .slice none 0 0] 158 (0, 0)) := by
    have ho := HO2.out
    rw [show (Value.agg #[.int .i64 0, .slice none 0 0]).cells = #[.int .i64 0, .slice none 0 0] from rfl, madeCells_two] at ho
    rcases ho.2 with ⟨hv, _⟩ | ⟨g, cap, cur, hv, _, hh, _, _, hcs, ht⟩
    · cases hv
    · injection hv with e1 e2 e3
      injection e1 with e1
      injection e1 with e1 _ _
      subst e1 e3
      rw [List.take_of_length_le (by simp; omega)] at ht
      rw [hh, show #[Value.int .i64 0, .slice none 0 0, .int .i64 0, .slice none 0 0, .int .i64 0, .slice none 0 0, .int .i64 0, .slice none 0 0] = (List.replicate 4 [Value.int .i64 0, .slice none 0 0]).flatten.toArray from rfl, ← ht]
  exact ⟨w.heap.size, w2.heap.size, rfl, Nat.ne_of_lt hlt, Nat.le_refl _, HL2.out.size, heap_alloc hA, heap_at rfl, HL2.out.alloc _⟩

set_option maxRecDepth 100000 in
theorem newDedup (w : World) : Calls Tryz.prog 84 #[.int .i64 20] w (PtrNew w) := by
  have hmm := @run_makeMap Tryz.prog
  go_enter Tryz.func84, Tryz.ntmps84
  go_wp2_with fail
  go_ret
  exact ⟨_, rfl, ((Le.refl w).alloc _).alloc _⟩

theorem newStore (w : World) : Calls Tryz.prog 86 #[.int .i64 4] w (PtrNew w) :=
  (stNew_any 4 (by omega) (by omega) w).mono fun e w' ⟨rb, mb, sb, h1, _, _, h2⟩ => ⟨sb, h1, ⟨h2⟩⟩

set_option maxRecDepth 100000 in
theorem in_any (x low high : Int) (w : World) : Calls Tryz.prog 125 #[.int .i64 x, .int .i64 low, .int .i64 high] w (fun e w' => e = .returned (.bool (decide (low ≤ x) && decide (x ≤ high))) ∧ w = w') := by
  by_cases h1 : low ≤ x
  · by_cases h2 : x ≤ high
    · have e : (decide (low ≤ x) && decide (x ≤ high)) = true := by simp [h1, h2]
      rw [e]
      go_enter Tryz.func125, Tryz.ntmps125
      go_wp2_with fail
      go_ret
      exact ⟨rfl, rfl⟩
    · have e : (decide (low ≤ x) && decide (x ≤ high)) = false := by simp [h2]
      rw [e]
      go_enter Tryz.func125, Tryz.ntmps125
      go_wp2_with fail
      go_ret
      exact ⟨rfl, rfl⟩
  · have e : (decide (low ≤ x) && decide (x ≤ high)) = false := by simp [h1]
    rw [e]
    go_enter Tryz.func125, Tryz.ntmps125
    go_wp2_with fail
    go_ret
    exact ⟨rfl, rfl⟩
end Go.Proofs.YtkcpfhbfjpldhaaGreatDoor

/- awake24: the makers of boards, states, controls, workers. (Written by gen_awkc.py.) -/
namespace Go.Proofs.YtkcpfhbfjpldhaaGreatDoor
open Go.RowKit
set_option linter.unusedVariables false

theorem slU64 : SlT Tryz.prog 53 41 (.int .u64 0) 1 8 := ⟨Tryz.underlying53, by kernel_rfl, rfl, by omega⟩
theorem slTq : SlT Tryz.prog 149 152 (.pointer none) 1 8 := ⟨Tryz.underlying149, by kernel_rfl, rfl, by omega⟩

set_option maxRecDepth 100000 in
set_option maxHeartbeats 1000000 in
theorem newDelta (w : World) : Calls Tryz.prog 85 #[.agg #[.int .i64 6, .int .i64 4, .int .i64 4, .int .i64 8]] w (fun e w' => e = .returned (.tuple #[(.agg #[.int .i64 6, .int .i64 4, .int .i64 4, .int .i64 8, .slice none 0 0, .slice none 0 0, .slice none 0 0]), .int .i64 0]) ∧ Le w w') := by
  go_enter Tryz.func85, Tryz.ntmps85
  go_wp2_with (go_at_call 125; refine (in_any _ _ _ _).mono ?_; rintro e w' ⟨rfl, rfl⟩)
  have r0 := cell_block (heap_alloc_new (w.alloc (.cells #[.int .i64 6, .int .i64 4, .int .i64 4, .int .i64 8] 57)) (.cells #[.int .i64 6, .int .i64 4, .int .i64 4, .int .i64 8, .slice none 0 0, .slice none 0 0, .slice none 0 0] 165))
  simp only [alloc_size] at r0
  have e0 := r0 0; have e1 := r0 1; have e2 := r0 2; have e3 := r0 3; have e4 := r0 4; have e5 := r0 5; have e6 := r0 6
  simp only [List.getElem?_toArray, List.getElem?_cons_zero, List.getElem?_cons_succ] at e0 e1 e2 e3 e4 e5 e6
  exact bodyPost_ret (v := .tuple #[(.agg #[.int .i64 6, .int .i64 4, .int .i64 4, .int .i64 8, .slice none 0 0, .slice none 0 0, .slice none 0 0]), .int .i64 0]) (by simp [results, Tryz.results85, go_sem, e0, e1, e2, e3, e4, e5, e6]) rfl ⟨rfl, ((Le.refl w).alloc _).alloc _⟩

set_option maxRecDepth 100000 in
set_option maxHeartbeats 1000000 in
theorem newWorker (i : Nat) (hi : i < 2) (a p b : Nat) (w : World) : Calls Tryz.prog 51 #[.int .i64 i, .int .i64 6, .pointer (some ⟨a, 0, none⟩), .pointer (some ⟨p, 0, none⟩), .pointer (some ⟨b, 0, none⟩)] w (PtrNew w) := by
  have hmm := @run_makeMap Tryz.prog
  have h0 : ¬ (i : Int) < 0 := by omega
  have h1 : ¬ (4 : Int) ≤ (i : Int) := by omega
  go_enter Tryz.func51, Tryz.ntmps51
  go_wp2_with (go_at_call 87; refine (newPacket _).mono ?_; rintro e w1 ⟨q, rfl, hb1⟩; have HB1 := hide hb1; clear hb1)
  go_ret
  exact ⟨_, rfl, ((HB1.out.alloc _).alloc _).alloc _⟩

set_option maxRecDepth 100000 in
set_option maxHeartbeats 2000000 in
theorem newBoard (w : World) : Calls Tryz.prog 49 #[.int .i64 2, .int .i64 3] w (PtrNew w) := by
  go_enter Tryz.func49, Tryz.ntmps49
  go_upto_region 3 with fail
  go_cut [5] (fun s5 wx => ∃ B q L, s5 = .pointer (some ⟨B, 0, none⟩) ∧ w.heap.size ≤ B ∧ wx.heap[B]? = some (.cells #[.slice none 0 0, q, L] 151 (0, 0)) ∧ Le w wx)
  case first =>
    refine' wp_region_tailD 6 6 20 Le (IsD _ :: IsD _ :: IsD _ :: (fun _ v W => ∃ b, v = .pointer (some ⟨b, 0, none⟩)) :: IsD _ :: (fun _ v W => ∃ A n c, v = .slice A n c) :: []) ([] :: [] :: [0, 1] :: [2] :: [] :: [4] :: []) (by kernel_rfl) (by kernel_rfl) (by rfl) (by kernel_rfl) (by kernel_rfl) Le.refl (fun _ _ _ h h' => h.trans h') ⟨StD.is, StD.is, StD.is, (fun _ _ _ _ _ h => h), StD.is, (fun _ _ _ _ _ h => h), trivial⟩ ?m3
    case m3 =>
      simp (maxSteps := 100000000) only [AllV, OblD, LeansD, factAtD, allFactsD, depV, actOf, putAll, putRow, List.set_cons_succ, List.set_cons_zero, List.map_cons, List.getElem?_cons_zero, List.getElem?_cons_succ, Option.getD_some, List.map_nil, List.take_succ_cons, List.take_zero, List.drop_succ_cons, List.drop_zero, List.cons_append, List.nil_append, List.length_cons, List.length_nil, Nat.reduceAdd]
      intro x0 x1 x2 x3 x4 x5
      refine ⟨⟨?_, ?_, ?_, ?_, ?_, ?_, trivial⟩, ?_⟩
      -- 0: 20 := Op.move t0
      · intro w hw  K hK; go_simp; exact hK _ _ (Le.refl _) (IsD.mk _ _ _)
      -- 1: 21 := Op.move t1
      · intro w hw  K hK; go_simp; exact hK _ _ (Le.refl _) (IsD.mk _ _ _)
      -- 2: 22 := Op.binOp BinOp.mul 3 t20 t21 3
      · intro w hw h0 h1 K hK; cases h0; cases h1; go_simp; exact hK _ _ (Le.refl _) (IsD.mk _ _ _)
      -- 3: 23 := Op.call { value (Operand.func 81), args := #[t22], argTypes := #[3] }
      · intro w hw h2 K hK; cases h2; go_simp; refine (newAck _).mono ?_; rintro r w' ⟨b, rfl, hb⟩; exact hK _ _ hb ⟨b, rfl⟩
      -- 4: 24 := Op.move t0
      · intro w hw  K hK; go_simp; exact hK _ _ (Le.refl _) (IsD.mk _ _ _)
      -- 5: 25 := Op.makeSlice 53 t24 t24
      · intro w hw h4 K hK; cases h4; refine cast (if_pos (show Region.wanted _ _ = true from rfl)).symm ?_; refine wp_make slU64 _ _ rfl (kl := .i64) (kc := .i64) (n := 2) rfl rfl (by omega) (by omega) ?_; intro w' ho hle; exact hK _ _ hle ⟨_, _, _, rfl⟩
      · intro wz hz h0 h1 h2 h3 h4 h5; cases h0; cases h1; cases h2; obtain ⟨b3, rfl⟩ := h3; cases h4; obtain ⟨A5, n5, c5, rfl⟩ := h5; skip
        go_wp2_with fail
        go_meet
        exact ⟨wz.heap.size, _, _, rfl, ((Le.refl w).drew.trans hz).size, heap_at rfl, ((Le.refl w).drew.trans hz).alloc _⟩
  case rest =>
    obtain ⟨B, q, L, rfl, hB, hb, hle⟩ := hcut
    generalize wc = W1 at *
    have HB1 := hide hb; have HLE1 := hide hle
    clear hb hle
    go_wp2_with fail
    go_loopw [29] (fun j wr => ∃ (k : Nat) (v : Value) (xs : List Value), k ≤ 2 ∧ j = .int .i64 k ∧ Hd (wr.heap[B]? = some (.cells #[v, q, L] 151 (0, 0))) ∧ Hd (wr.ownsRow w.heap.size 152 1 v k xs) ∧ Le w wr) (fun j _ => 2 - (intOf j).toNat)
    case atStart => exact ⟨0, .slice none 0 0, [], by omega, rfl, HB1, hide (World.ownsRow_nil _ _ _ _), HLE1.out⟩
    case round =>
      clear HB1 HLE1
      obtain ⟨k, v, xs, hk, rfl, HB, HO, hle⟩ := hrel
      by_cases hlt : k < 2
      · have hltI : (k : Int) < 2 := by omega
        have y0 : wr.cell? ⟨B, 0, none⟩ = some v := cell_block HB.out 0
        have HLE := hide hle
        have HBD := hide (show wr.drew.heap[B]? = _ from HB.out)
        have HOD := hide (show wr.drew.ownsRow w.heap.size 152 1 v k xs from HO.out)
        have HNB := hide (own_ne HO.out HB.out (by decide))
        clear hle
        go_wp2_with fail
        go_region_law (first | (go_simp; go_at_call 82; refine (newTab _).mono ?_; rintro e w2 ⟨q2, rfl, hb2⟩; have HL2 := hide hb2; have HB2 := hide (hb2.heap HBD.out); have HO2 := hide (hb2.own HOD.out); have y5 := cell_block HB2.out 0; have y6 := fun o => cell_block (heap_alloc (o' := o) HB2.out) 0; clear hb2) | (refine step_app rfl slTq (.tmp 35) (.tmp 38) rfl (HO2.out.alloc _) (by simp [Act.eval]) (some ⟨_, 0, none⟩) 1 1 (by simp [Act.eval]) (news := [.pointer (some ⟨q2, 0, none⟩)]) (cells_new _ [.pointer (some ⟨q2, 0, none⟩)] _) rfl (by simp [Value.oneCell']) (by omega) (by omega) (le_alloc (Nat.le_trans HLE.out.drew.size HL2.out.size)) ?_; intro v3 w3 hown3 hg3 hat3; obtain ⟨A3, cap3, rfl, _, _⟩ := own_slice hown3; have HG3 := hide hg3; have HB3 := hide (heap_grown hg3 (heap_alloc HB2.out) HNB.out); have x5 := cell_block HB3.out 0; have x6 := free_block HB3.out 0; have HO3 := hide hown3; clear hown3 hg3 hat3))
        all_goals
          go_wp2_with fail
          go_roundw
          case rel =>
            have hQ4 := heap_set (i := 0) (.slice A3 (k + 1) cap3) HB3.out
            simp only [List.setIfInBounds_toArray, List.set_cons_zero] at hQ4
            have hl2 := (HLE.out.drew.trans HL2.out)
            refine ⟨k + 1, _, _, by omega, by go_num, hide hQ4, hide (ownsRow_setCell_other (a := ⟨B, 0, none⟩) HO3.out (own_ne HO3.out HB3.out (by decide)) _), ⟨(below_grown (hl2.alloc _).out (HO2.out.alloc _) HG3.out (Nat.le_refl _) (le_alloc hl2.size)).setCell hB _⟩⟩
          case measure => simp [intOf]; omega
      · have hltI : ¬ (k : Int) < 2 := by omega
        go_wp2_with fail
        go_ret
        exact ⟨B, rfl, hle⟩

end Go.Proofs.YtkcpfhbfjpldhaaGreatDoor

/- awake24: control.New. -/
namespace Go.Proofs.YtkcpfhbfjpldhaaGreatDoor
open Go.RowKit
set_option linter.unusedVariables false

def confB : List Value := [.int .i64 2, .int .i64 4, .int .i64 20, .int .i64 4, .int .i64 6, .int .i64 4, .int .i64 4, .int .i64 8]
/-- a control with an empty queue of calls -/
def CtlNew (w : World) (e : Ending) (w' : World) : Prop := ∃ C A Q cs, e = .returned (.pointer (some ⟨C, 0, none⟩)) ∧ A ≠ Q ∧ w.heap.size ≤ A ∧ w.heap.size ≤ Q ∧ w.heap.size ≤ C ∧
  w'.heap[A]? = some (.cells #[.int .i64 0, .slice none 0 0, .int .i64 0, .slice none 0 0, .int .i64 0, .slice none 0 0, .int .i64 0, .slice none 0 0] 158 (0, 0)) ∧
  w'.heap[Q]? = some (.cells #[.slice (some ⟨A, 0, none⟩) 4 4, .int .i64 0, .int .i64 0] 250 (0, 0)) ∧
  w'.heap[C]? = some (.cells cs 173 (0, 0)) ∧ cs[11]? = some (.pointer (some ⟨Q, 0, none⟩)) ∧ Le w w'

set_option maxRecDepth 100000 in
set_option maxHeartbeats 4000000 in
theorem newControl (a p b : Nat) (w : World) : Calls Tryz.prog 50 #[.agg #[.int .i64 2, .int .i64 4, .int .i64 20, .int .i64 4, .int .i64 6, .int .i64 4, .int .i64 4, .int .i64 8], .pointer (some ⟨a, 0, none⟩), .pointer (some ⟨p, 0, none⟩), .pointer (some ⟨b, 0, none⟩)] w (CtlNew w) := by
  have hmm := @run_makeMap Tryz.prog
  go_enter Tryz.func50, Tryz.ntmps50
  go_upto_region 1 with fail
  have hbx := heap_alloc_new w (.cells confB.toArray 59)
  rw [show (w.alloc (.cells #[.int .i64 2, .int .i64 4, .int .i64 20, .int .i64 4, .int .i64 6, .int .i64 4, .int .i64 4, .int .i64 8] 59)) = w.alloc (.cells confB.toArray 59) from rfl]
  have HBX := hide hbx
  have HLB := hide ((Le.refl w).alloc (.cells confB.toArray 59))
  have HBS := hide (alloc_size w (.cells confB.toArray 59))
  clear hbx
  generalize w.alloc (.cells confB.toArray 59) = w1 at *
  generalize hgc : w.heap.size = cb at *
  have HGC := hide hgc
  clear hgc
  have bc := fun (i : Nat) (v : Value) (hv : confB.toArray[i]? = some v) => box_cell HBX.out i v hv
  have HBC := hide bc
  clear bc
  go_cut [9, 10] (fun s9 s10 wx => ∃ A Q D, s9 = .pointer (some ⟨Q, 0, none⟩) ∧ s10 = .pointer (some ⟨D, 0, none⟩) ∧ Hd (A ≠ Q ∧ w1.heap.size ≤ A ∧ w1.heap.size ≤ Q ∧ wx.heap[A]? = some (.cells #[.int .i64 0, .slice none 0 0, .int .i64 0, .slice none 0 0, .int .i64 0, .slice none 0 0, .int .i64 0, .slice none 0 0] 158 (0, 0)) ∧
    wx.heap[Q]? = some (.cells #[.slice (some ⟨A, 0, none⟩) 4 4, .int .i64 0, .int .i64 0] 250 (0, 0)) ∧ Le w1 wx))
  case first =>
    have k1 := HBC.out 1 (.int .i64 4) rfl w1 (Le.refl _)
    have k2 := HBC.out 2 (.int .i64 20) rfl w1 (Le.refl _)
    go_region_law (first | (go_simp; go_at_call 83; refine (newCall _).mono ?_; rintro r wa ⟨A, Q, rfl, hq1, hq2, hq3, hq4, hq5, hqle⟩; have HQ := hide (And.intro hq1 (And.intro hq2 (And.intro hq3 (And.intro hq4 (And.intro hq5 ((Le.refl w1).drew.trans hqle)))))); have k3 := HBC.out 2 (.int .i64 20) rfl wa HQ.out.2.2.2.2.2; clear hq1 hq2 hq3 hq4 hq5 hqle) | (go_simp; go_at_call 84; refine (newDedup _).mono ?_; rintro r wd ⟨D, rfl, hdle⟩; have HD := hide hdle; clear hdle))
    all_goals
      go_wp2_with fail
      go_meet
      exact ⟨A, Q, D, rfl, rfl, hide ⟨HQ.out.1, HQ.out.2.1, HQ.out.2.2.1, HD.out.heap HQ.out.2.2.2.1, HD.out.heap HQ.out.2.2.2.2.1, HQ.out.2.2.2.2.2.trans HD.out⟩⟩
  case rest =>
    obtain ⟨A, Q, D, rfl, rfl, HQ⟩ := hcut
    generalize wc = w2 at *
    have k0 := HBC.out 0 (.int .i64 2) rfl w2 HQ.out.2.2.2.2.2
    have k3 := HBC.out 3 (.int .i64 4) rfl w2 HQ.out.2.2.2.2.2
    go_wp2_with (first
      | (refine wpl_load_in rfl 57 (.tmp 20) rfl [.int .i64 2, .int .i64 4, .int .i64 20, .int .i64 4] [.int .i64 6, .int .i64 4, .int .i64 4, .int .i64 8] [] _ rfl Tryz.underlying57 rfl (by kernel_rfl) (HQ.out.2.2.2.2.2.heap HBX.out) ?_)
      | (go_at_call 85; refine (newDelta _).mono ?_; rintro r w3 ⟨rfl, hle3⟩; have HL3 := hide (HQ.out.2.2.2.2.2.trans hle3); have HM3 := hide hle3; have m0 := fun o => HBC.out 0 (.int .i64 2) rfl (w3.alloc o) (HL3.out.alloc o); have m3 := fun o => HBC.out 3 (.int .i64 4) rfl (w3.alloc o) (HL3.out.alloc o); clear hle3)
      | (go_at_call 86; refine (newStore _).mono ?_; rintro r w4 ⟨s, rfl, hle4⟩; have HL4 := hide ((HL3.out.alloc _).trans hle4); have HM4 := hide hle4; clear hle4)
      | (refine wpl_load_blk rfl 59 (.tmp 4) rfl (cs := confB) _ rfl Tryz.underlying59 rfl (by kernel_rfl) (HL4.out.heap HBX.out) ?_)
      | (refine wpl_load_blk rfl 165 (.tmp 11) rfl (cs := [.int .i64 6, .int .i64 4, .int .i64 4, .int .i64 8, .slice none 0 0, .slice none 0 0, .slice none 0 0]) _ rfl Tryz.underlying165 rfl (by kernel_rfl) (HM4.out.heap (heap_at rfl)) ?_))
    go_ret
    have hl24 := (HM3.out.alloc _).trans HM4.out
    have hlw := HLB.out.trans HL4.out
    have hs := hlw.size
    have h1 := HBS.out
    have h2 := HGC.out
    have h3 := HQ.out.2.1
    have h4 := HQ.out.2.2.1
    have hC : ∀ o, ((w4.alloc (Obj.map #[] 0)).alloc o).heap[w4.heap.size + 1]? = some o := fun o => heap_at (by simp)
    have h5 : w.heap.size ≤ w4.heap.size + 1 := by omega
    have h6 : w.heap.size ≤ A := by omega
    have h7 : w.heap.size ≤ Q := by omega
    have hA4 := hl24.heap HQ.out.2.2.2.1
    have hQ4 := hl24.heap HQ.out.2.2.2.2.1
    have hne := HQ.out.1
    clear HBX HLB HBS HGC HBC HQ HL3 HM3 HL4 HM4 k0 k3 hl24 hs h1 h2 h3 h4
    refine ⟨w4.heap.size + 1, A, Q, _, rfl, hne, h6, h7, h5, heap_alloc (heap_alloc hA4), heap_alloc (heap_alloc hQ4), hC _, ?_, (hlw.alloc _).alloc _⟩
    simp [confB]
end Go.Proofs.YtkcpfhbfjpldhaaGreatDoor
