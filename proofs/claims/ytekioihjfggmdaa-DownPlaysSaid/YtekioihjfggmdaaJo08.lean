/- Texts of one claim, laid together: Vp8S -/
import Derived.StillTactics
import Derived.Laws.Bits64b
import Derived.Test.YtekioihjfggmdaaJo07
/- vp8.parse's closures. -/
namespace Go.Proofs.Ytekioihjfggmdaa
open Go.RowKit
set_option linter.unusedVariables false

/-- one byte is taken: what is left, and what went wrong -/
def tk (s : List UInt8 × Int) : List UInt8 × Int := ((cut s.1 s.2 1 (mayB 1)).1, (cut s.1 s.2 1 (mayB 1)).2.1)
/-- the byte that was taken -/
def by1 (s : List UInt8 × Int) : Nat := val (cut s.1 s.2 1 (mayB 1)).2.2
theorem tk_len (s : List UInt8 × Int) : (tk s).1.length ≤ s.1.length := cut_left _ _ _ _
theorem by1_lt (s : List UInt8 × Int) : by1 s < 256 := by
  have hlen : (cut s.1 s.2 1 (mayB 1)).2.2.length ≤ 1 := by
    unfold cut
    repeat' split
    all_goals simp
    omega
  have h := val_lt (cut s.1 s.2 1 (mayB 1)).2.2
  exact Nat.lt_of_lt_of_le h (Nat.le_trans (Nat.pow_le_pow_right (by omega) hlen) (by decide))
/-- has a byte a bit -/
def bt (x v : Nat) : Bool := decide (x / v % 2 = 1)

def Dsc.cs (d : Dsc) : Array Value := #[.bool d.more, .bool d.lone, .bool d.start, .int .u8 d.part, .bool d.hasPic, .bool d.wide, .int .u16 d.pic, .bool d.hasTl0, .int .u8 d.tl0, .bool d.hasTid, .int .u8 d.tid, .bool d.sync, .bool d.hasKey, .int .u8 d.key]

/-- what the closures share -/
structure VSt (w W : World) (base p1 p6 p8 p10 pc px : Nat) (bs : Array Value) (A : Option Addr) (n cap : Nat) (d : Dsc) (pp tp : Int) (s : List UInt8 × Int) : Prop where
  cut : CutAt W base pc s.1 s.2
  v1 : W.heap[p1]? = some (.cells #[.slice A n cap] 44 (0, 0))
  v6 : W.heap[p6]? = some (.cells #[.pointer (some ⟨pc, 0, none⟩)] 117 (0, 0))
  v8 : W.heap[p8]? = some (.cells d.cs 74 (0, 0))
  v10 : W.heap[p10]? = some (.cells #[.int .i64 pp, .int .i64 tp] 128 (0, 0))
  vx : W.heap[px]? = some (.cells bs 176 (0, 0))
  b8 : base ≤ p8
  b10 : base ≤ p10
  below : Below base w W

section
variable {w W W' : World} {base p1 p6 p8 p10 pc px : Nat} {bs : Array Value} {A : Option Addr} {n cap : Nat} {d : Dsc} {pp tp : Int} {s s' : List UInt8 × Int}
theorem cells_ne {W : World} {g k : Nat} {cs cs' : Array Value} {t t' : TypeId} {fr fr' : Nat × Nat} (h : W.heap[g]? = some (.cells cs t fr)) (h' : W.heap[k]? = some (.cells cs' t' fr')) (ht : t ≠ t') : g ≠ k := by
  rintro rfl
  rw [h] at h'
  injection h' with h'
  injection h' with _ h' _
  exact ht h'
theorem VSt.num (h : VSt w W base p1 p6 p8 p10 pc px bs A n cap d pp tp s) (hc : CutAt W' base pc s'.1 s'.2) (hg : W.grownBy W' (some pc)) : VSt w W' base p1 p6 p8 p10 pc px bs A n cap d pp tp s' := by
  obtain ⟨hb, A1, cap1, hp, _⟩ := h.cut
  have hne : ∀ {g : Nat} {cs : Array Value} {t : TypeId} {fr : Nat × Nat}, W.heap[g]? = some (.cells cs t fr) → 171 ≠ t → some pc ≠ some g := fun hh ht e => cells_ne hp hh ht (by injection e)
  exact ⟨hc, heap_grown hg h.v1 (hne h.v1 (by decide)), heap_grown hg h.v6 (hne h.v6 (by decide)), heap_grown hg h.v8 (hne h.v8 (by decide)), heap_grown hg h.v10 (hne h.v10 (by decide)), heap_grown hg h.vx (hne h.vx (by decide)), h.b8, h.b10, below_row h.below hg hb (Nat.le_trans h.b8 (Nat.le_of_lt (lt_of_heap h.v8)))⟩
theorem CutAt.set_ {W : World} {base p g i : Nat} {l : List UInt8} {e : Int} {cs : Array Value} {t : TypeId} {fr : Nat × Nat} (h : CutAt W base p l e) (hg : W.heap[g]? = some (.cells cs t fr)) (h1 : t ≠ 171) (h2 : t ≠ 5) (u : Value) : CutAt (W.setCell ⟨g, i, none⟩ u) base p l e := by
  obtain ⟨hb, A, cap, hp, hc, hd⟩ := h
  refine ⟨hb, A, cap, heap_far u hp (cells_ne hp hg (Ne.symm h1)), hc, fun hn => ?_⟩
  obtain ⟨k, off, cur, h3, h4, h5, h6⟩ := hd hn
  exact ⟨k, off, cur, h3, h4, heap_far u h5 (cells_ne h5 hg (Ne.symm h2)), h6⟩
theorem VSt.set8 (h : VSt w W base p1 p6 p8 p10 pc px bs A n cap d pp tp s) (i : Nat) (u : Value) (d' : Dsc) (e : d.cs.setIfInBounds i u = d'.cs) : VSt w (W.setCell ⟨p8, i, none⟩ u) base p1 p6 p8 p10 pc px bs A n cap d' pp tp s :=
  ⟨h.cut.set_ h.v8 (by decide) (by decide) u, heap_far u h.v1 (cells_ne h.v1 h.v8 (by decide)), heap_far u h.v6 (cells_ne h.v6 h.v8 (by decide)), by rw [← e]; exact heap_set u h.v8, heap_far u h.v10 (cells_ne h.v10 h.v8 (by decide)), heap_far u h.vx (cells_ne h.vx h.v8 (by decide)), h.b8, h.b10, h.below.setCell h.b8 u⟩
theorem VSt.set10 (h : VSt w W base p1 p6 p8 p10 pc px bs A n cap d pp tp s) (i : Nat) (u : Value) (pp' tp' : Int) (e : (#[.int .i64 pp, .int .i64 tp] : Array Value).setIfInBounds i u = #[.int .i64 pp', .int .i64 tp']) : VSt w (W.setCell ⟨p10, i, none⟩ u) base p1 p6 p8 p10 pc px bs A n cap d pp' tp' s :=
  ⟨h.cut.set_ h.v10 (by decide) (by decide) u, heap_far u h.v1 (cells_ne h.v1 h.v10 (by decide)), heap_far u h.v6 (cells_ne h.v6 h.v10 (by decide)), heap_far u h.v8 (cells_ne h.v8 h.v10 (by decide)), by rw [← e]; exact heap_set u h.v10, heap_far u h.vx (cells_ne h.vx h.v10 (by decide)), h.b8, h.b10, h.below.setCell h.b10 u⟩
theorem VSt.drew (h : VSt w W base p1 p6 p8 p10 pc px bs A n cap d pp tp s) : VSt w W.drew base p1 p6 p8 p10 pc px bs A n cap d pp tp s :=
  ⟨h.cut, h.v1, h.v6, h.v8, h.v10, h.vx, h.b8, h.b10, h.below.trans ((Below.refl _ _).drew)⟩
theorem VSt.keep (h : VSt w W base p1 p6 p8 p10 pc px bs A n cap d pp tp s) (hb : Below W.heap.size W W') : VSt w W' base p1 p6 p8 p10 pc px bs A n cap d pp tp s :=
  have hs : base ≤ W.heap.size := Nat.le_trans h.b8 (Nat.le_of_lt (lt_of_heap h.v8))
  ⟨h.cut.keep hb (Nat.le_refl _), heap_below hb h.v1 (lt_of_heap h.v1), heap_below hb h.v6 (lt_of_heap h.v6), heap_below hb h.v8 (lt_of_heap h.v8), heap_below hb h.v10 (lt_of_heap h.v10), heap_below hb h.vx (lt_of_heap h.vx), h.b8, h.b10, h.below.trans (hb.mono hs)⟩
theorem VSt.alloc (h : VSt w W base p1 p6 p8 p10 pc px bs A n cap d pp tp s) (o : Obj) : VSt w (W.alloc o) base p1 p6 p8 p10 pc px bs A n cap d pp tp s :=
  ⟨h.cut.keep ((Below.refl W.heap.size W).alloc (Nat.le_refl _) o) (Nat.le_refl _), heap_alloc h.v1, heap_alloc h.v6, heap_alloc h.v8, heap_alloc h.v10, heap_alloc h.vx, h.b8, h.b10, h.below.alloc (Nat.le_trans h.b8 (Nat.le_of_lt (lt_of_heap h.v8))) o⟩
end

set_option maxRecDepth 100000 in
theorem and_bit (x v : Nat) (hx : x < 256) (hv : v = 128 ∨ v = 64 ∨ v = 32 ∨ v = 16) : (0 < bits .and .u64 (x : Int) (v : Int)) ↔ bt x v = true := by
  have h128 : ∀ x, x < 256 → ((0 < x &&& 128) ↔ x / 128 % 2 = 1) := by decide
  have h64 : ∀ x, x < 256 → ((0 < x &&& 64) ↔ x / 64 % 2 = 1) := by decide
  have h32 : ∀ x, x < 256 → ((0 < x &&& 32) ↔ x / 32 % 2 = 1) := by decide
  have h16 : ∀ x, x < 256 → ((0 < x &&& 16) ↔ x / 16 % 2 = 1) := by decide
  rw [bits_and_u64_nat x v (by omega) (by omega)]
  simp only [bt, decide_eq_true_eq, Int.natCast_pos]
  rcases hv with rfl | rfl | rfl | rfl
  · exact h128 x hx
  · exact h64 x hx
  · exact h32 x hx
  · exact h16 x hx
/-- what masks leave of a byte -/
structure Bits8 (x : Nat) : Prop where
  a7 : bits .and .u64 (x : Int) 7 = ((x % 8 : Nat) : Int)
  a31 : bits .and .u64 (x : Int) 31 = ((x % 32 : Nat) : Int)
  a127 : bits .and .u64 (x : Int) 127 = ((x % 128 : Nat) : Int)
  b128 : (0 < bits .and .u64 (x : Int) 128) ↔ bt x 128 = true
  b64 : (0 < bits .and .u64 (x : Int) 64) ↔ bt x 64 = true
  b32 : (0 < bits .and .u64 (x : Int) 32) ↔ bt x 32 = true
  b16 : (0 < bits .and .u64 (x : Int) 16) ↔ bt x 16 = true
theorem bits8 (x : Nat) (hx : x < 256) : Bits8 x :=
  ⟨(bits_and_u64_nat x 7 (by omega) (by omega)).trans (by rw [show 7 = 2 ^ 3 - 1 from rfl, Nat.and_two_pow_sub_one_eq_mod]),
   (bits_and_u64_nat x 31 (by omega) (by omega)).trans (by rw [show 31 = 2 ^ 5 - 1 from rfl, Nat.and_two_pow_sub_one_eq_mod]),
   (bits_and_u64_nat x 127 (by omega) (by omega)).trans (by rw [show 127 = 2 ^ 7 - 1 from rfl, Nat.and_two_pow_sub_one_eq_mod]),
   and_bit x 128 hx (by simp), and_bit x 64 hx (by simp), and_bit x 32 hx (by simp), and_bit x 16 hx (by simp)⟩

/-- what the third closure leaves of a descriptor -/
def Dsc.third (d : Dsc) (x : Nat) : Dsc :=
  let d := if d.hasTid then { d with tid := x / 64, sync := bt x 32 } else d
  if d.hasKey then { d with key := x % 32 } else d

set_option maxRecDepth 100000 in
set_option maxHeartbeats 2000000 in
theorem third_any (w W : World) (base p1 p6 p8 p10 pc px : Nat) (bs : Array Value) (A : Option Addr) (n cap : Nat) (d : Dsc) (pp tp : Int) (s : List UInt8 × Int)
    (h : VSt w W base p1 p6 p8 p10 pc px bs A n cap d pp tp s) (hl : s.1.length ≤ 2147483648) :
    Calls Try.prog 77 #[.pointer (some ⟨p6, 0, none⟩), .pointer (some ⟨p8, 0, none⟩)] W fun e W' => e = .returned (.tuple #[]) ∧ VSt w W' base p1 p6 p8 p10 pc px bs A n cap (d.third (by1 s)) pp tp (tk s) := by
  have HT := hide (num_any W base pc s.1 s.2 1 h.cut hl)
  have c0 : W.cell? ⟨p6, 0, none⟩ = some (.pointer (some ⟨pc, 0, none⟩)) := cell_block h.v6 0
  have HV := hide h
  clear h
  have hx := by1_lt s
  obtain ⟨x, hxe⟩ : ∃ x, x = by1 s := ⟨_, rfl⟩
  rw [← hxe] at hx ⊢
  have HX := hide hxe
  clear hxe
  obtain ⟨c7, c31, c127, k128, k64, k32, k16⟩ := bits8 x hx
  obtain ⟨more, lone, start, part, hasPic, wide, pic, hasTl0, tl0, hasTid, tid, sync, hasKey, key⟩ := d
  cases hasTid <;> cases hasKey
  all_goals
    go_enter Try.func77, Try.ntmps77
    go_wp2_with fail
    refine HT.out.mono ?_
    rintro e W1 ⟨hr, hc, hg⟩
    obtain rfl : e = .returned (.int .u64 x) := hr.trans (by rw [HX.out]; rfl)
    have hv := HV.out.num (s' := tk s) hc hg
    have y9 := cell_block hv.v8 9
    have y12 := cell_block hv.v8 12
    have y10 := cell_block hv.v8 10
    have y11 := cell_block hv.v8 11
    have y13 := cell_block hv.v8 13
    have f10 : W1.frozen? ⟨p8, 10, none⟩ = false := free_block hv.v8 10
    have f11 : W1.frozen? ⟨p8, 11, none⟩ = false := free_block hv.v8 11
    have f13 : W1.frozen? ⟨p8, 13, none⟩ = false := free_block hv.v8 13
    simp only [Dsc.cs, List.getElem?_toArray, List.getElem?_cons_zero, List.getElem?_cons_succ] at y9 y10 y11 y12 y13
    have HV1 := hide hv
    clear hc hg HT c0 hv
    go_wp2_with fail
    go_end0
  · exact ⟨rfl, HV1.out⟩
  · exact ⟨rfl, HV1.out.set8 13 _ _ rfl⟩
  · exact ⟨rfl, (HV1.out.set8 10 _ (Dsc.mk more lone start part hasPic wide pic hasTl0 tl0 true (x / 64) sync false key) (by simp [Dsc.cs])).set8 11 _ _ rfl⟩
  · exact ⟨rfl, ((HV1.out.set8 10 _ (Dsc.mk more lone start part hasPic wide pic hasTl0 tl0 true (x / 64) sync true key) (by simp [Dsc.cs])).set8 11 _ (Dsc.mk more lone start part hasPic wide pic hasTl0 tl0 true (x / 64) (bt x 32) true key) rfl).set8 13 _ _ rfl⟩

/-- what the second closure leaves -/
def Dsc.second (d : Dsc) (x : Nat) : Dsc := { d with tl0 := x }

set_option maxRecDepth 100000 in
set_option maxHeartbeats 2000000 in
theorem second_any (w W : World) (base p1 p6 p8 p10 pc px : Nat) (bs : Array Value) (A : Option Addr) (n cap : Nat) (d : Dsc) (pp tp : Int) (s : List UInt8 × Int)
    (h : VSt w W base p1 p6 p8 p10 pc px bs A n cap d pp tp s) (hn : n ≤ 2147483648) (hl : s.1.length ≤ n) :
    Calls Try.prog 76 #[.pointer (some ⟨p1, 0, none⟩), .pointer (some ⟨p6, 0, none⟩), .pointer (some ⟨p10, 0, none⟩), .pointer (some ⟨p8, 0, none⟩)] W fun e W' => e = .returned (.tuple #[]) ∧ VSt w W' base p1 p6 p8 p10 pc px bs A n cap (d.second (by1 s)) pp ((n : Int) - s.1.length) (tk s) := by
  have hx := by1_lt s
  obtain ⟨x, hxe⟩ : ∃ x, x = by1 s := ⟨_, rfl⟩
  rw [← hxe] at hx ⊢
  have HX := hide hxe
  clear hxe
  have hle := (CutAt.left h.drew.cut).mono fun _ _ h => And.intro h.1 h.2.symm
  have c0 : W.cell? ⟨p1, 0, none⟩ = some (.slice A n cap) := cell_block h.v1 0
  have c1 : W.cell? ⟨p6, 0, none⟩ = some (.pointer (some ⟨pc, 0, none⟩)) := cell_block h.v6 0
  have c2 : W.cell? ⟨p10, 1, none⟩ = some (.int .i64 tp) := cell_block h.v10 1
  have f2 : W.frozen? ⟨p10, 1, none⟩ = false := free_block h.v10 1
  have hw : IntKind.i64.wrap ((n : Int) - s.1.length) = (n : Int) - s.1.length := IntWalk.i64_in _ (by omega)
  have h2 := h.drew.set10 1 (.int .i64 ((n : Int) - s.1.length)) pp ((n : Int) - s.1.length) rfl
  have HT := hide (num_any _ base pc s.1 s.2 1 h2.cut (by omega))
  have HV := hide h2
  have HL := hide hle
  clear h h2 hle
  go_enter Try.func76, Try.ntmps76
  go_wp2_with fail
  go_still_tail 5, (by kernel_rfl)
  still_call HL.out
  repeat still_step
  refine wpStill_nil ?_
  change wpList _ _ _ _ _ W.drew
  go_wp2_with fail
  refine HT.out.mono ?_
  rintro e W1 ⟨hr, hc, hg⟩
  obtain rfl : e = .returned (.int .u64 x) := hr.trans (by rw [HX.out]; rfl)
  have hv := HV.out.num (s' := tk s) hc hg
  have y8 := cell_block hv.v8 8
  have f8 : W1.frozen? ⟨p8, 8, none⟩ = false := free_block hv.v8 8
  simp only [Dsc.cs, List.getElem?_toArray, List.getElem?_cons_zero, List.getElem?_cons_succ] at y8
  have HV1 := hide hv
  clear hc hg HT hv
  go_wp2_with fail
  go_end0
  exact ⟨rfl, HV1.out.set8 8 _ _ rfl⟩
/-- what the first closure leaves: the bytes, the descriptor -/
def firstS (s : List UInt8 × Int) : List UInt8 × Int := if bt (by1 s) 128 then tk (tk s) else tk s
def Dsc.first (d : Dsc) (s : List UInt8 × Int) : Dsc := if bt (by1 s) 128 then { d with wide := true, pic := (by1 s % 128) * 256 + by1 (tk s) } else { d with wide := false, pic := by1 s }

set_option maxRecDepth 100000 in
set_option maxHeartbeats 2000000 in
theorem first_any (w W : World) (base p1 p6 p8 p10 pc px : Nat) (bs : Array Value) (A : Option Addr) (n cap : Nat) (d : Dsc) (pp tp : Int) (s : List UInt8 × Int)
    (h : VSt w W base p1 p6 p8 p10 pc px bs A n cap d pp tp s) (hn : n ≤ 2147483648) (hl : s.1.length ≤ n) :
    Calls Try.prog 75 #[.pointer (some ⟨p1, 0, none⟩), .pointer (some ⟨p6, 0, none⟩), .pointer (some ⟨p10, 0, none⟩), .pointer (some ⟨p8, 0, none⟩)] W fun e W' => e = .returned (.tuple #[]) ∧ VSt w W' base p1 p6 p8 p10 pc px bs A n cap (d.first s) ((n : Int) - s.1.length) tp (firstS s) := by
  have hx := by1_lt s
  have htl := tk_len s
  obtain ⟨x, hxe⟩ : ∃ x, x = by1 s := ⟨_, rfl⟩
  rw [Dsc.first, firstS, ← hxe]
  rw [← hxe] at hx
  have HX := hide hxe
  clear hxe
  obtain ⟨c7, c31, c127, k128, k64, k32, k16⟩ := bits8 x hx
  have hle := (CutAt.left h.drew.cut).mono fun _ _ h => And.intro h.1 h.2.symm
  have c0 : W.cell? ⟨p1, 0, none⟩ = some (.slice A n cap) := cell_block h.v1 0
  have c1 : W.cell? ⟨p6, 0, none⟩ = some (.pointer (some ⟨pc, 0, none⟩)) := cell_block h.v6 0
  have c2 : W.cell? ⟨p10, 0, none⟩ = some (.int .i64 pp) := cell_block h.v10 0
  have f2 : W.frozen? ⟨p10, 0, none⟩ = false := free_block h.v10 0
  have hw : IntKind.i64.wrap ((n : Int) - s.1.length) = (n : Int) - s.1.length := IntWalk.i64_in _ (by omega)
  have h2 := h.drew.set10 0 (.int .i64 ((n : Int) - s.1.length)) ((n : Int) - s.1.length) tp rfl
  have HT := hide (num_any _ base pc s.1 s.2 1 h2.cut (by omega))
  have hn1 : ¬ p6 = p10 := cells_ne h.v6 h.v10 (by decide)
  have hn2 : ¬ p10 = p6 := fun e => hn1 e.symm
  have HT2 := fun W h => num_any W base pc (tk s).1 (tk s).2 1 h (by omega)
  have hHT2 := hide HT2
  clear HT2
  have HV := hide h2
  have HL := hide hle
  clear h h2 hle
  generalize hs1 : tk s = s1 at *
  have HS1 := hide hs1
  clear hs1
  obtain ⟨y, hye⟩ : ∃ y, y = by1 s1 := ⟨_, rfl⟩
  have hy := by1_lt s1
  rw [← hye] at hy ⊢
  have HY := hide hye
  clear hye
  cases hb : bt x 128
  all_goals
    rw [hb] at k128
    have HB := hide hb
    clear hb
    go_enter Try.func75, Try.ntmps75
    go_wp2_with fail
    go_still_tail 5, (by kernel_rfl)
    still_call HL.out
    repeat still_step
    refine wpStill_nil ?_
    change wpList _ _ _ _ _ W.drew
    go_wp2_with fail
    refine HT.out.mono ?_
    rintro e W1 ⟨hr, hc, hg⟩
    obtain rfl : e = .returned (.int .u64 x) := hr.trans (by rw [HX.out]; rfl)
    have hv := HV.out.num (s' := tk s) hc hg
    rw [HS1.out] at hv
    have y5 := cell_block hv.v8 5
    have y6 := cell_block hv.v8 6
    have z6 : W1.cell? ⟨p6, 0, none⟩ = some (.pointer (some ⟨pc, 0, none⟩)) := cell_block hv.v6 0
    have f5 : W1.frozen? ⟨p8, 5, none⟩ = false := free_block hv.v8 5
    have f6 : W1.frozen? ⟨p8, 6, none⟩ = false := free_block hv.v8 6
    simp only [Dsc.cs, List.getElem?_toArray, List.getElem?_cons_zero, List.getElem?_cons_succ] at y5 y6
    have HV1 := hide hv
    clear hc hg HT hv
    go_wp2_with fail
  · go_end0
    exact ⟨rfl, (HV1.out.set8 5 _ { d with wide := false } rfl).set8 6 _ _ rfl⟩
  · have hq := HV1.out.set8 5 (.bool true) { d with wide := true } rfl
    refine (hHT2.out _ hq.cut).mono ?_
    rintro e W2 ⟨hr, hc, hg⟩
    obtain rfl : e = .returned (.int .u64 y) := hr.trans (by rw [HY.out]; rfl)
    have hv2 := hq.num (s' := tk s1) hc hg
    have y6 := cell_block hv2.v8 6
    have f6 : W2.frozen? ⟨p8, 6, none⟩ = false := free_block hv2.v8 6
    simp only [Dsc.cs, List.getElem?_toArray, List.getElem?_cons_zero, List.getElem?_cons_succ] at y6
    have ho : bits .or .u64 ((x : Int) % 128 * 256) (y : Int) = (((x % 128) * 256 + y : Nat) : Int) := or_bytes (x % 128) y (by omega) (by omega)
    have HV2 := hide hv2
    clear hc hg hHT2 hv2 hq
    go_wp2_with fail
    go_end0
    exact ⟨rfl, HV2.out.set8 6 _ _ rfl⟩
end Go.Proofs.Ytekioihjfggmdaa
