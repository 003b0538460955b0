/- Texts of one claim, laid together: Req ReqParse AwkI -/
import Derived.Deep.RegionLaw
import Derived.Test.YtkcpfhbfjpldhaaGreatDoorJo07
import Derived.Test.YtkcpfhbfjpldhaaGreatDoorJo03
/- The req package, function by function. -/
namespace Go.Proofs.YtkcpfhbfjpldhaaGreatDoor
open Go.RowKit
set_option linter.unusedVariables false

theorem slPart : SlT Tryz.prog 130 81 (.agg #[.int .u64 0, .int .i64 0]) 2 16 := ⟨Tryz.underlying130, by kernel_rfl, rfl, by omega⟩
def RU32 : Rd Nat := fun _ n cs => cs = [.int .u32 n] ∧ (n : Int) < 4294967296
theorem keeps_u32 : Keeps RU32 := fun _ _ _ _ h _ => h

@[irreducible] def fitS (x s : Int) : Bool := fitB x (if s = 1 then 256 else 65536)
/-- the list that a closure holds: its variable, and what is in it -/
def PartsAt (w : World) (base g : Nat) (l : List (Nat × Int)) : Prop :=
  base ≤ g ∧ ∃ v, w.heap[g]? = some (.cells #[v] 130 (0, 0)) ∧ w.ownsRow base 81 2 v l.length (l.flatMap encPart)

/-- bytes in a row of its own, and an error -/
def Owns8E (w : World) (l : List UInt8) (err : Int) (e : Ending) (w' : World) : Prop :=
  ∃ v, e = .returned (.tuple #[v, .int .i64 err]) ∧ w'.ownsRow w.heap.size 5 1 v l.length (u8s l) ∧ Below w.heap.size w w'

theorem ok_of {q : Rq} (h1 : 0 ≤ q.kind) (h2 : q.kind ≤ 9) (h3 : fitS q.who 2 = true) (h4 : fitS q.room 1 = true) (h5 : fitS q.rights 1 = true) (h6 : fitS q.track 2 = true) (h7 : fitS q.layer 1 = true) (h8 : fitS q.tid 1 = true) (h9 : (q.ssrcs.length : Int) ≤ 255) : q.ok = true := by
  simp [fitS, fitB] at h3 h4 h5 h6 h7 h8
  exact ok_mk (by omega)

/-- the closure that takes a number out of a Cut -/
theorem num1_any (w : World) (base p g : Nat) (s : List UInt8 × Int) (n : Nat) (hn : n ≤ 4) (hg : w.heap[g]? = some (.cells #[.pointer (some ⟨p, 0, none⟩)] 84 (0, 0))) (h : CutAt w base p s.1 s.2) (hl : s.1.length ≤ 2147483648) :
    Calls Tryz.prog 148 #[.int .i64 n, .pointer (some ⟨g, 0, none⟩)] w fun e w' => e = .returned (.int .i64 (nm s n)) ∧ CutAt w' base p (stp s n).1 (stp s n).2 ∧ w.grownBy w' (some p) := by
  have HT := hide (num_any w base p s.1 s.2 n h hl)
  have c0 : w.cell? ⟨g, 0, none⟩ = some (.pointer (some ⟨p, 0, none⟩)) := cell_block hg 0
  have hv : nm s n < 4294967296 := Nat.lt_of_lt_of_le (nm_lt s n (by omega)) (Nat.le_trans (Nat.pow_le_pow_right (by omega) hn) (by decide))
  clear hg h
  go_enter Tryz.func148, Tryz.ntmps148
  go_wp2_with fail
  refine HT.out.mono ?_
  rintro e w' ⟨hr, hc, hg⟩
  obtain rfl : e = .returned (.int .u64 (nm s n)) := hr
  have HC := hide hc; have HG := hide hg
  clear hc hg HT c0
  go_wp2
  go_ret
  exact ⟨rfl, HC.out, HG.out⟩
end Go.Proofs.YtkcpfhbfjpldhaaGreatDoor

/- req.Parse. -/
namespace Go.Proofs.YtkcpfhbfjpldhaaGreatDoor
open Go.RowKit
set_option linter.unusedVariables false

theorem sl32 : SlT Tryz.prog 42 45 (.int .u32 0) 1 4 := ⟨Tryz.underlying42, by kernel_rfl, rfl, by omega⟩

/-- what comes back: number, request, error -/
def ParseP (w : World) (id : Nat) (q : Rq) (err : Int) (e : Ending) (w' : World) : Prop :=
  ∃ A cap, e = .returned (.tuple #[.int .u64 id, .agg #[.int .i64 q.kind, .int .i64 q.who, .int .i64 q.room, .int .i64 q.rights, .int .i64 q.track, .slice A q.ssrcs.length cap, .int .i64 q.layer, .int .i64 q.tid], .int .i64 err]) ∧
    RSl 1 RU32 w' q.ssrcs (.slice A q.ssrcs.length cap) ∧ Below w.heap.size w w'

/-- while numbers are taken: the Cut, the variable that holds it, the result's place -/
structure PInv (w W : World) (p C : Nat) (s : List UInt8 × Int) : Prop where
  cut : CutAt W (w.heap.size + 1) p s.1 s.2
  res : W.heap[w.heap.size]? = some (.cells #[.int .i64 0, .int .i64 0, .int .i64 0, .int .i64 0, .int .i64 0, .slice none 0 0, .int .i64 0, .int .i64 0] 44 (0, 0))
  box : W.heap[C]? = some (.cells #[.pointer (some ⟨p, 0, none⟩)] 84 (0, 0))
  below : Below w.heap.size w W

section
variable {w W W' : World} {p C : Nat} {s s' : List UInt8 × Int}
theorem PInv.ne (h : PInv w W p C s) {g : Nat} {cs : Array Value} {t : TypeId} {fr : Nat × Nat} (hg : W.heap[g]? = some (.cells cs t fr)) (ht : t ≠ 132) : some p ≠ some g := by
  obtain ⟨_, A, cap, hp, _⟩ := h.cut
  intro e
  injection e with e
  rw [e, hg] at hp
  injection hp with hp
  injection hp with _ hp _
  exact ht hp
theorem PInv.step (h : PInv w W p C s) (hg : W.grownBy W' (some p)) (hc : CutAt W' (w.heap.size + 1) p s'.1 s'.2) : PInv w W' p C s' :=
  ⟨hc, heap_grown hg h.res (h.ne h.res (by decide)), heap_grown hg h.box (h.ne h.box (by decide)), below_row h.below hg (Nat.le_of_succ_le h.cut.1) h.below.size⟩
theorem PInv.alloc (h : PInv w W p C s) (o : Obj) : PInv w (W.alloc o) p C s :=
  ⟨h.cut.keep ((Below.refl W.heap.size W).alloc (Nat.le_refl _) o) (Nat.le_refl _), heap_alloc h.res, heap_alloc h.box, h.below.alloc h.below.size o⟩
theorem PInv.set_ (h : PInv w W p C s) {g i : Nat} {cs : Array Value} {fr : Nat × Nat} (hg : W.heap[g]? = some (.cells cs 44 fr)) (hne : w.heap.size < g) (hC : C ≠ g) (u : Value) : PInv w (W.setCell ⟨g, i, none⟩ u) p C s :=
  ⟨h.cut.set_other hg (by decide) (by decide) u, heap_far u h.res (by omega), heap_far u h.box hC, h.below.setCell (Nat.le_of_lt hne) u⟩
theorem PInv.grown (h : PInv w W p C s) {row : Option Nat} (hg : W.grownBy W' row) (hr : ∀ g cs t fr, row = some g → W.heap[g]? = some (.cells cs t fr) → t = 45 ∧ w.heap.size ≤ g) (hx : ∀ g, row = some g → ∃ cs t fr, W.heap[g]? = some (.cells cs t fr)) : PInv w W' p C s := by
  have hne : ∀ {g : Nat} {cs : Array Value} {t : TypeId} {fr : Nat × Nat}, W.heap[g]? = some (.cells cs t fr) → t ≠ 45 → row ≠ some g := by
    intro g cs t fr hh ht e
    exact ht (hr g cs t fr e hh).1
  obtain ⟨hb, A, cap, hp, hc, hd⟩ := h.cut
  refine ⟨⟨hb, A, cap, heap_grown hg hp (hne hp (by decide)), hc, fun hn => ?_⟩, heap_grown hg h.res (hne h.res (by decide)), heap_grown hg h.box (hne h.box (by decide)), h.below.grown hg h.below.size (fun k hk => ?_)⟩
  · obtain ⟨g, off, cur, h1, h2, h3, h4⟩ := hd hn
    exact ⟨g, off, cur, h1, h2, heap_grown hg h3 (hne h3 (by decide)), h4⟩
  · obtain ⟨cs, t, fr, hh⟩ := hx k hk
    exact (hr k cs t fr hk hh).2
end

theorem PInv.own {w W W' : World} {p C : Nat} {s : List UInt8 × Int} (h : PInv w W p C s) {v : Value} (hg : W.grownBy W' v.ownBlock) {n : Nat} {xs : List Value} (ho : W.ownsRow w.heap.size 45 1 v n xs) : PInv w W' p C s := by
  rcases ho.2 with ⟨rfl, _⟩ | ⟨g, cap, cur, rfl, hb, hh, _⟩
  · exact h.grown hg (fun g cs t fr e => by simp [Value.ownBlock] at e) (fun g e => by simp [Value.ownBlock] at e)
  · refine h.grown hg (fun g' cs t fr e hh' => ?_) (fun g' e => ?_)
    · simp only [Value.ownBlock, Option.some.injEq] at e
      subst e
      rw [hh] at hh'
      injection hh' with hh'
      injection hh' with _ ht _
      exact ⟨ht.symm, hb⟩
    · simp only [Value.ownBlock, Option.some.injEq] at e
      subst e
      exact ⟨_, _, _, hh⟩
def u32s (l : List Nat) : List Value := l.map fun (n : Nat) => Value.int .u32 (n : Int)
def ns (l : List UInt8) (k : Nat) : List Nat := (List.range k).map fun i => nm (stps (q9 l) i) 4

theorem rsl_u32 {w : World} {base e k : Nat} {v : Value} {l : List Nat} (h : w.ownsRow base e 1 v k (u32s l)) (hb : ∀ x ∈ l, x < 4294967296) : RSl 1 RU32 w l v := by
  obtain ⟨A, cap, rfl, hc, hcc⟩ := own_slice h
  have hl : k = l.length := by have := h.1; simp [u32s] at this; omega
  refine rsl_of_cells (enc := fun (n : Nat) => [Value.int .u32 (n : Int)]) hl hc (fun _ _ => rfl) (fun x hx => ⟨rfl, by have := hb x hx; omega⟩) (by omega) ?_
  rw [show l.flatMap (fun (n : Nat) => [Value.int .u32 (n : Int)]) = u32s l from (List.map_eq_flatMap ..).symm]
  exact hcc
theorem ns_lt (l : List UInt8) (k : Nat) : ∀ x ∈ ns l k, x < 4294967296 := by
  intro x hx
  obtain ⟨i, _, rfl⟩ := List.mem_map.1 hx
  exact nm_lt _ 4 (by omega)
theorem ns_length (l : List UInt8) (k : Nat) : (ns l k).length = k := by simp [ns]

theorem parseP_mk {w W : World} {id a b c d e f h k cap : Nat} {A : Option Addr} {S : List Nat} (hS : S.length = k) (hr : RSl 1 RU32 W S (.slice A k cap)) (hb : Below w.heap.size w W.drew) :
    ParseP w id ⟨a, b, c, d, e, f, h, S⟩ 0 (.returned (.tuple #[.int .u64 id, .agg #[.int .i64 a, .int .i64 b, .int .i64 c, .int .i64 d, .int .i64 e, .slice A k cap, .int .i64 f, .int .i64 h], .int .i64 0])) W.drew := by
  subst hS
  exact ⟨A, cap, rfl, hr.keep keeps_u32 (hk0), hb⟩

theorem num_lt (l : List UInt8) : ∀ k, (stps (q9 l) k).1.length ≤ (q9 l).1.length
  | 0 => Nat.le_refl _
  | k + 1 => Nat.le_trans (stp_len _ _) (num_lt l k)

set_option maxRecDepth 100000 in
set_option maxHeartbeats 4000000 in
theorem reqParse_any (l : List UInt8) (A : Option Addr) (n cap : Nat) (w : World) (hr : RSl 1 RU8 w l (.slice A n cap)) (hl : l.length ≤ 1000000) :
    Calls Tryz.prog 103 #[.slice A n cap] w (ParseP w (prId l) (prRq l) (rqErr l)) := by
  have HR := hide hr
  clear hr
  have l1 : (q1 l).1.length ≤ 1000000 := Nat.le_trans (stp_len _ _) hl
  have l2 : (q2 l).1.length ≤ 1000000 := Nat.le_trans (stp_len _ _) l1
  have l3 : (q3 l).1.length ≤ 1000000 := Nat.le_trans (stp_len _ _) l2
  have l4 : (q4 l).1.length ≤ 1000000 := Nat.le_trans (stp_len _ _) l3
  have l5 : (q5 l).1.length ≤ 1000000 := Nat.le_trans (stp_len _ _) l4
  have l6 : (q6 l).1.length ≤ 1000000 := Nat.le_trans (stp_len _ _) l5
  have l7 : (q7 l).1.length ≤ 1000000 := Nat.le_trans (stp_len _ _) l6
  have l8 : (q8 l).1.length ≤ 1000000 := Nat.le_trans (stp_len _ _) l7
  have l9 : (q9 l).1.length ≤ 1000000 := Nat.le_trans (stp_len _ _) l8
  go_enter Tryz.func103, Tryz.ntmps103
  go_wp2_with fail
  refine (new_any _ _ _ _ l (HR.out.alloc keeps_u8 _) (by omega)).mono ?_
  rintro e w1 ⟨p, rfl, hc, hb⟩
  have hB := ((Below.refl w.heap.size w).alloc (Nat.le_refl _) _).trans (hb.mono (le_alloc (Nat.le_refl _)))
  have hres := heap_below hb (heap_alloc_new w _) (by simp)
  have hw1 : w.heap.size < w1.heap.size := by have := hb.size; simp at this; omega
  have hP0 : PInv w (w1.alloc (.cells #[.pointer (some ⟨p, 0, none⟩)] 84)) p w1.heap.size (l, 0) :=
    ⟨(show CutAt w1 (w.heap.size + 1) p l 0 by simpa using hc).keep ((Below.refl w1.heap.size w1).alloc (Nat.le_refl _) _) (Nat.le_refl _), heap_alloc hres, heap_alloc_new w1 _, hB.alloc hB.size _⟩
  clear hc hb hB hres
  go_wp2_with fail
  refine (num_any _ _ _ _ _ _ hP0.cut (show l.length ≤ 2147483648 by omega)).mono ?_
  rintro e w2 ⟨he, hc2, hg2⟩
  obtain rfl : e = .returned (.int .u64 (nm (l, 0) 8)) := he
  have hP1 := hP0.step (s' := q1 l) hg2 hc2
  have hbx : w2.cell? ⟨w1.heap.size, 0, none⟩ = some (.pointer (some ⟨p, 0, none⟩)) := cell_block hP1.box 0
  have hCl : w1.heap.size < w2.heap.size := (Array.getElem?_eq_some_iff.1 hP1.box).1
  generalize w1.heap.size = C at *
  clear hc2 hg2 hP0
  go_wp2_with fail
  refine (num1_any _ _ _ _ (q1 l) 1 (by omega) hP1.box hP1.cut (by omega)).mono ?_
  rintro e w3 ⟨rfl, hc3, hg3⟩
  have hP2 := hP1.step (s' := q2 l) hg3 hc3
  have hQl : C < w3.heap.size := Nat.lt_of_lt_of_le hCl hg3.size
  have hwl : w.heap.size < w3.heap.size := Nat.lt_trans hw1 hQl
  have hP3 := hP2.alloc (.cells #[.int .i64 (nm (q1 l) 1), .int .i64 0, .int .i64 0, .int .i64 0, .int .i64 0, .slice none 0 0, .int .i64 0, .int .i64 0] 44)
  have hQ3 := heap_alloc_new w3 (.cells #[.int .i64 (nm (q1 l) 1), .int .i64 0, .int .i64 0, .int .i64 0, .int .i64 0, .slice none 0 0, .int .i64 0, .int .i64 0] 44)
  clear hP1 hP2 hc3 hg3 hbx hCl
  go_wp2_with fail
  generalize hQe : w3.heap.size = Q at *
  have HQe := hide hQe
  clear hQe
  refine (num1_any _ _ _ _ (q2 l) 2 (by omega) hP3.box hP3.cut (by omega)).mono ?_
  rintro e w4 ⟨rfl, hcs, hgs⟩
  have hPt := hP3.step (s' := q3 l) hgs hcs
  have hQt := heap_grown hgs hQ3 (hP3.ne hQ3 (by decide))
  have y0 : w4.cell? ⟨Q, 1, none⟩ = some (.int .i64 0) := cell_block hQt 1
  have y1 : w4.frozen? ⟨Q, 1, none⟩ = false := free_block hQt 1
  have hPs := hPt.set_ (i := 1) hQt hwl (by omega) (.int .i64 (nm (q2 l) 2))
  have hQs := heap_set (i := 1) (.int .i64 (nm (q2 l) 2)) hQt
  simp only [List.setIfInBounds_toArray, List.set_cons_zero, List.set_cons_succ] at hQs
  clear hPt hQt hcs hgs hP3 hQ3
  go_wp2_with fail
  clear y0 y1
  refine (num1_any _ _ _ _ (q3 l) 1 (by omega) hPs.box hPs.cut (by omega)).mono ?_
  rintro e w5 ⟨rfl, hcs, hgs⟩
  have hPt := hPs.step (s' := q4 l) hgs hcs
  have hQt := heap_grown hgs hQs (hPs.ne hQs (by decide))
  have y0 : w5.cell? ⟨Q, 2, none⟩ = some (.int .i64 0) := cell_block hQt 2
  have y1 : w5.frozen? ⟨Q, 2, none⟩ = false := free_block hQt 2
  have hPs := hPt.set_ (i := 2) hQt hwl (by omega) (.int .i64 (nm (q3 l) 1))
  have hQs := heap_set (i := 2) (.int .i64 (nm (q3 l) 1)) hQt
  simp only [List.setIfInBounds_toArray, List.set_cons_zero, List.set_cons_succ] at hQs
  clear hPt hQt hcs hgs
  go_wp2_with fail
  clear y0 y1
  refine (num1_any _ _ _ _ (q4 l) 1 (by omega) hPs.box hPs.cut (by omega)).mono ?_
  rintro e w6 ⟨rfl, hcs, hgs⟩
  have hPt := hPs.step (s' := q5 l) hgs hcs
  have hQt := heap_grown hgs hQs (hPs.ne hQs (by decide))
  have y0 : w6.cell? ⟨Q, 3, none⟩ = some (.int .i64 0) := cell_block hQt 3
  have y1 : w6.frozen? ⟨Q, 3, none⟩ = false := free_block hQt 3
  have hPs := hPt.set_ (i := 3) hQt hwl (by omega) (.int .i64 (nm (q4 l) 1))
  have hQs := heap_set (i := 3) (.int .i64 (nm (q4 l) 1)) hQt
  simp only [List.setIfInBounds_toArray, List.set_cons_zero, List.set_cons_succ] at hQs
  clear hPt hQt hcs hgs
  go_wp2_with fail
  clear y0 y1
  refine (num1_any _ _ _ _ (q5 l) 2 (by omega) hPs.box hPs.cut (by omega)).mono ?_
  rintro e w7 ⟨rfl, hcs, hgs⟩
  have hPt := hPs.step (s' := q6 l) hgs hcs
  have hQt := heap_grown hgs hQs (hPs.ne hQs (by decide))
  have y0 : w7.cell? ⟨Q, 4, none⟩ = some (.int .i64 0) := cell_block hQt 4
  have y1 : w7.frozen? ⟨Q, 4, none⟩ = false := free_block hQt 4
  have hPs := hPt.set_ (i := 4) hQt hwl (by omega) (.int .i64 (nm (q5 l) 2))
  have hQs := heap_set (i := 4) (.int .i64 (nm (q5 l) 2)) hQt
  simp only [List.setIfInBounds_toArray, List.set_cons_zero, List.set_cons_succ] at hQs
  clear hPt hQt hcs hgs
  go_wp2_with fail
  clear y0 y1
  refine (num1_any _ _ _ _ (q6 l) 1 (by omega) hPs.box hPs.cut (by omega)).mono ?_
  rintro e w8 ⟨rfl, hcs, hgs⟩
  have hPt := hPs.step (s' := q7 l) hgs hcs
  have hQt := heap_grown hgs hQs (hPs.ne hQs (by decide))
  have y0 : w8.cell? ⟨Q, 6, none⟩ = some (.int .i64 0) := cell_block hQt 6
  have y1 : w8.frozen? ⟨Q, 6, none⟩ = false := free_block hQt 6
  have hPs := hPt.set_ (i := 6) hQt hwl (by omega) (.int .i64 (nm (q6 l) 1))
  have hQs := heap_set (i := 6) (.int .i64 (nm (q6 l) 1)) hQt
  simp only [List.setIfInBounds_toArray, List.set_cons_zero, List.set_cons_succ] at hQs
  clear hPt hQt hcs hgs
  go_wp2_with fail
  clear y0 y1
  refine (num1_any _ _ _ _ (q7 l) 1 (by omega) hPs.box hPs.cut (by omega)).mono ?_
  rintro e w9 ⟨rfl, hcs, hgs⟩
  have hPt := hPs.step (s' := q8 l) hgs hcs
  have hQt := heap_grown hgs hQs (hPs.ne hQs (by decide))
  have y0 : w9.cell? ⟨Q, 7, none⟩ = some (.int .i64 0) := cell_block hQt 7
  have y1 : w9.frozen? ⟨Q, 7, none⟩ = false := free_block hQt 7
  have hPs := hPt.set_ (i := 7) hQt hwl (by omega) (.int .i64 (nm (q7 l) 1))
  have hQs := heap_set (i := 7) (.int .i64 (nm (q7 l) 1)) hQt
  simp only [List.setIfInBounds_toArray, List.set_cons_zero, List.set_cons_succ] at hQs
  clear hPt hQt hcs hgs
  go_wp2_with fail
  clear y0 y1
  refine (num1_any _ _ _ _ (q8 l) 1 (by omega) hPs.box hPs.cut (by omega)).mono ?_
  rintro e w10 ⟨rfl, hcs, hgs⟩
  have hPt := hPs.step (s' := q9 l) hgs hcs
  have hQt := heap_grown hgs hQs (hPs.ne hQs (by decide))
  clear hPs hQs hcs hgs
  go_wp2_with fail
  have h256 : nm (q8 l) 1 < 256 := nm_lt (q8 l) 1 (by omega)
  have HS := hide (show ∀ k, (stps (q9 l) k).1.length ≤ 1000000 from fun k => Nat.le_trans (num_lt l k) l9)
  have h0 : 0 < 1000000 := by omega
  clear l1 l2 l3 l4 l5 l6 l7 l8 l9 h0
  generalize hce : nm (q8 l) 1 = cnt at h256 ⊢
  have HCE := hide hce
  clear hce
  go_loopw [38] (fun j wr => ∃ (k : Nat) (sv : Value), k ≤ cnt ∧ j = .int .i64 k ∧ PInv w wr p C (stps (q9 l) k) ∧
    wr.heap[Q]? = some (.cells #[.int .i64 (nm (q1 l) 1), .int .i64 (nm (q2 l) 2), .int .i64 (nm (q3 l) 1), .int .i64 (nm (q4 l) 1), .int .i64 (nm (q5 l) 2), sv, .int .i64 (nm (q6 l) 1), .int .i64 (nm (q7 l) 1)] 44 (0, 0)) ∧
    wr.ownsRow w.heap.size 45 1 sv k (u32s (ns l k))) (fun j _ => cnt - (intOf j).toNat)
  case atStart => exact ⟨0, .slice none 0 0, Nat.zero_le _, rfl, hPt, hQt, World.ownsRow_nil _ _ _ _⟩
  case round =>
    clear hPt hQt
    obtain ⟨k, sv, hk, rfl, hP, hQ, hown⟩ := hrel
    by_cases hlt : k < cnt
    · have hv : nm (stps (q9 l) k) 4 < 4294967296 := nm_lt (stps (q9 l) k) 4 (by omega)
      have HXS := hide (show u32s (ns l (k + 1)) = u32s (ns l k) ++ [.int .u32 (nm (stps (q9 l) k) 4)] by simp [u32s, ns, List.range_succ])
      have HP := hide hP; have HQ := hide (show wr.drew.heap[Q]? = _ from hQ); have HO := hide (show wr.drew.ownsRow w.heap.size 45 1 sv k (u32s (ns l k)) from hown)
      have HNP := hide (own_ne hown (show wr.heap[p]? = some (.cells _ 132 (0, 0)) from hP.cut.2.choose_spec.choose_spec.1) (by decide))
      have HNQ := hide (own_ne hown hQ (by decide))
      have z5 : wr.cell? ⟨Q, 5, none⟩ = some sv := cell_block hQ 5
      have HW := hide hP.below.size
      have HT := hide (num1_any wr.drew (w.heap.size + 1) p C (stps (q9 l) k) 4 (by omega) hP.box (show CutAt wr.drew (w.heap.size + 1) p (stps (q9 l) k).1 (stps (q9 l) k).2 from hP.cut) (by have := HS.out k; omega))
      have HPD := hide (show PInv w wr.drew p C (stps (q9 l) k) from ⟨hP.cut, hP.res, hP.box, hP.below.trans ((Below.refl _ _).drew)⟩)
      clear hP hQ hown
      generalize hx : nm (stps (q9 l) k) 4 = x at hv HXS HT
      have HX := hide hx
      have hwr : IntKind.u32.wrap ((x : Nat) : Int) = x := by simp [IntKind.wrap, IntKind.signed, IntKind.bits]; omega
      clear hx
      go_wp2_with fail
      go_region_law (first | (go_simp; go_at_call 148; refine HT.out.mono ?_; rintro e w2 ⟨rfl, hc2, hg2⟩; have HP2 := hide (HPD.out.step (s' := stps (q9 l) (k + 1)) hg2 hc2); have HO2 := hide (HO.out.kept hg2 (Or.inr HNP.out)); have HQ2 := hide (heap_grown hg2 HQ.out (HPD.out.ne HQ.out (by decide))); have y5 := cell_block HQ2.out 5; have y6 := fun o => cell_block (heap_alloc (o' := o) HQ2.out) 5; have HS2 := hide hg2.size; clear hc2 hg2) | (refine step_app rfl sl32 (.tmp 41) (.tmp 45) rfl (HO2.out.alloc _) (by simp [Act.eval]) (some ⟨_, 0, none⟩) 1 1 (by simp [Act.eval]) (news := [.int .u32 x]) (cells_new _ [.int .u32 x] _) rfl (by simp [Value.oneCell']) (by omega) (by omega) (le_alloc (Nat.le_trans HW.out HS2.out)) ?_; intro v3 w3 hown3 hg3 hat3; obtain ⟨A3, cap3, rfl, _, _⟩ := own_slice hown3; have HP3 := hide ((HP2.out.alloc _).own hg3 (HO2.out.alloc _)); have HQ3 := hide (heap_grown hg3 (heap_alloc HQ2.out) HNQ.out); have x5 := cell_block HQ3.out 5; have x6 := free_block HQ3.out 5; have HO3 := hide hown3; clear hown3 hg3 hat3))
      all_goals
        go_wp2_with fail
        go_roundw
        case rel =>
          have hQ4 := heap_set (i := 5) (.slice A3 (k + 1) cap3) HQ3.out
          simp only [List.setIfInBounds_toArray, List.set_cons_zero, List.set_cons_succ] at hQ4
          refine ⟨k + 1, _, by omega, by go_num, HP3.out.set_ HQ3.out hwl (by omega) _, hQ4, ?_⟩
          rw [HXS.out]
          exact ownsRow_setCell_other (a := ⟨Q, 5, none⟩) HO3.out (own_ne HO3.out HQ3.out (by decide)) _
        case measure => simp [intOf]; omega
    · have hke : k = cnt := by omega
      subst hke
      have hend : rqEnd l = stps (q9 l) k := by rw [rqEnd, HCE.out]
      obtain ⟨s, hs⟩ : ∃ s, s = rqEnd l := ⟨_, rfl⟩
      rw [← hend, ← hs] at hP
      have hErr : rqErr l = if s.2 = 0 then (if 9 < ((nm (q1 l) 1 : Nat) : Int) then 11 else if 0 < s.1.length then 12 else 0) else s.2 := by rw [hs]; rfl
      have hrq : rq l = ⟨nm (q1 l) 1, nm (q2 l) 2, nm (q3 l) 1, nm (q4 l) 1, nm (q5 l) 2, nm (q6 l) 1, nm (q7 l) 1, ns l k⟩ := by rw [← HCE.out]; rfl
      have HRQ := hide hrq
      obtain ⟨l', e'⟩ := s
      have HC := hide hP.cut
      have hbx : wr.cell? ⟨C, 0, none⟩ = some (.pointer (some ⟨p, 0, none⟩)) := cell_block hP.box 0
      have fr : ∀ i, wr.frozen? ⟨w.heap.size, i, none⟩ = false := fun i => free_block hP.res i
      have d0 := cell_block hQ 0
      have r0 := cell_block hP.res 0; have r1 := cell_block hP.res 1; have r2 := cell_block hP.res 2; have r3 := cell_block hP.res 3; have r4 := cell_block hP.res 4; have r5 := cell_block hP.res 5; have r6 := cell_block hP.res 6; have r7 := cell_block hP.res 7;
      have HB := hide hP.below
      have HQ := hide hQ; have HO := hide hown; have HRES := hide hP.res
      simp only [List.getElem?_toArray, List.getElem?_cons_zero, List.getElem?_cons_succ] at d0 r0 r1 r2 r3 r4 r5 r6 r7
      clear hP hQ hown hend hs hrq
      generalize nm (q1 l) 1 = kd at *
      by_cases he : e' = 0
      · subst he
        by_cases h9 : 9 < kd
        · have HE := hide (show rqErr l = 11 by rw [hErr, if_pos rfl, if_pos (by omega)])
          clear hErr
          go_wp2_with (first | (go_at_call 43; refine (CutAt.err HC.out).mono ?_; rintro e w' ⟨rfl, rfl⟩) | (go_at_call 40; refine (CutAt.left HC.out).mono ?_; rintro e w' ⟨rfl, rfl⟩))
          have h1 : prId l = 0 := by rw [prId, HE.out, if_neg (by decide)]
          have h2 : prRq l = Rq.zero := by rw [prRq, HE.out, if_neg (by decide)]
          rw [h1, h2, HE.out]
          refine bodyPost_ret (v := .tuple #[.int .u64 0, .agg #[.int .i64 0, .int .i64 0, .int .i64 0, .int .i64 0, .int .i64 0, .slice none 0 0, .int .i64 0, .int .i64 0], .int .i64 11]) (by simp [results, Tryz.results103, go_sem, r0, r1, r2, r3, r4, r5, r6, r7]) rfl ⟨none, 0, rfl, RSl.nil, ?_⟩
          exact ((((((((HB.out.setCell (Nat.le_refl _) _).setCell (Nat.le_refl _) _).setCell (Nat.le_refl _) _).setCell (Nat.le_refl _) _).setCell (Nat.le_refl _) _).setCell (Nat.le_refl _) _).setCell (Nat.le_refl _) _).setCell (Nat.le_refl _) _)
        · by_cases h0 : 0 < l'.length
          · have HE := hide (show rqErr l = 12 by rw [hErr, if_pos rfl, if_neg (by omega), if_pos h0])
            clear hErr
            go_wp2_with (first | (go_at_call 43; refine (CutAt.err HC.out).mono ?_; rintro e w' ⟨rfl, rfl⟩) | (go_at_call 40; refine (CutAt.left HC.out).mono ?_; rintro e w' ⟨rfl, rfl⟩))
            have h1 : prId l = 0 := by rw [prId, HE.out, if_neg (by decide)]
            have h2 : prRq l = Rq.zero := by rw [prRq, HE.out, if_neg (by decide)]
            rw [h1, h2, HE.out]
            refine bodyPost_ret (v := .tuple #[.int .u64 0, .agg #[.int .i64 0, .int .i64 0, .int .i64 0, .int .i64 0, .int .i64 0, .slice none 0 0, .int .i64 0, .int .i64 0], .int .i64 12]) (by simp [results, Tryz.results103, go_sem, r0, r1, r2, r3, r4, r5, r6, r7]) rfl ⟨none, 0, rfl, RSl.nil, ?_⟩
            exact ((((((((HB.out.setCell (Nat.le_refl _) _).setCell (Nat.le_refl _) _).setCell (Nat.le_refl _) _).setCell (Nat.le_refl _) _).setCell (Nat.le_refl _) _).setCell (Nat.le_refl _) _).setCell (Nat.le_refl _) _).setCell (Nat.le_refl _) _)
          · have HE := hide (show rqErr l = 0 by rw [hErr, if_pos rfl, if_neg (by omega), if_neg h0])
            clear hErr
            have d1 := cell_block HQ.out 1; have d2 := cell_block HQ.out 2; have d3 := cell_block HQ.out 3; have d4 := cell_block HQ.out 4; have d5 := cell_block HQ.out 5; have d6 := cell_block HQ.out 6; have d7 := cell_block HQ.out 7
            simp only [List.getElem?_toArray, List.getElem?_cons_zero, List.getElem?_cons_succ] at d1 d2 d3 d4 d5 d6 d7
            obtain ⟨A5, cap5, rfl, _, _⟩ := own_slice HO.out
            go_wp2_with (first | (go_at_call 43; refine (CutAt.err HC.out).mono ?_; rintro e w' ⟨rfl, rfl⟩) | (go_at_call 40; refine (CutAt.left HC.out).mono ?_; rintro e w' ⟨rfl, rfl⟩) | fail)
            go_region
            go_wp2
            have h1 : prId l = nm (l, 0) 8 := by rw [prId, HE.out, if_pos rfl]
            have h2 : prRq l = ⟨kd, nm (q2 l) 2, nm (q3 l) 1, nm (q4 l) 1, nm (q5 l) 2, nm (q6 l) 1, nm (q7 l) 1, ns l k⟩ := by rw [prRq, HE.out, if_pos rfl]; exact HRQ.out
            rw [h1, h2, HE.out]
            have hnb := own_ne HO.out HRES.out (by decide)
            have hb8 := ((((((((HB.out.setCell (p := ⟨w.heap.size, 0, none⟩) (Nat.le_refl _) (.int .i64 kd)).setCell (p := ⟨w.heap.size, 1, none⟩) (Nat.le_refl _) (.int .i64 (nm (q2 l) 2))).setCell (p := ⟨w.heap.size, 2, none⟩) (Nat.le_refl _) (.int .i64 (nm (q3 l) 1))).setCell (p := ⟨w.heap.size, 3, none⟩) (Nat.le_refl _) (.int .i64 (nm (q4 l) 1))).setCell (p := ⟨w.heap.size, 4, none⟩) (Nat.le_refl _) (.int .i64 (nm (q5 l) 2))).setCell (p := ⟨w.heap.size, 5, none⟩) (Nat.le_refl _) (.slice A5 k cap5)).setCell (p := ⟨w.heap.size, 6, none⟩) (Nat.le_refl _) (.int .i64 (nm (q6 l) 1))).setCell (p := ⟨w.heap.size, 7, none⟩) (Nat.le_refl _) (.int .i64 (nm (q7 l) 1)))
            have ho8 := (ownsRow_setCell_other (a := ⟨w.heap.size, 7, none⟩) (ownsRow_setCell_other (a := ⟨w.heap.size, 6, none⟩) (ownsRow_setCell_other (a := ⟨w.heap.size, 5, none⟩) (ownsRow_setCell_other (a := ⟨w.heap.size, 4, none⟩) (ownsRow_setCell_other (a := ⟨w.heap.size, 3, none⟩) (ownsRow_setCell_other (a := ⟨w.heap.size, 2, none⟩) (ownsRow_setCell_other (a := ⟨w.heap.size, 1, none⟩) (ownsRow_setCell_other (a := ⟨w.heap.size, 0, none⟩) HO.out hnb (.int .i64 kd)) hnb (.int .i64 (nm (q2 l) 2))) hnb (.int .i64 (nm (q3 l) 1))) hnb (.int .i64 (nm (q4 l) 1))) hnb (.int .i64 (nm (q5 l) 2))) hnb (.slice A5 k cap5)) hnb (.int .i64 (nm (q6 l) 1))) hnb (.int .i64 (nm (q7 l) 1)))
            have hr8 := rsl_u32 ho8 (ns_lt l k)
            have hh8 := HRES.out
            replace hh8 := heap_set (i := 0) (.int .i64 kd) hh8
            replace hh8 := heap_set (i := 1) (.int .i64 (nm (q2 l) 2)) hh8
            replace hh8 := heap_set (i := 2) (.int .i64 (nm (q3 l) 1)) hh8
            replace hh8 := heap_set (i := 3) (.int .i64 (nm (q4 l) 1)) hh8
            replace hh8 := heap_set (i := 4) (.int .i64 (nm (q5 l) 2)) hh8
            replace hh8 := heap_set (i := 5) (.slice A5 k cap5) hh8
            replace hh8 := heap_set (i := 6) (.int .i64 (nm (q6 l) 1)) hh8
            replace hh8 := heap_set (i := 7) (.int .i64 (nm (q7 l) 1)) hh8
            simp only [List.setIfInBounds_toArray, List.set_cons_zero, List.set_cons_succ] at hh8
            clear ho8
            generalize ((((((((wr.setCell ⟨w.heap.size, 0, none⟩ (.int .i64 kd)).setCell ⟨w.heap.size, 1, none⟩ (.int .i64 (nm (q2 l) 2))).setCell ⟨w.heap.size, 2, none⟩ (.int .i64 (nm (q3 l) 1))).setCell ⟨w.heap.size, 3, none⟩ (.int .i64 (nm (q4 l) 1))).setCell ⟨w.heap.size, 4, none⟩ (.int .i64 (nm (q5 l) 2))).setCell ⟨w.heap.size, 5, none⟩ (.slice A5 k cap5)).setCell ⟨w.heap.size, 6, none⟩ (.int .i64 (nm (q6 l) 1))).setCell ⟨w.heap.size, 7, none⟩ (.int .i64 (nm (q7 l) 1))) = W8 at hb8 hr8 hh8 ⊢
            have e0 := cell_block hh8 0; have e1 := cell_block hh8 1; have e2 := cell_block hh8 2; have e3 := cell_block hh8 3; have e4 := cell_block hh8 4; have e5 := cell_block hh8 5; have e6 := cell_block hh8 6; have e7 := cell_block hh8 7
            simp only [List.getElem?_toArray, List.getElem?_cons_zero, List.getElem?_cons_succ] at e0 e1 e2 e3 e4 e5 e6 e7
            refine bodyPost_ret (v := .tuple #[.int .u64 (nm (l, 0) 8), .agg #[.int .i64 kd, .int .i64 (nm (q2 l) 2), .int .i64 (nm (q3 l) 1), .int .i64 (nm (q4 l) 1), .int .i64 (nm (q5 l) 2), .slice A5 k cap5, .int .i64 (nm (q6 l) 1), .int .i64 (nm (q7 l) 1)], .int .i64 0]) (by simp [results, Tryz.results103, go_sem, e0, e1, e2, e3, e4, e5, e6, e7]) rfl (parseP_mk (ns_length l k) hr8 ?_)
            exact hb8.drew
      · have HE := hide (show rqErr l = e' by rw [hErr, if_neg he])
        have hq1 : (e' == 0) = false := by rw [beq_eq_false_iff_ne]; omega
        have hq2 : (e' != 0) = true := by rw [bne_iff_ne]; omega
        clear hErr
        go_wp2_with (first | (go_at_call 43; refine (CutAt.err HC.out).mono ?_; rintro e w' ⟨rfl, rfl⟩) | (go_at_call 40; refine (CutAt.left HC.out).mono ?_; rintro e w' ⟨rfl, rfl⟩))
        have h1 : prId l = 0 := by rw [prId, HE.out, if_neg he]
        have h2 : prRq l = Rq.zero := by rw [prRq, HE.out, if_neg he]
        rw [h1, h2, HE.out]
        refine bodyPost_ret (v := .tuple #[.int .u64 0, .agg #[.int .i64 0, .int .i64 0, .int .i64 0, .int .i64 0, .int .i64 0, .slice none 0 0, .int .i64 0, .int .i64 0], .int .i64 e']) (by simp [results, Tryz.results103, go_sem, r0, r1, r2, r3, r4, r5, r6, r7]) rfl ⟨none, 0, rfl, RSl.nil, ?_⟩
        exact ((((((((HB.out.setCell (Nat.le_refl _) _).setCell (Nat.le_refl _) _).setCell (Nat.le_refl _) _).setCell (Nat.le_refl _) _).setCell (Nat.le_refl _) _).setCell (Nat.le_refl _) _).setCell (Nat.le_refl _) _).setCell (Nat.le_refl _) _)
end Go.Proofs.YtkcpfhbfjpldhaaGreatDoor

/- awake24: Accept. (Written by gen_awki.py.) -/
namespace Go.Proofs.YtkcpfhbfjpldhaaGreatDoor
open Go.RowKit
set_option linter.unusedVariables false

/-- what is known behind the control's Accept of bytes that are no request -/
def Taken (s : Nat) (w : World) (B a p b C A Q : Nat) (ws ev : Value) (k : Nat) (xs : List Value) (m er : Int) (e : Ending) (w' : World) : Prop := ∃ g, e = .returned (.tuple #[.slice none 0 0, .slice (some ⟨g, 0, none⟩) 1 1]) ∧ w'.heap[g]? = some (.cells #[.int .i64 m, .int .u64 0, .int .i64 er] 221 (0, 0)) ∧ Sfu s w' B a p b C A Q ws ev k xs ring0 1 0 ∧ KX w w' ∧ Below s w w'

set_option maxRecDepth 100000 in
set_option maxHeartbeats 4000000 in
theorem ctlAccept_bad {s : Nat} {w : World} {B a p b C A Q : Nat} {ws ev : Value} {k : Nat} {xs : List Value} {m : Int} {A2 : Option Addr} {c2 : Nat} (l : List UInt8) (h : Sfu s w B a p b C A Q ws ev k xs (ring1 m (.slice A2 l.length c2)) 0 1) (hs : s ≤ w.heap.size) (hl : l.length ≤ 1000000) (hd : D8 w l (.slice A2 l.length c2)) (er : Int) (her : rqErr l = er) (hne : er ≠ 0) :
    Calls Tryz.prog 62 #[.pointer (some ⟨C, 0, none⟩)] w (Taken s w B a p b C A Q ws ev k xs m er) := by
  obtain ⟨cs, hC, hC11⟩ := h.hC
  have hne' : (er != 0) = true := by simpa using hne
  have k0 : w.cell? ⟨C, 11, none⟩ = some (.pointer (some ⟨Q, 0, none⟩)) := (cell_block hC 11).trans hC11
  have HPP := hide (fun W (hW : RSl 1 RU8 W l (.slice A2 l.length c2)) => (show Calls Tryz.prog 103 #[.slice A2 l.length c2] W (ParseP W 0 Rq.zero er) from by
    have := reqParse_any l A2 l.length c2 W hW hl
    rw [prId, prRq, her, if_neg hne, if_neg hne] at this
    exact this))
  have HH := hide h
  have HS := hide hs
  have HD := hide hd
  clear h hs hC hC11 hd her hne
  go_enter Tryz.func62, Tryz.ntmps62
  go_wp2_with fail
  refine (callPop HH.out HS.out).mono ?_
  rintro r w1 ⟨rfl, hS1, hK1, hB1⟩
  have HD1 := hide (HD.out.kx hK1)
  have H1 := hide (And.intro hS1 (And.intro hK1 hB1))
  have HS1 := hide (Nat.le_trans HS.out hB1.size)
  clear hS1 hK1 hB1 k0
  go_wp2_with (refine wpl_store_blk rfl 158 (.tmp 4) (.tmp 22) (cs := [.int .i64 m, .slice A2 l.length c2]) (old := [.int .i64 0, .slice none 0 0]) rfl rfl rfl (by kernel_rfl) (by simp [Value.oneCell']) (heap_alloc_new w1 _) rfl ?_; intro w2 h2 hg2; have H2 := hide (And.intro h2 (le_boxed ((Le.refl w1).alloc _) hg2 (Nat.le_refl _))); generalize hg4 : w1.heap.size = g4 at *; have z0 : w2.cell? ⟨g4, 0, none⟩ = some (.int .i64 m) := cell_block H2.out.1 0; have z1 : w2.cell? ⟨g4, 1, none⟩ = some (.slice A2 l.length c2) := cell_block H2.out.1 1; clear h2 hg2 hg4)
  refine (HPP.out _ (HD1.out.keep H2.out.2.out).rsl).mono ?_
  rintro r w3 ⟨A5, c5, rfl, _, hb3⟩
  have HL3 := hide (Le.mk hb3)
  clear hb3 z0 z1
  simp only [Rq.zero, List.length_nil]
  go_wp2_with (refine wpl_store_blk rfl 44 (.tmp 7) (.tmp 31) (cs := [.int .i64 0, .int .i64 0, .int .i64 0, .int .i64 0, .int .i64 0, .slice A5 0 c5, .int .i64 0, .int .i64 0]) (old := [.int .i64 0, .int .i64 0, .int .i64 0, .int .i64 0, .int .i64 0, .slice none 0 0, .int .i64 0, .int .i64 0]) rfl rfl rfl (by kernel_rfl) (by simp [Value.oneCell']) (heap_alloc_new w3 _) rfl ?_; intro w4 h4 hg4; have H4 := hide (le_boxed ((Le.refl w3).alloc _) hg4 (Nat.le_refl _)); generalize w3.heap.size = g7 at *; clear h4 hg4)
  have HL4 := hide (H2.out.2.trans (HL3.out.trans H4.out))
  have HB4 := hide ((HL3.out.trans H4.out).heap H2.out.1)
  clear HL3 H4
  go_upto_region 8 with fail
  have z0 : w4.cell? ⟨g4, 0, none⟩ = some (.int .i64 m) := cell_block HB4.out 0
  go_region
  all_goals
    go_wp2_with fail
    go_ret2
    have hl := HL4.out.trans ((Le.refl w4).alloc (.cells #[.int .i64 m, .int .u64 0, .int .i64 er] 221)).drew
    exact ⟨_, rfl, heap_alloc_new w4 _, H1.out.1.le hl, H1.out.2.1.le hl, H1.out.2.2.trans (hl.out.mono (Nat.le_trans HS.out H1.out.2.2.size))⟩

set_option maxRecDepth 100000 in
set_option maxHeartbeats 4000000 in
theorem replies_one {s : Nat} {w : World} {B a p b C A Q : Nat} {ws ev : Value} {k : Nat} {xs ring : List Value} {f n g : Nat} {m er : Int} (h : Sfu s w B a p b C A Q ws ev k xs ring f n) (hs : s ≤ w.heap.size) (hk : k ≤ 1000) (hg : w.heap[g]? = some (.cells #[.int .i64 m, .int .u64 0, .int .i64 er] 221 (0, 0))) :
    Calls Tryz.prog 63 #[.pointer (some ⟨B, 0, none⟩), .slice (some ⟨g, 0, none⟩) 1 1] w (fun e w' => e = .returned (.tuple #[]) ∧ ∃ ev', Sfu s w' B a p b C A Q ws ev' (k + 1) (xs ++ evC 2 m 0 er (.slice none 0 0)) ring f n ∧ KX w w' ∧ Below s w w') := by
  have HH := hide h
  have HS := hide hs
  have HG := hide hg
  clear h hs hg
  go_enter Tryz.func63, Tryz.ntmps63
  go_wp2_with fail
  go_loopw [5, 8] (fun s5 j wr => (j = .int .i64 0 ∧ Hd (wr = w)) ∨ (j = .int .i64 1 ∧ Hd (∃ ev', Sfu s wr B a p b C A Q ws ev' (k + 1) (xs ++ evC 2 m 0 er (.slice none 0 0)) ring f n ∧ KX w wr ∧ Below s w wr))) (fun _ j _ => 1 - (intOf j).toNat)
  case atStart => exact .inl ⟨rfl, hide rfl⟩
  case round =>
    rcases hrel with ⟨rfl, HW⟩ | ⟨rfl, HE⟩
    · obtain rfl := HW.out
      clear HW
      go_wp2_with (first
        | (refine wpl_load_blk rfl 221 (.tmp 10) rfl (cs := [.int .i64 m, .int .u64 0, .int .i64 er]) _ rfl Tryz.underlying221 rfl (by kernel_rfl) HG.out ?_)
        | (refine wpl_store_blk rfl 221 (.tmp 5) (.tmp 11) (cs := [.int .i64 m, .int .u64 0, .int .i64 er]) (old := [.int .i64 0, .int .u64 0, .int .i64 0]) rfl rfl rfl (by kernel_rfl) (by simp [Value.oneCell']) (heap_alloc_new wr _) rfl ?_; intro w2 h2 hg2; have H2 := hide (And.intro h2 (le_boxed ((Le.refl wr).alloc _) hg2 (Nat.le_refl _))); generalize wr.heap.size = g5 at H2 ⊢; have z0 : w2.cell? ⟨g5, 0, none⟩ = some (.int .i64 m) := cell_block H2.out.1 0; have z1 : w2.cell? ⟨g5, 1, none⟩ = some (.int .u64 0) := cell_block H2.out.1 1; have z2 : w2.cell? ⟨g5, 2, none⟩ = some (.int .i64 er) := cell_block H2.out.1 2; clear h2 hg2))
      refine (happens_any (HH.out.le H2.out.2) (Nat.le_trans HS.out H2.out.2.size) (by omega) 2 m 0 er none 0 0).mono ?_
      rintro r w3 ⟨rfl, ev3, hS3, hK3, hB3⟩
      have H3 := hide (show ∃ ev', Sfu s w3 B a p b C A Q ws ev' (k + 1) (xs ++ evC 2 m 0 er (.slice none 0 0)) ring f n ∧ KX wr w3 ∧ Below s wr w3 from ⟨ev3, hS3, (KX.of H2.out.2).trans hK3, (H2.out.2.out.mono HS.out).trans hB3⟩)
      clear hS3 hK3 hB3 z0 z1 z2
      go_wp2_with fail
      go_roundw
      case rel => exact .inr ⟨rfl, H3⟩
      case measure => simp [intOf]
    · go_wp2_with fail
      go_end0
      exact ⟨rfl, HE.out⟩

/-- what is known behind Accept of bytes that are no request -/
def Accd (s : Nat) (w : World) (B a p b C A Q : Nat) (ws : Value) (k : Nat) (xs : List Value) (m er : Int) (e : Ending) (w' : World) : Prop := e = .returned (.tuple #[]) ∧ ∃ ev', Sfu s w' B a p b C A Q ws ev' (k + 1) (xs ++ evC 2 m 0 er (.slice none 0 0)) ring0 1 0 ∧ KX w w' ∧ Below s w w'

set_option maxRecDepth 100000 in
set_option maxHeartbeats 4000000 in
theorem accept_bad {s : Nat} {w : World} {B a p b C A Q : Nat} {ws ev : Value} {k : Nat} {xs : List Value} {m : Int} {A2 : Option Addr} {c2 : Nat} (l : List UInt8) (h : Sfu s w B a p b C A Q ws ev k xs (ring1 m (.slice A2 l.length c2)) 0 1) (hs : s ≤ w.heap.size) (hk : k ≤ 1000) (hl : l.length ≤ 1000000) (hd : D8 w l (.slice A2 l.length c2)) (er : Int) (her : rqErr l = er) (hne : er ≠ 0) :
    Calls Tryz.prog 28 #[.pointer (some ⟨B, 0, none⟩)] w (Accd s w B a p b C A Q ws k xs m er) := by
  have z4 : w.cell? ⟨B, 14, none⟩ = some (.pointer (some ⟨C, 0, none⟩)) := cell_block h.hB 14
  have HC := hide (ctlAccept_bad l h hs hl hd er her hne)
  have HS := hide hs
  clear h hs hd her hne
  go_enter Tryz.func28, Tryz.ntmps28
  go_wp2_with fail
  refine HC.out.mono ?_
  rintro r w1 ⟨g, rfl, hg, hS1, hK1, hB1⟩
  have H1 := hide (And.intro hg (And.intro hS1 (And.intro hK1 hB1)))
  have HS1 := hide (Nat.le_trans HS.out hB1.size)
  clear hg hS1 hK1 hB1 z4 HC
  go_wp2_with fail
  go_loopw [5, 18] (fun s5 j wr => j = .int .i64 0 ∧ Hd (wr = w1)) (fun _ _ _ => 0)
  case atStart => exact ⟨rfl, hide rfl⟩
  case round =>
    obtain ⟨rfl, HW⟩ := hrel
    obtain rfl := HW.out
    go_wp2_with fail
    refine (replies_one H1.out.2.1 HS1.out hk H1.out.1).mono ?_
    rintro r w3 ⟨rfl, ev3, hS3, hK3, hB3⟩
    have H3 := hide (show ∃ ev', Sfu s w3 B a p b C A Q ws ev' (k + 1) (xs ++ evC 2 m 0 er (.slice none 0 0)) ring0 1 0 ∧ KX w w3 ∧ Below s w w3 from ⟨ev3, hS3, H1.out.2.2.1.trans hK3, H1.out.2.2.2.trans hB3⟩)
    clear hS3 hK3 hB3
    go_wp2_with fail
    go_end0
    exact ⟨rfl, H3.out⟩
end Go.Proofs.YtkcpfhbfjpldhaaGreatDoor
