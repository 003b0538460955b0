/- The req package, function by function. -/
import Derived.Test.YtlfomilalkkbeaaLaw1
import Derived.Test.YtlfomilalkkbeaaHeld
import Derived.Test.YtlfomilalkkbeaaReqL
namespace Go.Proofs.Ytlfomilalkkbeaa
open Go.RowKit
set_option linter.unusedVariables false

theorem slPart : SlT Try.prog 22 28 (.agg #[.int .u64 0, .int .i64 0]) 2 16 := ⟨Try.underlying22, by kernel_rfl, rfl, by omega⟩
def RU32 : Rd Nat := fun _ n cs => cs = [.int .u32 n] ∧ (n : Int) < 4294967296
theorem keeps_u32 : Keeps RU32 := fun _ _ _ _ h _ => h

theorem fits1 (x : Int) (w : World) : Calls Try.prog 38 #[.int .i64 x, .int .i64 1] w fun e w' => e = .returned (.bool (fitB x 256)) ∧ w = w' := by
  by_cases h : 0 ≤ x
  · rw [show fitB x 256 = decide (x < 256) by simp [fitB, h]]
    go_enter Try.func38, Try.ntmps38
    go_wp2
    go_ret
    exact ⟨rfl, rfl⟩
  · rw [show fitB x 256 = false by simp [fitB, h]]
    go_enter Try.func38, Try.ntmps38
    go_wp2
    go_ret
    exact ⟨rfl, rfl⟩
theorem fits2 (x : Int) (w : World) : Calls Try.prog 38 #[.int .i64 x, .int .i64 2] w fun e w' => e = .returned (.bool (fitB x 65536)) ∧ w = w' := by
  by_cases h : 0 ≤ x
  · rw [show fitB x 65536 = decide (x < 65536) by simp [fitB, h]]
    go_enter Try.func38, Try.ntmps38
    go_wp2
    go_ret
    exact ⟨rfl, rfl⟩
  · rw [show fitB x 65536 = false by simp [fitB, h]]
    go_enter Try.func38, Try.ntmps38
    go_wp2
    go_ret
    exact ⟨rfl, rfl⟩

@[irreducible] def fitS (x s : Int) : Bool := fitB x (if s = 1 then 256 else 65536)
theorem fits_any (x s : Int) (w : World) (h : s = 1 ∨ s = 2) : Calls Try.prog 38 #[.int .i64 x, .int .i64 s] w fun e w' => e = .returned (.bool (fitS x s)) ∧ w = w' := by
  rcases h with rfl | rfl
  · unfold fitS
    exact fits1 x w
  · unfold fitS
    exact fits2 x w

/-- the list that a closure holds: its variable, and what is in it -/
def PartsAt (w : World) (base g : Nat) (l : List (Nat × Int)) : Prop :=
  base ≤ g ∧ ∃ v, w.heap[g]? = some (.cells #[v] 22 (0, 0)) ∧ w.ownsRow base 28 2 v l.length (l.flatMap encPart)

theorem number_any (w : World) (base g : Nat) (l : List (Nat × Int)) (x : Nat) (z : Int) (hx : x ≤ 65536000000000) (h : PartsAt w base g l) (hl : l.length ≤ 1000) :
    Calls Try.prog 39 #[.int .i64 x, .int .i64 z, .pointer (some ⟨g, 0, none⟩)] w fun e w' => e = .returned (.tuple #[]) ∧ PartsAt w' base g (l ++ [(x, z)]) ∧ Below base w w' := by
  obtain ⟨hbg, v, hg, hown⟩ := h
  have HG := hide hg
  have hlt := hown.lt
  have hne : v.ownBlock ≠ some g := own_ne hown hg (by decide)
  obtain ⟨A, cap, rfl, hcap, _⟩ := own_slice hown
  have c0 : w.cell? ⟨g, 0, none⟩ = some (.slice A l.length cap) := by rw [cell_block hg]; rfl
  have f0 : w.frozen? ⟨g, 0, none⟩ = false := free_block hg 0
  have hbw : base ≤ w.heap.size := Nat.le_of_lt (Nat.lt_of_le_of_lt hbg (Array.getElem?_eq_some_iff.1 hg).1)
  have hG1 := heap_alloc (o' := .cells #[.int .u64 x, .int .i64 z] 28) hg
  have HG1 := hide hG1
  have HN := hide hne
  have HLT := hide hlt
  clear hg hG1 hne hlt
  go_enter Try.func39, Try.ntmps39
  go_wp2_with (first | (at_builtin; go_must (refine wpl_app rfl slPart (.tmp 5) (.tmp 10) rfl (hown.alloc _) rfl rfl (news := encPart (x, z)) (cells_new _ _ _) rfl ?h1 ?h2 ?h3 (le_alloc hbw) ?_); rotate_right; intro v1 w1 hown1 hg1 hat1; obtain ⟨A1, cap1, rfl, hcap1, _⟩ := own_slice hown1; have HG2 := hide (heap_grown hg1 HG1.out HN.out); have c2 : w1.cell? ⟨g, 0, none⟩ = some (.slice A l.length cap) := cell_block HG2.out 0; have f2 : w1.frozen? ⟨g, 0, none⟩ = false := free_block HG2.out 0; have HA := hide hat1; have HO := hide hown1; have HW := hide hg1; clear hat1 hg1))
  case h1 => simp [encPart, Value.oneCell']
  case h2 => omega
  case h3 => omega
  go_end0
  have hb1 : Below base w w1 := (((Below.refl base w).alloc hbw _)).grown HW.out (le_alloc hbw) (fun k hk => (HLT.out k hk).1)
  refine ⟨rfl, ⟨hbg, _, heap_set (i := 0) _ HG2.out, ?_⟩, hb1.setCell hbg _⟩
  have hne : (Value.slice A1 (l.length + 1) cap1).ownBlock ≠ some g := by
    rcases HA.out with e | e
    · rw [e]; exact HN.out
    · rw [e]; intro e2; injection e2 with e2
      have h1 := (Array.getElem?_eq_some_iff.1 HG.out).1
      simp at e2; omega
  rw [List.length_append, List.flatMap_append]
  exact ownsRow_setCell_other (a := ⟨g, 0, none⟩) HO.out hne _

/-- bytes in a row of its own, and an error -/
def Owns8E (w : World) (l : List UInt8) (err : Int) (e : Ending) (w' : World) : Prop :=
  ∃ v, e = .returned (.tuple #[v, .int .i64 err]) ∧ w'.ownsRow w.heap.size 5 1 v l.length (u8s l) ∧ Below w.heap.size w w'

theorem ok_of {q : Rq} (h1 : 0 ≤ q.kind) (h2 : q.kind ≤ 9) (h3 : fitS q.who 2 = true) (h4 : fitS q.room 1 = true) (h5 : fitS q.rights 1 = true) (h6 : fitS q.track 2 = true) (h7 : fitS q.layer 1 = true) (h8 : fitS q.tid 1 = true) (h9 : (q.ssrcs.length : Int) ≤ 255) : q.ok = true := by
  simp [fitS, fitB] at h3 h4 h5 h6 h7 h8
  exact ok_mk (by omega)

set_option maxHeartbeats 2000000 in
theorem reqPut_bad (id : Nat) (q : Rq) (A : Option Addr) (n cap : Nat) (w : World) (hn : n = q.ssrcs.length) (h : q.ok = false) :
    Calls Try.prog 26 #[.int .u64 id, .agg #[.int .i64 q.kind, .int .i64 q.who, .int .i64 q.room, .int .i64 q.rights, .int .i64 q.track, .slice A n cap, .int .i64 q.layer, .int .i64 q.tid]] w (Owns8E w [] 1) := by
  subst hn
  have HB := hide h
  clear h
  obtain ⟨kind, who, room, rights, track, layer, tid, ssrcs⟩ := q
  simp only
  go_enter Try.func26, Try.ntmps26
  go_wp2_with (go_at_call 38; refine (fits_any _ _ _ (by omega)).mono ?_; rintro e w' ⟨rfl, rfl⟩)
  all_goals first | (go_ret2; exact ⟨_, rfl, World.ownsRow_nil _ _ _ _, (Below.refl _ _).alloc (Nat.le_refl _) _⟩) | (exfalso; have h1 := ok_of (q := ⟨kind, who, room, rights, track, layer, tid, ssrcs⟩) (by assumption) (by assumption) (by assumption) (by assumption) (by assumption) (by assumption) (by assumption) (by assumption) (show ((ssrcs.length : Nat) : Int) ≤ 255 by omega); rw [HB.out] at h1; cases h1)


/-- the closure that takes a number out of a Cut -/
theorem num1_any (w : World) (base p g : Nat) (s : List UInt8 × Int) (n : Nat) (hn : n ≤ 4) (hg : w.heap[g]? = some (.cells #[.pointer (some ⟨p, 0, none⟩)] 34 (0, 0))) (h : CutAt w base p s.1 s.2) (hl : s.1.length ≤ 2147483648) :
    Calls Try.prog 40 #[.int .i64 n, .pointer (some ⟨g, 0, none⟩)] w fun e w' => e = .returned (.int .i64 (nm s n)) ∧ CutAt w' base p (stp s n).1 (stp s n).2 ∧ w.grownBy w' (some p) := by
  have HT := hide (num_any w base p s.1 s.2 n h hl)
  have c0 : w.cell? ⟨g, 0, none⟩ = some (.pointer (some ⟨p, 0, none⟩)) := cell_block hg 0
  have hv : nm s n < 4294967296 := Nat.lt_of_lt_of_le (nm_lt s n (by omega)) (Nat.le_trans (Nat.pow_le_pow_right (by omega) hn) (by decide))
  clear hg h
  go_enter Try.func40, Try.ntmps40
  go_wp2_with fail
  refine HT.out.mono ?_
  rintro e w' ⟨hr, hc, hg⟩
  obtain rfl : e = .returned (.int .u64 (nm s n)) := hr
  have HC := hide hc; have HG := hide hg
  clear hc hg HT c0
  go_wp2
  go_ret
  exact ⟨rfl, HC.out, HG.out⟩
end Go.Proofs.Ytlfomilalkkbeaa
