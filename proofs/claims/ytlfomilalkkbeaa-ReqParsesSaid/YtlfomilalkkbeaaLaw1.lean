/- Layer 1: the document's example. -/
import Derived.Test.YtlfomilalkkbeaaRef1
namespace Go.Proofs.Ytlfomilalkkbeaa
open Go.RowKit
set_option linter.unusedVariables false

def encPart (p : Nat × Int) : List Value := [.int .u64 p.1, .int .i64 p.2]
theorem rsl_parts {w : World} {l : List (Nat × Int)} {A : Option Addr} {n cap : Nat} (hn : n = l.length) (hcap : n ≤ cap) (hx : ∀ p ∈ l, (p.1 : Int) < 18446744073709551616) (hc : Cells w A (l.flatMap encPart)) : RSl 2 RPart w l (.slice A n cap) :=
  rsl_of_cells hn hcap (fun _ _ => rfl) (fun x h => ⟨rfl, hx x h⟩) (by omega) hc

def RStep : Rd (Bool × Int) := fun _ p cs => cs = [.bool p.1, .int .i64 p.2] ∧ -9223372036854775808 ≤ p.2 ∧ p.2 ≤ 9223372036854775807
theorem keeps_step : Keeps RStep := fun _ _ _ _ h _ => h

set_option maxHeartbeats 1000000 in
theorem awake1 (w : World) : Calls Try.prog 15 #[] w (Gives w (.bool true)) := by
  have hp : puts [(258, 2), (5, 1)] = [1, 2, 5] := by decide
  have H1 := hide hp; clear hp
  go_enter Try.func15, Try.ntmps15
  go_wp2_with fail
  refine (put_any _ _ _ [(258, 2), (5, 1)] _ (rsl_parts rfl (by simp) (by simp) (cells_new _ _ _)) (by simp)).mono ?_
  rintro r w1 ⟨v1, rfl, hown, hb⟩
  rw [H1.out] at hown
  have hr1 := rsl_of_own hown
  obtain ⟨A, cap, rfl, hcap, _⟩ := own_slice hown
  go_wp2_with fail
  refine (new_any _ _ _ _ _ hr1 (by simp)).mono ?_
  rintro r w2 ⟨p, rfl, hc2, hb2⟩
  go_wp2_with fail
  refine (num_any _ _ _ _ _ _ hc2 (by simp)).mono ?_
  rw [show cut [1, 2, 5] 0 2 (mayB 2) = ([5], 0, [1, 2]) by decide]
  rintro r w3 ⟨rfl, hc3, hg3⟩
  go_wp2_with fail
  refine (bytes_any _ _ _ _ _ _ hc3 (by simp)).mono ?_
  rw [show cut [5] 0 1 (decide ((0 : Int) ≤ 1)) = ([], 0, [5]) by decide]
  rintro r w4 ⟨v4, rfl, hc4, hr4, hg4⟩
  go_wp2_with fail
  refine (num_any _ _ _ _ _ _ hc4 (by simp)).mono ?_
  rw [show cut [] 0 1 (mayB 1) = ([], 10, []) by decide]
  rintro r w5 ⟨rfl, hc5, hg5⟩
  have hb5 := below_row (below_row (below_row hb2 hg3 hc2.1 hb2.size) hg4 hc3.1 (Nat.le_trans hb2.size hg3.size)) hg5 hc4.1 (Nat.le_trans hb2.size (Nat.le_trans hg3.size hg4.size))
  have hcv := conv_str (P := Try.prog) w5 24 9 5 A 3 cap [1, 2, 5] Try.underlying24 Try.underlying5 Try.underlying9 (hr1.below keeps_u8 hb5 (Nat.le_refl _))
  have hv : val [1, 2] = 258 := by decide
  have hv0 : val [] = 0 := by decide
  have HBB := hide (((Below.refl w.heap.size w).alloc (Nat.le_refl _) _).trans ((hb.trans (hb5.mono hb.size)).mono (le_alloc (Nat.le_refl _))))
  obtain ⟨A4, cap4, rfl, _, _⟩ := hr4
  clear hb hb2 hb5 hg3 hg4 hg5 hc2 hc3 hc4 hown hr1 hcap
  go_wp2_with (go_at_call 24; refine hc5.err.mono ?_; rintro e w' ⟨rfl, rfl⟩)
  go_ret
  exact ⟨rfl, HBB.out⟩
end Go.Proofs.Ytlfomilalkkbeaa
