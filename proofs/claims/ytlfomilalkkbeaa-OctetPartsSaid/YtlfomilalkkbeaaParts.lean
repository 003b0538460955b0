/- OctetParts: the law's walk. -/
import Derived.Test.YtlfomilalkkbeaaLaw1
namespace Go.Proofs.Ytlfomilalkkbeaa
open Go.RowKit
set_option linter.unusedVariables false

set_option maxHeartbeats 1000000 in
theorem octetParts_walk (w : World) (x : Nat) (hx : (x : Int) < 18446744073709551616) (a : Nat) (ha : a < 256) (b : Nat) (hb : b < 256) :
    Calls Try.prog 4 #[.int .u64 x, .int .u8 a, .int .u8 b] w (Gives w (.bool true)) := by
  have HX := hide hx; clear hx
  go_enter Try.func4, Try.ntmps4
  go_wp2_with (go_at_call 15; refine (awake1 _).mono ?_; rintro e w1 ⟨rfl, hb1⟩)
  obtain ⟨n, hn, hn1, hn4⟩ : ∃ n : Nat, (a : Int) % 4 + 1 = n ∧ 1 ≤ n ∧ n ≤ 4 := ⟨a % 4 + 1, by omega, by omega, by omega⟩
  obtain ⟨m, hm, hm1, hm4⟩ : ∃ m : Nat, (b : Int) % 4 + 1 = m ∧ 1 ≤ m ∧ m ≤ 4 := ⟨b % 4 + 1, by omega, by omega, by omega⟩
  rw [hn, hm]
  clear hn hm
  have e : ((n : Int) + (m : Int)) = ((n + m : Nat) : Int) := by omega
  refine (put_any _ _ _ [(x, (n : Int) + m)] _ (rsl_parts rfl (by simp) (by simpa using HX.out) (cells_new _ _ _)) (by simp)).mono ?_
  rw [puts_one, e, putOne_be _ _ (by omega) (by omega)]
  clear e
  rintro r w2 ⟨v2, rfl, hown2, hb2⟩
  obtain ⟨A2, cap2, rfl, hcap2, _⟩ := own_slice hown2
  have hr2 := rsl_of_own hown2
  have hB2 : Below w.heap.size w w2 := (hb1.alloc hb1.size _).trans (hb2.mono (le_alloc hb1.size))
  have hr2 := rsl_of_own hown2
  have hx2 : (x / 2 ^ (8 * m) : Nat) < 18446744073709551616 := by have := Nat.div_le_self x (2 ^ (8 * m)); have := HX.out; omega
  have HX2 := hide hx2
  clear hown2 hb1 hb2 hx2
  rw [be_length] at *
  go_wp2_with fail
  rw [show ((x : Int) / 2 ^ (8 * m)) = ((x / 2 ^ (8 * m) : Nat) : Int) by rw [Int.natCast_ediv, Int.natCast_pow]; rfl]
  refine (put_any _ _ _ [(x / 2 ^ (8 * m), (n : Int)), (x, (m : Int))] _ (rsl_parts rfl (by simp) (by intro p hp; rcases List.mem_cons.1 hp with rfl | hp; exact Int.ofNat_lt.2 HX2.out; obtain rfl := List.mem_singleton.1 hp; exact HX.out) (cells_new _ _ _)) (by simp)).mono ?_
  rw [puts_two, putOne_be _ _ (by omega) (by omega), putOne_be _ _ (by omega) (by omega), ← be_parts]
  rintro r w3 ⟨v3, rfl, hown3, hb3⟩
  obtain ⟨A3, cap3, rfl, hcap3, _⟩ := own_slice hown3
  have hr3 := rsl_of_own hown3
  rw [be_length] at *
  have hv2 := conv_str (P := Try.prog) w3 24 9 5 A2 (n + m) cap2 _ Try.underlying24 Try.underlying5 Try.underlying9 ((hr2.alloc keeps_u8 _).below keeps_u8 hb3 (Nat.le_refl _))
  have hv3 := conv_str (P := Try.prog) w3 24 9 5 A3 (n + m) cap3 _ Try.underlying24 Try.underlying5 Try.underlying9 hr3
  have hB3 := hide ((hB2.alloc hB2.size _).trans (hb3.mono (le_alloc hB2.size)))
  clear hr2 hr3 hown3 hb3 hB2
  go_wp2
  go_ret
  exact ⟨by simp, hB3.out⟩
end Go.Proofs.Ytlfomilalkkbeaa
