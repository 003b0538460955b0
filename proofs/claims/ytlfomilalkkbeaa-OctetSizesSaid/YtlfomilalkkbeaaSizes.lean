/- OctetSizes: the law's walk. -/
import Derived.Test.YtlfomilalkkbeaaLaw1
namespace Go.Proofs.Ytlfomilalkkbeaa
open Go.RowKit
set_option linter.unusedVariables false

set_option maxHeartbeats 2000000 in
theorem sizes_core (w : World) (z : Int) (hz1 : -9223372036854775808 ≤ z) (hz2 : z ≤ 9223372036854775807) (l : List UInt8) (A : Option Addr) (cap : Nat) (hr : RSl 1 RU8 w l (.slice A l.length cap)) (hbig : l.length ≤ 300)
    (pl l' o : List UInt8) (e' : Int) (hcut : cut l 0 z (mayB z) = (l', e', o)) (hput : puts [(7, z), (9, 1)] = pl)
    (hfin : ((z < 1 ∨ 1 ≤ z ∧ 8 < z) ∧ pl = [9] ∧ val o = 0 ∧ e' = 1 ∧ l' = l) ∨ (1 ≤ z ∧ z ≤ 8 ∧ (pl.length : Int) = z + 1 ∧ (e' = 0 ∧ z ≤ l.length ∨ e' = 10 ∧ l.length < z))) :
    Calls Try.prog 9 #[.int .i64 z, .slice A l.length cap] w (Gives w (.bool true)) := by
  have HR := hide hr; have HC := hide hcut; have HP := hide hput; have HF := hide hfin
  clear hr hcut hput hfin
  go_enter Try.func9, Try.ntmps9
  go_wp2_with (go_at_call 15; refine (awake1 _).mono ?_; rintro e w1 ⟨rfl, hb1⟩)
  refine (put_any _ _ _ [(7, z), (9, 1)] _ (rsl_parts rfl (by simp) (by simp) (cells_new _ _ _)) (by simp)).mono ?_
  rw [HP.out]
  rintro r w2 ⟨v2, rfl, hown2, hb2⟩
  have hr2 := rsl_of_own hown2
  obtain ⟨A2, cap2, rfl, hcap2, _⟩ := own_slice hown2
  have hB2 : Below w.heap.size w w2 := (hb1.alloc hb1.size _).trans (hb2.mono (le_alloc hb1.size))
  clear hown2 hb1 hb2
  go_wp2_with fail
  refine (new_any _ _ _ _ l (HR.out.below keeps_u8 hB2 (Nat.le_refl _)) (by omega)).mono ?_
  rintro r w3 ⟨p, rfl, hc3, hb3⟩
  have hB3 := hB2.trans (hb3.mono hB2.size)
  have hs3 := hB3.size
  go_wp2_with fail
  refine (num_any _ _ _ _ _ _ hc3 (by omega)).mono ?_
  rw [HC.out]
  rintro r w4 ⟨rfl, hc4, hg4⟩
  have hr4 := hr2.keep keeps_u8 (below_row hb3 hg4 hc3.1 hb3.size)
  have hB4 := hide (below_row hB3 hg4 (Nat.le_trans hB2.size hc3.1) hs3)
  have hcv := conv_str (P := Try.prog) w4 24 9 5 A2 pl.length cap2 pl Try.underlying24 Try.underlying5 Try.underlying9 hr4
  simp only at hc4
  clear hr4 hr2 hB3 hs3 hc3 hb3 hB2 HC HP hg4
  rcases HF.out with ⟨hz, hpl, hv, rfl, rfl⟩ | ⟨h1, h8, hpl, ⟨rfl, hle⟩ | ⟨rfl, hlt⟩⟩
  · clear HF
    have hpe : (pl == [9]) = true := by rw [hpl]; rfl
    clear hpl
    have hd : 1 ≤ z → decide (z ≤ 8) = false := by intro h; simp; omega
    rcases hz with hz | ⟨hz, hz8⟩ <;>
    · first | (have hd8 := hd hz; clear hd hz8) | clear hd
      go_wp2_with (first | (go_at_call 24; refine hc4.err.mono ?_; rintro e w' ⟨rfl, rfl⟩) | (go_at_call 23; refine hc4.left.mono ?_; rintro e w' ⟨rfl, rfl⟩))
      go_ret
      exact ⟨by first | (simp; done) | (simp; omega), hB4.out⟩
  · clear HF
    go_wp2_with (go_at_call 24; refine hc4.err.mono ?_; rintro e w' ⟨rfl, rfl⟩)
    go_ret
    exact ⟨by first | (simp; done) | (simp; omega), hB4.out⟩
  · clear HF
    go_wp2_with (go_at_call 24; refine hc4.err.mono ?_; rintro e w' ⟨rfl, rfl⟩)
    go_ret
    exact ⟨by first | (simp; done) | (simp; omega), hB4.out⟩

theorem octetSizes_walk (w : World) (z : Int) (hz1 : -9223372036854775808 ≤ z) (hz2 : z ≤ 9223372036854775807) (l : List UInt8) (A : Option Addr) (n cap : Nat) (hr : RSl 1 RU8 w l (.slice A n cap)) :
    Calls Try.prog 9 #[.int .i64 z, .slice A n cap] w (Gives w (.bool true)) := by
  have hr' := hr
  obtain ⟨A', cap', hv, hcap, _⟩ := hr
  injection hv with e1 e2 e3
  subst e1 e2 e3
  by_cases hbig : 300 < l.length
  · clear hr'
    go_enter Try.func9, Try.ntmps9
    go_wp2_with (go_at_call 15; refine (awake1 _).mono ?_; rintro e w1 ⟨rfl, hb1⟩)
    go_ret
    exact ⟨rfl, hb1⟩
  · have hput : puts [(7, z), (9, 1)] = (if mayB z then be 7 z.toNat else []) ++ [9] := by
      rw [puts_two, show putOne (9, 1) = [9] by decide]; rfl
    by_cases hm : mayB z = true
    · obtain ⟨h1, h8⟩ : 1 ≤ z ∧ z ≤ 8 := by simpa [mayB] using hm
      rw [hm] at hput
      by_cases hlt : (l.length : Int) < z
      · exact sizes_core w z hz1 hz2 l A cap hr' (by omega) _ l [] 10 (by simp [cut, hm, hlt]) hput (.inr ⟨h1, h8, by simp [be_length]; omega, .inr ⟨rfl, hlt⟩⟩)
      · exact sizes_core w z hz1 hz2 l A cap hr' (by omega) _ _ _ 0 (by simp [cut, hm, hlt]; exact ⟨rfl, rfl⟩) hput (.inr ⟨h1, h8, by simp [be_length]; omega, .inl ⟨rfl, by omega⟩⟩)
    · have hm0 : mayB z = false := by simpa using hm
      rw [hm0] at hput
      exact sizes_core w z hz1 hz2 l A cap hr' (by omega) [9] l [] 1 (by simp [cut, hm0]) (by simpa using hput) (.inl ⟨by simp [mayB] at hm0; omega, rfl, rfl, rfl, rfl⟩)
end Go.Proofs.Ytlfomilalkkbeaa
