/- ExtOthers: the law's walk. -/
import Derived.Test.YtkbdbandeioibaaLaw05
import Derived.Test.YtkbdbandeioibaaMake
namespace Go.Proofs.Ytkbdbandeioibaa
open Go.RowKit
set_option linter.unusedVariables false

theorem parse_zeros (s : Bool) : ∀ (f n : Nat), parseF s f [] (List.replicate n 0) = ([], 0)
  | 0, _ => rfl
  | f + 1, 0 => rfl
  | f + 1, n + 1 => by
    rw [List.replicate_succ, parseF_zero (by rfl)]
    exact parse_zeros s f n
theorem ext_zeros (p n : Nat) : extParse p (List.replicate n 0) = ([], 0) := by
  unfold extParse
  split
  · rfl
  · exact parse_zeros _ _ _
theorem ext_unknown (p : Nat) (l : List UInt8) (h : profK p = 0) : extParse p l = ([], 0) := if_pos h

set_option maxRecDepth 100000 in
set_option maxHeartbeats 2000000 in
theorem extOthers_walk (w : World) (pr : Nat) (hp : pr < 65536) (l : List UInt8) (A : Option Addr) (n cap : Nat) (hr : RSl 1 RU8 w l (.slice A n cap)) (m : Nat) (hm : m < 256) :
    Calls Try.prog 8 #[.int .u16 pr, .slice A n cap, .int .u8 m] w (Gives w (.bool true)) := by
  have HR := hide hr
  obtain ⟨A', cap', hv, hcap, _⟩ := hr
  injection hv with e1 e2 e3
  subst e1 e2 e3
  have HP := hide hp
  clear hp
  go_enter Try.func8, Try.ntmps8
  go_wp2_with fail
  refine (awake05 _).mono ?_
  rintro r w1 ⟨rfl, hb1⟩
  have hl1 : Le w w1 := ⟨hb1⟩
  clear hb1
  by_cases hbig : 300 < l.length
  · go_wp2_with fail
    go_ret
    exact ⟨rfl, hl1.out⟩
  have hbI : ¬ (300 : Int) < (l.length : Int) := by omega
  have hk : profK pr = 0 ∨ 4096 ≤ pr ∧ pr ≤ 4111 ∨ pr = 48862 := by
    unfold profK
    by_cases h : 4096 ≤ pr ∧ pr < 4112
    · exact .inr (.inl (by omega))
    · by_cases h2 : pr = 48862
      · exact .inr (.inr h2)
      · exact .inl (by rw [if_neg h, if_neg h2])
  have HU := hide (fun h => ext_unknown pr l h)
  go_wp2_with fail
  refine (extParse_any pr l A l.length cap w1 HP.out (hl1.rsl keeps_u8 HR.out) (by omega)).mono ?_
  generalize extParse pr l = X at *
  obtain ⟨O, E⟩ := X
  rintro r w2 ⟨A2, cap2, rfl, _, hb2⟩
  have hl2 := hl1.trans ⟨hb2⟩
  clear hb2 hl1
  have hkn : (profK pr = 0 ∧ ((((pr : Int) == 48862) = false) ∧ (pr < 4096 ∨ 4111 < pr))) ∨ (4096 ≤ pr ∧ pr ≤ 4111 ∧ ((pr : Int) == 48862) = false) ∨ pr = 48862 := by
    rcases hk with h | h | h
    · left
      refine ⟨h, ?_, ?_⟩
      · rw [beq_eq_false_iff_ne]; intro e
        unfold profK at h
        rw [if_neg (by omega), if_pos (by omega)] at h
        omega
      · unfold profK at h
        by_cases h3 : 4096 ≤ pr ∧ pr < 4112
        · rw [if_pos h3] at h; omega
        · omega
    · right; left
      exact ⟨h.1, h.2, by rw [beq_eq_false_iff_ne]; omega⟩
    · exact .inr (.inr h)
  have hwm : IntKind.i64.wrap (m : Int) = m := IntWalk.i64_in _ (by omega)
  have HZ := hide (ext_zeros pr m)
  have HM := hide hm
  clear hk hm
  rcases hkn with ⟨h0, hn, h1 | h1⟩ | ⟨h1, h2, hn⟩ | rfl
  · obtain ⟨rfl, rfl⟩ : O = [] ∧ E = 0 := by have := HU.out h0; simpa using this
    have hI1 : ¬ (4096 : Int) ≤ (pr : Int) := by omega
    have hI2 : (pr : Int) ≤ 4111 := by omega
    clear h0 h1 HU
    have hmb := HM.out
    go_wp2_with (refine wpl_make rfl sl8 (.tmp 38) (.tmp 38) rfl rfl rfl (by omega) (by omega) ?_; intro w3 ho3 hl3; rw [made_u8] at ho3; have HR3 := hide (rsl_of_own ho3); have HL3 := hide (hl2.trans hl3); clear ho3 hl3)
    have hp3 := extParse_any pr (List.replicate m 0) _ m m w3 HP.out HR3.out (by simp; omega)
    rw [HZ.out] at hp3
    refine hp3.mono ?_
    clear hp3
    rintro r w4 ⟨A4, cap4, rfl, _, hb4⟩
    have hl4 := HL3.out.trans ⟨hb4⟩
    have hz : (([] : List It).length) = 0 := rfl
    clear hb4 hl2
    rw [hz]
    go_wp2_with fail
    go_ret
    exact ⟨rfl, hl4.out⟩
  · obtain ⟨rfl, rfl⟩ : O = [] ∧ E = 0 := by have := HU.out h0; simpa using this
    have hI1 : (4096 : Int) ≤ (pr : Int) := by omega
    have hI2 : ¬ (pr : Int) ≤ 4111 := by omega
    clear h0 h1 HU
    have hmb := HM.out
    go_wp2_with (refine wpl_make rfl sl8 (.tmp 38) (.tmp 38) rfl rfl rfl (by omega) (by omega) ?_; intro w3 ho3 hl3; rw [made_u8] at ho3; have HR3 := hide (rsl_of_own ho3); have HL3 := hide (hl2.trans hl3); clear ho3 hl3)
    have hp3 := extParse_any pr (List.replicate m 0) _ m m w3 HP.out HR3.out (by simp; omega)
    rw [HZ.out] at hp3
    refine hp3.mono ?_
    clear hp3
    rintro r w4 ⟨A4, cap4, rfl, _, hb4⟩
    have hl4 := HL3.out.trans ⟨hb4⟩
    have hz : (([] : List It).length) = 0 := rfl
    clear hb4 hl2
    rw [hz]
    go_wp2_with fail
    go_ret
    exact ⟨rfl, hl4.out⟩
  · have hI1 : (4096 : Int) ≤ (pr : Int) := by omega
    have hI2 : (pr : Int) ≤ 4111 := by omega
    clear h1 h2 HU
    have hmb := HM.out
    go_wp2_with (refine wpl_make rfl sl8 (.tmp 38) (.tmp 38) rfl rfl rfl (by omega) (by omega) ?_; intro w3 ho3 hl3; rw [made_u8] at ho3; have HR3 := hide (rsl_of_own ho3); have HL3 := hide (hl2.trans hl3); clear ho3 hl3)
    have hp3 := extParse_any pr (List.replicate m 0) _ m m w3 HP.out HR3.out (by simp; omega)
    rw [HZ.out] at hp3
    refine hp3.mono ?_
    clear hp3
    rintro r w4 ⟨A4, cap4, rfl, _, hb4⟩
    have hl4 := HL3.out.trans ⟨hb4⟩
    have hz : (([] : List It).length) = 0 := rfl
    clear hb4 hl2
    rw [hz]
    go_wp2_with fail
    go_ret
    exact ⟨rfl, hl4.out⟩
  · clear HU
    have hmb := HM.out
    go_wp2_with (refine wpl_make rfl sl8 (.tmp 38) (.tmp 38) rfl rfl rfl (by omega) (by omega) ?_; intro w3 ho3 hl3; rw [made_u8] at ho3; have HR3 := hide (rsl_of_own ho3); have HL3 := hide (hl2.trans hl3); clear ho3 hl3)
    have hp3 := extParse_any 48862 (List.replicate m 0) _ m m w3 (by omega) HR3.out (by simp; omega)
    rw [HZ.out] at hp3
    refine hp3.mono ?_
    clear hp3
    rintro r w4 ⟨A4, cap4, rfl, _, hb4⟩
    have hl4 := HL3.out.trans ⟨hb4⟩
    have hz : (([] : List It).length) = 0 := rfl
    clear hb4 hl2
    rw [hz]
    go_wp2_with fail
    go_ret
    exact ⟨rfl, hl4.out⟩
end Go.Proofs.Ytkbdbandeioibaa
