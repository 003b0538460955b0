/- ExtPuts: the law's walk. -/
import Derived.Test.YtkbdbandeioibaaLaw05
import Derived.Test.YtkbdbandeioibaaExtRPut
namespace Go.Proofs.Ytkbdbandeioibaa
open Go.RowKit
set_option linter.unusedVariables false

set_option maxRecDepth 100000 in
set_option maxHeartbeats 2000000 in
theorem extPuts_walk (w : World) (l : List It) (A : Option Addr) (n cap : Nat) (hr : RSl 2 RItem w l (.slice A n cap)) (hl : l.length ≤ 9223372036854775807) :
    Calls Try.prog 3 #[.slice A n cap] w (Gives w (.bool true)) := by
  have HR := hide hr
  obtain ⟨A', cap', hv, hcap, _⟩ := hr
  injection hv with e1 e2 e3
  subst e1 e2 e3
  have HLN := hide hl
  clear hl
  go_enter Try.func3, Try.ntmps3
  go_wp2_with fail
  refine (awake05 _).mono ?_
  rintro r w1 ⟨rfl, hb1⟩
  have hl1 : Le w w1 := ⟨hb1⟩
  clear hb1
  go_wp2_with fail
  have hf := few_any l A l.length cap w1 (hl1.rsl keeps_item HR.out) HLN.out
  cases hfw : fewB l
  · rw [hfw] at hf
    refine hf.mono ?_
    rintro r w2 ⟨rfl, hb2⟩
    have hl2 := hl1.trans ⟨hb2⟩
    clear hb2 hf
    go_wp2_with fail
    go_ret
    exact ⟨rfl, hl2.out⟩
  rw [hfw] at hf
  refine hf.mono ?_
  rintro r w2 ⟨rfl, hb2⟩
  have hl2 := hl1.trans ⟨hb2⟩
  have HF := hide (few_parts hfw)
  have hll : l.length ≤ 20 := HF.out.2
  clear hb2 hf hfw hl1
  go_wp2_with fail
  refine (extPut_any l A l.length cap w2 (hl2.rsl keeps_item HR.out) (by omega)).mono ?_
  rintro r w3 ⟨v3, rfl, ho3, hb3⟩
  obtain ⟨A3, cap3, rfl, _, _⟩ := own_slice ho3
  have HR3 := hide (rsl_of_own ho3)
  have hl3 := hl2.trans ⟨hb3⟩
  clear ho3 hb3 hl2
  go_wp2_with fail
  refine (plain_any l A l.length cap w3 (hl3.rsl keeps_item HR.out) (by omega)).mono ?_
  rintro r w4 ⟨A4, cap4, rfl, hr4, hb4⟩
  have hl34 : Le w3 w4 := ⟨hb4⟩
  clear hb4
  go_wp2_with fail
  refine (rextPut_any l A4 l.length cap4 w4 hr4 (by omega)).mono ?_
  rintro r w5 ⟨rfl, hb5⟩
  have hl35 := hl34.trans ⟨hb5⟩
  have f1 := conv_le HR3.out w5 hl35
  have HL := hide (hl3.trans hl35)
  have g1 : ((extProf l : Nat) : Int) == (extProf l : Int) := by simp
  have g2 : (extB l == extB l) = true := by simp
  have g3 : (extErr l == extErr l) = true := by simp
  clear hr4 hb5 hl34 hl35 hl3
  go_wp2_with fail
  go_ret
  exact ⟨rfl, HL.out.out⟩
end Go.Proofs.Ytkbdbandeioibaa
