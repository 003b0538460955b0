/- Vp8Writes: the law's walk. -/
import Derived.Test.YtkbdbandeioibaaVp8RW
namespace Go.Proofs.Ytkbdbandeioibaa
open Go.RowKit
set_option linter.unusedVariables false

set_option maxRecDepth 100000 in
set_option maxHeartbeats 4000000 in
theorem vp8Writes_walk (w : World) (l : List UInt8) (A : Option Addr) (n cap : Nat) (hr : RSl 1 RU8 w l (.slice A n cap)) (pic : Nat) (hpic : pic < 65536) (tl0 : Nat) (ht0 : tl0 < 256) :
    Calls Try.prog 10 #[.slice A n cap, .int .u16 pic, .int .u8 tl0] w (Gives w (.bool true)) := by
  have HR := hide hr
  obtain ⟨A', cap', hv, hcap, _⟩ := hr
  injection hv with e1 e2 e3
  subst e1 e2 e3
  go_enter Try.func10, Try.ntmps10
  go_wp2_with fail
  refine (awake07 _).mono ?_
  rintro r w1 ⟨rfl, hb1⟩
  have hl1 : Le w w1 := ⟨hb1⟩
  clear hb1
  by_cases hbig : 300 < l.length
  · go_wp2_with fail
    go_ret
    exact ⟨rfl, hl1.out⟩
  have hnb : ¬ (300 : Int) < (l.length : Int) := by omega
  have f1 := conv_le (hl1.rsl keeps_u8 HR.out) _ (Le.refl _)
  have HW := hide (fun W (h : Le w W) => write_any A cap l pic tl0 W (h.rsl keeps_u8 HR.out) (by omega) hpic ht0)
  have HX := hide (fun W => rwrite_any l pic tl0 W (by omega) hpic ht0)
  have hwp : IntKind.i64.wrap (pic : Int) = pic := IntWalk.i64_in _ (by omega)
  have hwt : IntKind.i64.wrap (tl0 : Int) = tl0 := IntWalk.i64_in _ (by omega)
  generalize vpWr l pic tl0 = C at *
  generalize vpE l = E at *
  go_wp2_with fail
  refine (HW.out w1 hl1).mono ?_
  rintro r w2 ⟨v2, rfl, ho2, hb2⟩
  obtain ⟨A2, cap2, rfl, _, _⟩ := own_slice ho2
  have HR2 := hide (rsl_of_own ho2)
  have hl2 := hl1.trans (Le.mk hb2)
  clear ho2 hb2 f1 HW
  go_wp2_with fail
  refine (HX.out w2).mono ?_
  rintro r w3 ⟨rfl, hb3⟩
  have hl23 := Le.mk hb3
  have f1 := conv_le (hl23.rsl keeps_u8 HR2.out) _ (Le.refl w3)
  have f2 := conv_le ((hl2.trans hl23).rsl keeps_u8 HR.out) _ (Le.refl w3)
  have HLF := hide (hl2.trans hl23)
  have g1 : (C == C) = true := by simp
  have g2 : (l == l) = true := by simp
  have g3 : (E == E) = true := by simp
  clear hb3 hl2 hl23 HX hl1
  go_wp2_with fail
  go_ret
  exact ⟨rfl, HLF.out.out⟩
end Go.Proofs.Ytkbdbandeioibaa
