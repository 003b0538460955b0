/- OctetStays: the law's walk. -/
import Derived.Test.YtlfomilalkkbeaaLaw1
namespace Go.Proofs.Ytlfomilalkkbeaa
open Go.RowKit
set_option linter.unusedVariables false

set_option maxHeartbeats 4000000 in
theorem octetStays_walk (w : World) (l : List UInt8) (A : Option Addr) (n cap : Nat) (hr : RSl 1 RU8 w l (.slice A n cap)) (ss : List (Bool × Int)) (A2 : Option Addr) (n2 cap2 : Nat) (hs : RSl 2 RStep w ss (.slice A2 n2 cap2)) :
    Calls Try.prog 8 #[.slice A n cap, .slice A2 n2 cap2] w (Gives w (.bool true)) := by
  have HR := hide hr
  obtain ⟨A', cap', hv, hcap, _⟩ := hr
  injection hv with e1 e2 e3
  subst e1 e2 e3
  obtain ⟨A', cap', hv, hcap2, hsi⟩ := hs
  injection hv with e1 e2 e3
  subst e1 e2 e3
  have HS := hide hsi; clear hsi
  by_cases hbig : 300 < l.length
  · go_enter Try.func8, Try.ntmps8
    go_wp2_with (go_at_call 15; refine (awake1 _).mono ?_; rintro e w1 ⟨rfl, hb1⟩)
    go_ret
    exact ⟨rfl, hb1⟩
  by_cases hbig2 : 60 < ss.length
  · go_enter Try.func8, Try.ntmps8
    go_wp2_with (go_at_call 15; refine (awake1 _).mono ?_; rintro e w1 ⟨rfl, hb1⟩)
    go_ret
    exact ⟨rfl, hb1⟩
  go_enter Try.func8, Try.ntmps8
  go_wp2_with (go_at_call 15; refine (awake1 _).mono ?_; rintro e w1 ⟨rfl, hb1⟩)
  refine (new_any _ _ _ _ l (HR.out.below keeps_u8 hb1 (Nat.le_refl _)) (by omega)).mono ?_
  rintro r w2 ⟨p, rfl, hc2, hb2⟩
  have hB2 := hb1.trans (hb2.mono hb1.size)
  have hc2' : CutAt w2 w.heap.size p l 0 := hc2.base hb1.size
  clear hb1 hb2 hc2
  go_wp2_with fail
  go_loopw [7, 8] (fun ev j wr => ∃ (k : Nat) (l' : List UInt8) (e' : Int), k ≤ ss.length ∧ j = .int .i64 k ∧ ev = .int .i64 e' ∧ (e' = 0 ∨ e' = 1 ∨ e' = 10) ∧ l'.length ≤ 300 ∧ CutAt wr w.heap.size p l' e' ∧ Below w.heap.size w wr) (fun _ j _ => ss.length - (intOf j).toNat)
  case atStart => exact ⟨0, l, 0, Nat.zero_le _, rfl, rfl, .inl rfl, by omega, hc2', hB2⟩
  case round =>
    clear hc2' hB2
    obtain ⟨k, l', e', hk, rfl, rfl, he, hl', hc, hb⟩ := hrel
    have He := hide he; clear he
    by_cases hlt : k < ss.length
    · obtain ⟨b, off, rfl, hi⟩ := HS.out (by rintro rfl; simp at hlt)
      obtain ⟨cs, _, hcc, hR, hz1, hz2⟩ := hi k hlt
      subst hR
      have c1w : w.cell? ⟨b, off + k * 2 + 1, none⟩ = some (.int .i64 ss[k].2) := hcc 1 (by omega)
      have c1 := cell_later hb (show w.cell? ⟨b, off + k * 2 + 1, none⟩ = some (.int .i64 ss[k].2) from hcc 1 (by omega))
      generalize ss[k].2 = z at *
      clear hcc hi
      by_cases he0 : e' = 0
      · subst he0
        go_wp2_with (go_at_call 23; refine hc.left.mono ?_; rintro e w' ⟨rfl, rfl⟩)
        refine (num_any _ _ _ _ _ _ hc (by omega)).mono ?_
        have hE1 := cut_err l' 0 z (mayB z) (.inl rfl)
        have hL1 := cut_left l' 0 z (mayB z)
        generalize cut l' 0 z (mayB z) = x1 at *
        obtain ⟨l1, e1, o1⟩ := x1
        rintro r w3 ⟨rfl, hc3, hg3⟩
        have hb3 := below_row hb hg3 hc.1 hb.size
        have c3 := cell_later hb3 c1w
        simp only at hc3 hE1 hL1
        have HE1 := hide hE1
        clear hE1 c1 hc hb hg3
        go_wp2_with fail
        refine (bytes_any _ _ _ _ _ _ hc3 (by omega)).mono ?_
        have hE2 := cut_err l1 e1 z (decide (0 ≤ z)) HE1.out
        have hL2 := cut_left l1 e1 z (decide (0 ≤ z))
        generalize cut l1 e1 z (decide (0 ≤ z)) = x2 at *
        obtain ⟨l2, e2, o2⟩ := x2
        rintro r w4 ⟨v4, rfl, hc4, ⟨A4, cap4, rfl, _, _⟩, hg4⟩
        have hb4 := below_row hb3 hg4 hc3.1 hb3.size
        simp only at hc4 hE2 hL2
        have HE2 := hide hE2
        clear hE2 c3 hc3 hb3 hg4
        go_wp2_with (go_at_call 24; refine hc4.err.mono ?_; rintro e w' ⟨rfl, rfl⟩)
        go_roundw
        case rel => exact ⟨k + 1, l2, e2, by omega, by go_num, rfl, HE2.out, by omega, hc4, hb4⟩
        case measure => simp [intOf]; omega
      · have hne : (e' != 0) = true := by simpa using he0
        have HB := hide (fun n is => cut_bad l' e' n is he0)
        clear he0
        go_wp2_with (go_at_call 23; refine hc.left.mono ?_; rintro e w' ⟨rfl, rfl⟩)
        refine (num_any _ _ _ _ _ _ hc (by omega)).mono ?_
        rw [HB.out]
        rintro r w3 ⟨rfl, hc3, hg3⟩
        have hb3 := below_row hb hg3 hc.1 hb.size
        have c3 := cell_later hb3 c1w
        simp only at hc3
        clear c1 hc hb hg3
        go_wp2_with fail
        refine (bytes_any _ _ _ _ _ _ hc3 (by omega)).mono ?_
        rw [HB.out]
        rintro r w4 ⟨v4, rfl, hc4, ⟨A4, cap4, rfl, _, _⟩, hg4⟩
        have hb4 := below_row hb3 hg4 hc3.1 hb3.size
        simp only at hc4
        clear c3 hc3 hb3 hg4
        have hv0 : val [] = 0 := rfl
        have hee : (e' != e') = false := by simp
        go_wp2_with (first | (go_at_call 24; refine hc4.err.mono ?_; rintro e w' ⟨rfl, rfl⟩) | (go_at_call 23; refine hc4.left.mono ?_; rintro e w' ⟨rfl, rfl⟩))
        go_roundw
        case rel => exact ⟨k + 1, l', e', by omega, by go_num, rfl, He.out, by omega, hc4, hb4⟩
        case measure => simp [intOf]; omega
    · have hke : k = ss.length := by omega
      have HK := hide hke; clear hke
      rcases He.out with h | h | h
      all_goals
        subst h
        clear He
        go_wp2
        go_ret
        exact ⟨rfl, hb⟩
end Go.Proofs.Ytlfomilalkkbeaa
