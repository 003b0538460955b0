/- louverref05.Same, louverref05.Put. -/
import Derived.Test.YtkbdbandeioibaaExt2
namespace Go.Proofs.Ytkbdbandeioibaa
open Go.RowKit
set_option linter.unusedVariables false

set_option maxHeartbeats 2000000 in
theorem rsame_any (a b : List It) (A : Option Addr) (n cap : Nat) (B : Option Addr) (m bap : Nat) (w : World) (ha : RSl 2 RI w a (.slice A n cap)) (hb : RSl 2 RI w b (.slice B m bap)) (hl : a.length ≤ 100000) :
    Calls Try.prog 23 #[.slice A n cap, .slice B m bap] w (Gives w (.bool (decide (a = b)))) := by
  obtain ⟨A', cap', hv, hcap, hia⟩ := ha
  injection hv with e1 e2 e3
  subst e1 e2 e3
  obtain ⟨A', cap', hv, hbap, hib⟩ := hb
  injection hv with e1 e2 e3
  subst e1 e2 e3
  have HIA := hide hia; have HIB := hide hib
  clear hia hib
  by_cases hab : a.length = b.length
  · have hd : (((a.length : Nat) : Int) != (b.length : Int)) = false := by rw [hab]; simp
    have hl1 : a.length ≤ b.length := by omega
    have HAB := hide hab
    clear hab
    go_enter Try.func23, Try.ntmps23
    go_wp2_with fail
    go_loopw [5] (fun j wr => ∃ k : Nat, k ≤ a.length ∧ j = .int .i64 k ∧ Hd (a.take k = b.take k) ∧ Le w wr) (fun j _ => a.length - (intOf j).toNat)
    case atStart => exact ⟨0, Nat.zero_le _, rfl, hide rfl, Le.refl _⟩
    case round =>
      obtain ⟨k, hk, rfl, HT, hle⟩ := hrel
      by_cases hlt : k < a.length
      · obtain ⟨b1, off1, rfl, hi1⟩ := HIA.out (by rintro rfl; simp at hlt)
        obtain ⟨cs1, _, hc1, hR1⟩ := hi1 k hlt
        rw [show cs1 = encR a[k] from hR1] at hc1
        have hlt2 : k < b.length := by omega
        obtain ⟨b2, off2, rfl, hi2⟩ := HIB.out (by rintro rfl; simp at hlt2)
        obtain ⟨cs2, _, hc2, hR2⟩ := hi2 k hlt2
        rw [show cs2 = encR b[k] from hR2] at hc2
        have c1 := hle.cell (show w.cell? ⟨b1, off1 + k * 2, none⟩ = some (.int .u8 (a[k].1.toNat : Nat)) from hc1 0 (by omega))
        have c2 := hle.cell (show w.cell? ⟨b1, off1 + k * 2 + 1, none⟩ = some (.string (str a[k].2)) from hc1 1 (by omega))
        have c3 := hle.cell (show w.cell? ⟨b2, off2 + k * 2, none⟩ = some (.int .u8 (b[k].1.toNat : Nat)) from hc2 0 (by omega))
        have c4 := hle.cell (show w.cell? ⟨b2, off2 + k * 2 + 1, none⟩ = some (.string (str b[k].2)) from hc2 1 (by omega))
        have HT1 := hide (fun (h : a[k] = b[k]) => show a.take (k + 1) = b.take (k + 1) by rw [List.take_succ_eq_append_getElem hlt, List.take_succ_eq_append_getElem hlt2, HT.out, h])
        have HN := hide (fun (h : a[k] ≠ b[k]) => show decide (a = b) = false from decide_eq_false (fun e => h (by simp only [e])))
        generalize a[k] = x1 at *
        generalize b[k] = x2 at *
        obtain ⟨i1, d1⟩ := x1
        obtain ⟨i2, d2⟩ := x2
        simp only at c1 c2 c3 c4
        have h0k : (0 : Int) ≤ (k : Int) := by omega
        have h1k : (k : Int) < (a.length : Int) := by omega
        have h2k : (k : Int) < (b.length : Int) := by omega
        clear hc1 hc2 hi1 hi2 hR1 hR2
        by_cases hx : i1 = i2 ∧ d1 = d2
        · obtain ⟨rfl, rfl⟩ := hx
          have HE := hide (HT1.out rfl)
          have e1 : (((i1.toNat : Nat) : Int) == (i1.toNat : Int)) = true := by simp
          have e2 : (d1 == d1) = true := by simp
          go_wp2_with fail
          go_quiet (fail)
          go_wp2_with fail
          go_roundw
          case rel => exact ⟨k + 1, by omega, by go_num, HE, hle.drewN _⟩
          case measure => simp [intOf]; omega
        · have HE := hide (HN.out (by simpa using hx))
          by_cases hi12 : i1 = i2
          · subst hi12
            have e1 : (((i1.toNat : Nat) : Int) == (i1.toNat : Int)) = true := by simp
            have e2 : (d1 == d2) = false := by rw [beq_eq_false_iff_ne]; exact fun e => hx ⟨rfl, e⟩
            clear hx
            go_wp2_with fail
            go_quiet (fail)
            go_wp2_with fail
            go_ret
            exact ⟨by rw [HE.out]; rfl, (hle.drewN _).out⟩
          · have e1 : (((i1.toNat : Nat) : Int) == (i2.toNat : Int)) = false := by rw [beq_eq_false_iff_ne]; exact fun e => hi12 (UInt8.toNat_inj.1 (by omega))
            clear hx hi12
            go_wp2_with fail
            go_quiet (fail)
            go_wp2_with fail
            go_ret
            exact ⟨by rw [HE.out]; rfl, (hle.drewN _).out⟩
      · have hltI : ¬ (k : Int) < (a.length : Int) := by omega
        have HE := hide (show decide (a = b) = true from decide_eq_true (by
          have := HT.out
          rw [List.take_of_length_le (by omega), List.take_of_length_le (by have := HAB.out; omega)] at this
          exact this))
        go_wp2_with fail
        go_ret
        exact ⟨by rw [HE.out]; rfl, hle.out⟩
  · have hd : (((a.length : Nat) : Int) != (b.length : Int)) = true := by rw [bne_iff_ne]; omega
    have HE := hide (show decide (a = b) = false from decide_eq_false (by rintro rfl; exact hab rfl))
    clear hab
    go_enter Try.func23, Try.ntmps23
    go_wp2_with fail
    go_ret
    exact ⟨by rw [HE.out]; rfl, Below.refl _ _⟩
end Go.Proofs.Ytkbdbandeioibaa
