/- ExtParses: the law's walk. -/
import Derived.Test.YtkbdbandeioibaaLaw05
import Derived.Test.YtkbdbandeioibaaExtRPar
import Derived.Test.YtkbdbandeioibaaExtSame
import Derived.Test.YtkbdbandeioibaaExtBd
namespace Go.Proofs.Ytkbdbandeioibaa
open Go.RowKit
set_option linter.unusedVariables false

set_option maxRecDepth 100000 in
set_option maxHeartbeats 2000000 in
theorem extParses_walk (w : World) (pr : Nat) (hp : pr < 65536) (l : List UInt8) (A : Option Addr) (n cap : Nat) (hr : RSl 1 RU8 w l (.slice A n cap)) (id : Nat) (hid : id < 256) :
    Calls Try.prog 4 #[.int .u16 pr, .slice A n cap, .int .u8 id] w (Gives w (.bool true)) := by
  have HR := hide hr
  obtain ⟨A', cap', hv, hcap, _⟩ := hr
  injection hv with e1 e2 e3
  subst e1 e2 e3
  have HP := hide hp
  clear hp
  go_enter Try.func4, Try.ntmps4
  go_wp2_with fail
  refine (awake05 _).mono ?_
  rintro r w1 ⟨rfl, hb1⟩
  have hl1 : Le w w1 := ⟨hb1⟩
  clear hb1
  by_cases hbig : 600 < l.length
  · go_wp2_with fail
    go_ret
    exact ⟨rfl, hl1.out⟩
  have hbI : ¬ (600 : Int) < (l.length : Int) := by omega
  have HBD := hide (bd_ext pr l)
  go_wp2_with fail
  refine (extParse_any pr l A l.length cap w1 HP.out (hl1.rsl keeps_u8 HR.out) (by omega)).mono ?_
  have HRF := hide (fun W => rextParse_any pr l W HP.out (by omega))
  generalize extParse pr l = X at *
  obtain ⟨O, E⟩ := X
  have hO : O.length ≤ 14 := HBD.out.1
  have HOD := hide (show ∀ x ∈ O, x.2.length ≤ 600 from fun x hx => Nat.le_trans (HBD.out.2 x hx) (by omega))
  rintro r w2 ⟨A2, cap2, rfl, hr2, hb2⟩
  have hl2 := hl1.trans ⟨hb2⟩
  have HR2 := hide hr2
  have f1 := conv_le (hl2.rsl keeps_u8 HR.out) w2 (Le.refl _)
  clear hb2 hl1 hr2 HBD
  go_wp2_with fail
  refine (HRF.out _).mono ?_
  rintro r w3 ⟨A3, cap3, rfl, hr3, hb3⟩
  have hl23 : Le w2 w3 := ⟨hb3⟩
  have HR3 := hide hr3
  have HL3 := hide (hl2.trans hl23)
  have e0 : (E != E) = false := by simp
  clear hb3 hl2 hr3 f1 HRF
  simp only
  go_wp2_with fail
  refine (plain_any O A2 O.length cap2 w3 (hl23.rsl keeps_item HR2.out) (by omega)).mono ?_
  rintro r w4 ⟨A4, cap4, rfl, hr4, hb4⟩
  have hl34 : Le w3 w4 := ⟨hb4⟩
  clear hb4
  go_wp2_with fail
  have hs := rsame_any O O A4 O.length cap4 A3 O.length cap3 w4 hr4 (hl34.rsl keeps_ri HR3.out) (by omega)
  rw [decide_eq_true (rfl : O = O)] at hs
  refine hs.mono ?_
  rintro r w5 ⟨rfl, hb5⟩
  have hl35 := hl34.trans ⟨hb5⟩
  clear hb5 hl34 hs hr4
  go_wp2_with fail
  refine (extFind_any O id A2 O.length cap2 w5 ((hl23.trans hl35).rsl keeps_item HR2.out) (by omega) (fun x hx => Nat.le_trans (HOD.out x hx) (by omega))).mono ?_
  rintro r w6 ⟨A6, cap6, rfl, hr6, hb6⟩
  have hl36 := hl35.trans ⟨hb6⟩
  have HL6 := hide (HL3.out.trans hl36)
  have HR6 := hide hr6
  have HR36 := hide (hl36.rsl keeps_ri HR3.out)
  clear hb6 hl35 hl36 hr6 hl23 HR3 HR2 e0
  obtain ⟨D, hD⟩ : ∃ D, findD id O = D := ⟨_, rfl⟩
  rw [hD] at HR6 ⊢
  have HD := hide hD
  clear hD
  go_wp2_with fail
  go_loopw [14] (fun j wr => ∃ k : Nat, k ≤ O.length ∧ j = .int .i64 k ∧ Hd (∀ i (h : i < O.length), i < k → O[i].1.toNat ≠ id) ∧ Le w6 wr) (fun j _ => O.length - (intOf j).toNat)
  case atStart => exact ⟨0, Nat.zero_le _, rfl, hide (fun i _ h => by omega), Le.refl _⟩
  case round =>
    obtain ⟨k, hk, rfl, HN, hle⟩ := hrel
    by_cases hlt : k < O.length
    · obtain ⟨A', c', hv, _, hi3⟩ := HR36.out
      injection hv with e1 e2 e3
      subst e1 e3
      obtain ⟨b, off, rfl, hg⟩ := hi3 (by rintro rfl; simp at hlt)
      obtain ⟨cs, _, hc, hR⟩ := hg k hlt
      rw [show cs = encR O[k] from hR] at hc
      have c0 := hle.cell (show w6.cell? ⟨b, off + k * 2, none⟩ = some (.int .u8 (O[k].1.toNat : Nat)) from hc 0 (by omega))
      have c1 := hle.cell (show w6.cell? ⟨b, off + k * 2 + 1, none⟩ = some (.string (str O[k].2)) from hc 1 (by omega))
      have HX := hide (fun (h : O[k].1.toNat ≠ id) => (hide (show ∀ i (h : i < O.length), i < k + 1 → O[i].1.toNat ≠ id from fun i hi h' => by
        by_cases e : i = k
        · subst e; exact h
        · exact HN.out i hi (by omega))))
      have HY := hide (fun (h : O[k].1.toNat = id) => show D = some O[k].2 by rw [← HD.out]; exact find_some hlt h HN.out)
      generalize O[k] = x at *
      obtain ⟨xi, xd⟩ := x
      simp only at c0 c1 HX HY
      clear hc hg hR hi3
      have hltI : (k : Int) < (O.length : Int) := by omega
      have h0I : (0 : Int) ≤ (k : Int) := by omega
      by_cases he : xi.toNat = id
      · have hD := HY.out he
        subst hD
        have heI : ((xi.toNat : Int) == (id : Int)) = true := by rw [beq_iff_eq]; omega
        have HR6' := hide (hle.rsl keeps_u8 (show RSl 1 RU8 w6 xd (.slice A6 xd.length cap6) from HR6.out))
        have f2 := fun nq => conv_le HR6'.out _ ((Le.refl wr).drewN nq)
        have g2 : (xd == xd) = true := by simp
        have hs : ((some xd).getD ([] : List UInt8)).length = xd.length := rfl
        clear he
        rw [hs]
        go_wp2_with fail
        go_quiet (fail)
        go_wp2_with fail
        go_ret
        exact ⟨rfl, ((HL6.out.trans hle).drewN _).out⟩
      · have heI : ((xi.toNat : Int) == (id : Int)) = false := by rw [beq_eq_false_iff_ne]; omega
        have HE := HX.out he
        clear he
        go_wp2_with fail
        go_roundw
        case rel => exact ⟨k + 1, by omega, by go_num, HE, hle⟩
        case measure => simp [intOf]; omega
    · have hltI : ¬ (k : Int) < (O.length : Int) := by omega
      obtain rfl : D = none := by rw [← HD.out]; exact find_none (fun i h => HN.out i h (by omega))
      have hs : ((none : Option (List UInt8)).getD []).length = 0 := rfl
      rw [hs]
      go_wp2_with fail
      go_ret
      exact ⟨rfl, (HL6.out.trans hle).out⟩
end Go.Proofs.Ytkbdbandeioibaa
