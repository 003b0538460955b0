/- ExtCuts: the law's walk. -/
import Derived.Test.YtkbdbandeioibaaLaw05
import Derived.Test.YtkbdbandeioibaaExtCutL
import Derived.Test.YtkbdbandeioibaaMake
namespace Go.Proofs.Ytkbdbandeioibaa
open Go.RowKit
set_option linter.unusedVariables false

set_option maxRecDepth 100000 in
set_option maxHeartbeats 2000000 in
theorem extCuts_walk (w : World) (id : Nat) (hid : id < 256) (n : Nat) (hn : n < 256) (lg : Bool) :
    Calls Try.prog 6 #[.int .u8 id, .int .u8 n, .bool lg] w (Gives w (.bool true)) := by
  go_enter Try.func6, Try.ntmps6
  go_wp2_with fail
  refine (awake05 _).mono ?_
  rintro r w1 ⟨rfl, hb1⟩
  have hl1 : Le w w1 := ⟨hb1⟩
  clear hb1
  obtain ⟨x, hx⟩ : ∃ x, x = id % 14 + 1 := ⟨_, rfl⟩
  obtain ⟨k, hk⟩ : ∃ k, k = n % 16 + 1 := ⟨_, rfl⟩
  have hx1 : 1 ≤ x := by omega
  have hx14 : x ≤ 14 := by omega
  have hk1 : 1 ≤ k := by omega
  have hk16 : k ≤ 16 := by omega
  have HO1 := hide (World.ownsRow_nil w1 w1.heap.size 5 1)
  cases lg
  · go_wp2_with (first
      | (at_builtin; (refine wpl_app rfl sl8 (.tmp 40) (.tmp 47) rfl (HO1.out.alloc _) rfl rfl (news := [Value.int .u8 (((id : Int) % 14 + 1) * 16 + (n : Int) % 16)]) (cells_new _ _ _) rfl (by simp [Value.oneCell']) (by omega) (by omega) (le_alloc (Nat.le_refl _)) ?_); intro v2 w2 ho2 hg2 hat2; rw [Nat.zero_add, List.nil_append, show ([Value.int .u8 (((id : Int) % 14 + 1) * 16 + (n : Int) % 16)] : List Value) = u8s (headB true x k) by (simp [headB, u8s]; omega)] at ho2; obtain ⟨A2, cap2, rfl, _, _⟩ := own_slice ho2; have HB2 := hide (below_grown ((Below.refl _ _).alloc (Nat.le_refl _) _) (HO1.out.alloc _) hg2 (Nat.le_refl _) (le_alloc (Nat.le_refl _))); have HO2 := hide ho2; clear ho2 hg2 hat2))
    rw [show (n : Int) % 16 + 1 = (k : Int) by omega, show (id : Int) % 14 + 1 = (x : Int) by omega]
    clear hx hk
    go_loopw [8, 12] (fun v j wr => ∃ i : Nat, i ≤ k ∧ j = .int .i64 i ∧ wr.ownsRow w1.heap.size 5 1 v ((headB true x k).length + i) (u8s (headB true x k ++ List.replicate i 9)) ∧ Below w1.heap.size w1 wr) (fun _ j _ => k - (intOf j).toNat)
    case atStart => exact ⟨0, Nat.zero_le _, rfl, by (rw [show (headB true x k).length = 1 from rfl]; simpa using HO2.out), HB2.out⟩
    case round =>
      obtain ⟨i, hi, rfl, hown, hb⟩ := hrel
      obtain ⟨A3, cap3, rfl, hcap3, _⟩ := own_slice hown
      have hhd : (headB true x k).length = 1 := rfl
      rw [hhd] at hown hcap3
      rw [hhd]
      by_cases hlt : i < k
      · have hltI : (i : Int) < (k : Int) := by omega
        go_wp2_with (at_builtin; go_must (refine wpl_app rfl sl8 (.tmp 54) (.tmp 55) rfl (hown.alloc _) rfl rfl (news := u8s [9]) (cells_new _ _ _) rfl u8s_one (by omega) (by omega) (le_alloc hb.size) ?_); intro v6 w6 ho6 hg6 hat6; obtain ⟨A6, cap6, rfl, _, _⟩ := own_slice ho6; have hb6 := below_grown (hb.alloc hb.size _) (hown.alloc _) hg6 (Nat.le_refl _) (le_alloc hb.size); clear hg6 hat6)
        go_roundw
        case rel =>
          refine ⟨i + 1, hlt, by go_num, ?_, hb6⟩
          rw [← u8s_append, List.append_assoc, ← List.replicate_succ'] at ho6
          exact ho6
        case measure => simp [intOf]; omega
      · have hltI : ¬ (i : Int) < (k : Int) := by omega
        obtain rfl : i = k := by omega
        rw [← cutB true hx14] at hown
        have HE := hide (show (itemB true (cutI x i)).length = 1 + i by rw [cutB true hx14, List.length_append, hhd, List.length_replicate])
        have H1 := hide (show extParse 48862 (itemB true (cutI x i)) = _ from cut_one true hx1 hx14 hk1 hk16)
        have H2 := hide (show extParse 48862 ((itemB true (cutI x i)).take ((itemB true (cutI x i)).length - 1)) = _ from cut_short true hx1 hx14 hk1 hk16)
        have H3 := hide (show extParse 48862 (manyB true x i 14) = _ from many_ok true hx1 hx14 hk1 hk16)
        have H4 := hide (show extParse 48862 (manyB true x i 15) = _ from many_big true hx1 hx14 hk1 hk16)
        have H5 := hide (fun n => many_snoc true x i n)
        have H0 := hide (show manyB true x i 0 = [] from rfl)
        generalize itemB true (cutI x i) = Bt at *
        have HB3 := hide (rsl_of_own hown)
        have HL3 := hide (hl1.trans ⟨hb⟩)
        clear hown hb hltI hlt HO1 HO2 HB2 hl1
        go_wp2_with fail
        have hp := extParse_any 48862 Bt _ _ cap3 _ (by omega) HB3.out (by have := HE.out; omega)
        rw [H1.out] at hp
        refine hp.mono ?_
        clear hp
        rintro r w4 ⟨A4, cap4, rfl, hr4, hb4⟩
        have hl34 := Le.mk hb4
        obtain ⟨A', c', hv, _, hi4⟩ := hr4
        injection hv with e1 e2 e3
        subst e1 e3
        obtain ⟨b4, off4, rfl, hg4⟩ := hi4 (by simp)
        obtain ⟨cs4, _, hc4, v4, hcs4, hv4⟩ := hg4 0 (by simp)
        subst hcs4
        obtain ⟨D4, dp4, hD4, _⟩ := _root_.id hv4
        subst hD4
        have C0 := hide (show w4.cell? ⟨b4, off4, none⟩ = some (.int .u8 (x : Nat)) from (hc4 0 (by omega)).trans (by simp [cutI]; omega))
        have C1 := hide (show w4.cell? ⟨b4, off4 + 1, none⟩ = some (.slice D4 i dp4) from (hc4 1 (by omega)).trans (by simp [cutI]))
        clear hb4 hi4 hg4 hc4 hv4
        have HL4 := hide (HL3.out.trans hl34)
        simp only [List.length_cons, List.length_nil, Nat.zero_add]
        go_wp2_with fail
        have hbt := HE.out
        have hpt := rsl_take (hl34.rsl keeps_u8 HB3.out) (show Bt.length - 1 ≤ Bt.length by omega)
        rw [show Bt.length - 1 = i by omega] at hpt
        have hp := extParse_any 48862 (Bt.take i) _ _ cap3 _ (by omega) hpt (by rw [List.length_take]; omega)
        rw [show Bt.take i = Bt.take (Bt.length - 1) by rw [show Bt.length - 1 = i by omega], H2.out] at hp
        refine hp.mono ?_
        clear hp hpt
        rintro r w5 ⟨A5, cap5, rfl, hr5, hb5⟩
        have hl45 : Le w4 w5 := ⟨hb5⟩
        have HB5 := hide (hl45.rsl keeps_u8 (hl34.rsl keeps_u8 HB3.out))
        have HL45 := hide hl45
        have HO5 := hide (World.ownsRow_nil w5 w5.heap.size 5 1)
        generalize manyB true x i = M at *
        have HML := hide (show ∀ q, (M q).length = q * Bt.length from fun q => by
          induction q with
          | zero => rw [H0.out]; simp
          | succ q ih => rw [H5.out, List.length_append, ih, Nat.succ_mul])
        clear hr5 hb5 hl45 hl34
        simp only [List.length_nil]
        go_wp2_with fail
        go_loopw [17, 18] (fun v j wr2 => ∃ q : Nat, q ≤ 14 ∧ j = .int .i64 q ∧ wr2.ownsRow w5.heap.size 5 1 v (M q).length (u8s (M q)) ∧ Below w5.heap.size w5 wr2) (fun _ j _ => 14 - (intOf j).toNat)
        case atStart => exact ⟨0, Nat.zero_le _, rfl, by (rw [H0.out]; exact HO5.out), Below.refl _ _⟩
        case round =>
          rename_i wr2 _
          obtain ⟨q, hq, rfl, hown, hb⟩ := hrel
          obtain ⟨A6, cap6, rfl, hcap6, _⟩ := own_slice hown
          have hml : (M q).length ≤ 252 := by
            rw [HML.out]; exact Nat.le_trans (Nat.mul_le_mul hq (show Bt.length ≤ 18 by omega)) (by decide)
          by_cases hlt : q < 14
          · have hltI : (q : Int) < 14 := by omega
            go_wp2_with (at_builtin; go_must (refine wpl_app rfl sl8 (.tmp 77) (.tmp 78) rfl hown rfl rfl (cells_of_rsl ((Le.mk hb).rsl keeps_u8 HB5.out)) (by rw [u8s_length, HE.out, Nat.mul_one]) u8s_one (by omega) (by omega) hb.size ?_); intro v7 w7 ho7 hg7 hat7; obtain ⟨A7, cap7, rfl, _, _⟩ := own_slice ho7; have hb7 := below_grown hb hown hg7 (Nat.le_refl _) hb.size; clear hg7 hat7)
            go_roundw
            case rel =>
              refine ⟨q + 1, hlt, by go_num, ?_, hb7⟩
              rw [← u8s_append, ← H5.out] at ho7
              rw [show (M (q + 1)).length = (M q).length + (1 + i) by rw [H5.out, List.length_append, HE.out]]
              exact ho7
            case measure => simp [intOf]; omega
          · have hltI : ¬ (q : Int) < 14 := by omega
            obtain rfl : q = 14 := by omega
            go_wp2_with fail
            have hp := extParse_any 48862 (M 14) _ _ cap6 _ (by omega) (rsl_of_own hown) (by omega)
            rw [H3.out] at hp
            refine hp.mono ?_
            clear hp
            rintro r w8 ⟨A8, cap8, rfl, _, hb8⟩
            have HO8 := hide ((Le.mk hb8).own hown)
            have HL58 := hide ((Le.mk hb).trans ⟨hb8⟩)
            clear hb8 hown hb
            simp only [List.length_replicate]
            go_wp2_with (at_builtin; go_must (refine wpl_app rfl sl8 (.tmp 86) (.tmp 87) rfl HO8.out rfl rfl (cells_of_rsl (HL58.out.rsl keeps_u8 HB5.out)) (by rw [u8s_length, HE.out, Nat.mul_one]) u8s_one (by omega) (by omega) HL58.out.size ?_); intro v9 w9 ho9 hg9 hat9; obtain ⟨A9, cap9, rfl, _, _⟩ := own_slice ho9; have HB9 := hide (below_grown HL58.out.out HO8.out hg9 (Nat.le_refl _) HL58.out.size); rw [← u8s_append, ← H5.out] at ho9; have HO9 := hide ho9; clear hg9 hat9 ho9)
            have hp := extParse_any 48862 (M 15) _ _ cap9 _ (by omega) (rsl_of_own HO9.out) (by rw [H5.out, List.length_append]; omega)
            rw [H4.out] at hp
            refine hp.mono ?_
            clear hp
            rintro r w10 ⟨A10, cap10, rfl, _, hb10⟩
            have hl410 := HL45.out.trans ((Le.mk HB9.out).trans ⟨hb10⟩)
            have c0 := hl410.cell C0.out
            have c1 := hl410.cell C1.out
            have HL10 := hide (HL4.out.trans hl410)
            clear hb10 hl410
            simp only [List.length_nil]
            go_wp2_with fail
            go_ret
            exact ⟨rfl, HL10.out.out⟩
  · go_wp2_with (first
      | (at_builtin; (refine wpl_app rfl sl8 (.tmp 34) (.tmp 38) rfl (HO1.out.alloc _) rfl rfl (news := [Value.int .u8 ((id : Int) % 14 + 1), Value.int .u8 ((n : Int) % 16 + 1)]) (cells_new _ _ _) rfl (by simp [Value.oneCell']) (by omega) (by omega) (le_alloc (Nat.le_refl _)) ?_); intro v2 w2 ho2 hg2 hat2; rw [Nat.zero_add, List.nil_append, show ([Value.int .u8 ((id : Int) % 14 + 1), Value.int .u8 ((n : Int) % 16 + 1)] : List Value) = u8s (headB false x k) by (simp [headB, u8s]; omega)] at ho2; obtain ⟨A2, cap2, rfl, _, _⟩ := own_slice ho2; have HB2 := hide (below_grown ((Below.refl _ _).alloc (Nat.le_refl _) _) (HO1.out.alloc _) hg2 (Nat.le_refl _) (le_alloc (Nat.le_refl _))); have HO2 := hide ho2; clear ho2 hg2 hat2))
    rw [show (n : Int) % 16 + 1 = (k : Int) by omega, show (id : Int) % 14 + 1 = (x : Int) by omega]
    clear hx hk
    go_loopw [8, 12] (fun v j wr => ∃ i : Nat, i ≤ k ∧ j = .int .i64 i ∧ wr.ownsRow w1.heap.size 5 1 v ((headB false x k).length + i) (u8s (headB false x k ++ List.replicate i 9)) ∧ Below w1.heap.size w1 wr) (fun _ j _ => k - (intOf j).toNat)
    case atStart => exact ⟨0, Nat.zero_le _, rfl, by (rw [show (headB false x k).length = 2 from rfl]; simpa using HO2.out), HB2.out⟩
    case round =>
      obtain ⟨i, hi, rfl, hown, hb⟩ := hrel
      obtain ⟨A3, cap3, rfl, hcap3, _⟩ := own_slice hown
      have hhd : (headB false x k).length = 2 := rfl
      rw [hhd] at hown hcap3
      rw [hhd]
      by_cases hlt : i < k
      · have hltI : (i : Int) < (k : Int) := by omega
        go_wp2_with (at_builtin; go_must (refine wpl_app rfl sl8 (.tmp 54) (.tmp 55) rfl (hown.alloc _) rfl rfl (news := u8s [9]) (cells_new _ _ _) rfl u8s_one (by omega) (by omega) (le_alloc hb.size) ?_); intro v6 w6 ho6 hg6 hat6; obtain ⟨A6, cap6, rfl, _, _⟩ := own_slice ho6; have hb6 := below_grown (hb.alloc hb.size _) (hown.alloc _) hg6 (Nat.le_refl _) (le_alloc hb.size); clear hg6 hat6)
        go_roundw
        case rel =>
          refine ⟨i + 1, hlt, by go_num, ?_, hb6⟩
          rw [← u8s_append, List.append_assoc, ← List.replicate_succ'] at ho6
          exact ho6
        case measure => simp [intOf]; omega
      · have hltI : ¬ (i : Int) < (k : Int) := by omega
        obtain rfl : i = k := by omega
        rw [← cutB false hx14] at hown
        have HE := hide (show (itemB false (cutI x i)).length = 2 + i by rw [cutB false hx14, List.length_append, hhd, List.length_replicate])
        have H1 := hide (show extParse 4096 (itemB false (cutI x i)) = _ from cut_one false hx1 hx14 hk1 hk16)
        have H2 := hide (show extParse 4096 ((itemB false (cutI x i)).take ((itemB false (cutI x i)).length - 1)) = _ from cut_short false hx1 hx14 hk1 hk16)
        have H3 := hide (show extParse 4096 (manyB false x i 14) = _ from many_ok false hx1 hx14 hk1 hk16)
        have H4 := hide (show extParse 4096 (manyB false x i 15) = _ from many_big false hx1 hx14 hk1 hk16)
        have H5 := hide (fun n => many_snoc false x i n)
        have H0 := hide (show manyB false x i 0 = [] from rfl)
        generalize itemB false (cutI x i) = Bt at *
        have HB3 := hide (rsl_of_own hown)
        have HL3 := hide (hl1.trans ⟨hb⟩)
        clear hown hb hltI hlt HO1 HO2 HB2 hl1
        go_wp2_with fail
        have hp := extParse_any 4096 Bt _ _ cap3 _ (by omega) HB3.out (by have := HE.out; omega)
        rw [H1.out] at hp
        refine hp.mono ?_
        clear hp
        rintro r w4 ⟨A4, cap4, rfl, hr4, hb4⟩
        have hl34 := Le.mk hb4
        obtain ⟨A', c', hv, _, hi4⟩ := hr4
        injection hv with e1 e2 e3
        subst e1 e3
        obtain ⟨b4, off4, rfl, hg4⟩ := hi4 (by simp)
        obtain ⟨cs4, _, hc4, v4, hcs4, hv4⟩ := hg4 0 (by simp)
        subst hcs4
        obtain ⟨D4, dp4, hD4, _⟩ := _root_.id hv4
        subst hD4
        have C0 := hide (show w4.cell? ⟨b4, off4, none⟩ = some (.int .u8 (x : Nat)) from (hc4 0 (by omega)).trans (by simp [cutI]; omega))
        have C1 := hide (show w4.cell? ⟨b4, off4 + 1, none⟩ = some (.slice D4 i dp4) from (hc4 1 (by omega)).trans (by simp [cutI]))
        clear hb4 hi4 hg4 hc4 hv4
        have HL4 := hide (HL3.out.trans hl34)
        simp only [List.length_cons, List.length_nil, Nat.zero_add]
        go_wp2_with fail
        have hbt := HE.out
        have hpt := rsl_take (hl34.rsl keeps_u8 HB3.out) (show Bt.length - 1 ≤ Bt.length by omega)
        rw [show Bt.length - 1 = (1 + i) by omega] at hpt
        have hp := extParse_any 4096 (Bt.take (1 + i)) _ _ cap3 _ (by omega) hpt (by rw [List.length_take]; omega)
        rw [show Bt.take (1 + i) = Bt.take (Bt.length - 1) by rw [show Bt.length - 1 = (1 + i) by omega], H2.out] at hp
        refine hp.mono ?_
        clear hp hpt
        rintro r w5 ⟨A5, cap5, rfl, hr5, hb5⟩
        have hl45 : Le w4 w5 := ⟨hb5⟩
        have HB5 := hide (hl45.rsl keeps_u8 (hl34.rsl keeps_u8 HB3.out))
        have HL45 := hide hl45
        have HO5 := hide (World.ownsRow_nil w5 w5.heap.size 5 1)
        generalize manyB false x i = M at *
        have HML := hide (show ∀ q, (M q).length = q * Bt.length from fun q => by
          induction q with
          | zero => rw [H0.out]; simp
          | succ q ih => rw [H5.out, List.length_append, ih, Nat.succ_mul])
        clear hr5 hb5 hl45 hl34
        simp only [List.length_nil]
        go_wp2_with fail
        go_loopw [17, 18] (fun v j wr2 => ∃ q : Nat, q ≤ 14 ∧ j = .int .i64 q ∧ wr2.ownsRow w5.heap.size 5 1 v (M q).length (u8s (M q)) ∧ Below w5.heap.size w5 wr2) (fun _ j _ => 14 - (intOf j).toNat)
        case atStart => exact ⟨0, Nat.zero_le _, rfl, by (rw [H0.out]; exact HO5.out), Below.refl _ _⟩
        case round =>
          rename_i wr2 _
          obtain ⟨q, hq, rfl, hown, hb⟩ := hrel
          obtain ⟨A6, cap6, rfl, hcap6, _⟩ := own_slice hown
          have hml : (M q).length ≤ 252 := by
            rw [HML.out]; exact Nat.le_trans (Nat.mul_le_mul hq (show Bt.length ≤ 18 by omega)) (by decide)
          by_cases hlt : q < 14
          · have hltI : (q : Int) < 14 := by omega
            go_wp2_with (at_builtin; go_must (refine wpl_app rfl sl8 (.tmp 77) (.tmp 78) rfl hown rfl rfl (cells_of_rsl ((Le.mk hb).rsl keeps_u8 HB5.out)) (by rw [u8s_length, HE.out, Nat.mul_one]) u8s_one (by omega) (by omega) hb.size ?_); intro v7 w7 ho7 hg7 hat7; obtain ⟨A7, cap7, rfl, _, _⟩ := own_slice ho7; have hb7 := below_grown hb hown hg7 (Nat.le_refl _) hb.size; clear hg7 hat7)
            go_roundw
            case rel =>
              refine ⟨q + 1, hlt, by go_num, ?_, hb7⟩
              rw [← u8s_append, ← H5.out] at ho7
              rw [show (M (q + 1)).length = (M q).length + (2 + i) by rw [H5.out, List.length_append, HE.out]]
              exact ho7
            case measure => simp [intOf]; omega
          · have hltI : ¬ (q : Int) < 14 := by omega
            obtain rfl : q = 14 := by omega
            go_wp2_with fail
            have hp := extParse_any 4096 (M 14) _ _ cap6 _ (by omega) (rsl_of_own hown) (by omega)
            rw [H3.out] at hp
            refine hp.mono ?_
            clear hp
            rintro r w8 ⟨A8, cap8, rfl, _, hb8⟩
            have HO8 := hide ((Le.mk hb8).own hown)
            have HL58 := hide ((Le.mk hb).trans ⟨hb8⟩)
            clear hb8 hown hb
            simp only [List.length_replicate]
            go_wp2_with (at_builtin; go_must (refine wpl_app rfl sl8 (.tmp 86) (.tmp 87) rfl HO8.out rfl rfl (cells_of_rsl (HL58.out.rsl keeps_u8 HB5.out)) (by rw [u8s_length, HE.out, Nat.mul_one]) u8s_one (by omega) (by omega) HL58.out.size ?_); intro v9 w9 ho9 hg9 hat9; obtain ⟨A9, cap9, rfl, _, _⟩ := own_slice ho9; have HB9 := hide (below_grown HL58.out.out HO8.out hg9 (Nat.le_refl _) HL58.out.size); rw [← u8s_append, ← H5.out] at ho9; have HO9 := hide ho9; clear hg9 hat9 ho9)
            have hp := extParse_any 4096 (M 15) _ _ cap9 _ (by omega) (rsl_of_own HO9.out) (by rw [H5.out, List.length_append]; omega)
            rw [H4.out] at hp
            refine hp.mono ?_
            clear hp
            rintro r w10 ⟨A10, cap10, rfl, _, hb10⟩
            have hl410 := HL45.out.trans ((Le.mk HB9.out).trans ⟨hb10⟩)
            have c0 := hl410.cell C0.out
            have c1 := hl410.cell C1.out
            have HL10 := hide (HL4.out.trans hl410)
            clear hb10 hl410
            simp only [List.length_nil]
            go_wp2_with fail
            go_ret
            exact ⟨rfl, HL10.out.out⟩
end Go.Proofs.Ytkbdbandeioibaa
