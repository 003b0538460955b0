/- ExtBack: the law's walk. -/
import Derived.Test.YtkbdbandeioibaaLaw05
import Derived.Test.YtkbdbandeioibaaExtBkL
import Derived.Test.YtkbdbandeioibaaExtSame
import Derived.Test.YtkbdbandeioibaaExtSizes
import Derived.Test.YtkbdbandeioibaaMake
namespace Go.Proofs.Ytkbdbandeioibaa
open Go.RowKit
set_option linter.unusedVariables false

def backC (m : Nat) (B : List UInt8) : List UInt8 := (List.replicate m 0 ++ B) ++ List.replicate m 0
theorem prof_of {l : List It} (h : extErr l = 0) : extProf l = if shortB l then 48862 else 4096 := by rw [extProf, if_pos h]
theorem pX_pad (s : Bool) (l : List It) (m : Nat) : pX s l (List.replicate m 0) = (l, 0) := by
  have := pX_zeros s l [] m
  rw [List.append_nil, pX_nil] at this
  exact this
theorem back_parse {l : List It} (h : extErr l = 0) (m : Nat) : extParse (extProf l) (backC m (extB l)) = (l, 0) := by
  have hk : (profK (extProf l) == 1) = shortB l ∧ profK (extProf l) ≠ 0 := by
    rw [prof_of h]; cases shortB l <;> decide
  rw [ext_px _ _ hk.2, hk.1, backC, List.append_assoc, body_back h, pX_pad]
theorem back_stop {l : List It} (h : extErr l = 0) (hp : extProf l = 48862) (m : Nat) (more : List UInt8) : extParse 48862 ((backC m (extB l) ++ [240]) ++ more) = (l, 0) := by
  have hs : shortB l = true := by
    rw [prof_of h] at hp
    cases hs : shortB l
    · rw [hs] at hp; simp at hp
    · rfl
  have hb := body_back h m (List.replicate m 0 ++ (240 :: more))
  rw [hs] at hb
  rw [ext_px _ _ (by decide), show (profK 48862 == 1) = true by decide, backC]
  simp only [List.append_assoc, List.cons_append, List.nil_append]
  rw [hb, pX_zeros, pX_stop]
theorem back_up {l : List It} (h : extErr l = 0) (hp : extProf l = 4096) (m : Nat) : extParse 4111 (backC m (extB l)) = (l, 0) := by
  have hs : shortB l = false := by
    rw [prof_of h] at hp
    cases hs : shortB l
    · rfl
    · rw [hs] at hp; simp at hp
  have hb := body_back h m (List.replicate m 0)
  rw [hs] at hb
  rw [ext_px _ _ (by decide), show (profK 4111 == 1) = false by decide, backC, List.append_assoc, hb, pX_pad]
theorem back_len {l : List It} (h : extErr l = 0) : (extB l).length % 4 = 0 ∧ (extB l).length ≤ 3600 := by
  obtain ⟨h14, hgd⟩ := err_parts h
  have hX : extB l = padB (bodyB (shortB l) l) := by rw [extB, if_pos h]
  have h1 := sumD_le 255 l (fun x hx => (good_all hgd x hx).2)
  rw [hX, pad_len, body_sum]
  cases shortB l <;> simp <;> omega

set_option maxRecDepth 100000 in
set_option maxHeartbeats 2000000 in
theorem extBack_walk (w : World) (l : List It) (A : Option Addr) (n cap : Nat) (hr : RSl 2 RItem w l (.slice A n cap)) (hl : l.length ≤ 9223372036854775807) (nt : Nat) (hnt : nt < 256) (mo : List UInt8) (B : Option Addr) (m bap : Nat) (hm : RSl 1 RU8 w mo (.slice B m bap)) :
    Calls Try.prog 5 #[.slice A n cap, .int .u8 nt, .slice B m bap] w (Gives w (.bool true)) := by
  have HR := hide hr
  have HMO := hide hm
  obtain ⟨A', cap', hv, hcap, _⟩ := hr
  injection hv with e1 e2 e3
  subst e1 e2 e3
  obtain ⟨A', cap', hv, hbap, _⟩ := hm
  injection hv with e1 e2 e3
  subst e1 e2 e3
  have HLN := hide hl
  clear hl
  go_enter Try.func5, Try.ntmps5
  go_wp2_with fail
  refine (awake05 _).mono ?_
  rintro r w1 ⟨rfl, hb1⟩
  have hl1 : Le w w1 := ⟨hb1⟩
  clear hb1
  go_wp2_with fail
  have hf := few_any l A l.length cap w1 (hl1.rsl keeps_item HR.out) HLN.out
  cases hfw : fewB l
  · rw [hfw] at hf
    refine hf.mono ?_
    rintro r w2 ⟨rfl, hb2⟩
    have hl2 := hl1.trans ⟨hb2⟩
    clear hb2 hf
    go_wp2_with fail
    go_ret
    exact ⟨rfl, hl2.out⟩
  rw [hfw] at hf
  refine hf.mono ?_
  rintro r w2 ⟨rfl, hb2⟩
  have hl2 := hl1.trans ⟨hb2⟩
  have HF := hide (few_parts hfw)
  clear hb2 hf hfw hl1
  by_cases hbig : 100 < mo.length
  · go_wp2_with fail
    go_ret
    exact ⟨rfl, hl2.out⟩
  have hbI : ¬ (100 : Int) < (mo.length : Int) := by omega
  have hll : l.length ≤ 20 := HF.out.2
  go_wp2_with fail
  refine (extPut_any l A l.length cap w2 (hl2.rsl keeps_item HR.out) (by omega)).mono ?_
  by_cases herr : extErr l = 0
  case neg =>
    have heI : (extErr l != 0) = true := by simpa using herr
    have h1 : extProf l = 0 := by rw [extProf, if_neg herr]
    have h2 : extB l = [] := by rw [extB, if_neg herr]
    rw [h1, h2]
    have HER := hide herr
    clear herr h1 h2
    generalize extErr l = E at *
    rintro r w3 ⟨v3, rfl, ho3, hb3⟩
    have hl3 := hl2.trans ⟨hb3⟩
    obtain ⟨A3, cap3, rfl, _, _⟩ := own_slice ho3
    have h0 : ([] : List UInt8).length = 0 := rfl
    rw [h0]
    clear ho3 hb3 hl2
    go_wp2_with fail
    go_ret
    exact ⟨rfl, hl3.out⟩
  have H1 := hide (back_parse herr)
  have H2 := hide (back_stop herr)
  have H3 := hide (back_up herr)
  have H4 := hide (back_len herr)
  have HP : extProf l = 48862 ∨ extProf l = 4096 := by rw [prof_of herr]; cases shortB l <;> simp
  rw [herr]
  clear herr
  generalize extProf l = PR at *
  generalize extB l = B at *
  rintro r w3 ⟨v3, rfl, ho3, hb3⟩
  obtain ⟨A3, cap3, rfl, _, _⟩ := own_slice ho3
  have hl3 := hl2.trans ⟨hb3⟩
  have HB3 := hide (rsl_of_own ho3)
  clear ho3 hb3 hl2
  have hB4 := H4.out.1
  have hB5 := H4.out.2
  obtain ⟨z, hz⟩ : ∃ z, z = nt % 9 := ⟨_, rfl⟩
  have hz9 : z ≤ 8 := by omega
  have hwz : IntKind.i64.wrap ((nt : Int) % 9) = (z : Int) := by rw [show (nt : Int) % 9 = (z : Int) by omega]; exact IntWalk.i64_in _ (by omega)
  have HZ := hide hz
  clear hz
  have hB4z : (B.length : Int) % 4 = 0 := by omega
  clear hB4
  have HPH := hide HP
  clear HP
  go_wp2_with (first
    | (refine wpl_make rfl sl8 (.tmp 49) (.tmp 49) rfl rfl rfl (by omega) (by omega) ?_; intro w4 ho4 hl4; rw [made_u8] at ho4; have HP4 := hide (rsl_of_own ho4); have HL34 := hide hl4; have HO4 := hide (World.ownsRow_nil w4 w4.heap.size 5 1); clear ho4 hl4)
    | (at_builtin; (refine wpl_app rfl sl8 (.tmp 51) (.tmp 52) rfl HO4.out rfl rfl (cells_of_rsl HP4.out) (by simp [u8s]) u8s_one (by omega) (by omega) (Nat.le_refl _) ?_); intro v5 w5 ho5 hg5 hat5; rw [Nat.zero_add, List.nil_append] at ho5; obtain ⟨A5, cap5, rfl, _, _⟩ := own_slice ho5; have HB45 := hide (below_grown (Below.refl _ _) HO4.out hg5 (Nat.le_refl _) (Nat.le_refl _)); have HO5 := hide ho5; clear ho5 hg5 hat5)
    | (at_builtin; (refine wpl_app rfl sl8 (.tmp 54) (.tmp 55) rfl HO5.out rfl rfl (cells_of_rsl ((HL34.out.trans ⟨HB45.out⟩).rsl keeps_u8 HB3.out)) (by simp [u8s]) u8s_one (by omega) (by omega) HB45.out.size ?_); intro v6 w6 ho6 hg6 hat6; rw [← u8s_append] at ho6; obtain ⟨A6, cap6, rfl, _, _⟩ := own_slice ho6; have HB46 := hide (below_grown HB45.out HO5.out hg6 (Nat.le_refl _) HB45.out.size); have HO6 := hide ho6; clear ho6 hg6 hat6)
    | (at_builtin; (refine wpl_app rfl sl8 (.tmp 57) (.tmp 58) rfl HO6.out rfl rfl (cells_of_rsl ((show Le _ _ from ⟨HB46.out⟩).rsl keeps_u8 HP4.out)) (by simp [u8s]) u8s_one (by omega) (by omega) HB46.out.size ?_); intro v7 w7 ho7 hg7 hat7; rw [← u8s_append] at ho7; obtain ⟨A7, cap7, rfl, _, _⟩ := own_slice ho7; have HB47 := hide (below_grown HB46.out HO6.out hg7 (Nat.le_refl _) HB46.out.size); have HO7 := hide ho7; clear ho7 hg7 hat7))
  have HL4 := hide (hl3.trans HL34.out)
  have HL47 : Le _ _ := ⟨HB47.out⟩
  have hpr : PR < 65536 := by have := HPH.out; omega
  have hp := extParse_any PR (backC z B) _ _ cap7 _ hpr (rsl_of_own HO7.out) (by simp [backC]; omega)
  rw [H1.out] at hp
  refine hp.mono ?_
  clear hp
  rintro r w8 ⟨A8, cap8, rfl, hr8, hb8⟩
  have HL48 := HL47.trans ⟨hb8⟩
  have HO8 := hide ((show Le _ w8 from ⟨hb8⟩).own HO7.out)
  have HR8 := hide hr8
  have HR4 := hide (HL4.out.rsl keeps_item HR.out)
  have HM4 := hide (HL4.out.rsl keeps_u8 HMO.out)
  clear hr8 hb8 HL47 hl3 HB45 HB46 HB47 HO5 HO6 HO7
  simp only at HR8 ⊢
  go_wp2_with fail
  refine (plain_any l A8 l.length cap8 w8 HR8.out (by omega)).mono ?_
  rintro r w9 ⟨A9, cap9, rfl, hr9, hb9⟩
  have hl89 : Le w8 w9 := ⟨hb9⟩
  clear hb9
  have HL49 := hide (HL48.trans hl89)
  go_wp2_with fail
  refine (plain_any l A l.length cap w9 (HL49.out.rsl keeps_item HR4.out) (by omega)).mono ?_
  rintro r w10 ⟨A10, cap10, rfl, hr10, hb10⟩
  have hl910 : Le w9 w10 := ⟨hb10⟩
  clear hb10
  go_wp2_with fail
  have hs := rsame_any l l A9 l.length cap9 A10 l.length cap10 w10 (hl910.rsl keeps_ri hr9) hr10 (by omega)
  rw [decide_eq_true (rfl : l = l)] at hs
  refine hs.mono ?_
  clear hs
  rintro r w11 ⟨rfl, hb11⟩
  have hl1011 : Le w10 w11 := ⟨hb11⟩
  have hl811 := (hl89.trans hl910).trans hl1011
  have HO11 := hide (hl811.own HO8.out)
  have HL411 := hide (HL48.trans hl811)
  clear hb11 hl89 hl910 hl1011 hl811 hr9 hr10 HL48 HL49 HO8 HR8
  have hsz := HL411.out.size
  rcases HPH.out with hPR | hPR
  · subst hPR
    have H2' := hide (H2.out rfl)
    clear H1 H2 H3 HPH hpr
    go_wp2_with (first
      | (at_builtin; (refine wpl_app rfl sl8 (.tmp 84) (.tmp 85) rfl (HO11.out.alloc _) rfl rfl (news := u8s [240]) (cells_new _ _ _) rfl u8s_one (by omega) (by omega) (le_alloc HL411.out.size) ?_); intro v12 w12 ho12 hg12 hat12; rw [← u8s_append] at ho12; obtain ⟨A12, cap12, rfl, _, _⟩ := own_slice ho12; have HB12 := hide (below_grown (HL411.out.out.alloc HL411.out.size _) (HO11.out.alloc _) hg12 (Nat.le_refl _) (le_alloc HL411.out.size)); have HO12 := hide ho12; clear ho12 hg12 hat12)
      | (at_builtin; (refine wpl_app rfl sl8 (.tmp 87) (.tmp 88) rfl HO12.out rfl rfl (cells_of_rsl ((show Le _ _ from ⟨HB12.out⟩).rsl keeps_u8 HM4.out)) (by simp [u8s]) u8s_one (by omega) (by omega) HB12.out.size ?_); intro v13 w13 ho13 hg13 hat13; rw [← u8s_append] at ho13; obtain ⟨A13, cap13, rfl, _, _⟩ := own_slice ho13; have HB13 := hide (below_grown HB12.out HO12.out hg13 (Nat.le_refl _) HB12.out.size); have HO13 := hide ho13; clear ho13 hg13 hat13))
    have hl13 : Le _ _ := ⟨HB13.out⟩
    have hp := extParse_any 48862 ((backC z B ++ [240]) ++ mo) _ _ cap13 _ (by omega) (rsl_of_own HO13.out) (by simp [backC]; omega)
    rw [H2'.out] at hp
    refine hp.mono ?_
    clear hp
    rintro r w14 ⟨A14, cap14, rfl, hr14, hb14⟩
    have hl14 := hl13.trans ⟨hb14⟩
    simp only at hr14 ⊢
    clear hb14 hl13 HO13 HB13 HO12 HB12
    go_wp2_with fail
    refine (plain_any l A14 l.length cap14 w14 hr14 (by omega)).mono ?_
    rintro r w15 ⟨A15, cap15, rfl, hr15, hb15⟩
    have hl15 := hl14.trans ⟨hb15⟩
    clear hb15
    go_wp2_with fail
    refine (plain_any l A l.length cap w15 (hl15.rsl keeps_item HR4.out) (by omega)).mono ?_
    rintro r w16 ⟨A16, cap16, rfl, hr16, hb16⟩
    have hl16 : Le w15 w16 := ⟨hb16⟩
    have HL16 := hide (hl15.trans hl16)
    clear hb16
    go_wp2_with fail
    have hs := rsame_any l l A15 l.length cap15 A16 l.length cap16 w16 (hl16.rsl keeps_ri hr15) hr16 (by omega)
    rw [decide_eq_true (rfl : l = l)] at hs
    refine hs.mono ?_
    clear hs
    rintro r w17 ⟨rfl, hb17⟩
    have HL17 := hide (HL4.out.trans (HL16.out.trans ⟨hb17⟩))
    go_wp2_with fail
    go_ret
    exact ⟨rfl, HL17.out.out⟩
  · subst hPR
    have H3' := hide (H3.out rfl)
    clear H1 H2 H3 HPH hpr
    go_wp2_with fail
    have hp := extParse_any 4111 (backC z B) _ _ cap7 _ (by omega) (rsl_of_own HO11.out) (by simp [backC]; omega)
    rw [H3'.out] at hp
    refine hp.mono ?_
    clear hp
    rintro r w14 ⟨A14, cap14, rfl, hr14, hb14⟩
    have hl14 := HL411.out.trans ⟨hb14⟩
    simp only at hr14 ⊢
    clear hb14
    go_wp2_with fail
    refine (plain_any l A14 l.length cap14 w14 hr14 (by omega)).mono ?_
    rintro r w15 ⟨A15, cap15, rfl, hr15, hb15⟩
    have hl15 := hl14.trans ⟨hb15⟩
    clear hb15
    go_wp2_with fail
    refine (plain_any l A l.length cap w15 (hl15.rsl keeps_item HR4.out) (by omega)).mono ?_
    rintro r w16 ⟨A16, cap16, rfl, hr16, hb16⟩
    have hl16 : Le w15 w16 := ⟨hb16⟩
    have HL16 := hide (hl15.trans hl16)
    clear hb16
    go_wp2_with fail
    have hs := rsame_any l l A15 l.length cap15 A16 l.length cap16 w16 (hl16.rsl keeps_ri hr15) hr16 (by omega)
    rw [decide_eq_true (rfl : l = l)] at hs
    refine hs.mono ?_
    clear hs
    rintro r w17 ⟨rfl, hb17⟩
    have HL17 := hide (HL4.out.trans (HL16.out.trans ⟨hb17⟩))
    go_wp2_with fail
    go_ret
    exact ⟨rfl, HL17.out.out⟩
end Go.Proofs.Ytkbdbandeioibaa
