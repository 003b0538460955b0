/- Texts of one claim, laid together: ScriptBack -/
import Derived.Test.YtkcpfhbfjpldhaaGreatDoorJo16
import Derived.Test.YtkcpfhbfjpldhaaGreatDoorJo15
/- ScriptBack: the law's walk. -/
namespace Go.Proofs.YtkcpfhbfjpldhaaGreatDoor
open Go.RowKit
set_option linter.unusedVariables false

theorem putS_ok {l : List Sp} (h : putSE l = 0) : l.all Sp.may = true := by
  unfold putSE at h
  cases hl : l.all Sp.may
  · rw [hl] at h; simp at h
  · rfl
theorem putS_bad {l : List Sp} (h : putSE l ≠ 0) : putSB l = [] := by
  unfold putSE at h
  cases hl : l.all Sp.may
  · rw [putSB, hl]; rfl
  · rw [hl] at h; simp at h
theorem back_put {l : List Sp} (h : putSE l = 0) : parseS (putSB l) [] = (l, 0) := by
  have ha := putS_ok h
  have := parseS_put l [] [] ha
  rw [List.append_nil, parseS_nil, List.nil_append] at this
  rw [putSB, ha]; exact this
theorem back_cut {l : List Sp} (h : putSE l = 0) (k : Nat) (hk : k ≤ (putSB l).length) :
    (parseS ((putSB l).take k) [] = ([], 10) ∧ k < (putSB l).length) ∨ ∃ j, j ≤ l.length ∧ parseS ((putSB l).take k) [] = (l.take j, 0) ∧ (k < (putSB l).length ∨ j = l.length) := by
  have ha := putS_ok h
  have hb : putSB l = l.flatMap Sp.out := by rw [putSB, ha]; rfl
  rw [hb] at hk ⊢
  have := parse_cut l k [] ha hk
  simpa using this
theorem back_len24 {l : List Sp} (hb : ∀ s ∈ l, s.b.length ≤ 200) : (putSB l).length ≤ 204 * l.length := by
  unfold putSB
  split
  · exact out_len l hb
  · simp

set_option maxRecDepth 100000 in
set_option maxHeartbeats 2000000 in
theorem scriptBack_walk (w : World) (l : List Sp) (A : Option Addr) (n cap : Nat) (hr : RSl 3 RSp w l (.slice A n cap)) (hl : l.length ≤ 9223372036854775807) (at_ : Nat) (hat : at_ < 65536) :
    Calls Tryz.prog 5 #[.slice A n cap, .int .u16 at_] w (Gives w (.bool true)) := by
  have HR := hide hr
  obtain ⟨A', cap', hv, hcap, _⟩ := hr
  injection hv with e1 e2 e3
  subst e1 e2 e3
  have HLN := hide hl
  clear hl
  go_enter Tryz.func5, Tryz.ntmps5
  go_wp2_with fail
  refine (awake24 _).mono ?_
  rintro r w1 ⟨rfl, hb1⟩
  have hl1 : Le w w1 := ⟨hb1⟩
  clear hb1
  go_wp2_with fail
  have hf := few24_any l A l.length cap w1 (hl1.rsl keeps_sp HR.out) HLN.out
  cases hfw : fewP l
  · rw [hfw] at hf
    refine hf.mono ?_
    rintro r w2 ⟨rfl, hb2⟩
    have hl2 := hl1.trans ⟨hb2⟩
    clear hb2 hf
    go_wp2_with fail
    go_ret
    exact ⟨rfl, hl2.out⟩
  rw [hfw] at hf
  refine hf.mono ?_
  rintro r w2 ⟨rfl, hb2⟩
  have hl2 := hl1.trans ⟨hb2⟩
  have HF := hide (fewP_parts hfw)
  have hll : l.length ≤ 300 := HF.out.2
  clear hb2 hf hfw hl1
  go_wp2_with fail
  refine (scPut_any l A cap w2 (hl2.rsl keeps_sp HR.out) (by omega) HF.out.1).mono ?_
  have HBL := hide (back_len24 HF.out.1)
  by_cases herr : putSE l = 0
  case neg =>
    have heI : (putSE l != 0) = true := by simpa using herr
    have h2 := putS_bad herr
    rw [h2]
    generalize putSE l = E at *
    rintro r w3 ⟨v3, rfl, ho3, hb3⟩
    have hl3 := hl2.trans ⟨hb3⟩
    obtain ⟨A3, cap3, rfl, _, _⟩ := own_slice ho3
    have h0 : ([] : List UInt8).length = 0 := rfl
    rw [h0]
    clear ho3 hb3 hl2 h2 herr
    go_wp2_with fail
    go_ret
    exact ⟨rfl, hl3.out⟩
  have H1 := hide (back_put herr)
  have H2 := hide (back_cut herr)
  rw [herr]
  clear herr
  generalize putSB l = B at *
  have hB := HBL.out
  rintro r w3 ⟨v3, rfl, ho3, hb3⟩
  obtain ⟨A3, cap3, rfl, _, _⟩ := own_slice ho3
  have HR3 := hide (rsl_of_own ho3)
  have HL3 := hide (hl2.trans ⟨hb3⟩)
  clear ho3 hb3 hl2
  go_wp2_with fail
  have hp := scParse_any B A3 B.length cap3 w3 HR3.out (by omega)
  rw [H1.out] at hp
  refine hp.mono ?_
  clear hp
  rintro r w4 h4
  obtain ⟨A4, cap4, rfl, hr4, hb4⟩ := h4.rsl
  have hl34 : Le w3 w4 := ⟨hb4⟩
  clear h4 hb4
  simp only at hr4 ⊢
  go_wp2_with fail
  refine (steps_any l A4 l.length cap4 w4 hr4 (by omega)).mono ?_
  rintro r w5 ⟨A5, cap5, rfl, hr5, hb5⟩
  have hl35 := hl34.trans ⟨hb5⟩
  clear hb5
  go_wp2_with fail
  refine (steps_any l A l.length cap w5 ((HL3.out.trans hl35).rsl keeps_sp HR.out) (by omega)).mono ?_
  rintro r w6 ⟨A6, cap6, rfl, hr6, hb6⟩
  have hl56 : Le w5 w6 := ⟨hb6⟩
  have hl36 := hl35.trans hl56
  clear hb6
  go_wp2_with fail
  have hs := rsame24_any l l A5 l.length cap5 A6 l.length cap6 w6 (hl56.rsl keeps_sr hr5) hr6 (by omega)
  rw [decide_eq_true (rfl : l = l)] at hs
  refine hs.mono ?_
  clear hs
  rintro r w7 ⟨rfl, hb7⟩
  have hl37 := hl36.trans ⟨hb7⟩
  have HL7 := hide (HL3.out.trans hl37)
  have HR7 := hide (hl37.rsl keeps_u8 HR3.out)
  clear hb7 hl36 hl56 hr4 hr5 hr6 hl34 hl35 hl37
  obtain ⟨k, hk⟩ : ∃ k, k = at_ % (B.length + 1) := ⟨_, rfl⟩
  have hkB : k ≤ B.length := by have := Nat.mod_lt at_ (show 0 < B.length + 1 by omega); omega
  have hwz : (at_ : Int) % ((B.length : Int) + 1) = (k : Int) := by rw [hk]; simp
  have hwt : (at_ : Int).tmod ((B.length : Int) + 1) = (k : Int) := by rw [Int.tmod_eq_emod_of_nonneg (by omega)]; exact hwz
  have HK := hide hk
  clear hk
  go_wp2_with fail
  have hp := scParse_any (B.take k) A3 k cap3 w7 (rsl_take HR7.out hkB) (by simp; omega)
  rcases H2.out k hkB with ⟨h1, h2⟩ | ⟨j, hj, h1, h2⟩
  · rw [h1] at hp
    refine hp.mono ?_
    clear hp h1
    rintro r w8 h8
    obtain ⟨A8, cap8, rfl, hr8, hb8⟩ := h8.rsl
    have hl8 := HL7.out.trans ⟨hb8⟩
    have h0 : ([] : List Sp).length = 0 := rfl
    have hkI : (k : Int) < (B.length : Int) := by omega
    clear h8 hb8 hr8
    simp only [h0]
    go_wp2_with fail
    go_ret
    exact ⟨rfl, hl8.out⟩
  · rw [h1] at hp
    refine hp.mono ?_
    clear hp h1
    rintro r w8 h8
    obtain ⟨A8, cap8, rfl, hr8, hb8⟩ := h8.rsl
    have hjl : (l.take j).length = j := by simp; omega
    have hl78 : Le w7 w8 := ⟨hb8⟩
    clear h8 hb8
    simp only [hjl] at hr8 ⊢
    have hjI : (j : Int) ≤ (l.length : Int) := by omega
    have hjc : j ≤ cap := by omega
    have hjT : (l.take j).length ≤ 200000 := by rw [hjl]; omega
    have HR8 := hide hr8
    have HRL := hide ((HL7.out.trans hl78).rsl keeps_sp HR.out)
    have HLW := hide (HL7.out.trans hl78)
    have HJL := hide hjl
    clear hr8 hl78 hjl
    have hle0 := (Le.refl w8).drew
    by_cases hkb : k < B.length
    · have hkI : (k : Int) < (B.length : Int) := by omega
      go_upto_region 17 with fail
      refine' wp_region_tailD 28 28 74 Le (IsD _ :: IsD _ :: IsD _ :: IsD _ :: IsD _ :: IsD _ :: IsD _ :: (fun _ v W => ∃ A9 cap9, v = .slice A9 j cap9 ∧ Hd (RSl 3 RSr W (l.take j) (.slice A9 j cap9))) :: IsD _ :: IsD _ :: IsD _ :: IsD _ :: (fun _ v W => ∃ A9 cap9, v = .slice A9 j cap9 ∧ Hd (RSl 3 RSr W (l.take j) (.slice A9 j cap9))) :: IsD _ :: IsD _ :: IsD _ :: IsD _ :: IsD _ :: IsD _ :: IsD _ :: IsD _ :: IsD _ :: IsD _ :: IsD _ :: IsD _ :: IsD _ :: IsD _ :: IsD _ :: []) ([] :: [0] :: [] :: [2] :: [1, 3] :: [4] :: [5] :: [5, 6] :: [5] :: [5] :: [5, 9] :: [5, 8, 10] :: [5, 11] :: [5, 7, 12] :: [5, 13] :: [14] :: [15] :: [15] :: [15, 17] :: [15, 16, 18] :: [15, 19] :: [20] :: [20, 21] :: [20] :: [20, 23] :: [20, 22, 24] :: [15, 20, 25] :: [15, 26] :: []) (by kernel_rfl) (by kernel_rfl) (by rfl) (by kernel_rfl) (by kernel_rfl) Le.refl (fun _ _ _ h h' => h.trans h') ⟨StD.is, StD.is, StD.is, StD.is, StD.is, StD.is, StD.is, (fun _ _ _ _ h ⟨A9, cap9, e1, e2⟩ => ⟨A9, cap9, e1, hide (h.rsl keeps_sr e2.out)⟩), StD.is, StD.is, StD.is, StD.is, (fun _ _ _ _ h ⟨A9, cap9, e1, e2⟩ => ⟨A9, cap9, e1, hide (h.rsl keeps_sr e2.out)⟩), StD.is, StD.is, StD.is, StD.is, StD.is, StD.is, StD.is, StD.is, StD.is, StD.is, StD.is, StD.is, StD.is, StD.is, StD.is, trivial⟩ ?m17
      case m17 =>
        simp (maxSteps := 100000000) only [AllV, OblD, LeansD, factAtD, allFactsD, depV, actOf, putAll, putRow, List.set_cons_succ, List.set_cons_zero, List.map_cons, List.getElem?_cons_zero, List.getElem?_cons_succ, Option.getD_some, List.map_nil, List.take_succ_cons, List.take_zero, List.drop_succ_cons, List.drop_zero, List.cons_append, List.nil_append, List.length_cons, List.length_nil, Nat.reduceAdd]
        intro x0 x1 x2 x3 x4 x5 x6 x7 x8 x9 x10 x11 x12 x13 x14 x15 x16 x17 x18 x19 x20 x21 x22 x23 x24 x25 x26 x27
        refine ⟨⟨?_, ?_, ?_, ?_, ?_, ?_, ?_, ?_, ?_, ?_, ?_, ?_, ?_, ?_, ?_, ?_, ?_, ?_, ?_, ?_, ?_, ?_, ?_, ?_, ?_, ?_, ?_, ?_, trivial⟩, ?_⟩
        -- 0: 74 := Op.move t12
        · intro w hw  K hK; go_simp; exact hK _ _ (Le.refl _) (IsD.mk _ _ _)
        -- 1: 75 := Op.call { builtin len, args := #[t74], argTypes := #[22] }
        · intro w hw h0 K hK; cases h0; go_simp; exact hK _ _ (Le.refl _) (IsD.mk _ _ _)
        -- 2: 76 := Op.move t0
        · intro w hw  K hK; go_simp; exact hK _ _ (Le.refl _) (IsD.mk _ _ _)
        -- 3: 77 := Op.call { builtin len, args := #[t76], argTypes := #[22] }
        · intro w hw h2 K hK; cases h2; go_simp; exact hK _ _ (Le.refl _) (IsD.mk _ _ _)
        -- 4: 78 := Op.binOp BinOp.leq 3 t75 t77 3
        · intro w hw h1 h3 K hK; cases h1; cases h3; go_simp; exact hK _ _ (Le.refl _) (IsD.mk _ _ _)
        -- 5: 79 := Op.move t78
        · intro w hw h4 K hK; cases h4; go_simp; exact hK _ _ (Le.refl _) (IsD.mk _ _ _)
        -- 6: 80 := Op.move t12   [guarded: some (5, true)]
        · intro w hw h5 K hK; cases h5; go_simp; exact hK _ _ (Le.refl _) (IsD.mk _ _ _)
        -- 7: 81 := Op.call { value (Operand.func 15), args := #[t80], argTypes := #[22] }   [guarded: some (5, true)]
        · intro w hw h5 h6 K hK; cases h5; cases h6; go_simp; refine (steps_any (l.take j) A8 j cap8 w ((hle0.trans hw).rsl keeps_sp HR8.out) hjT).mono ?_; rintro r w' ⟨A9, cap9, rfl, hr, hb⟩; exact hK _ _ ⟨hb⟩ ⟨A9, cap9, by rw [HJL.out], hide (by have hr' := hr; rw [HJL.out] at hr'; exact hr')⟩
        -- 8: 82 := Op.move t0   [guarded: some (5, true)]
        · intro w hw h5 K hK; cases h5; go_simp; exact hK _ _ (Le.refl _) (IsD.mk _ _ _)
        -- 9: 83 := Op.move t12   [guarded: some (5, true)]
        · intro w hw h5 K hK; cases h5; go_simp; exact hK _ _ (Le.refl _) (IsD.mk _ _ _)
        -- 10: 84 := Op.call { builtin len, args := #[t83], argTypes := #[22] }   [guarded: some (5, true)]
        · intro w hw h5 h9 K hK; cases h5; cases h9; go_simp; exact hK _ _ (Le.refl _) (IsD.mk _ _ _)
        -- 11: 85 := Op.slice 22 t82 none (some t84) none   [guarded: some (5, true)]
        · intro w hw h5 h8 h10 K hK; cases h5; cases h8; cases h10; go_simp; exact hK _ _ (Le.refl _) (IsD.mk _ _ _)
        -- 12: 86 := Op.call { value (Operand.func 15), args := #[t85], argTypes := #[22] }   [guarded: some (5, true)]
        · intro w hw h5 h11 K hK; cases h5; cases h11; go_simp; refine (steps_any (l.take j) A j cap w (rsl_take ((hle0.trans hw).rsl keeps_sp HRL.out) (by omega)) hjT).mono ?_; rintro r w' ⟨A9, cap9, rfl, hr, hb⟩; exact hK _ _ ⟨hb⟩ ⟨A9, cap9, by rw [HJL.out], hide (by have hr' := hr; rw [HJL.out] at hr'; exact hr')⟩
        -- 13: 87 := Op.call { value (Operand.func 18), args := #[t81, t86], argTypes := #[31, 31] }   [guarded: some (5, true)]
        · intro w hw h5 h7 h12 K hK; cases h5; obtain ⟨A79, cap79, rfl, HR79⟩ := h7; obtain ⟨A129, cap129, rfl, HR129⟩ := h12; go_simp; have hs := rsame24_any (l.take j) (l.take j) A79 j cap79 A129 j cap129 w HR79.out HR129.out hjT; rw [decide_eq_true (rfl : l.take j = l.take j)] at hs; refine hs.mono ?_; rintro r w' ⟨rfl, hb⟩; exact hK _ _ ⟨hb⟩ (IsD.mk _ _ _)
        -- 14: 88 := Op.pick t79 t87 (const (Value.bool false))
        · intro w hw h5 h13 K hK; cases h5; cases h13; go_simp; exact hK _ _ (Le.refl _) (IsD.mk _ _ _)
        -- 15: 89 := Op.move t88
        · intro w hw h14 K hK; cases h14; go_simp; exact hK _ _ (Le.refl _) (IsD.mk _ _ _)
        -- 16: 90 := Op.move t11   [guarded: some (15, true)]
        · intro w hw h15 K hK; cases h15; go_simp; exact hK _ _ (Le.refl _) (IsD.mk _ _ _)
        -- 17: 91 := Op.move t7   [guarded: some (15, true)]
        · intro w hw h15 K hK; cases h15; go_simp; exact hK _ _ (Le.refl _) (IsD.mk _ _ _)
        -- 18: 92 := Op.call { builtin len, args := #[t91], argTypes := #[25] }   [guarded: some (15, true)]
        · intro w hw h15 h17 K hK; cases h15; cases h17; go_simp; exact hK _ _ (Le.refl _) (IsD.mk _ _ _)
        -- 19: 93 := Op.binOp BinOp.lss 3 t90 t92 3   [guarded: some (15, true)]
        · intro w hw h15 h16 h18 K hK; cases h15; cases h16; cases h18; go_simp; exact hK _ _ (Le.refl _) (IsD.mk _ _ _)
        -- 20: 94 := Op.move t93   [guarded: some (15, true)]
        · intro w hw h15 h19 K hK; cases h15; cases h19; go_simp; exact hK _ _ (Le.refl _) (IsD.mk _ _ _)
        -- 21: 95 := Op.move t12   [guarded: some (20, false)]
        · intro w hw h20 K hK; cases h20; go_simp; exact hK _ _ (Le.refl _) (IsD.mk _ _ _)
        -- 22: 96 := Op.call { builtin len, args := #[t95], argTypes := #[22] }   [guarded: some (20, false)]
        · intro w hw h20 h21 K hK; cases h20; cases h21; go_simp; exact hK _ _ (Le.refl _) (IsD.mk _ _ _)
        -- 23: 97 := Op.move t0   [guarded: some (20, false)]
        · intro w hw h20 K hK; cases h20; go_simp; exact hK _ _ (Le.refl _) (IsD.mk _ _ _)
        -- 24: 98 := Op.call { builtin len, args := #[t97], argTypes := #[22] }   [guarded: some (20, false)]
        · intro w hw h20 h23 K hK; cases h20; cases h23; go_simp; exact hK _ _ (Le.refl _) (IsD.mk _ _ _)
        -- 25: 99 := Op.binOp BinOp.eql 3 t96 t98 3   [guarded: some (20, false)]
        · intro w hw h20 h22 h24 K hK; cases h20; cases h22; cases h24; go_simp; exact hK _ _ (Le.refl _) (IsD.mk _ _ _)
        -- 26: 100 := Op.pick t94 (const (Value.bool true)) t99   [guarded: some (15, true)]
        · intro w hw h15 h20 h25 K hK; cases h15; cases h20; cases h25; go_simp; exact hK _ _ (Le.refl _) (IsD.mk _ _ _)
        -- 27: 101 := Op.pick t89 t100 (const (Value.bool false))
        · intro w hw h15 h26 K hK; cases h15; cases h26; go_simp; exact hK _ _ (Le.refl _) (IsD.mk _ _ _)
        · intro wz hz h0 h1 h2 h3 h4 h5 h6 h7 h8 h9 h10 h11 h12 h13 h14 h15 h16 h17 h18 h19 h20 h21 h22 h23 h24 h25 h26 h27; cases h0; cases h1; cases h2; cases h3; cases h4; cases h5; cases h6; obtain ⟨A79, cap79, rfl, HR79⟩ := h7; cases h8; cases h9; cases h10; cases h11; obtain ⟨A129, cap129, rfl, HR129⟩ := h12; cases h13; cases h14; cases h15; cases h16; cases h17; cases h18; cases h19; cases h20; cases h21; cases h22; cases h23; cases h24; cases h25; cases h26; cases h27; skip
          go_wp2_with fail
          go_ret
          exact ⟨rfl, (HLW.out.trans (hle0.trans hz)).out⟩
    · have hkI : ¬ (k : Int) < (B.length : Int) := by omega
      obtain rfl : j = l.length := by omega
      have hjj : ((l.length : Int) == (l.length : Int)) = true := by simp
      go_upto_region 17 with fail
      refine' wp_region_tailD 28 28 74 Le (IsD _ :: IsD _ :: IsD _ :: IsD _ :: IsD _ :: IsD _ :: IsD _ :: (fun _ v W => ∃ A9 cap9, v = .slice A9 l.length cap9 ∧ Hd (RSl 3 RSr W (l.take l.length) (.slice A9 l.length cap9))) :: IsD _ :: IsD _ :: IsD _ :: IsD _ :: (fun _ v W => ∃ A9 cap9, v = .slice A9 l.length cap9 ∧ Hd (RSl 3 RSr W (l.take l.length) (.slice A9 l.length cap9))) :: IsD _ :: IsD _ :: IsD _ :: IsD _ :: IsD _ :: IsD _ :: IsD _ :: IsD _ :: IsD _ :: IsD _ :: IsD _ :: IsD _ :: IsD _ :: IsD _ :: IsD _ :: []) ([] :: [0] :: [] :: [2] :: [1, 3] :: [4] :: [5] :: [5, 6] :: [5] :: [5] :: [5, 9] :: [5, 8, 10] :: [5, 11] :: [5, 7, 12] :: [5, 13] :: [14] :: [15] :: [15] :: [15, 17] :: [15, 16, 18] :: [15, 19] :: [20] :: [20, 21] :: [20] :: [20, 23] :: [20, 22, 24] :: [15, 20, 25] :: [15, 26] :: []) (by kernel_rfl) (by kernel_rfl) (by rfl) (by kernel_rfl) (by kernel_rfl) Le.refl (fun _ _ _ h h' => h.trans h') ⟨StD.is, StD.is, StD.is, StD.is, StD.is, StD.is, StD.is, (fun _ _ _ _ h ⟨A9, cap9, e1, e2⟩ => ⟨A9, cap9, e1, hide (h.rsl keeps_sr e2.out)⟩), StD.is, StD.is, StD.is, StD.is, (fun _ _ _ _ h ⟨A9, cap9, e1, e2⟩ => ⟨A9, cap9, e1, hide (h.rsl keeps_sr e2.out)⟩), StD.is, StD.is, StD.is, StD.is, StD.is, StD.is, StD.is, StD.is, StD.is, StD.is, StD.is, StD.is, StD.is, StD.is, StD.is, trivial⟩ ?m17
      case m17 =>
        simp (maxSteps := 100000000) only [AllV, OblD, LeansD, factAtD, allFactsD, depV, actOf, putAll, putRow, List.set_cons_succ, List.set_cons_zero, List.map_cons, List.getElem?_cons_zero, List.getElem?_cons_succ, Option.getD_some, List.map_nil, List.take_succ_cons, List.take_zero, List.drop_succ_cons, List.drop_zero, List.cons_append, List.nil_append, List.length_cons, List.length_nil, Nat.reduceAdd]
        intro x0 x1 x2 x3 x4 x5 x6 x7 x8 x9 x10 x11 x12 x13 x14 x15 x16 x17 x18 x19 x20 x21 x22 x23 x24 x25 x26 x27
        refine ⟨⟨?_, ?_, ?_, ?_, ?_, ?_, ?_, ?_, ?_, ?_, ?_, ?_, ?_, ?_, ?_, ?_, ?_, ?_, ?_, ?_, ?_, ?_, ?_, ?_, ?_, ?_, ?_, ?_, trivial⟩, ?_⟩
        -- 0: 74 := Op.move t12
        · intro w hw  K hK; go_simp; exact hK _ _ (Le.refl _) (IsD.mk _ _ _)
        -- 1: 75 := Op.call { builtin len, args := #[t74], argTypes := #[22] }
        · intro w hw h0 K hK; cases h0; go_simp; exact hK _ _ (Le.refl _) (IsD.mk _ _ _)
        -- 2: 76 := Op.move t0
        · intro w hw  K hK; go_simp; exact hK _ _ (Le.refl _) (IsD.mk _ _ _)
        -- 3: 77 := Op.call { builtin len, args := #[t76], argTypes := #[22] }
        · intro w hw h2 K hK; cases h2; go_simp; exact hK _ _ (Le.refl _) (IsD.mk _ _ _)
        -- 4: 78 := Op.binOp BinOp.leq 3 t75 t77 3
        · intro w hw h1 h3 K hK; cases h1; cases h3; go_simp; exact hK _ _ (Le.refl _) (IsD.mk _ _ _)
        -- 5: 79 := Op.move t78
        · intro w hw h4 K hK; cases h4; go_simp; exact hK _ _ (Le.refl _) (IsD.mk _ _ _)
        -- 6: 80 := Op.move t12   [guarded: some (5, true)]
        · intro w hw h5 K hK; cases h5; go_simp; exact hK _ _ (Le.refl _) (IsD.mk _ _ _)
        -- 7: 81 := Op.call { value (Operand.func 15), args := #[t80], argTypes := #[22] }   [guarded: some (5, true)]
        · intro w hw h5 h6 K hK; cases h5; cases h6; go_simp; refine (steps_any (l.take l.length) A8 l.length cap8 w ((hle0.trans hw).rsl keeps_sp HR8.out) hjT).mono ?_; rintro r w' ⟨A9, cap9, rfl, hr, hb⟩; exact hK _ _ ⟨hb⟩ ⟨A9, cap9, by rw [HJL.out], hide (by have hr' := hr; rw [HJL.out] at hr'; exact hr')⟩
        -- 8: 82 := Op.move t0   [guarded: some (5, true)]
        · intro w hw h5 K hK; cases h5; go_simp; exact hK _ _ (Le.refl _) (IsD.mk _ _ _)
        -- 9: 83 := Op.move t12   [guarded: some (5, true)]
        · intro w hw h5 K hK; cases h5; go_simp; exact hK _ _ (Le.refl _) (IsD.mk _ _ _)
        -- 10: 84 := Op.call { builtin len, args := #[t83], argTypes := #[22] }   [guarded: some (5, true)]
        · intro w hw h5 h9 K hK; cases h5; cases h9; go_simp; exact hK _ _ (Le.refl _) (IsD.mk _ _ _)
        -- 11: 85 := Op.slice 22 t82 none (some t84) none   [guarded: some (5, true)]
        · intro w hw h5 h8 h10 K hK; cases h5; cases h8; cases h10; go_simp; exact hK _ _ (Le.refl _) (IsD.mk _ _ _)
        -- 12: 86 := Op.call { value (Operand.func 15), args := #[t85], argTypes := #[22] }   [guarded: some (5, true)]
        · intro w hw h5 h11 K hK; cases h5; cases h11; go_simp; refine (steps_any (l.take l.length) A l.length cap w (rsl_take ((hle0.trans hw).rsl keeps_sp HRL.out) (by omega)) hjT).mono ?_; rintro r w' ⟨A9, cap9, rfl, hr, hb⟩; exact hK _ _ ⟨hb⟩ ⟨A9, cap9, by rw [HJL.out], hide (by have hr' := hr; rw [HJL.out] at hr'; exact hr')⟩
        -- 13: 87 := Op.call { value (Operand.func 18), args := #[t81, t86], argTypes := #[31, 31] }   [guarded: some (5, true)]
        · intro w hw h5 h7 h12 K hK; cases h5; obtain ⟨A79, cap79, rfl, HR79⟩ := h7; obtain ⟨A129, cap129, rfl, HR129⟩ := h12; go_simp; have hs := rsame24_any (l.take l.length) (l.take l.length) A79 l.length cap79 A129 l.length cap129 w HR79.out HR129.out hjT; rw [decide_eq_true (rfl : l.take l.length = l.take l.length)] at hs; refine hs.mono ?_; rintro r w' ⟨rfl, hb⟩; exact hK _ _ ⟨hb⟩ (IsD.mk _ _ _)
        -- 14: 88 := Op.pick t79 t87 (const (Value.bool false))
        · intro w hw h5 h13 K hK; cases h5; cases h13; go_simp; exact hK _ _ (Le.refl _) (IsD.mk _ _ _)
        -- 15: 89 := Op.move t88
        · intro w hw h14 K hK; cases h14; go_simp; exact hK _ _ (Le.refl _) (IsD.mk _ _ _)
        -- 16: 90 := Op.move t11   [guarded: some (15, true)]
        · intro w hw h15 K hK; cases h15; go_simp; exact hK _ _ (Le.refl _) (IsD.mk _ _ _)
        -- 17: 91 := Op.move t7   [guarded: some (15, true)]
        · intro w hw h15 K hK; cases h15; go_simp; exact hK _ _ (Le.refl _) (IsD.mk _ _ _)
        -- 18: 92 := Op.call { builtin len, args := #[t91], argTypes := #[25] }   [guarded: some (15, true)]
        · intro w hw h15 h17 K hK; cases h15; cases h17; go_simp; exact hK _ _ (Le.refl _) (IsD.mk _ _ _)
        -- 19: 93 := Op.binOp BinOp.lss 3 t90 t92 3   [guarded: some (15, true)]
        · intro w hw h15 h16 h18 K hK; cases h15; cases h16; cases h18; go_simp; exact hK _ _ (Le.refl _) (IsD.mk _ _ _)
        -- 20: 94 := Op.move t93   [guarded: some (15, true)]
        · intro w hw h15 h19 K hK; cases h15; cases h19; go_simp; exact hK _ _ (Le.refl _) (IsD.mk _ _ _)
        -- 21: 95 := Op.move t12   [guarded: some (20, false)]
        · intro w hw h20 K hK; cases h20; go_simp; exact hK _ _ (Le.refl _) (IsD.mk _ _ _)
        -- 22: 96 := Op.call { builtin len, args := #[t95], argTypes := #[22] }   [guarded: some (20, false)]
        · intro w hw h20 h21 K hK; cases h20; cases h21; go_simp; exact hK _ _ (Le.refl _) (IsD.mk _ _ _)
        -- 23: 97 := Op.move t0   [guarded: some (20, false)]
        · intro w hw h20 K hK; cases h20; go_simp; exact hK _ _ (Le.refl _) (IsD.mk _ _ _)
        -- 24: 98 := Op.call { builtin len, args := #[t97], argTypes := #[22] }   [guarded: some (20, false)]
        · intro w hw h20 h23 K hK; cases h20; cases h23; go_simp; exact hK _ _ (Le.refl _) (IsD.mk _ _ _)
        -- 25: 99 := Op.binOp BinOp.eql 3 t96 t98 3   [guarded: some (20, false)]
        · intro w hw h20 h22 h24 K hK; cases h20; cases h22; cases h24; go_simp; exact hK _ _ (Le.refl _) (IsD.mk _ _ _)
        -- 26: 100 := Op.pick t94 (const (Value.bool true)) t99   [guarded: some (15, true)]
        · intro w hw h15 h20 h25 K hK; cases h15; cases h20; cases h25; go_simp; exact hK _ _ (Le.refl _) (IsD.mk _ _ _)
        -- 27: 101 := Op.pick t89 t100 (const (Value.bool false))
        · intro w hw h15 h26 K hK; cases h15; cases h26; go_simp; exact hK _ _ (Le.refl _) (IsD.mk _ _ _)
        · intro wz hz h0 h1 h2 h3 h4 h5 h6 h7 h8 h9 h10 h11 h12 h13 h14 h15 h16 h17 h18 h19 h20 h21 h22 h23 h24 h25 h26 h27; cases h0; cases h1; cases h2; cases h3; cases h4; cases h5; cases h6; obtain ⟨A79, cap79, rfl, HR79⟩ := h7; cases h8; cases h9; cases h10; cases h11; obtain ⟨A129, cap129, rfl, HR129⟩ := h12; cases h13; cases h14; cases h15; cases h16; cases h17; cases h18; cases h19; cases h20; cases h21; cases h22; cases h23; cases h24; cases h25; cases h26; cases h27; skip
          go_wp2_with fail
          go_ret
          exact ⟨rfl, (HLW.out.trans (hle0.trans hz)).out⟩
end Go.Proofs.YtkcpfhbfjpldhaaGreatDoor
