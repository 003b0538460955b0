/- ReqTells: the law's walk. -/
import Derived.Test.YtlfomilalkkbeaaLaw19
import Derived.Test.YtlfomilalkkbeaaTellsL
import Derived.Test.YtlfomilalkkbeaaReg
namespace Go.Proofs.Ytlfomilalkkbeaa
open Go.RowKit
set_option linter.unusedVariables false

theorem conv_cell (w : World) (g x : Nat) (h : w.heap[g]? = some (.cells #[.int .u8 (x : Nat)] 5 (0, 0))) (hx : x < 256) :
    (convert 24 9 (.slice (some ⟨g, 0, none⟩) 1 1)).run Try.prog w = .ok (.string (str [UInt8.ofNat x])) w := by
  refine run_convert_bytes_back _ _ _ 5 _ 1 [UInt8.ofNat x] Try.underlying24 Try.underlying5 Try.underlying9 (fun j hj => ?_)
  simp at hj
  subst hj
  rw [addr_add]
  simp [cell_block h]
  omega

set_option maxRecDepth 100000 in
set_option maxHeartbeats 2000000 in
theorem reqTells_walk (w : World) (id : Nat) (hid : (id : Int) < 18446744073709551616) (e : Nat) (he : e < 256) (l : List UInt8) (A : Option Addr) (n cap : Nat) (hr : RSl 1 RU8 w l (.slice A n cap)) :
    Calls Try.prog 13 #[.int .u64 id, .int .u8 e, .slice A n cap] w (Gives w (.bool true)) := by
  have HR := hide hr
  obtain ⟨A', cap', hv, hcap, _⟩ := hr
  injection hv with e1 e2 e3
  subst e1 e2 e3
  have HID := hide hid
  clear hid
  by_cases hbig : 60 < l.length
  · go_enter Try.func13, Try.ntmps13
    go_wp2_with (go_at_call 25; refine (awake19 _).mono ?_; rintro e w1 ⟨rfl, hb1⟩)
    go_ret
    exact ⟨rfl, hb1⟩
  have hwr : IntKind.i64.wrap ((e : Nat) : Int) = e := IntWalk.i64_in _ (by omega)
  go_enter Try.func13, Try.ntmps13
  go_wp2_with (go_at_call 25; refine (awake19 _).mono ?_; rintro r w1 ⟨rfl, hb1⟩)
  refine (answer_any id e _ HID.out (by omega)).mono ?_
  rintro r w2 ⟨v2, rfl, ho2, hb2⟩
  obtain ⟨A2, cap2, rfl, hcap2, _⟩ := own_slice ho2
  have hB2 := hb1.trans (hb2.mono hb1.size)
  have HR2 := hide (rsl_of_own ho2)
  have HR' := hide (HR.out.below keeps_u8 hB2 (Nat.le_refl _))
  have hL : (puts (ansL id e)).length = 9 := ans_len id e
  have HT := hide (told_ans id e HID.out he)
  have HL := hide hL
  rw [hL] at HR2
  simp only [hL]
  clear hL hcap2 ho2 hb2 hb1
  generalize hLa : puts (ansL id e) = La at HR2 HT HL
  have HLA := hide hLa
  clear hLa
  have HB2 := hide hB2
  clear hB2
  go_wp2_with fail
  have ht := told_any La A2 9 cap2 w2 HR2.out (by rw [HL.out]; omega)
  rw [HT.out.1, HT.out.2.1, HT.out.2.2] at ht
  refine ht.mono ?_
  rintro r w3 ⟨rfl, hb3⟩
  have HR3 := hide (HR2.out.below keeps_u8 hb3 (Nat.le_refl _))
  have HS3 := hide (HR'.out.below keeps_u8 hb3 (Nat.le_refl _))
  have HB3 := hide (HB2.out.trans (hb3.mono HB2.out.size))
  clear hb3 ht
  go_wp2_with fail
  refine (told_any l A l.length cap w3 HS3.out (by omega)).mono ?_
  rintro r w4 ⟨rfl, hb4⟩
  have HR4 := hide (HR3.out.below keeps_u8 hb4 (Nat.le_refl _))
  have HS4 := hide (HS3.out.below keeps_u8 hb4 (Nat.le_refl _))
  have HB4 := hide (HB3.out.trans (hb4.mono HB3.out.size))
  clear hb4
  go_upto_region 9 with fail
  have hcv : ∀ W, Below w4.heap.size w4 W → (convert 24 9 (.slice A2 9 cap2)).run Try.prog W = .ok (.string (str La)) W := fun W h => conv_str (P := Try.prog) W 24 9 5 A2 9 cap2 La Try.underlying24 Try.underlying5 Try.underlying9 (HR4.out.below keeps_u8 h (Nat.le_refl _))
  have hLE : La = putOne (id, 8) ++ [UInt8.ofNat e] := by rw [← HLA.out, ans_two]; congr 1; simp [putOne, mayB, be, bAt]
  have hpl : (putOne (id, 8)).length = 8 := by simp [putOne, mayB, be_length]
  have HN := hide (fun W => rnum_any id 8 W HID.out)
  generalize putOne (id, 8) = P at hLE hpl HN
  have b3 : (!((P ++ [UInt8.ofNat e]) == (P ++ [UInt8.ofNat e]))) = false := by simp
  rw [hLE] at hcv
  have hpl2 : ¬ 9223372036854775807 < P.length + 1 := by omega
  have hL9 : ((l.length : Nat) : Int) ≤ 60 := by omega
  have hq : (toldB l == (((l.length : Nat) : Int) == 9)) = true := by
    by_cases h9 : l.length = 9
    · rw [toldB, h9]; rfl
    · have : (((l.length : Nat) : Int) == 9) = false := by rw [beq_eq_false_iff_ne]; omega
      rw [this, toldB]; simp [h9]
  have hi0 : ((id : Int) != id) = false := by simp
  have he0 : ((e : Int) != e) = false := by simp
  go_cut [67] (fun s wx => s = .bool false ∧ Le w4 wx)
  case first =>
    refine' wp_region_facts Le [Is _, Is _, Is _, Is _, Is _, fun v w => ∃ g : Nat, v = .slice (some ⟨g, 0, none⟩) 1 1 ∧ w.heap[g]? = some (.cells #[.int .u8 (e : Nat)] 5 (0, 0)), Is _, Is _, Is _, Is _, Is _, Is _, Is _, Is _, Is _, Is _, Is _, Is _, Is _, Is _, Is _, Is _, Is _, Is _, Is _, Is _, Is _, Is _, Is _, Is _, Is _] [[], [0], [], [2], [], [4], [5], [3, 6], [1, 7], [8], [9], [9], [9, 10, 11], [9, 12], [13], [14], [14], [14, 16], [14, 15, 17], [14, 18], [19], [20], [20, 21], [20, 22], [23], [24], [24], [24, 26], [24, 27], [24, 25, 28], [24, 29]] (by kernel_rfl) (by kernel_rfl) rfl Le.refl (fun _ _ _ h h' => h.trans h') ⟨St.is, St.is, St.is, St.is, St.is, fun v w w' h ⟨g, e1, e2⟩ => ⟨g, e1, heap_below h.out e2 (Array.getElem?_eq_some_iff.1 e2).1⟩, St.is, St.is, St.is, St.is, St.is, St.is, St.is, St.is, St.is, St.is, St.is, St.is, St.is, St.is, St.is, St.is, St.is, St.is, St.is, St.is, St.is, St.is, St.is, St.is, St.is, trivial⟩ ?m9
    case m9 =>
      simp (maxSteps := 100000000) only [AllV, Obl, Leans, factAt, allFacts, putAll, Act.put, List.setIfInBounds_toArray, List.set_cons_succ, List.set_cons_zero, List.getElem?_cons_zero, List.getElem?_cons_succ]
      intro x0 x1 x2 x3 x4 x5 x6 x7 x8 x9 x10 x11 x12 x13 x14 x15 x16 x17 x18 x19 x20 x21 x22 x23 x24 x25 x26 x27 x28 x29 x30
      refine ⟨⟨?_, ?_, ?_, ?_, ?_, ?_, ?_, ?_, ?_, ?_, ?_, ?_, ?_, ?_, ?_, ?_, ?_, ?_, ?_, ?_, ?_, ?_, ?_, ?_, ?_, ?_, ?_, ?_, ?_, ?_, ?_, trivial⟩, ?_⟩
      -- 0: 37 := Op.move t8
      · intro w hw  K hK; go_simp; exact hK _ _ (Le.refl _) rfl
      -- 1: 38 := Op.convert 24 9 t37
      · intro w hw h0 K hK; cases h0; have hc := hcv w (hkC hw.out); go_simp; exact hK _ _ (Le.refl _) rfl
      -- 2: 39 := Op.move t0
      · intro w hw  K hK; go_simp; exact hK _ _ (Le.refl _) rfl
      -- 3: 40 := Op.call { value (Operand.func 16), args := #[t39, const (8:i64)], argTypes := #[26, 3] }
      · intro w hw h2 K hK; cases h2; go_simp; go_at_call 16; refine (HN.out _).mono ?_; rintro r w5 ⟨rfl, hb5⟩; exact hK _ _ ⟨hb5⟩ rfl
      -- 4: 41 := Op.move t1
      · intro w hw  K hK; go_simp; exact hK _ _ (Le.refl _) rfl
      -- 5: 42 := Op.buildSlice 24 1 #[(0, t41)]
      · intro w hw h4 K hK; cases h4; go_simp; exact hK _ _ ((Le.refl _).alloc _) ⟨_, rfl, heap_alloc_new _ _⟩
      -- 6: 43 := Op.convert 24 9 t42
      · intro w hw h5 K hK; obtain ⟨g, rfl, hg⟩ := h5; have hc := conv_cell w g e hg (by omega); go_simp; exact hK _ _ (Le.refl _) rfl
      -- 7: 44 := Op.binOp BinOp.add 9 t40 t43 9
      · intro w hw h3 h6 K hK; cases h3; cases h6; go_simp; exact hK _ _ (Le.refl _) rfl
      -- 8: 45 := Op.binOp BinOp.neq 9 t38 t44 9
      · intro w hw h1 h7 K hK; cases h1; cases h7; go_simp; exact hK _ _ (Le.refl _) rfl
      -- 9: 46 := Op.move t45
      · intro w hw h8 K hK; cases h8; go_simp; exact hK _ _ (Le.refl _) rfl
      -- 10: 47 := Op.move t9   [guarded: some (9, false)]
      · intro w hw h9 K hK; cases h9; go_simp; exact hK _ _ (Le.refl _) rfl
      -- 11: 48 := Op.move t0   [guarded: some (9, false)]
      · intro w hw h9 K hK; cases h9; go_simp; exact hK _ _ (Le.refl _) rfl
      -- 12: 49 := Op.binOp BinOp.neq 26 t47 t48 26   [guarded: some (9, false)]
      · intro w hw h9 h10 h11 K hK; cases h9; cases h10; cases h11; go_simp; exact hK _ _ (Le.refl _) rfl
      -- 13: 50 := Op.pick t46 (const (Value.bool true)) t49
      · intro w hw h9 h12 K hK; cases h9; cases h12; go_simp; exact hK _ _ (Le.refl _) rfl
      -- 14: 51 := Op.move t50
      · intro w hw h13 K hK; cases h13; go_simp; exact hK _ _ (Le.refl _) rfl
      -- 15: 52 := Op.move t10   [guarded: some (14, false)]
      · intro w hw h14 K hK; cases h14; go_simp; exact hK _ _ (Le.refl _) rfl
      -- 16: 53 := Op.move t1   [guarded: some (14, false)]
      · intro w hw h14 K hK; cases h14; go_simp; exact hK _ _ (Le.refl _) rfl
      -- 17: 54 := Op.convert 5 36 t53   [guarded: some (14, false)]
      · intro w hw h14 h16 K hK; cases h14; cases h16; go_simp; exact hK _ _ (Le.refl _) rfl
      -- 18: 55 := Op.binOp BinOp.neq 36 t52 t54 36   [guarded: some (14, false)]
      · intro w hw h14 h15 h17 K hK; cases h14; cases h15; cases h17; go_simp; exact hK _ _ (Le.refl _) rfl
      -- 19: 56 := Op.pick t51 (const (Value.bool true)) t55
      · intro w hw h14 h18 K hK; cases h14; cases h18; go_simp; exact hK _ _ (Le.refl _) rfl
      -- 20: 57 := Op.move t56
      · intro w hw h19 K hK; cases h19; go_simp; exact hK _ _ (Le.refl _) rfl
      -- 21: 58 := Op.move t11   [guarded: some (20, false)]
      · intro w hw h20 K hK; cases h20; go_simp; exact hK _ _ (Le.refl _) rfl
      -- 22: 59 := Op.unOp UnOp.not 4 t58   [guarded: some (20, false)]
      · intro w hw h20 h21 K hK; cases h20; cases h21; go_simp; exact hK _ _ (Le.refl _) rfl
      -- 23: 60 := Op.pick t57 (const (Value.bool true)) t59
      · intro w hw h20 h22 K hK; cases h20; cases h22; go_simp; exact hK _ _ (Le.refl _) rfl
      -- 24: 61 := Op.move t60
      · intro w hw h23 K hK; cases h23; go_simp; exact hK _ _ (Le.refl _) rfl
      -- 25: 62 := Op.move t14   [guarded: some (24, false)]
      · intro w hw h24 K hK; cases h24; go_simp; exact hK _ _ (Le.refl _) rfl
      -- 26: 63 := Op.move t2   [guarded: some (24, false)]
      · intro w hw h24 K hK; cases h24; go_simp; exact hK _ _ (Le.refl _) rfl
      -- 27: 64 := Op.call { builtin len, args := #[t63], argTypes := #[24] }   [guarded: some (24, false)]
      · intro w hw h24 h26 K hK; cases h24; cases h26; go_simp; exact hK _ _ (Le.refl _) rfl
      -- 28: 65 := Op.binOp BinOp.eql 3 t64 (const (9:i64)) 3   [guarded: some (24, false)]
      · intro w hw h24 h27 K hK; cases h24; cases h27; go_simp; exact hK _ _ (Le.refl _) rfl
      -- 29: 66 := Op.binOp BinOp.neq 4 t62 t65 4   [guarded: some (24, false)]
      · intro w hw h24 h25 h28 K hK; cases h24; cases h25; cases h28; go_simp; exact hK _ _ (Le.refl _) rfl
      -- 30: 67 := Op.pick t61 (const (Value.bool true)) t66
      · intro w hw h24 h29 K hK; cases h24; cases h29; go_simp; exact hK _ _ (Le.refl _) rfl
      · intro w hw h0 h1 h2 h3 h4 h5 h6 h7 h8 h9 h10 h11 h12 h13 h14 h15 h16 h17 h18 h19 h20 h21 h22 h23 h24 h25 h26 h27 h28 h29 h30; cases h0; cases h1; cases h2; cases h3; cases h4; obtain ⟨g, rfl, hg⟩ := h5; cases h6; cases h7; cases h8; cases h9; cases h10; cases h11; cases h12; cases h13; cases h14; cases h15; cases h16; cases h17; cases h18; cases h19; cases h20; cases h21; cases h22; cases h23; cases h24; cases h25; cases h26; cases h27; cases h28; cases h29; cases h30; skip
        go_wp2_with fail
        go_meet
        exact ⟨rfl, Le.trans ⟨hk0⟩ hw⟩
  case rest =>
    obtain ⟨rfl, hbx⟩ := hcut
    clear hcv hLE hpl HN b3 hpl2 hq hi0 he0 HR4 HR3 HR2 HT HL HLA HR' HS3
    have HS5 := hide (HS4.out.below keeps_u8 hbx.out (Nat.le_refl _))
    have HB5 := hide (HB4.out.trans (hbx.out.mono HB4.out.size))
    clear HS4 HB4 hbx
    by_cases h9 : l.length = 9
    · have htb : toldB l = true := by rw [toldB, h9]; rfl
      rw [htb]
      clear htb
      have hn1 : ((toldN l : Nat) : Int) < 18446744073709551616 := by
        have : nm (l, 0) 8 < 18446744073709551616 := Nat.lt_of_lt_of_le (nm_lt (l, 0) 8 (by omega)) (show 256 ^ 8 ≤ 18446744073709551616 by decide)
        rw [toldN, if_pos h9]; omega
      have hn2 : toldE l < 256 := by
        rw [toldE, if_pos h9]; exact nm_lt (q1 l) 1 (by omega)
      have H9 := hide h9; have HN1 := hide hn1; have HN2 := hide hn2
      clear h9 hn1
      have hwr : IntKind.i64.wrap ((toldE l : Nat) : Int) = toldE l := IntWalk.i64_in _ (by omega)
      clear hn2
      go_wp2_with fail
      have hcl : ∀ W, Below wc.heap.size wc W → (convert 24 9 (.slice A l.length cap)).run Try.prog W = .ok (.string (str l)) W := fun W h => conv_str (P := Try.prog) W 24 9 5 A l.length cap l Try.underlying24 Try.underlying5 Try.underlying9 (HS5.out.below keeps_u8 h (Nat.le_refl _))
      have hll : (l == l) = true := by simp
      refine' wp_region_facts Le [Is _, Is _, fun v w => RSl 1 RU8 w l v, Is _, Is _, Is _, Is _, Is _] [[], [], [0, 1], [2], [], [4], [3, 5], [6]] (by kernel_rfl) (by kernel_rfl) rfl Le.refl (fun _ _ _ h h' => h.trans h') ⟨St.is, St.is, fun v w w' h hr => hr.keep keeps_u8 h.out, St.is, St.is, St.is, St.is, St.is, trivial⟩ ?m12
      case m12 =>
        simp (maxSteps := 100000000) only [AllV, Obl, Leans, factAt, allFacts, putAll, Act.put, List.setIfInBounds_toArray, List.set_cons_succ, List.set_cons_zero, List.getElem?_cons_zero, List.getElem?_cons_succ]
        intro x0 x1 x2 x3 x4 x5 x6 x7
        refine ⟨⟨?_, ?_, ?_, ?_, ?_, ?_, ?_, ?_, trivial⟩, ?_⟩
        -- 0: 69 := Op.move t12
        · intro w hw  K hK; go_simp; exact hK _ _ (Le.refl _) rfl
        -- 1: 70 := Op.move t13
        · intro w hw  K hK; go_simp; exact hK _ _ (Le.refl _) rfl
        -- 2: 71 := Op.call { value (Operand.func 32), args := #[t69, t70], argTypes := #[26, 36] }
        · intro w hw h0 h1 K hK; cases h0; cases h1; go_simp; refine (answer_any _ _ w HN1.out HN2.out).mono ?_; rintro r w5 ⟨v5, rfl, ho5, hb5⟩; rw [ans_told l H9.out] at ho5; exact hK _ _ ⟨hb5⟩ (rsl_of_own ho5)
        -- 3: 72 := Op.convert 24 9 t71
        · intro w hw h2 K hK; obtain ⟨A7, cap7, rfl, hc7, hr7⟩ := h2; have hc := conv_str (P := Try.prog) w 24 9 5 A7 l.length cap7 l Try.underlying24 Try.underlying5 Try.underlying9 ⟨A7, cap7, rfl, hc7, hr7⟩; go_simp; exact hK _ _ (Le.refl _) rfl
        -- 4: 73 := Op.move t2
        · intro w hw  K hK; go_simp; exact hK _ _ (Le.refl _) rfl
        -- 5: 74 := Op.convert 24 9 t73
        · intro w hw h4 K hK; cases h4; have hc := hcl w (hkC hw.out); go_simp; exact hK _ _ (Le.refl _) rfl
        -- 6: 75 := Op.binOp BinOp.eql 9 t72 t74 9
        · intro w hw h3 h5 K hK; cases h3; cases h5; go_simp; exact hK _ _ (Le.refl _) rfl
        -- 7: 6 := Op.assign t75
        · intro w hw h6 K hK; cases h6; go_simp; exact hK _ _ (Le.refl _) rfl
        · intro w hw h0 h1 h2 h3 h4 h5 h6 h7; cases h0; cases h1; obtain ⟨A7, cap7, rfl, hc7, hr7⟩ := h2; cases h3; cases h4; cases h5; cases h6; cases h7; skip
          go_wp2_with fail
          go_ret
          exact ⟨rfl, HB5.out.trans (((Below.refl _ _).drew.trans hw.out).mono HB5.out.size)⟩
    · have htb : toldB l = false := by rw [toldB]; exact decide_eq_false h9
      have ha : toldN l = 0 := by rw [toldN, if_neg h9]
      have hb : toldE l = 0 := by rw [toldE, if_neg h9]
      rw [ha, hb, htb]
      clear ha hb htb
      go_wp2_with fail
      go_ret
      exact ⟨rfl, HB5.out⟩
end Go.Proofs.Ytlfomilalkkbeaa
