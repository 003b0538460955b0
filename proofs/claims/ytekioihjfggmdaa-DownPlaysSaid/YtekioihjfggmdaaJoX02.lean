/- Texts of one claim, laid together: Ref06 DownJ AgL PlayL Ref10 Ref12 -/
import Derived.Laws.IdiomStrings
import Derived.Test.YtekioihjfggmdaaJoX01
import Derived.Test.YtekioihjfggmdaaJo13
import Derived.Test.YtekioihjfggmdaaJo18
import Derived.Test.YtekioihjfggmdaaJo24
import Derived.Test.YtekioihjfggmdaaJo21
/- louverref06.Put. -/
namespace Go.Proofs.Ytekioihjfggmdaa
open Go.RowKit
set_option linter.unusedVariables false

def P06 (p : Pk) (v5 v6 : Value) : Value := .agg #[.bool p.mark, .int .u8 p.type, .int .u16 p.seq, .int .u32 p.time, .int .u32 p.ssrc, v5, v6, .string (str p.payload), .int .i64 p.pad]
theorem conv_two {w : World} {g : Nat} {x y : Int} {a b : UInt8} (hx : x = (a.toNat : Int)) (hy : y = (b.toNat : Int)) (h : w.heap[g]? = some (.cells #[.int .u8 x, .int .u8 y] 5 (0, 0))) : (convert 44 9 (.slice (some ⟨g, 0, none⟩) 2 2)).run Try.prog w = .ok (.string (str [a, b])) w := by
  subst hx hy
  exact conv_blk (l := [a, b]) h
theorem head_eq (p : Pk) : p.head = [UInt8.ofNat p.first, UInt8.ofNat p.second] ++ putOne (p.seq, 2) ++ putOne (p.time, 4) ++ putOne (p.ssrc, 4) := by
  simp [Pk.head, puts, be_one]
theorem csB_take1 (l : List Nat) (k : Nat) (h : k < l.length) : csB (l.take (k + 1)) = csB (l.take k) ++ putOne (l[k], 4) := by
  rw [csB_take l k h, show ((4 : Int)) = ((4 : Nat) : Int) from rfl, putOne_be _ 4 (by omega) (by omega)]
theorem extP_eq {p : Pk} (h : p.exts ≠ []) : p.extP = putOne (extProf p.exts, 2) ++ putOne ((extB p.exts).length / 4, 2) ++ extB p.exts := by
  rw [Pk.extP, if_neg h]
  simp [puts]
def padAt (n i : Nat) : List UInt8 := if i < n then List.replicate i 0 else if n = 0 then [] else List.replicate (n - 1) 0 ++ [UInt8.ofNat n]
theorem padAt_all (p : Pk) (n : Nat) (h : p.pad = n) : padAt n n = p.padB := by
  unfold padAt Pk.padB
  rw [if_neg (by omega), h]
  by_cases h0 : n = 0
  · subst h0; simp
  · rw [if_neg h0, if_pos (by omega), Int.toNat_natCast]
theorem padAt_zero (n : Nat) : padAt n 0 = [] := by
  unfold padAt
  by_cases h : 0 < n
  · rw [if_pos h]; rfl
  · rw [if_neg h, if_pos (by omega)]
theorem padAt_nought {n i : Nat} (h : i + 1 < n) : padAt n (i + 1) = padAt n i ++ [0] := by
  unfold padAt
  rw [if_pos h, if_pos (by omega), List.replicate_succ']
theorem padAt_last {n i : Nat} (h : i + 1 = n) : padAt n (i + 1) = padAt n i ++ [UInt8.ofNat n] := by
  unfold padAt
  rw [if_neg (by omega), if_neg (by omega), if_pos (by omega), show n - 1 = i by omega]
theorem padAt_len (n i : Nat) : (padAt n i).length ≤ i + n := by
  unfold padAt
  split
  · simp
  · split
    · simp
    · simp; omega
theorem bytes_len (p : Pk) (h0 : 0 ≤ p.pad) : (p.bytes.length : Int) = p.size + p.payload.length + p.pad := by
  have h1 := head_len p
  have h2 := csB_len p.csrc
  simp only [Pk.bytes, List.length_append, h1, h2]
  have h3 : p.extP.length = if p.exts = [] then 0 else 4 + (extB p.exts).length := by
    unfold Pk.extP
    split
    · rfl
    · simp [puts, putOne, mayB, be_length]; omega
  have h4 : (p.padB.length : Int) = p.pad := by
    unfold Pk.padB
    split
    · simp; omega
    · simp; omega
  rw [h3, Pk.size]
  push_cast
  omega

set_option maxRecDepth 100000 in
set_option maxHeartbeats 8000000 in
theorem rput06_any (p : Pk) (hp : p.Ok) (v5 v6 : Value) (w : World) (h5 : RSl 1 (RNat .u32) w p.csrc v5) (h6 : RSl 2 RI w p.exts v6) :
    Calls Try.prog 29 #[P06 p v5 v6] w (Gives w (.tuple #[.string (str p.out), .int .i64 p.err])) := by
  obtain ⟨A5, c5, rfl, _, _⟩ := id h5
  obtain ⟨A6, c6, rfl, _, _⟩ := id h6
  have HOK := hide hp
  have HX := hide (fun W (hW : Le w W) => rextPut_any p.exts A6 p.exts.length c6 W (hW.rsl (fun _ _ _ _ h _ => h) h6) hp.ne)
  have H5 := hide h5
  clear h6
  have hmay : p.may = (decide (p.type < 128) && (decide (p.csrc.length ≤ 15) && (decide (0 ≤ p.pad) && decide (p.pad ≤ 255)))) := rfl
  obtain ⟨R, hR⟩ : ∃ R : Value, R = .tuple #[.string (str p.out), .int .i64 p.err] := ⟨_, rfl⟩
  rw [← hR]
  have HR := hide hR
  have hlw := (Le.refl w).alloc (.cells #[.bool p.mark, .int .u8 p.type, .int .u16 p.seq, .int .u32 p.time, .int .u32 p.ssrc, .slice A5 p.csrc.length c5, .slice A6 p.exts.length c6, .string (str p.payload), .int .i64 p.pad] 57)
  have HLW := hide hlw
  have HB0 := hide (heap_alloc_new w (.cells #[.bool p.mark, .int .u8 p.type, .int .u16 p.seq, .int .u32 p.time, .int .u32 p.ssrc, .slice A5 p.csrc.length c5, .slice A6 p.exts.length c6, .string (str p.payload), .int .i64 p.pad] 57))
  clear hR h5 hlw
  unfold P06
  by_cases hm : p.may = false
  · have he : p.err = 1 := by rw [Pk.err, if_pos hm]
    have ho : p.out = [] := out_bad (by omega)
    rw [he, ho] at HR
    have hbad : ¬ p.type < 128 ∨ (p.type < 128 ∧ ¬ p.csrc.length ≤ 15) ∨ (p.type < 128 ∧ p.csrc.length ≤ 15 ∧ ¬ 0 ≤ p.pad) ∨ (p.type < 128 ∧ p.csrc.length ≤ 15 ∧ 0 ≤ p.pad ∧ ¬ p.pad ≤ 255) := by
      rw [hmay] at hm
      simp at hm
      omega
    clear hm hmay he ho HX
    rcases hbad with h1 | ⟨h1, h2⟩ | ⟨h1, h2, h3⟩ | ⟨h1, h2, h3, h4⟩ <;>
    · go_enter Try.func29, Try.ntmps29
      go_wp2_with fail
      go_ret2
      rw [HR.out]
      exact ⟨rfl, HLW.out.out⟩
  rw [Bool.not_eq_false, hmay] at hm
  simp only [Bool.and_eq_true, decide_eq_true_eq] at hm
  obtain ⟨m1, m2, m3, m4⟩ := hm
  obtain ⟨pn, hpn⟩ := Int.eq_ofNat_of_zero_le m3
  have HM := hide (And.intro m1 (And.intro m2 (And.intro hpn m4)))
  clear hmay hpn
  go_enter Try.func29, Try.ntmps29
  go_wp2_with fail
  refine (HX.out _ HLW.out).mono ?_
  rintro e w1 ⟨rfl, hb⟩
  have HL1 := hide (HLW.out.trans ⟨hb⟩)
  have HB1 := hide ((Le.mk hb).heap HB0.out)
  clear hb HX HLW HB0
  have k0 := box_cell HB1.out 0 (.bool p.mark) rfl w1 (Le.refl _)
  have k1 := box_cell HB1.out 1 (.int .u8 p.type) rfl w1 (Le.refl _)
  have k5 := box_cell HB1.out 5 (.slice A5 p.csrc.length c5) rfl w1 (Le.refl _)
  have k6 := box_cell HB1.out 6 (.slice A6 p.exts.length c6) rfl w1 (Le.refl _)
  have k8 := box_cell HB1.out 8 (.int .i64 p.pad) rfl w1 (Le.refl _)
  by_cases he : ¬ extErr p.exts = 0
  · have hee : p.err = extErr p.exts := by rw [Pk.err, if_neg (by simp [Pk.may, mayN, m1, m2, m3, m4]), if_pos he]
    have ho : p.out = [] := out_bad (by omega)
    rw [hee, ho] at HR
    generalize extErr p.exts = E at *
    go_wp2_with fail
    go_ret2
    rw [HR.out]
    exact ⟨rfl, HL1.out.out⟩
  have he := Classical.not_not.1 he
  have herr : p.err = if (1500 : Int) < p.size + p.payload.length + p.pad then 13 else 0 := by rw [Pk.err, if_neg (by simp [Pk.may, mayN, m1, m2, m3, m4]), if_neg (by omega)]
  rw [← bytes_len p m3] at herr
  have HERR := hide herr
  have hext := extB_small p.exts HOK.out.ne
  have HEXT := hide (extP_eq (p := p))
  have HPROF := hide (prof_lt p.exts)
  obtain ⟨F1, hF1⟩ : ∃ F1, F1 = 128 + p.csrc.length := ⟨_, rfl⟩
  obtain ⟨F2, hF2⟩ : ∃ F2, F2 = if 0 < p.pad then F1 + 32 else F1 := ⟨_, rfl⟩
  obtain ⟨F3, hF3⟩ : ∃ F3, F3 = if p.exts = [] then F2 else F2 + 16 := ⟨_, rfl⟩
  have hfirst : F3 = p.first := by rw [hF3, hF2, hF1, Pk.first]; split <;> split <;> omega
  have hf1 : (128 : Int) + (p.csrc.length : Int) = (F1 : Int) := by omega
  have HF := hide (And.intro hF1 (And.intro hF2 (And.intro hF3 hfirst)))
  have hb3 : F3 < 256 := by rw [hfirst]; unfold Pk.first; split <;> split <;> omega
  have hb2 : F2 < 256 := by rw [hF2]; split <;> omega
  have hb1 : F1 < 256 := by omega
  rw [he]
  clear hF1 hF2 hF3 hfirst herr he
  generalize extB p.exts = EB at *
  generalize extProf p.exts = PR at *
  go_upto_if 50 with fail
  go_cut [7] (fun v wx => v = .int .i64 (F2 : Nat) ∧ wx = w1)
  case first =>
    by_cases hpad : 0 < p.pad
    · have e : F2 = F1 + 32 := by rw [HF.out.2.1, if_pos hpad]
      have e2 : (F1 : Int) + 32 = (F2 : Int) := by omega
      clear e
      go_wp2_with fail
      go_meet
      exact ⟨by go_num, rfl⟩
    · have e : F2 = F1 := by rw [HF.out.2.1, if_neg hpad]
      have HE2 := hide e
      clear e
      go_wp2_with fail
      go_meet
      exact ⟨by rw [HE2.out], rfl⟩
  obtain ⟨rfl, hwc⟩ := hcut
  rw [hwc]
  clear hwc hf1
  have hN : ∃ N, p.exts.length = N ∧ (p.exts = [] ↔ N = 0) ∧ N ≤ 100000 := ⟨_, rfl, by rw [List.length_eq_zero_iff], HOK.out.ne⟩
  obtain ⟨N6, hN6, hN0, hN1⟩ := hN
  have HN6 := hide (And.intro hN6 hN0)
  rw [hN6] at k6 HB1
  clear hN6 hN0
  go_upto_if 56 with fail
  go_cut [7] (fun v wx => v = .int .i64 (F3 : Nat) ∧ wx = w1)
  case first =>
    by_cases hx : N6 = 0
    · have e : F3 = F2 := by rw [HF.out.2.2.1, if_pos (HN6.out.2.2 hx)]
      have HE2 := hide e
      clear e
      subst hx
      go_wp2_with fail
      go_meet
      exact ⟨by rw [HE2.out], rfl⟩
    · have hx1 : (0 : Int) < N6 := by omega
      have e : F3 = F2 + 16 := by rw [HF.out.2.2.1, if_neg (fun e => hx (HN6.out.2.1 e))]
      have e2 : (F2 : Int) + 16 = (F3 : Int) := by omega
      clear hx e
      go_wp2_with fail
      go_meet
      exact ⟨by go_num, rfl⟩
  obtain ⟨rfl, hwc⟩ := hcut
  rw [hwc]
  clear hwc
  have hsec := hide (show p.second = p.type + if p.mark then 128 else 0 from rfl)
  have hsb : p.second < 256 := by unfold Pk.second; split <;> omega
  go_upto_if 60 with fail
  go_cut [8] (fun v wx => v = .int .i64 (p.second : Nat) ∧ wx = w1)
  case first =>
    generalize p.second = sec at *
    generalize hmk : p.mark = mk at *
    clear hmk
    cases mk
    · go_wp2_with fail
      go_meet
      exact ⟨by rw [hsec.out]; rfl, rfl⟩
    · have e2 : (p.type : Int) + 128 = (sec : Int) := by rw [hsec.out]; simp
      go_wp2_with fail
      go_meet
      exact ⟨by go_num, rfl⟩
  obtain ⟨rfl, hwc⟩ := hcut
  rw [hwc]
  clear hwc hsec k0 k1
  have hhead := head_eq p
  rw [← HF.out.2.2.2] at hhead
  have HHEAD := hide (And.intro hhead (head_len p))
  have hs3 := HOK.out.seq
  have hs4 := HOK.out.time
  have hs5 := HOK.out.ssrc
  clear hhead HF hb1 hb2
  have hq3 : IntKind.u64.wrap (p.seq : Int) = p.seq := by simp [IntKind.wrap, IntKind.signed, IntKind.bits]; omega
  have hq4 : IntKind.u64.wrap (p.time : Int) = p.time := by simp [IntKind.wrap, IntKind.signed, IntKind.bits]; omega
  have hq5 : IntKind.u64.wrap (p.ssrc : Int) = p.ssrc := by simp [IntKind.wrap, IntKind.signed, IntKind.bits]; omega
  have HC1 := hide (fun W => rnum_any p.seq 2 W (by omega))
  have HC2 := hide (fun W => rnum_any p.time 4 W (by omega))
  have HC3 := hide (fun W => rnum_any p.ssrc 4 W (by omega))
  have hwa : IntKind.u8.wrap (F3 : Int) = ((UInt8.ofNat F3).toNat : Int) := wrap_u8 F3
  have hwb : IntKind.u8.wrap (p.second : Int) = ((UInt8.ofNat p.second).toNat : Int) := wrap_u8 p.second
  obtain ⟨x1, hx1, hl1⟩ : ∃ x, x = putOne (p.seq, 2) ∧ x.length ≤ 8 := ⟨_, rfl, by simp [putOne, mayB, be_length]⟩
  obtain ⟨x2, hx2, hl2⟩ : ∃ x, x = putOne (p.time, 4) ∧ x.length ≤ 8 := ⟨_, rfl, by simp [putOne, mayB, be_length]⟩
  obtain ⟨x3, hx3, hl3⟩ : ∃ x, x = putOne (p.ssrc, 4) ∧ x.length ≤ 8 := ⟨_, rfl, by simp [putOne, mayB, be_length]⟩
  rw [← hx1] at HC1 HHEAD
  rw [← hx2] at HC2 HHEAD
  rw [← hx3] at HC3 HHEAD
  clear hx1 hx2 hx3
  generalize UInt8.ofNat F3 = ua at *
  generalize UInt8.ofNat p.second = ub at *
  go_upto_region 14 with fail
  refine' wp_region_tail 21 21 63 Le (Is _ :: Is _ :: Is _ :: Is _ :: (fun v W => ∃ (g : Nat) (x y : Int), v = .slice (some ⟨g, 0, none⟩) 2 2 ∧ x = (ua.toNat : Int) ∧ y = (ub.toNat : Int) ∧ W.heap[g]? = some (.cells #[.int .u8 x, .int .u8 y] 5 (0, 0))) :: Is _ :: Is _ :: Is _ :: Is _ :: Is _ :: Is _ :: Is _ :: Is _ :: Is _ :: Is _ :: Is _ :: Is _ :: Is _ :: Is _ :: Is _ :: Is _ :: []) ([] :: [0] :: [] :: [2] :: [1, 3] :: [4] :: [] :: [6] :: [7] :: [8] :: [5, 9] :: [] :: [11] :: [12] :: [13] :: [10, 14] :: [] :: [16] :: [17] :: [18] :: [15, 19] :: []) (by kernel_rfl) (by kernel_rfl) (by rfl) (by kernel_rfl) (by kernel_rfl) Le.refl (fun _ _ _ h h' => h.trans h') ⟨St.is, St.is, St.is, St.is, (fun v w w' h ⟨g, x, y, e1, e2, e3, e4⟩ => ⟨g, x, y, e1, e2, e3, h.heap e4⟩), St.is, St.is, St.is, St.is, St.is, St.is, St.is, St.is, St.is, St.is, St.is, St.is, St.is, St.is, St.is, St.is, trivial⟩ ?m14
  case m14 =>
    simp (maxSteps := 100000000) only [AllV, Obl2, Leans, factAt, allFacts, actOf, putAll, putRow, List.set_cons_succ, List.set_cons_zero, List.getElem?_cons_zero, List.getElem?_cons_succ, List.take_succ_cons, List.take_zero, List.drop_succ_cons, List.drop_zero, List.cons_append, List.nil_append, List.length_cons, List.length_nil, Nat.reduceAdd]
    intro x0 x1 x2 x3 x4 x5 x6 x7 x8 x9 x10 x11 x12 x13 x14 x15 x16 x17 x18 x19 x20
    refine ⟨⟨?_, ?_, ?_, ?_, ?_, ?_, ?_, ?_, ?_, ?_, ?_, ?_, ?_, ?_, ?_, ?_, ?_, ?_, ?_, ?_, ?_, trivial⟩, ?_⟩
    -- 0: 63 := Op.move t7
    · intro wo hw  K hK; go_simp; exact hK _ _ (Le.refl _) (Is.mk _ _)
    -- 1: 64 := Op.convert 3 5 t63
    · intro wo hw h0 K hK; cases h0; go_simp; exact hK _ _ (Le.refl _) (Is.mk _ _)
    -- 2: 65 := Op.move t8
    · intro wo hw  K hK; go_simp; exact hK _ _ (Le.refl _) (Is.mk _ _)
    -- 3: 66 := Op.convert 3 5 t65
    · intro wo hw h2 K hK; cases h2; go_simp; exact hK _ _ (Le.refl _) (Is.mk _ _)
    -- 4: 67 := Op.buildSlice 44 2 #[(0, t64), (1, t66)]
    · intro wo hw h1 h3 K hK; cases h1; cases h3; go_simp; exact hK _ _ ((Le.refl _).alloc _) ⟨_, _, _, rfl, by go_num, by go_num, heap_alloc_new _ _⟩
    -- 5: 68 := Op.convert 44 9 t67
    · intro wo hw h4 K hK; obtain ⟨g, zx, zy, rfl, hzx, hzy, hg⟩ := h4; have hcv := conv_two hzx hzy hg; go_simp; exact hK _ _ (Le.refl _) (Is.mk _ _)
    -- 6: 69 := Op.fieldAddr 57 t1 2
    · intro wo hw  K hK; go_simp; exact hK _ _ (Le.refl _) (Is.mk _ _)
    -- 7: 70 := Op.load 39 t69
    · intro wo hw h6 K hK; cases h6; have kk := box_cell (hw.heap HB1.out) 2 (.int .u16 p.seq) rfl wo (Le.refl _); go_simp; exact hK _ _ (Le.refl _) (Is.mk _ _)
    -- 8: 71 := Op.convert 39 119 t70
    · intro wo hw h7 K hK; cases h7; go_simp; exact hK _ _ (Le.refl _) (Is.mk _ _)
    -- 9: 72 := Op.call { value (Operand.func 61), args := #[t71, const (2:i64)], argTypes := #[119, 3] }
    · intro wo hw h8 K hK; cases h8; go_simp; refine (HC1.out _).mono ?_; rintro r w' ⟨rfl, hb'⟩; exact hK _ _ ⟨hb'⟩ (Is.mk _ _)
    -- 10: 73 := Op.binOp BinOp.add 9 t68 t72 9
    · intro wo hw h5 h9 K hK; cases h5; cases h9; refine cast (if_pos (show Region.wanted _ _ = true from rfl)).symm ?_; refine wp_cat 9 (.tmp 68) (.tmp 72) rfl rfl rfl Try.underlying9 (by simp <;> omega) ?_; exact hK _ _ (Le.refl _) (Is.mk _ _)
    -- 11: 74 := Op.fieldAddr 57 t1 3
    · intro wo hw  K hK; go_simp; exact hK _ _ (Le.refl _) (Is.mk _ _)
    -- 12: 75 := Op.load 22 t74
    · intro wo hw h11 K hK; cases h11; have kk := box_cell (hw.heap HB1.out) 3 (.int .u32 p.time) rfl wo (Le.refl _); go_simp; exact hK _ _ (Le.refl _) (Is.mk _ _)
    -- 13: 76 := Op.convert 22 119 t75
    · intro wo hw h12 K hK; cases h12; go_simp; exact hK _ _ (Le.refl _) (Is.mk _ _)
    -- 14: 77 := Op.call { value (Operand.func 61), args := #[t76, const (4:i64)], argTypes := #[119, 3] }
    · intro wo hw h13 K hK; cases h13; go_simp; refine (HC2.out _).mono ?_; rintro r w' ⟨rfl, hb'⟩; exact hK _ _ ⟨hb'⟩ (Is.mk _ _)
    -- 15: 78 := Op.binOp BinOp.add 9 t73 t77 9
    · intro wo hw h10 h14 K hK; cases h10; cases h14; refine cast (if_pos (show Region.wanted _ _ = true from rfl)).symm ?_; refine wp_cat 9 (.tmp 73) (.tmp 77) rfl rfl rfl Try.underlying9 (by simp <;> omega) ?_; exact hK _ _ (Le.refl _) (Is.mk _ _)
    -- 16: 79 := Op.fieldAddr 57 t1 4
    · intro wo hw  K hK; go_simp; exact hK _ _ (Le.refl _) (Is.mk _ _)
    -- 17: 80 := Op.load 22 t79
    · intro wo hw h16 K hK; cases h16; have kk := box_cell (hw.heap HB1.out) 4 (.int .u32 p.ssrc) rfl wo (Le.refl _); go_simp; exact hK _ _ (Le.refl _) (Is.mk _ _)
    -- 18: 81 := Op.convert 22 119 t80
    · intro wo hw h17 K hK; cases h17; go_simp; exact hK _ _ (Le.refl _) (Is.mk _ _)
    -- 19: 82 := Op.call { value (Operand.func 61), args := #[t81, const (4:i64)], argTypes := #[119, 3] }
    · intro wo hw h18 K hK; cases h18; go_simp; refine (HC3.out _).mono ?_; rintro r w' ⟨rfl, hb'⟩; exact hK _ _ ⟨hb'⟩ (Is.mk _ _)
    -- 20: 83 := Op.binOp BinOp.add 9 t78 t82 9
    · intro wo hw h15 h19 K hK; cases h15; cases h19; refine cast (if_pos (show Region.wanted _ _ = true from rfl)).symm ?_; refine wp_cat 9 (.tmp 78) (.tmp 82) rfl rfl rfl Try.underlying9 (by simp <;> omega) ?_; exact hK _ _ (Le.refl _) (Is.mk _ _)
    · intro wz hz h0 h1 h2 h3 h4 h5 h6 h7 h8 h9 h10 h11 h12 h13 h14 h15 h16 h17 h18 h19 h20; cases h0; cases h1; cases h2; cases h3; obtain ⟨g, zx, zy, rfl, hzx, hzy, hg⟩ := h4; cases h5; cases h6; cases h7; cases h8; cases h9; cases h10; cases h11; cases h12; cases h13; cases h14; cases h15; cases h16; cases h17; cases h18; cases h19; cases h20; skip
      have HZ := hide hz
      clear HC1 HC2 HC3 hwa hwb hq3 hq4 hq5 hz hg hzx hzy hl1 hl2 hl3 k5 k6 k8
      have HBZ := hide (HZ.out.heap HB1.out)
      have HLZ := hide (HL1.out.drew.trans HZ.out)
      clear HZ HB1 HL1
      have hhl := HHEAD.out.2
      have hhd : [ua, ub] ++ (x1 ++ (x2 ++ x3)) = p.head := by rw [HHEAD.out.1]; simp
      simp only [List.append_assoc, List.cons_append, List.nil_append] at hhd ⊢
      try rw [hhd]
      clear HHEAD hhd
      obtain ⟨HD, hHD⟩ : ∃ HD, HD = p.head := ⟨_, rfl⟩
      rw [← hHD] at hhl ⊢
      have HHD := hide hHD
      clear hHD
      have hlc : p.csrc.length ≤ 15 := HM.out.2.1
      go_wp2_with fail
      go_loopw [9, 10] (fun v j wr => ∃ k : Nat, k ≤ p.csrc.length ∧ j = .int .i64 k ∧ v = .string (str (HD ++ csB (p.csrc.take k))) ∧ Le wz wr) (fun _ j _ => p.csrc.length - (intOf j).toNat)
      case atStart => exact ⟨0, Nat.zero_le _, rfl, by simp [csB], Le.refl _⟩
      case round =>
        obtain ⟨k, hk, rfl, rfl, hle⟩ := hrel
        have k5 := box_cell HBZ.out 5 (.slice A5 p.csrc.length c5) rfl wr hle
        by_cases hlt : k < p.csrc.length
        · obtain ⟨b, off, hA5⟩ := rsl_addr H5.out (by omega)
          subst hA5
          have ck := HLZ.out.trans hle |>.cell (rnat_at H5.out k hlt)
          have HN := hide (fun W => rnum_any p.csrc[k] 4 W (by have := HOK.out.csrc _ (List.getElem_mem hlt); omega))
          have HT := hide (csB_take1 p.csrc k hlt)
          have hq : IntKind.u64.wrap (p.csrc[k] : Int) = p.csrc[k] := by have := HOK.out.csrc _ (List.getElem_mem hlt); simp [IntKind.wrap, IntKind.signed, IntKind.bits]; omega
          obtain ⟨x4, hx4, hl4⟩ : ∃ x, x = putOne (p.csrc[k], 4) ∧ x.length ≤ 8 := ⟨_, rfl, by simp [putOne, mayB, be_length]⟩
          rw [← hx4] at HN HT
          clear hx4
          generalize p.csrc[k] = y at *
          have hcl := csB_len (p.csrc.take k)
          have hcl2 : (csB (p.csrc.take k)).length ≤ 60 := by rw [hcl]; have := List.length_take_le k p.csrc; omega
          clear hcl
          have hltI : (k : Int) < (p.csrc.length : Int) := by omega
          have h0I : (0 : Int) ≤ (k : Int) := by omega
          have HLE2 := hide hle
          clear hle
          go_wp2_with fail
          refine (HN.out _).mono ?_
          rintro e w2 ⟨rfl, hb⟩
          go_wp2_with fail
          go_roundw
          case rel => exact ⟨k + 1, by omega, by go_num, by rw [HT.out], HLE2.out.trans ⟨hb⟩⟩
          case measure => simp [intOf]; omega
        · have hltI : ¬ (k : Int) < (p.csrc.length : Int) := by omega
          obtain rfl : k = p.csrc.length := by omega
          rw [List.take_length]
          have hcl : (csB p.csrc).length ≤ 60 := by rw [csB_len]; omega
          obtain ⟨L1, hL1⟩ : ∃ L1, L1 = HD ++ csB p.csrc := ⟨_, rfl⟩
          have hl1 : L1.length ≤ 80 := by rw [hL1, List.length_append]; omega
          rw [← hL1]
          have HL1 := hide hL1
          clear hL1 hcl hhl
          have k6 := box_cell HBZ.out 6 (.slice A6 N6 c6) rfl wr hle
          have HLE2 := hide hle
          clear hle hlt
          go_upto_if 103 with fail
          clear k5
          obtain ⟨L2, hL2⟩ : ∃ L2, L2 = L1 ++ p.extP := ⟨_, rfl⟩
          have HL2 := hide hL2
          go_cut [9] (fun v wx => v = .string (str L2) ∧ Le wr wx)
          case first =>
            by_cases hx : N6 = 0
            · have e : L2 = L1 := by rw [hL2, Pk.extP, if_pos (HN6.out.2.2 hx)]; simp
              have HE2 := hide e
              clear e hL2
              subst hx
              go_wp2_with fail
              go_meet
              exact ⟨by rw [HE2.out], Le.refl _⟩
            · have hx1 : (0 : Int) < N6 := by omega
              have e := HEXT.out (fun e => hx (HN6.out.2.1 e))
              have hpr := HPROF.out
              have HN1 := hide (fun W => rnum_any PR 2 W (by omega))
              have HN2 := hide (fun W => rnum_any (EB.length / 4) 2 W (by omega))
              have hq1 : IntKind.u64.wrap (PR : Int) = PR := by simp [IntKind.wrap, IntKind.signed, IntKind.bits]; omega
              have hq2 : IntKind.u64.wrap ((EB.length / 4 : Nat) : Int) = ((EB.length / 4 : Nat) : Int) := by simp [IntKind.wrap, IntKind.signed, IntKind.bits]; omega
              have hdv : (EB.length : Int).tdiv 4 = ((EB.length / 4 : Nat) : Int) := rfl
              obtain ⟨x4, hx4, hl4⟩ : ∃ x, x = putOne (PR, 2) ∧ x.length ≤ 8 := ⟨_, rfl, by simp [putOne, mayB, be_length]⟩
              obtain ⟨x5, hx5, hl5⟩ : ∃ x, x = putOne (EB.length / 4, 2) ∧ x.length ≤ 8 := ⟨_, rfl, by simp [putOne, mayB, be_length]⟩
              rw [← hx4] at HN1 e
              rw [← hx5] at HN2 e
              rw [e] at hL2
              have HE2 := hide hL2
              clear hx4 hx5 e hL2 hx hpr
              go_wp2_with fail
              refine (HN1.out _).mono ?_
              rintro e w2 ⟨rfl, hb2⟩
              have H2 := hide (Le.mk hb2)
              clear hb2
              go_wp2_with fail
              refine (HN2.out _).mono ?_
              rintro e w3 ⟨rfl, hb3⟩
              have H3 := hide (H2.out.trans ⟨hb3⟩)
              clear hb3
              go_wp2_with fail
              go_meet
              exact ⟨by rw [HE2.out]; simp, H3.out⟩
          obtain ⟨rfl, hwc⟩ := hcut
          have HLC := hide (HLE2.out.trans hwc)
          clear hwc hL2 k6
          generalize wc = w4 at *
          have hl2 : L2.length ≤ 20000000 := by
            rw [HL2.out, List.length_append]
            by_cases hx : p.exts = []
            · rw [Pk.extP, if_pos hx]; simp; omega
            · rw [HEXT.out hx]; simp [putOne, mayB, be_length]; omega
          have k7 := box_cell HBZ.out 7 (.string (str p.payload)) rfl w4 HLC.out
          have hpl := HOK.out.np
          obtain ⟨L3, hL3⟩ : ∃ L3, L3 = L2 ++ p.payload := ⟨_, rfl⟩
          have hl3 : L3.length ≤ 20200000 := by rw [hL3, List.length_append]; omega
          have HBYTES := hide (show p.bytes = L3 ++ p.padB by rw [hL3, HL2.out, HL1.out, HHD.out, Pk.bytes])
          have hpn := HM.out.2.2.1
          have hpa := padAt_all p pn hpn
          have HPA := hide hpa
          have hp255 : pn ≤ 255 := by omega
          go_upto_region 22 with fail
          rw [← hL3]
          clear hL3 k7 hpa
          have hpr := HM.out.2.2.1
          clear hpr hpn
          go_wp2_with fail
          go_loopw [9, 11] (fun v j wr => ∃ k : Nat, k ≤ pn ∧ j = .int .i64 k ∧ v = .string (str (L3 ++ padAt pn k)) ∧ Le w4 wr) (fun _ j _ => pn - (intOf j).toNat)
          case atStart => exact ⟨0, Nat.zero_le _, rfl, by rw [padAt_zero]; simp, Le.refl _⟩
          case round =>
            obtain ⟨k, hk, rfl, rfl, hle⟩ := hrel
            have k8 := box_cell HBZ.out 8 (.int .i64 p.pad) rfl wr (HLC.out.trans hle)
            have hpn := HM.out.2.2.1
            have hpal := padAt_len pn k
            rw [hpn] at k8
            clear hpn
            by_cases hlt : k < pn
            · have hltI : (k : Int) < (pn : Int) := by omega
              by_cases hlast : k + 1 < pn
              · have hlI : (k : Int) + 1 < (pn : Int) := by omega
                have HT := hide (padAt_nought hlast)
                have HLE3 := hide hle
                obtain ⟨T, hT⟩ : ∃ T, T = L3 ++ padAt pn k := ⟨_, rfl⟩
                have hTl : T.length ≤ 21000000 := by rw [hT, List.length_append]; omega
                rw [← hT]
                have hcc : str T ++ (⟨#[0]⟩ : ByteArray) = str (T ++ [0]) := str_app T [0]
                have HTT := hide hT
                clear hT hle hpal
                go_wp2_with fail
                go_roundw
                case rel => exact ⟨k + 1, by omega, by go_num, by rw [HT.out, HTT.out]; simp, HLE3.out⟩
                case measure => simp [intOf]; omega
              · have hlI : ¬ (k : Int) + 1 < (pn : Int) := by omega
                have HT := hide (padAt_last (show k + 1 = pn by omega))
                have HLE3 := hide hle
                obtain ⟨T, hT⟩ : ∃ T, T = L3 ++ padAt pn k := ⟨_, rfl⟩
                have hTl : T.length ≤ 21000000 := by rw [hT, List.length_append]; omega
                rw [← hT]
                have hwp : IntKind.u8.wrap (pn : Int) = (pn : Int) := by simp [IntKind.wrap, IntKind.signed, IntKind.bits]; omega
                have hc := conv_one (P := Try.prog) wr 44 9 5 5 (pn : Int) Try.underlying44 Try.underlying5 Try.underlying9 (by omega) (by omega)
                have HTT := hide hT
                clear hT hle hpal
                go_wp2_with fail
                go_roundw
                case rel => exact ⟨k + 1, by omega, by go_num, by rw [HT.out, HTT.out]; simp, HLE3.out.alloc _⟩
                case measure => simp [intOf]; omega
            · have hltI : ¬ (k : Int) < (pn : Int) := by omega
              obtain rfl : k = pn := by omega
              have hby : L3 ++ padAt k k = p.bytes := by rw [HBYTES.out, HPA.out]
              have hbl : p.bytes.length ≤ 21000000 := by rw [← hby, List.length_append]; omega
              rw [hby]
              have HLE3 := hide (HLZ.out.trans (HLC.out.trans hle))
              have hout : p.out = if p.err = 0 then p.bytes else [] := rfl
              have herr := HERR.out
              have HRR := HR
              by_cases hbig : (1500 : Int) < (p.bytes.length : Int)
              · rw [if_pos hbig] at herr
                rw [hout, herr, if_neg (by decide)] at HRR
                clear hle hby hpal hout herr
                go_wp2_with fail
                go_ret2
                rw [HRR.out]
                exact ⟨rfl, HLE3.out.out⟩
              · rw [if_neg hbig] at herr
                rw [hout, herr, if_pos rfl] at HRR
                clear hle hby hpal hout herr
                go_wp2_with fail
                go_ret2
                rw [HRR.out]
                exact ⟨rfl, HLE3.out.out⟩
end Go.Proofs.Ytekioihjfggmdaa

/- down: what is sent. -/
namespace Go.Proofs.Ytekioihjfggmdaa
open Go.RowKit
set_option linter.unusedVariables false

theorem vpWr_length {b : List UInt8} (h : vpE b = 0) (pic tl0 : Nat) : (vpWr b pic tl0).length = b.length := by
  rw [vpWr, if_pos h, wrT_len, wrP_len]
theorem renum_err {p : Pk} (hp : p.err = 0) (hv : vpE p.payload = 0) (n : Nm) (ssrc : Nat) : (p.renum n ssrc).err = 0 := by
  rw [← hp]
  simp only [Pk.err, Pk.may, Pk.size, Pk.renum, vpWr_length hv]
  rfl
end Go.Proofs.Ytekioihjfggmdaa

/- DownAgain: the plain law of the store; strings made bytes. -/
namespace Go.Proofs.Ytekioihjfggmdaa
open Go.RowKit
set_option linter.unusedVariables false

def pZ : Pk := ⟨false, 0, 0, 0, 0, [], [], [], 0⟩
/-- i is the last place at which a packet of this Seq stands -/
structure LastAt (ps : List Pk) (q i : Nat) : Prop where
  lt : i < ps.length
  eq : (ps.getD i pZ).seq = q
  ne : ∀ j, i < j → j < ps.length → (ps.getD j pZ).seq ≠ q
theorem getD_snoc_lt {α : Type} (l : List α) (x d : α) {i : Nat} (h : i < l.length) : (l ++ [x]).getD i d = l.getD i d := by
  simp [List.getD, List.getElem?_append_left h]
theorem getD_snoc_eq {α : Type} (l : List α) (x d : α) : (l ++ [x]).getD l.length d = x := by
  simp [List.getD]
/-- the store behind what was sent -/
structure Ag (s : St) (ps : List Pk) : Prop where
  pos : 0 < s.room
  len : s.ring.length = s.room
  at_ : s.at_ = ps.length % s.room
  n : s.n = min ps.length s.room
  ring : ∀ i, i < ps.length → ps.length ≤ i + s.room → s.ring.getD (i % s.room) (0, []) = ((ps.getD i pZ).seq, (ps.getD i pZ).bytes)
  wh : ∀ q i, LastAt ps q i → s.wh q = if ps.length ≤ i + s.room then some (i % s.room) else none
  no : ∀ q, (∀ i, i < ps.length → (ps.getD i pZ).seq ≠ q) → s.wh q = none
theorem Ag.new {room : Nat} (h : 0 < room) : Ag (St.new room) [] :=
  ⟨h, by simp [St.new], by simp [St.new], by simp [St.new], fun i hi => by simp at hi, fun q i hl => by have := hl.lt; simp at this, fun q _ => rfl⟩
theorem mod_ne {i j r : Nat} (h1 : i < j) (h2 : j < i + r) : i % r ≠ j % r := by
  intro h
  have hr : 0 < r := by omega
  have a := Nat.div_add_mod i r
  have b := Nat.div_add_mod j r
  rw [h] at a
  have hc : r * (i / r) < r * (j / r) := by omega
  have hc' : i / r < j / r := Nat.lt_of_mul_lt_mul_left hc
  have hd : r * (i / r + 1) ≤ r * (j / r) := Nat.mul_le_mul_left _ hc'
  rw [Nat.mul_add] at hd
  omega
theorem Ag.add {s : St} {ps : List Pk} (h : Ag s ps) (p : Pk) : Ag (s.add p.seq p.bytes) (ps ++ [p]) := by
  have hp := h.pos
  have hat : s.at_ < s.room := by rw [h.at_]; exact Nat.mod_lt _ hp
  have hlen : (ps ++ [p]).length = ps.length + 1 := by simp
  have hw1 : ∀ q i, LastAt ps q i → s.wh1 q = if ps.length + 1 ≤ i + s.room then some (i % s.room) else none := by
    intro q i hl
    have hi := hl.lt
    have hwq := h.wh q i hl
    unfold St.wh1
    by_cases hfull : s.room ≤ ps.length
    · have hn : s.n = s.room := by rw [h.n]; omega
      obtain ⟨i0, hi0⟩ : ∃ i0, i0 = ps.length - s.room := ⟨_, rfl⟩
      have h0 : i0 < ps.length := by omega
      have hm : i0 % s.room = s.at_ := by
        rw [h.at_, show ps.length = i0 + s.room by omega, Nat.add_mod_right]
      have hr0 := h.ring i0 h0 (by omega)
      rw [hm] at hr0
      rw [hr0]
      dsimp only
      by_cases hq : q = (ps.getD i0 pZ).seq
      · subst hq
        by_cases hii : i = i0
        · subst hii
          rw [if_pos (by omega)] at hwq
          rw [if_pos ⟨hn, by rw [hwq, hm]⟩, mupd_same, if_neg (by omega)]
        · have hlt : i0 < i := by
            rcases Nat.lt_or_ge i i0 with hc | hc
            · exact absurd rfl (hl.ne i0 hc h0)
            · omega
          rw [if_pos (by omega)] at hwq
          rw [if_neg (by
            rintro ⟨_, hc⟩
            rw [hwq] at hc
            injection hc with hc
            rw [← hm] at hc
            exact mod_ne hlt (by omega) hc.symm), hwq, if_pos (by omega)]
      · have hii : i ≠ i0 := by
          rintro rfl
          exact hq hl.eq.symm
        have e : (if ps.length ≤ i + s.room then some (i % s.room) else none) = if ps.length + 1 ≤ i + s.room then some (i % s.room) else none := by
          by_cases hc : ps.length ≤ i + s.room
          · rw [if_pos hc, if_pos (by omega)]
          · rw [if_neg hc, if_neg (by omega)]
        rw [← e, ← hwq]
        split
        · exact mupd_ne hq
        · rfl
    · have hn : s.n = ps.length := by rw [h.n]; omega
      rw [if_neg (by rintro ⟨hc, _⟩; omega), hwq, if_pos (by omega), if_pos (by omega)]
  refine ⟨hp, by simp [St.add, h.len], ?_, ?_, ?_, ?_, ?_⟩
  · simp only [St.add, hlen, h.at_]
    rw [Nat.mod_add_mod]
  · simp only [St.add, hlen, h.n]
    omega
  · intro i hi hw
    rw [hlen] at hi hw
    simp only [St.add]
    simp only [St.add] at hw
    rcases Nat.lt_or_ge i ps.length with hlt | hge
    · rw [getD_snoc_lt _ _ _ hlt, List.getD, List.getElem?_set, if_neg (by rw [h.at_]; intro e; exact mod_ne hlt (by omega) e.symm)]
      exact h.ring i hlt (by omega)
    · obtain rfl : i = ps.length := by omega
      rw [getD_snoc_eq, List.getD, List.getElem?_set, if_pos h.at_, if_pos (by rw [h.len]; exact hat)]
      rfl
  · intro q i hl
    have hi := hl.lt
    rw [hlen] at hi ⊢
    show mupd s.wh1 p.seq (some s.at_) q = if ps.length + 1 ≤ i + s.room then some (i % s.room) else none
    by_cases hq : q = p.seq
    · subst hq
      rw [mupd_same]
      have : i = ps.length := by
        rcases Nat.lt_or_ge i ps.length with hc | hc
        · exact absurd (by rw [getD_snoc_eq]) (hl.ne ps.length hc (by omega))
        · omega
      subst this
      rw [if_pos (by omega), h.at_]
    · rw [mupd_ne hq]
      have hlt : i < ps.length := by
        rcases Nat.lt_or_ge i ps.length with hc | hc
        · exact hc
        · obtain rfl : i = ps.length := by omega
          have := hl.eq
          rw [getD_snoc_eq] at this
          exact absurd this.symm hq
      refine hw1 q i ⟨hlt, by rw [← hl.eq, getD_snoc_lt _ _ _ hlt], fun j h1 h2 => ?_⟩
      have := hl.ne j h1 (by omega)
      rwa [getD_snoc_lt _ _ _ h2] at this
  · intro q hq
    have h1 : q ≠ p.seq := by
      have := hq ps.length (by omega)
      rw [getD_snoc_eq] at this
      exact fun e => this e.symm
    have h2 : s.wh q = none := h.no q fun i hi => by
      have := hq i (by omega)
      rwa [getD_snoc_lt _ _ _ hi] at this
    simp only [St.add]
    rw [mupd_ne h1]
    unfold St.wh1
    split
    · simp only [mupd]
      split
      · rfl
      · exact h2
    · exact h2
theorem Ag.get {s : St} {ps : List Pk} (h : Ag s ps) {q i : Nat} (hl : LastAt ps q i) : s.get q = if ps.length ≤ i + s.room then some (ps.getD i pZ).bytes else none := by
  rw [St.get, h.wh q i hl]
  split
  · next hc =>
    rw [Option.map_some, h.ring i hl.lt hc]
  · rfl

end Go.Proofs.Ytekioihjfggmdaa

/- DownPlays: rows that are kept, in plain Lean; the reference's numbers. -/
namespace Go.Proofs.Ytekioihjfggmdaa
open Go.RowKit
set_option linter.unusedVariables false

abbrev Kp := List (Nat × List UInt8)
def kAdd (K : Kp) (room seq : Nat) (b : List UInt8) : Kp := if room < (K ++ [(seq, b)]).length then (K ++ [(seq, b)]).drop 1 else K ++ [(seq, b)]
/-- the last one of a Seq -/
def LastIn (K : Kp) (q : Nat) (r : Option (List UInt8)) : Prop :=
  (∃ b i, r = some b ∧ K[i]? = some (q, b) ∧ ∀ (j : Nat) (x : Nat × List UInt8), i < j → K[j]? = some x → x.1 ≠ q) ∨ (r = none ∧ ∀ (j : Nat) (x : Nat × List UInt8), K[j]? = some x → x.1 ≠ q)
def kOf (room : Nat) (ps : List Pk) : Kp := (ps.drop (ps.length - room)).map fun p => (p.seq, p.bytes)
theorem kOf_len (room : Nat) (ps : List Pk) : (kOf room ps).length = min ps.length room := by simp [kOf]; omega
theorem kOf_add {room : Nat} (h : 0 < room) (ps : List Pk) (p : Pk) : kAdd (kOf room ps) room p.seq p.bytes = kOf room (ps ++ [p]) := by
  have hl := kOf_len room ps
  unfold kAdd
  have e : kOf room ps ++ [(p.seq, p.bytes)] = (((ps ++ [p]).drop (ps.length - room)).map fun p => (p.seq, p.bytes)) := by
    rw [List.drop_append_of_le_length (by omega)]
    simp [kOf]
  rw [List.length_append, hl]
  simp only [List.length_cons, List.length_nil]
  by_cases hr : room ≤ ps.length
  · rw [if_pos (by omega), e, ← List.map_drop, List.drop_drop, kOf, List.length_append]
    simp only [List.length_cons, List.length_nil]
    congr 2
    omega
  · rw [if_neg (by omega), e, kOf, List.length_append]
    simp only [List.length_cons, List.length_nil]
    congr 2
    omega
theorem kOf_get (room : Nat) (ps : List Pk) (i : Nat) (x : Nat × List UInt8) (h : (kOf room ps)[i]? = some x) :
    ps.length - room + i < ps.length ∧ x = ((ps.getD (ps.length - room + i) pZ).seq, (ps.getD (ps.length - room + i) pZ).bytes) := by
  rw [kOf, List.getElem?_map, List.getElem?_drop] at h
  cases hk : ps[ps.length - room + i]? with
  | none => rw [hk] at h; cases h
  | some p =>
    rw [hk] at h
    have hlt := (List.getElem?_eq_some_iff.1 hk).1
    refine ⟨hlt, ?_⟩
    rw [List.getD, hk]
    simpa using h.symm
theorem kOf_at (room : Nat) (ps : List Pk) {i : Nat} (h1 : ps.length ≤ i + room) (h2 : i < ps.length) : (kOf room ps)[i - (ps.length - room)]? = some ((ps.getD i pZ).seq, (ps.getD i pZ).bytes) := by
  rw [kOf, List.getElem?_map, List.getElem?_drop, show ps.length - room + (i - (ps.length - room)) = i by omega, List.getElem?_eq_getElem h2, List.getD, List.getElem?_eq_getElem h2]
  rfl
theorem last_ex {ps : List Pk} {q : Nat} (h : ∃ i, i < ps.length ∧ (ps.getD i pZ).seq = q) : ∃ i, LastAt ps q i := by
  obtain ⟨i, hi, hq⟩ := h
  obtain ⟨m, hm⟩ : ∃ m, m = ps.length - i := ⟨_, rfl⟩
  induction m using Nat.strongRecOn generalizing i with
  | _ m ih =>
    by_cases hex : ∃ j, i < j ∧ j < ps.length ∧ (ps.getD j pZ).seq = q
    · obtain ⟨j, h1, h2, h3⟩ := hex
      exact ih (ps.length - j) (by omega) j h2 h3 rfl
    · exact ⟨i, hi, hq, fun j h1 h2 h3 => hex ⟨j, h1, h2, h3⟩⟩
/-- what the store tells is the last one that is kept -/
theorem ag_last {s : St} {ps : List Pk} (h : Ag s ps) {q : Nat} {r : Option (List UInt8)} (hr : LastIn (kOf s.room ps) q r) : s.get q = r := by
  rcases hr with ⟨b, i, rfl, hi, hn⟩ | ⟨rfl, hn⟩
  · obtain ⟨hlt, hx⟩ := kOf_get _ _ _ _ hi
    injection hx with hx1 hx2
    have hl : LastAt ps q (ps.length - s.room + i) := ⟨hlt, hx1.symm, fun j hj hj2 => by
      have := hn (j - (ps.length - s.room)) _ (by omega) (kOf_at s.room ps (by omega) hj2)
      exact this⟩
    have hw := h.wh q _ hl
    rw [if_pos (by omega)] at hw
    rw [St.get, hw, Option.map_some, h.ring _ hlt (by omega), hx2]
  · by_cases hex : ∃ i, i < ps.length ∧ (ps.getD i pZ).seq = q
    · obtain ⟨i, hl⟩ := last_ex hex
      have hw := h.wh q i hl
      rw [if_neg (fun hc => hn _ _ (kOf_at s.room ps hc hl.lt) hl.eq)] at hw
      rw [St.get, hw]
      rfl
    · have hw := h.no q (fun i hi e => hex ⟨i, hi, e⟩)
      rw [St.get, hw]
      rfl

/-- numbers, as the reference has them -/
theorem fromN_16 (a b : Nat) (ha : a < 65536) (hb : b < 65536) : fromN 65536 a b = if (32768 : Int) ≤ (if (b : Int) - a < -32768 then (b : Int) - a + 65536 else (b : Int) - a) then (if (b : Int) - a < -32768 then (b : Int) - a + 65536 else (b : Int) - a) - 65536 else (if (b : Int) - a < -32768 then (b : Int) - a + 65536 else (b : Int) - a) := by
  unfold fromN
  split <;> split <;> split <;> omega
theorem fromN_32 (a b : Nat) (ha : a < 4294967296) (hb : b < 4294967296) : fromN 4294967296 a b = if (2147483648 : Int) ≤ (if (b : Int) - a < -2147483648 then (b : Int) - a + 4294967296 else (b : Int) - a) then (if (b : Int) - a < -2147483648 then (b : Int) - a + 4294967296 else (b : Int) - a) - 4294967296 else (if (b : Int) - a < -2147483648 then (b : Int) - a + 4294967296 else (b : Int) - a) := by
  unfold fromN
  split <;> split <;> split <;> omega
end Go.Proofs.Ytekioihjfggmdaa

/- The reference's rows that are kept: louverref10. -/
namespace Go.Proofs.Ytekioihjfggmdaa
open Go.RowKit
set_option linter.unusedVariables false

def REn : Rd (Nat × List UInt8) := fun _ x cs => cs = [.int .u16 x.1, .string (str x.2)]
theorem keeps_en : Keeps REn := fun _ _ _ _ h _ => h
def encE (x : Nat × List UInt8) : List Value := [.int .u16 x.1, .string (str x.2)]
theorem encE_len (K : Kp) : (K.flatMap encE).length = K.length * 2 := by
  induction K with
  | nil => rfl
  | cons x K ih => rw [List.flatMap_cons, List.length_append, ih]; simp [encE]; omega
theorem encE_one (K : Kp) : ∀ u ∈ K.flatMap encE, u.oneCell' = true := by
  intro u hu
  obtain ⟨x, _, hx⟩ := List.mem_flatMap.1 hu
  simp only [encE, List.mem_cons, List.not_mem_nil, or_false] at hx
  rcases hx with rfl | rfl <;> rfl
theorem slE10 : SlT Try.prog 34 66 (.agg #[.int .u16 0, .string ByteArray.empty]) 2 24 := ⟨Try.underlying34, by kernel_rfl, rfl, by omega⟩
theorem cells_of_en {w : World} {l : Kp} {A : Option Addr} {n cap : Nat} (h : RSl 2 REn w l (.slice A n cap)) : Cells w A (l.flatMap encE) := by
  intro hne
  obtain ⟨A', cap', hv, _, hr⟩ := h
  injection hv with hA _ _
  obtain ⟨b, off, hA', hi⟩ := hr (by rintro rfl; exact hne rfl)
  refine ⟨b, off, hA.trans hA', fun j u hu => ?_⟩
  have hj : j < (l.flatMap encE).length := (List.getElem?_eq_some_iff.1 hu).1
  rw [encE_len] at hj
  have hi' : j / 2 < l.length := by omega
  obtain ⟨cs, _, hc, hR⟩ := hi (j / 2) hi'
  have h1 := flat_get encE 2 l (fun _ _ => rfl) (j / 2) hi' (j % 2) (by omega)
  rw [show j / 2 * 2 + j % 2 = j by omega] at h1
  have h2 := hc (j % 2) (by omega)
  rw [show off + j / 2 * 2 + j % 2 = off + j by omega] at h2
  simp only [REn] at hR
  rw [h2, hR, ← hu, h1]
  rfl
theorem rsl_dropN {α : Type} {size : Nat} {R : Rd α} {w : World} {l : List α} {b off n cap k : Nat} (h : RSl size R w l (.slice (some ⟨b, off, none⟩) n cap)) (hk : k ≤ l.length) : RSl size R w (l.drop k) (.slice (some ⟨b, off + k * size, none⟩) (n - k) (cap - k)) := by
  obtain ⟨A', cap', hv, hc, hr⟩ := h
  injection hv with e1 e2 e3
  subst e1 e2 e3
  refine ⟨some ⟨b, off + k * size, none⟩, cap - k, by simp, by simp; omega, fun hne => ⟨b, off + k * size, rfl, fun i hi => ?_⟩⟩
  have hi' : k + i < l.length := by simp at hi; omega
  obtain ⟨b', off', hA, hg⟩ := hr (by rintro rfl; simp at hi')
  injection hA with hA
  injection hA with e1 e2
  subst e1 e2
  obtain ⟨cs, h1, h2, h3⟩ := hg (k + i) hi'
  refine ⟨cs, h1, fun j hj => ?_, by simpa using h3⟩
  have := h2 j hj
  rw [← this, Nat.add_mul]
  congr 2
  omega

theorem rsl_of_ownE {w : World} {base n : Nat} {v : Value} {l : Kp} (h : w.ownsRow base 66 2 v n (l.flatMap encE)) : RSl 2 REn w l v := by
  obtain ⟨A, cap, rfl, hc, hcs⟩ := own_slice h
  have h1 := h.1
  rw [encE_len] at h1
  exact rsl_of_cells (by omega) hc (fun _ _ => rfl) (fun _ _ => rfl) (by omega) hcs

theorem RSl.off {α : Type} {size : Nat} {R : Rd α} (hR : ∀ w w' x cs, R w x cs → R w' x cs) {w w' : World} {l : List α} {A : Option Addr} {n cap g : Nat} (h : RSl size R w l (.slice A n cap)) (hg : w.grownBy w' (some g)) (hne : ∀ b off, A = some ⟨b, off, none⟩ → b ≠ g) : RSl size R w' l (.slice A n cap) := by
  obtain ⟨A', cap', hv, hc, hr⟩ := h
  refine ⟨A', cap', hv, hc, fun hn => ?_⟩
  injection hv with e1 e2 e3
  subst e1
  obtain ⟨b, off, hA, hi⟩ := hr hn
  refine ⟨b, off, hA, fun i h => ?_⟩
  obtain ⟨cs, hl, hcell, hRi⟩ := hi i h
  refine ⟨cs, hl, fun j hj => ?_, hR _ _ _ _ hRi⟩
  have h0 := hcell j hj
  have h1 : cs[j]? = some (cs[j]'(by omega)) := List.getElem?_eq_getElem (by omega)
  have hb := block_lt (h0.trans h1)
  rw [← h0]
  have := hg.block b hb (fun e => by injection e with e; exact hne b off hA e)
  simp only [World.cell?, this]

set_option maxRecDepth 100000 in
set_option maxHeartbeats 2000000 in
theorem radd_any (K : Kp) (A : Option Addr) (cap room seq : Nat) (b : List UInt8) (w : World) (hr : RSl 2 REn w K (.slice A K.length cap)) (hl : K.length ≤ 100000) (h0 : 0 < room) (hroom : room ≤ 100000) :
    Calls Try.prog 67 #[.slice A K.length cap, .int .i64 room, .int .u16 seq, .string (str b)] w fun e w' => ∃ A' cap', e = .returned (.slice A' (kAdd K room seq b).length cap') ∧ RSl 2 REn w' (kAdd K room seq b) (.slice A' (kAdd K room seq b).length cap') ∧ (∀ b off, A' = some ⟨b, off, none⟩ → w.heap.size ≤ b) ∧ Below w.heap.size w w' := by
  have hc := cells_of_en hr
  have HC := hide hc
  have hle := encE_len K
  have HO0 := hide (World.ownsRow_nil w w.heap.size 66 2)
  clear hr hc
  have HK := hide (show kAdd K room seq b = if room < K.length + 1 then (K ++ [(seq, b)]).drop 1 else K ++ [(seq, b)] by unfold kAdd; simp)
  go_enter Try.func67, Try.ntmps67
  go_wp2_with (at_builtin; go_must (first
    | (refine wpl_app rfl slE10 (.tmp 10) (.tmp 11) rfl HO0.out rfl rfl HC.out hle (encE_one K) (by omega) (by omega) (Nat.le_refl _) ?_; intro v1 w1 ho1 hg1 hat1; rw [Nat.zero_add, List.nil_append] at ho1; have HO1 := hide ho1; have hb1 := below_grown (Below.refl _ _) HO0.out hg1 (Nat.le_refl _) (Nat.le_refl _); have HB1 := hide hb1; obtain ⟨A1, cap1, hv1, _, _⟩ := own_slice ho1; subst hv1; clear ho1 hg1 hat1 hb1)
    | (refine wpl_app rfl slE10 (.tmp 13) (.tmp 17) rfl (own_below HO1.out ((Below.refl _ _).alloc (Nat.le_refl _) _) (Nat.le_refl _)) rfl rfl (news := encE (seq, b)) (cells_at rfl) rfl (by simp [encE, Value.oneCell']) (by omega) (by omega) (Nat.le_trans HB1.out.size (by simp)) ?_; intro v2 w2 ho2 hg2 hat2; have HO2 := hide ho2; have hb2 := below_grown (HB1.out.alloc HB1.out.size _) (own_below HO1.out ((Below.refl _ _).alloc (Nat.le_refl _) (.cells (encE (seq, b)).toArray 66)) (Nat.le_refl _)) hg2 (Nat.le_refl _) (Nat.le_trans HB1.out.size (by simp)); have HB2 := hide hb2; obtain ⟨A2, cap2, hv2, hcap2, hcs2⟩ := own_slice ho2; subst hv2; have HCS2 := hide hcs2; clear ho2 hg2 hat2 hb2)))
  · go_ret
    have ho := HO2.out
    obtain ⟨g, c, hv⟩ := own_some ho (by omega)
    injection hv with e1 e2 e3
    subst e1
    subst e3
    rw [show K.flatMap encE ++ encE (seq, b) = (K ++ [(seq, b)]).flatMap encE by simp] at ho
    have hr := rsl_dropN (k := 1) (rsl_of_ownE ho) (by simp)
    have hk : kAdd K room seq b = (K ++ [(seq, b)]).drop 1 := by rw [HK.out, if_pos (by omega)]
    have hl : (kAdd K room seq b).length = K.length := by rw [hk]; simp
    rw [← hk] at hr
    have hlt := (HO2.out.lt g rfl).1
    exact ⟨some ⟨g, 0 + 1 * 2, none⟩, cap2 - 1, by rw [hl]; rfl, by rw [hl]; exact hr, fun b off e => by injection e with e; injection e with e _ _; omega, HB2.out⟩
  · go_ret
    have ho := HO2.out
    rw [show K.flatMap encE ++ encE (seq, b) = (K ++ [(seq, b)]).flatMap encE by simp] at ho
    have hr := rsl_of_ownE ho
    have hk : kAdd K room seq b = K ++ [(seq, b)] := by rw [HK.out, if_neg (by omega)]
    have hl : (kAdd K room seq b).length = K.length + 1 := by rw [hk]; simp
    rw [← hk] at hr
    have hlt := fun k hk => (HO2.out.lt k hk).1
    obtain ⟨g, c, hv⟩ := own_some HO2.out (by omega)
    injection hv with e1 _ _
    subst e1
    exact ⟨_, cap2, by rw [hl]; rfl, by rw [hl]; exact hr, fun b off e => by injection e with e; injection e with e _ _; have := hlt g rfl; omega, HB2.out⟩

set_option maxRecDepth 100000 in
set_option maxHeartbeats 2000000 in
theorem rget_any (K : Kp) (A : Option Addr) (cap q : Nat) (w : World) (hr : RSl 2 REn w K (.slice A K.length cap)) (hl : K.length ≤ 100000) :
    Calls Try.prog 19 #[.slice A K.length cap, .int .u16 q] w fun e w' => ∃ r, LastIn K q r ∧ e = .returned (.tuple #[.string (str (r.getD [])), .bool r.isSome]) ∧ w = w' := by
  obtain ⟨A', cap', hv, _, hi⟩ := hr
  injection hv with e1 e2 e3
  clear e2
  subst e1 e3
  have HI := hide hi
  clear hi
  go_enter Try.func19, Try.ntmps19
  go_wp2_with fail
  go_loop [6] (fun j => ∃ k : Int, -1 ≤ k ∧ k < K.length ∧ j = .int .i64 k ∧ Hd (∀ (j : Nat) (x : Nat × List UInt8), k < j → K[j]? = some x → x.1 ≠ q)) (fun j => (intOf j + 1).toNat)
  case atStart => exact ⟨(K.length : Int) - 1, by omega, by omega, by go_num, hide (fun j x h1 h2 => by have := (List.getElem?_eq_some_iff.1 h2).1; omega)⟩
  case round =>
    obtain ⟨k, hk1, hk2, rfl, HN⟩ := hrel
    by_cases hlt : 0 ≤ k
    · obtain ⟨i, rfl⟩ := Int.eq_ofNat_of_zero_le hlt
      have hi' : i < K.length := by omega
      obtain ⟨b, off, rfl, hg⟩ := HI.out (by rintro rfl; simp at hi')
      obtain ⟨cs, _, hc, hR⟩ := hg i hi'
      rw [show cs = encE K[i] from hR] at hc
      have c0 := (show w.cell? ⟨b, off + i * 2, none⟩ = some (.int .u16 K[i].1) from hc 0 (by omega))
      have c1 := (show w.cell? ⟨b, off + i * 2 + 1, none⟩ = some (.string (str K[i].2)) from hc 1 (by omega))
      have HG := hide (show K[i]? = some K[i] from List.getElem?_eq_getElem hi')
      generalize K[i] = x at *
      obtain ⟨s, l⟩ := x
      dsimp only at c0 c1
      clear hc hg hR hi'
      by_cases hs : s = q
      · subst hs
        go_wp2_with fail
        go_ret2
        exact ⟨some l, .inl ⟨l, i, rfl, HG.out, fun j x h1 h2 => HN.out j x (by omega) h2⟩, rfl, rfl⟩
      · have hsI : ((s : Int) == q) = false := by rw [beq_eq_false_iff_ne]; omega
        have HS := hide hs
        clear hs
        go_wp2_with fail
        go_round
        case rel => exact ⟨(i : Int) - 1, by omega, by omega, by go_num, hide (fun j x h1 h2 => by
          by_cases e : j = i
          · subst e; rw [HG.out] at h2; injection h2 with h2; subst h2; exact HS.out
          · exact HN.out j x (by omega) h2)⟩
        case measure => simp [intOf]
    · go_wp2_with fail
      go_ret2
      exact ⟨none, .inr ⟨rfl, fun j x h => HN.out j x (by omega) h⟩, rfl, rfl⟩
end Go.Proofs.Ytekioihjfggmdaa

/- The reference's streams: louverref12. -/
namespace Go.Proofs.Ytekioihjfggmdaa
open Go.RowKit
set_option linter.unusedVariables false

set_option maxRecDepth 100000 in
theorem r12asks_any (s : Ch) (x : Wnt) (w : World) : Calls Try.prog 31 #[s.val, x.val] w (Gives w (.bool (s.asks x))) := by
  obtain ⟨on, src, layer, tid⟩ := s
  obtain ⟨xs, xl, xt⟩ := x
  simp only [Ch.val, Wnt.val, Ch.asks, Ch.is]
  cases on
  · go_enter Try.func31, Try.ntmps31
    go_wp2_with fail
    all_goals
      go_ret
      exact ⟨rfl, (((Le.refl w).alloc _).alloc _).out⟩
  · by_cases e1 : src = xs
    · subst e1
      by_cases e2 : layer = xl
      · subst e2
        go_enter Try.func31, Try.ntmps31
        go_wp2_with fail
        all_goals
          go_ret
          exact ⟨ret_b (by simp), (((Le.refl w).alloc _).alloc _).out⟩
      · have e3 : ¬ xl = layer := fun h => e2 h.symm
        go_enter Try.func31, Try.ntmps31
        go_wp2_with fail
        all_goals
          go_ret
          exact ⟨ret_b (by simp [e2, e3]), (((Le.refl w).alloc _).alloc _).out⟩
    · have e3 : ¬ xs = src := fun h => e1 h.symm
      go_enter Try.func31, Try.ntmps31
      go_wp2_with fail
      all_goals
        go_ret
        exact ⟨ret_b (by simp [e3]), (((Le.refl w).alloc _).alloc _).out⟩

theorem r12take_ret {tmps : Array Value} {w W : World} {on : Bool} {src layer tid v : Int} {R : Ch × Int} (hR : R = (⟨on, src, layer, tid⟩, v)) {g : Nat} (ht : tmps.getD 6 undef = .pointer (some ⟨g, 0, none⟩)) (hu : tmps.getD 7 undef = .int .i64 v)
    (hg : W.heap[g]? = some (.cells #[.bool on, .int .i64 src, .int .i64 layer, .int .i64 tid] 29 (0, 0))) (hb : Below w.heap.size w W) :
    bodyPost Try.prog Try.f32 (Gives w (.tuple #[.agg #[.bool R.1.on, .int .i64 R.1.src, .int .i64 R.1.layer, .int .i64 R.1.tid], .int .i64 R.2])) .ret { tmps := tmps, defers := [] } W := by
  subst hR
  exact ret_ct Try.results32 (InCell.mk' (cs := [.bool on, .int .i64 src, .int .i64 layer, .int .i64 tid]) ht hg Try.underlying29 rfl (by kernel_rfl)) hu ⟨rfl, hb⟩

set_option maxRecDepth 100000 in
set_option maxHeartbeats 4000000 in
theorem r12take_own (src layer tid : Int) (i : Inn) (x : Wnt) (w : World) (h1 : i.src = src) (h2 : i.layer = layer) : Calls Try.prog 32 #[(Ch.mk true src layer tid).val, i.val, x.val] w (Gives w (.tuple #[((Ch.mk true src layer tid).take i x).1.val, .int .i64 ((Ch.mk true src layer tid).take i x).2])) := by
  obtain ⟨R, hR⟩ : ∃ R, R = (Ch.mk true src layer tid).take i x := ⟨_, rfl⟩
  rw [← hR]
  rw [Ch.take, if_pos (by simp [Ch.is, h1, h2])] at hR
  simp only [Ch.nextTid] at hR
  have HR := hide hR
  clear hR
  obtain ⟨xs, xl, xt⟩ := x
  obtain ⟨is, il, begin_, whole, hasTid, itid, sync⟩ := i
  simp only at h1 h2 HR
  subst h1 h2
  simp only [Ch.val, Wnt.val, Inn.val]
  have HL := hide (fun o1 o2 o3 o4 => (((((Le.refl w).alloc o1).alloc o2).alloc o3).alloc o4).out)
  cases begin_ <;> cases whole <;> cases hasTid <;> cases sync <;>
  · go_enter Try.func32, Try.ntmps32
    go_wp2_with fail
    all_goals first | (exfalso; simp_all; done) | exact r12take_ret (by rw [HR.out]; clear HR HL; first | (simp [*]; done) | ((repeat' split) <;> first | rfl | (exfalso; simp_all <;> omega) | (simp_all <;> omega))) rfl rfl (heap_at (by simp)) (HL.out _ _ _ _)

set_option maxRecDepth 100000 in
set_option maxHeartbeats 4000000 in
theorem r12take_not (s : Ch) (i : Inn) (x : Wnt) (w : World) (h : ¬ (s.on = true ∧ i.src = s.src ∧ i.layer = s.layer)) : Calls Try.prog 32 #[s.val, i.val, x.val] w (Gives w (.tuple #[(s.take i x).1.val, .int .i64 (s.take i x).2])) := by
  obtain ⟨R, hR⟩ : ∃ R, R = s.take i x := ⟨_, rfl⟩
  rw [← hR]
  rw [Ch.take, if_neg (by simp only [Ch.is, Bool.and_eq_true, decide_eq_true_eq]; exact h)] at hR
  have HR := hide hR
  clear hR
  obtain ⟨on, src, layer, tid⟩ := s
  obtain ⟨xs, xl, xt⟩ := x
  obtain ⟨is, il, begin_, whole, hasTid, itid, sync⟩ := i
  simp only at h HR
  simp only [Ch.val, Wnt.val, Inn.val]
  have HL := hide (fun o1 o2 o3 o4 => (((((Le.refl w).alloc o1).alloc o2).alloc o3).alloc o4).out)
  by_cases ho : on = true
  · subst ho
    by_cases h1 : is = src
    · subst h1
      have h2 : ¬ il = layer := fun e => h ⟨rfl, rfl, e⟩
      clear h
      cases begin_ <;> cases whole <;>
      · go_enter Try.func32, Try.ntmps32
        go_wp2_with fail
        all_goals first | (exfalso; simp_all; done) | exact r12take_ret (by rw [HR.out]; clear HR HL; simp [*] <;> intros <;> omega) rfl rfl (heap_at (by simp)) (HL.out _ _ _ _)
    · clear h
      cases begin_ <;> cases whole <;>
      · go_enter Try.func32, Try.ntmps32
        go_wp2_with fail
        all_goals first | (exfalso; simp_all; done) | exact r12take_ret (by rw [HR.out]; clear HR HL; simp [*] <;> intros <;> omega) rfl rfl (heap_at (by simp)) (HL.out _ _ _ _)
  · obtain rfl : on = false := by simpa using ho
    clear h ho
    cases begin_ <;> cases whole <;>
    · go_enter Try.func32, Try.ntmps32
      go_wp2_with fail
      all_goals first | (exfalso; simp_all; done) | exact r12take_ret (by rw [HR.out]; clear HR HL; simp [*] <;> intros <;> omega) rfl rfl (heap_at (by simp)) (HL.out _ _ _ _)

theorem r12take_any (s : Ch) (i : Inn) (x : Wnt) (w : World) : Calls Try.prog 32 #[s.val, i.val, x.val] w (Gives w (.tuple #[(s.take i x).1.val, .int .i64 (s.take i x).2])) := by
  by_cases h : s.on = true ∧ i.src = s.src ∧ i.layer = s.layer
  · obtain ⟨on, src, layer, tid⟩ := s
    obtain ⟨rfl, h1, h2⟩ := h
    exact r12take_own src layer tid i x w h1 h2
  · exact r12take_not s i x w h
end Go.Proofs.Ytekioihjfggmdaa
