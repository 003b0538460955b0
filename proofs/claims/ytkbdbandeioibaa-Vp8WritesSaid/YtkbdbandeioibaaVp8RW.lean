/- louverref07.Write. -/
import Derived.Test.YtkbdbandeioibaaVp8RP
namespace Go.Proofs.Ytkbdbandeioibaa
open Go.RowKit
set_option linter.unusedVariables false

theorem set_one (l : List UInt8) (k : Nat) (u : UInt8) (h : k < l.length) : l.take k ++ u :: l.drop (k + 1) = l.set k u := by
  rw [List.set_eq_take_append_cons_drop, if_pos h]
theorem set_two (l : List UInt8) (k : Nat) (u v : UInt8) (h : k + 1 < l.length) : l.take k ++ u :: v :: l.drop (k + 2) = (l.set k u).set (k + 1) v := by
  rw [← set_one (l.set k u) (k + 1) v (by simpa using h)]
  have e1 : (l.set k u).take (k + 1) = l.take k ++ [u] := by
    rw [List.take_succ_eq_append_getElem (by simp; omega), List.take_set_of_le (Nat.le_refl k)]
    simp
  have e2 : (l.set k u).drop (k + 1 + 1) = l.drop (k + 2) := by
    rw [List.drop_set_of_lt (by omega)]
  rw [e1, e2]
  simp
theorem conv_blk {w : World} {g : Nat} {l : List UInt8} (h : w.heap[g]? = some (.cells (u8s l).toArray 5 (0, 0))) : (convert 26 9 (.slice (some ⟨g, 0, none⟩) l.length l.length)).run Try.prog w = .ok (.string (str l)) w := by
  have hr : RSl 1 RU8 w l (.slice (some ⟨g, 0, none⟩) l.length l.length) := by
    refine ⟨_, _, rfl, Nat.le_refl _, fun hne => ⟨g, 0, rfl, fun i hi => ⟨[.int .u8 l[i].toNat], rfl, fun j hj => ?_, rfl⟩⟩⟩
    obtain rfl : j = 0 := by omega
    rw [cell_block h]
    simp [u8s, hi]
  exact conv_le hr w (Le.refl w)

set_option maxRecDepth 100000 in
set_option maxHeartbeats 8000000 in
theorem rwrite_any (l : List UInt8) (pic tl0 : Nat) (w : World) (hn : l.length ≤ 1000) (hpic : pic < 65536) (ht0 : tl0 < 256) :
    Calls Try.prog 32 #[.string (str l), .int .i64 pic, .int .i64 tl0] w (Gives w (.tuple #[.string (str (vpWr l pic tl0)), .int .i64 (vpE l)])) := by
  have hp := rparse_any l w hn
  have hpl := vp_places l
  have hee := vpE_two l
  have hwr : vpE l = 0 → vpWr l pic tl0 = wrT (vpD l) (vpT l).toNat tl0 (wrP (vpD l) (vpP l).toNat pic l) := by
    intro h
    rw [vpWr, vpD, vpT, vpP, if_pos h, if_pos h, if_pos h, if_pos h]
  have hpl2 : vpE l = 0 → ∃ pn tn : Nat, vpP l = pn ∧ vpT l = tn ∧ ((vpD l).hasPic = true → pn < l.length) ∧ ((vpD l).wide = true → pn + 1 < l.length) ∧ ((vpD l).hasTl0 = true → tn < l.length) := by
    intro h
    obtain ⟨_, pn, tn, h1, h2, h3⟩ := hpl h
    rw [vpD, vpP, vpT, if_pos h, if_pos h, if_pos h]
    exact ⟨pn, tn, h1, h2, h3⟩
  have hbad : vpE l = 10 → vpWr l pic tl0 = [] := fun h => by rw [vpWr, if_neg (by omega)]
  rw [rpV] at hp
  obtain ⟨R, hR⟩ : ∃ R, R = vpWr l pic tl0 := ⟨_, rfl⟩
  rw [← hR] at hwr hbad ⊢
  clear hpl hR
  generalize vpE l = E at *
  generalize vpP l = pp at *
  generalize vpT l = tp at *
  generalize vpN l = nn at *
  generalize vpD l = d at *
  obtain ⟨more, lone, start, part, hasPic, wide, pc, hasTl0, t0, hasTid, tid, sync, hasKey, key⟩ := d
  simp only [Dsc.ref] at hp hpl2
  have HP := hide hp
  have HWR := hide hwr
  have HPL := hide hpl2
  have HBD := hide hbad
  clear hp hwr hpl2 hbad
  rcases hee with rfl | rfl
  · obtain ⟨pn, tn, rfl, rfl, hb1, hb2, hb3⟩ := HPL.out rfl
    have hw := HWR.out rfl
    rw [Int.toNat_natCast, Int.toNat_natCast] at hw
    have HW := hide hw
    have hpn : hasPic = true ∨ wide = true → pn ≤ 1001 := by
      intro h
      rcases h with h | h
      · have := hb1 h; omega
      · have := hb2 h; omega
    have HPN0 := hide hpn
    clear hpn
    have HB1 := hide hb1
    have HB2 := hide hb2
    have HB3 := hide hb3
    clear hw hb1 hb2 hb3 HPL HWR HBD
    go_enter Try.func32, Try.ntmps32
    go_wp2_with fail
    refine HP.out.mono ?_
    rintro e w1 ⟨rfl, hb⟩
    have HL := hide ((Le.mk hb).alloc (.cells #[.bool more, .bool lone, .bool start, .int .i64 part, .bool hasPic, .bool wide, .int .i64 pc, .bool hasTl0, .int .i64 t0, .bool hasTid, .int .i64 tid, .bool sync, .bool hasKey, .int .i64 key] 53))
    have hz := heap_alloc_new w1 (.cells #[.bool more, .bool lone, .bool start, .int .i64 part, .bool hasPic, .bool wide, .int .i64 pc, .bool hasTl0, .int .i64 t0, .bool hasTid, .int .i64 tid, .bool sync, .bool hasKey, .int .i64 key] 53)
    clear hb HP
    go_upto_region 4 with fail
    generalize w1.alloc _ = w2 at *
    generalize w1.heap.size = p8 at *
    have HZ := hide hz
    have y5 := box_cell hz 5 (.bool wide) rfl w2 (Le.refl w2)
    have y4 := box_cell hz 4 (.bool hasPic) rfl w2 (Le.refl w2)
    clear hz
    go_upto_if 25 with fail
    go_cut [0] (fun v wx => v = .string (str (wrP ⟨more, lone, start, part, hasPic, wide, pc, hasTl0, t0, hasTid, tid, sync, hasKey, key⟩ pn pic l)) ∧ Le w2 wx)
    case first =>
      obtain ⟨U1, hU1⟩ : ∃ U1 : UInt8, U1 = UInt8.ofNat (128 + pic / 256 % 128) := ⟨_, rfl⟩
      obtain ⟨U2, hU2⟩ : ∃ U2 : UInt8, U2 = UInt8.ofNat (pic % 256) := ⟨_, rfl⟩
      obtain ⟨U3, hU3⟩ : ∃ U3 : UInt8, U3 = UInt8.ofNat (pic % 128) := ⟨_, rfl⟩
      have v1 : (U1.toNat : Int) = ((128 + pic / 256 % 128 : Nat) : Int) := by rw [hU1, u8_nat _ (by omega)]
      have v2 : (U2.toNat : Int) = ((pic % 256 : Nat) : Int) := by rw [hU2, u8_nat _ (by omega)]
      have v3 : (U3.toNat : Int) = ((pic % 128 : Nat) : Int) := by rw [hU3, u8_nat _ (by omega)]
      have HU := hide (And.intro hU1 (And.intro hU2 hU3))
      clear hU1 hU2 hU3
      obtain ⟨Q1, hQ1⟩ : ∃ Q1, Q1 = pic / 256 := ⟨_, rfl⟩
      obtain ⟨Q2, hQ2⟩ : ∃ Q2, Q2 = Q1 % 128 := ⟨_, rfl⟩
      obtain ⟨Q3, hQ3⟩ : ∃ Q3, Q3 = pic % 256 := ⟨_, rfl⟩
      obtain ⟨Q4, hQ4⟩ : ∃ Q4, Q4 = pic % 128 := ⟨_, rfl⟩
      have e1 : (pic : Int) / 256 = (Q1 : Nat) := by omega
      have e1' : (pic : Int).tdiv 256 = (Q1 : Nat) := by rw [hQ1]; rfl
      have e2 : IntKind.i64.wrap (Q1 : Int) = Q1 := IntWalk.i64_in _ (by omega)
      have e3 : (Q1 : Int).tmod 128 = (Q2 : Nat) := by rw [hQ2]; rfl
      have e3' : (Q1 : Int) % 128 = (Q2 : Nat) := by omega
      have e4 : IntKind.i64.wrap (Q2 : Int) = Q2 := IntWalk.i64_in _ (by omega)
      have e5 : IntKind.i64.wrap (128 + (Q2 : Int)) = 128 + (Q2 : Int) := IntWalk.i64_in _ (by omega)
      have e6 : IntKind.u8.wrap (128 + (Q2 : Int)) = (U1.toNat : Int) := by rw [v1]; simp [IntKind.wrap, IntKind.signed, IntKind.bits]; omega
      have e7 : (pic : Int) % 256 = (Q3 : Nat) := by omega
      have e7' : (pic : Int).tmod 256 = (Q3 : Nat) := by rw [hQ3]; rfl
      have e8 : IntKind.i64.wrap (Q3 : Int) = Q3 := IntWalk.i64_in _ (by omega)
      have e9 : IntKind.u8.wrap (Q3 : Int) = (U2.toNat : Int) := by rw [v2]; simp [IntKind.wrap, IntKind.signed, IntKind.bits]; omega
      have e10 : (pic : Int) % 128 = (Q4 : Nat) := by omega
      have e10' : (pic : Int).tmod 128 = (Q4 : Nat) := by rw [hQ4]; rfl
      have e11 : IntKind.i64.wrap (Q4 : Int) = Q4 := IntWalk.i64_in _ (by omega)
      have e12 : IntKind.u8.wrap (Q4 : Int) = (U3.toNat : Int) := by rw [v3]; simp [IntKind.wrap, IntKind.signed, IntKind.bits]; omega
      clear hQ1 hQ2 hQ3 hQ4 v1 v2 v3
      cases wide
      · cases hasPic
        · go_wp2_with fail
          go_meet
          exact ⟨rfl, Le.refl _⟩
        · have hb1 := HB1.out rfl
          have hp0 : pn ≤ l.length := by omega
          have hp1I : (pn : Int) + 1 ≤ (l.length : Int) := by omega
          have htn : ((pn : Int) + 1).toNat = pn + 1 := by omega
          have ew1 : IntKind.i64.wrap ((pn : Int) + 1) = (pn : Int) + 1 := IntWalk.i64_in _ (by omega)
          have hs3 : ¬ 9223372036854775807 < l.length := by omega
          have hs1 : ¬ 9223372036854775807 < pn + 1 := by omega
          have hs2 : ¬ 9223372036854775807 < pn + 1 + (l.length - (pn + 1)) := by omega
          go_upto_region 7 with fail
          refine' wp_region_tail 14 14 47 Le (Is _ :: Is _ :: Is _ :: Is _ :: Is _ :: Is _ :: (fun v w => ∃ g : Nat, v = .slice (some ⟨g, 0, none⟩) 1 1 ∧ w.heap[g]? = some (.cells #[.int .u8 (U3).toNat] 5 (0, 0))) :: Is _ :: Is _ :: Is _ :: Is _ :: Is _ :: Is _ :: Is _ :: []) ([] :: [] :: [0, 1] :: [] :: [3] :: [4] :: [5] :: [6] :: [2, 7] :: [] :: [] :: [10] :: [9, 11] :: [8, 12] :: []) (by kernel_rfl) (by kernel_rfl) (by rfl) (by kernel_rfl) (by kernel_rfl) Le.refl (fun _ _ _ h h' => h.trans h') ⟨St.is, St.is, St.is, St.is, St.is, St.is, fun v w w' h ⟨g, e1, e2⟩ => ⟨g, e1, h.heap e2⟩, St.is, St.is, St.is, St.is, St.is, St.is, St.is, trivial⟩ ?m7
          case m7 =>
            simp (maxSteps := 100000000) only [AllV, Obl2, Leans, factAt, allFacts, actOf, putAll, putRow, List.set_cons_succ, List.set_cons_zero, List.getElem?_cons_zero, List.getElem?_cons_succ, List.take_succ_cons, List.take_zero, List.drop_succ_cons, List.drop_zero, List.cons_append, List.nil_append, List.length_cons, List.length_nil, Nat.reduceAdd]
            intro x0 x1 x2 x3 x4 x5 x6 x7 x8 x9 x10 x11 x12 x13
            refine ⟨⟨?_, ?_, ?_, ?_, ?_, ?_, ?_, ?_, ?_, ?_, ?_, ?_, ?_, ?_, trivial⟩, ?_⟩
            -- 0: 47 := Op.move t0
            · intro w hw  K hK; go_simp; exact hK _ _ (Le.refl _) (Is.mk _ _)
            -- 1: 48 := Op.move t10
            · intro w hw  K hK; go_simp; exact hK _ _ (Le.refl _) (Is.mk _ _)
            -- 2: 49 := Op.slice 9 t47 none (some t48) none
            · intro w hw h0 h1 K hK; cases h0; cases h1; go_simp; exact hK _ _ (Le.refl _) (Is.mk _ _)
            -- 3: 50 := Op.move t1
            · intro w hw  K hK; go_simp; exact hK _ _ (Le.refl _) (Is.mk _ _)
            -- 4: 51 := Op.binOp BinOp.rem 3 t50 (const (128:i64)) 3
            · intro w hw h3 K hK; cases h3; go_simp; exact hK _ _ (Le.refl _) (Is.mk _ _)
            -- 5: 52 := Op.convert 3 5 t51
            · intro w hw h4 K hK; cases h4; go_simp; exact hK _ _ (Le.refl _) (Is.mk _ _)
            -- 6: 53 := Op.buildSlice 26 1 #[(0, t52)]
            · intro w hw h5 K hK; cases h5; go_simp; exact hK _ _ ((Le.refl _).alloc _) ⟨_, rfl, heap_alloc_new _ _⟩
            -- 7: 54 := Op.convert 26 9 t53
            · intro w hw h6 K hK; obtain ⟨g, rfl, hg⟩ := h6; have hcv := conv_blk (l := [U3]) hg; simp only [List.length_cons, List.length_nil, Nat.reduceAdd] at hcv; go_simp; exact hK _ _ (Le.refl _) (Is.mk _ _)
            -- 8: 55 := Op.binOp BinOp.add 9 t49 t54 9
            · intro w hw h2 h7 K hK; cases h2; cases h7; go_simp; exact hK _ _ (Le.refl _) (Is.mk _ _)
            -- 9: 56 := Op.move t0
            · intro w hw  K hK; go_simp; exact hK _ _ (Le.refl _) (Is.mk _ _)
            -- 10: 57 := Op.move t10
            · intro w hw  K hK; go_simp; exact hK _ _ (Le.refl _) (Is.mk _ _)
            -- 11: 58 := Op.binOp BinOp.add 3 t57 (const (1:i64)) 3
            · intro w hw h10 K hK; cases h10; go_simp; exact hK _ _ (Le.refl _) (Is.mk _ _)
            -- 12: 59 := Op.slice 9 t56 (some t58) none none
            · intro w hw h9 h11 K hK; cases h9; cases h11; go_simp; exact hK _ _ (Le.refl _) (Is.mk _ _)
            -- 13: 60 := Op.binOp BinOp.add 9 t55 t59 9
            · intro w hw h8 h12 K hK; cases h8; cases h12; go_simp; exact hK _ _ (Le.refl _) (Is.mk _ _)
            · intro wz hz h0 h1 h2 h3 h4 h5 h6 h7 h8 h9 h10 h11 h12 h13; cases h0; cases h1; cases h2; cases h3; cases h4; cases h5; obtain ⟨g, rfl, hg⟩ := h6; cases h7; cases h8; cases h9; cases h10; cases h11; cases h12; cases h13; skip
              have HLZ := hide ((Le.refl w2).drew.trans hz)
              clear e1 e1' e2 e3 e3' e4 e5 e6 e7 e7' e8 e9 e10 e10' e11 e12 ew1 hs1 hs2 hs3 htn
              go_wp2_with fail
              go_meet
              refine ⟨?_, HLZ.out⟩
              rw [set_one l pn U3 hb1, HU.out.2.2]
              rfl
      · have hb2 := HB2.out rfl
        have hp0 : pn ≤ l.length := by omega
        have hp2 : pn + 2 ≤ l.length := by omega
        have hp2I : (pn : Int) + 2 ≤ (l.length : Int) := by omega
        have htn : ((pn : Int) + 2).toNat = pn + 2 := by omega
        have ew2 : IntKind.i64.wrap ((pn : Int) + 2) = (pn : Int) + 2 := IntWalk.i64_in _ (by omega)
        have hs3 : ¬ 9223372036854775807 < l.length := by omega
        have hs1 : ¬ 9223372036854775807 < pn + 2 := by omega
        have hs2 : ¬ 9223372036854775807 < pn + 2 + (l.length - (pn + 2)) := by omega
        go_upto_region 5 with fail
        refine' wp_region_tail 19 19 26 Le (Is _ :: Is _ :: Is _ :: Is _ :: Is _ :: Is _ :: Is _ :: Is _ :: Is _ :: Is _ :: Is _ :: (fun v w => ∃ g : Nat, v = .slice (some ⟨g, 0, none⟩) 2 2 ∧ w.heap[g]? = some (.cells #[.int .u8 (U1).toNat, .int .u8 (U2).toNat] 5 (0, 0))) :: Is _ :: Is _ :: Is _ :: Is _ :: Is _ :: Is _ :: Is _ :: []) ([] :: [] :: [0, 1] :: [] :: [3] :: [4] :: [5] :: [6] :: [] :: [8] :: [9] :: [7, 10] :: [11] :: [2, 12] :: [] :: [] :: [15] :: [14, 16] :: [13, 17] :: []) (by kernel_rfl) (by kernel_rfl) (by rfl) (by kernel_rfl) (by kernel_rfl) Le.refl (fun _ _ _ h h' => h.trans h') ⟨St.is, St.is, St.is, St.is, St.is, St.is, St.is, St.is, St.is, St.is, St.is, fun v w w' h ⟨g, e1, e2⟩ => ⟨g, e1, h.heap e2⟩, St.is, St.is, St.is, St.is, St.is, St.is, St.is, trivial⟩ ?m5
        case m5 =>
          simp (maxSteps := 100000000) only [AllV, Obl2, Leans, factAt, allFacts, actOf, putAll, putRow, List.set_cons_succ, List.set_cons_zero, List.getElem?_cons_zero, List.getElem?_cons_succ, List.take_succ_cons, List.take_zero, List.drop_succ_cons, List.drop_zero, List.cons_append, List.nil_append, List.length_cons, List.length_nil, Nat.reduceAdd]
          intro x0 x1 x2 x3 x4 x5 x6 x7 x8 x9 x10 x11 x12 x13 x14 x15 x16 x17 x18
          refine ⟨⟨?_, ?_, ?_, ?_, ?_, ?_, ?_, ?_, ?_, ?_, ?_, ?_, ?_, ?_, ?_, ?_, ?_, ?_, ?_, trivial⟩, ?_⟩
          -- 0: 26 := Op.move t0
          · intro w hw  K hK; go_simp; exact hK _ _ (Le.refl _) (Is.mk _ _)
          -- 1: 27 := Op.move t10
          · intro w hw  K hK; go_simp; exact hK _ _ (Le.refl _) (Is.mk _ _)
          -- 2: 28 := Op.slice 9 t26 none (some t27) none
          · intro w hw h0 h1 K hK; cases h0; cases h1; go_simp; exact hK _ _ (Le.refl _) (Is.mk _ _)
          -- 3: 29 := Op.move t1
          · intro w hw  K hK; go_simp; exact hK _ _ (Le.refl _) (Is.mk _ _)
          -- 4: 30 := Op.binOp BinOp.quo 3 t29 (const (256:i64)) 3
          · intro w hw h3 K hK; cases h3; go_simp; exact hK _ _ (Le.refl _) (Is.mk _ _)
          -- 5: 31 := Op.binOp BinOp.rem 3 t30 (const (128:i64)) 3
          · intro w hw h4 K hK; cases h4; go_simp; exact hK _ _ (Le.refl _) (Is.mk _ _)
          -- 6: 32 := Op.binOp BinOp.add 3 (const (128:i64)) t31 3
          · intro w hw h5 K hK; cases h5; go_simp; exact hK _ _ (Le.refl _) (Is.mk _ _)
          -- 7: 33 := Op.convert 3 5 t32
          · intro w hw h6 K hK; cases h6; go_simp; exact hK _ _ (Le.refl _) (Is.mk _ _)
          -- 8: 34 := Op.move t1
          · intro w hw  K hK; go_simp; exact hK _ _ (Le.refl _) (Is.mk _ _)
          -- 9: 35 := Op.binOp BinOp.rem 3 t34 (const (256:i64)) 3
          · intro w hw h8 K hK; cases h8; go_simp; exact hK _ _ (Le.refl _) (Is.mk _ _)
          -- 10: 36 := Op.convert 3 5 t35
          · intro w hw h9 K hK; cases h9; go_simp; exact hK _ _ (Le.refl _) (Is.mk _ _)
          -- 11: 37 := Op.buildSlice 26 2 #[(0, t33), (1, t36)]
          · intro w hw h7 h10 K hK; cases h7; cases h10; go_simp; exact hK _ _ ((Le.refl _).alloc _) ⟨_, rfl, heap_alloc_new _ _⟩
          -- 12: 38 := Op.convert 26 9 t37
          · intro w hw h11 K hK; obtain ⟨g, rfl, hg⟩ := h11; have hcv := conv_blk (l := [U1, U2]) hg; simp only [List.length_cons, List.length_nil, Nat.reduceAdd] at hcv; go_simp; exact hK _ _ (Le.refl _) (Is.mk _ _)
          -- 13: 39 := Op.binOp BinOp.add 9 t28 t38 9
          · intro w hw h2 h12 K hK; cases h2; cases h12; go_simp; exact hK _ _ (Le.refl _) (Is.mk _ _)
          -- 14: 40 := Op.move t0
          · intro w hw  K hK; go_simp; exact hK _ _ (Le.refl _) (Is.mk _ _)
          -- 15: 41 := Op.move t10
          · intro w hw  K hK; go_simp; exact hK _ _ (Le.refl _) (Is.mk _ _)
          -- 16: 42 := Op.binOp BinOp.add 3 t41 (const (2:i64)) 3
          · intro w hw h15 K hK; cases h15; go_simp; exact hK _ _ (Le.refl _) (Is.mk _ _)
          -- 17: 43 := Op.slice 9 t40 (some t42) none none
          · intro w hw h14 h16 K hK; cases h14; cases h16; go_simp; exact hK _ _ (Le.refl _) (Is.mk _ _)
          -- 18: 44 := Op.binOp BinOp.add 9 t39 t43 9
          · intro w hw h13 h17 K hK; cases h13; cases h17; go_simp; exact hK _ _ (Le.refl _) (Is.mk _ _)
          · intro wz hz h0 h1 h2 h3 h4 h5 h6 h7 h8 h9 h10 h11 h12 h13 h14 h15 h16 h17 h18; cases h0; cases h1; cases h2; cases h3; cases h4; cases h5; cases h6; cases h7; cases h8; cases h9; cases h10; obtain ⟨g, rfl, hg⟩ := h11; cases h12; cases h13; cases h14; cases h15; cases h16; cases h17; cases h18; skip
            have HLZ := hide ((Le.refl w2).drew.trans hz)
            clear e1 e1' e2 e3 e3' e4 e5 e6 e7 e7' e8 e9 e10 e10' e11 e12 ew2 hs1 hs2 hs3 htn
            go_wp2_with fail
            go_meet
            refine ⟨?_, HLZ.out⟩
            rw [set_two l pn U1 U2 (by omega), HU.out.1, HU.out.2.1]
            rfl
    case rest =>
      obtain ⟨rfl, hlc⟩ := hcut
      generalize wc = w3 at *
      have hlen := wrP_len ⟨more, lone, start, part, hasPic, wide, pc, hasTl0, t0, hasTid, tid, sync, hasKey, key⟩ pn pic l
      have hw := HW.out
      clear y5 y4
      generalize wrP ⟨more, lone, start, part, hasPic, wide, pc, hasTl0, t0, hasTid, tid, sync, hasKey, key⟩ pn pic l = l1 at *
      have y7 := box_cell HZ.out 7 (.bool hasTl0) rfl w3 hlc
      have HLC := hide (HL.out.trans hlc)
      have HWW := hide hw
      clear hw hlc
      cases hasTl0
      · go_wp2_with fail
        go_ret2
        exact ⟨by rw [HWW.out]; rfl, HLC.out.out⟩
      · have hb3 := HB3.out rfl
        obtain ⟨U4, hU4⟩ : ∃ U4 : UInt8, U4 = UInt8.ofNat tl0 := ⟨_, rfl⟩
        have v4 : (U4.toNat : Int) = (tl0 : Int) := by rw [hU4, u8_nat _ ht0]
        have e1 : IntKind.u8.wrap (tl0 : Int) = (U4.toNat : Int) := by rw [v4]; simp [IntKind.wrap, IntKind.signed, IntKind.bits]; omega
        have HU := hide hU4
        clear v4 hU4
        have hp0 : tn ≤ l1.length := by omega
        have hp1I : (tn : Int) + 1 ≤ (l1.length : Int) := by omega
        have htn : ((tn : Int) + 1).toNat = tn + 1 := by omega
        have ew1 : IntKind.i64.wrap ((tn : Int) + 1) = (tn : Int) + 1 := IntWalk.i64_in _ (by omega)
        have hs3 : ¬ 9223372036854775807 < l1.length := by omega
        have hs1 : ¬ 9223372036854775807 < tn + 1 := by omega
        have hs2 : ¬ 9223372036854775807 < tn + 1 + (l1.length - (tn + 1)) := by omega
        have HLN := hide hlen
        have hb4 := hide (show tn < l1.length by omega)
        clear hlen
        go_upto_region 9 with fail
        refine' wp_region_tail 13 13 63 Le (Is _ :: Is _ :: Is _ :: Is _ :: Is _ :: (fun v w => ∃ g : Nat, v = .slice (some ⟨g, 0, none⟩) 1 1 ∧ w.heap[g]? = some (.cells #[.int .u8 (U4).toNat] 5 (0, 0))) :: Is _ :: Is _ :: Is _ :: Is _ :: Is _ :: Is _ :: Is _ :: []) ([] :: [] :: [0, 1] :: [] :: [3] :: [4] :: [5] :: [2, 6] :: [] :: [] :: [9] :: [8, 10] :: [7, 11] :: []) (by kernel_rfl) (by kernel_rfl) (by rfl) (by kernel_rfl) (by kernel_rfl) Le.refl (fun _ _ _ h h' => h.trans h') ⟨St.is, St.is, St.is, St.is, St.is, fun v w w' h ⟨g, e1, e2⟩ => ⟨g, e1, h.heap e2⟩, St.is, St.is, St.is, St.is, St.is, St.is, St.is, trivial⟩ ?m9
        case m9 =>
          simp (maxSteps := 100000000) only [AllV, Obl2, Leans, factAt, allFacts, actOf, putAll, putRow, List.set_cons_succ, List.set_cons_zero, List.getElem?_cons_zero, List.getElem?_cons_succ, List.take_succ_cons, List.take_zero, List.drop_succ_cons, List.drop_zero, List.cons_append, List.nil_append, List.length_cons, List.length_nil, Nat.reduceAdd]
          intro x0 x1 x2 x3 x4 x5 x6 x7 x8 x9 x10 x11 x12
          refine ⟨⟨?_, ?_, ?_, ?_, ?_, ?_, ?_, ?_, ?_, ?_, ?_, ?_, ?_, trivial⟩, ?_⟩
          -- 0: 63 := Op.move t0
          · intro w hw  K hK; go_simp; exact hK _ _ (Le.refl _) (Is.mk _ _)
          -- 1: 64 := Op.move t11
          · intro w hw  K hK; go_simp; exact hK _ _ (Le.refl _) (Is.mk _ _)
          -- 2: 65 := Op.slice 9 t63 none (some t64) none
          · intro w hw h0 h1 K hK; cases h0; cases h1; go_simp; exact hK _ _ (Le.refl _) (Is.mk _ _)
          -- 3: 66 := Op.move t2
          · intro w hw  K hK; go_simp; exact hK _ _ (Le.refl _) (Is.mk _ _)
          -- 4: 67 := Op.convert 3 5 t66
          · intro w hw h3 K hK; cases h3; go_simp; exact hK _ _ (Le.refl _) (Is.mk _ _)
          -- 5: 68 := Op.buildSlice 26 1 #[(0, t67)]
          · intro w hw h4 K hK; cases h4; go_simp; exact hK _ _ ((Le.refl _).alloc _) ⟨_, rfl, heap_alloc_new _ _⟩
          -- 6: 69 := Op.convert 26 9 t68
          · intro w hw h5 K hK; obtain ⟨g, rfl, hg⟩ := h5; have hcv := conv_blk (l := [U4]) hg; simp only [List.length_cons, List.length_nil, Nat.reduceAdd] at hcv; go_simp; exact hK _ _ (Le.refl _) (Is.mk _ _)
          -- 7: 70 := Op.binOp BinOp.add 9 t65 t69 9
          · intro w hw h2 h6 K hK; cases h2; cases h6; go_simp; exact hK _ _ (Le.refl _) (Is.mk _ _)
          -- 8: 71 := Op.move t0
          · intro w hw  K hK; go_simp; exact hK _ _ (Le.refl _) (Is.mk _ _)
          -- 9: 72 := Op.move t11
          · intro w hw  K hK; go_simp; exact hK _ _ (Le.refl _) (Is.mk _ _)
          -- 10: 73 := Op.binOp BinOp.add 3 t72 (const (1:i64)) 3
          · intro w hw h9 K hK; cases h9; go_simp; exact hK _ _ (Le.refl _) (Is.mk _ _)
          -- 11: 74 := Op.slice 9 t71 (some t73) none none
          · intro w hw h8 h10 K hK; cases h8; cases h10; go_simp; exact hK _ _ (Le.refl _) (Is.mk _ _)
          -- 12: 75 := Op.binOp BinOp.add 9 t70 t74 9
          · intro w hw h7 h11 K hK; cases h7; cases h11; go_simp; exact hK _ _ (Le.refl _) (Is.mk _ _)
          · intro wz hz h0 h1 h2 h3 h4 h5 h6 h7 h8 h9 h10 h11 h12; cases h0; cases h1; cases h2; cases h3; cases h4; obtain ⟨g, rfl, hg⟩ := h5; cases h6; cases h7; cases h8; cases h9; cases h10; cases h11; cases h12; skip
            have HLZ := hide (HLC.out.trans ((Le.refl w3).drew.trans hz))
            clear e1 ew1 hs1 hs2 hs3 htn
            go_wp2_with fail
            go_ret2
            rw [set_one l1 tn U4 hb4.out, HU.out, HWW.out]
            exact ⟨rfl, HLZ.out.out⟩
  · have hb := HBD.out rfl
    have HR := hide hb
    clear hb
    go_enter Try.func32, Try.ntmps32
    go_wp2_with fail
    refine HP.out.mono ?_
    rintro e w1 ⟨rfl, hb⟩
    have HL := hide ((Le.mk hb).alloc (.cells #[.bool more, .bool lone, .bool start, .int .i64 part, .bool hasPic, .bool wide, .int .i64 pc, .bool hasTl0, .int .i64 t0, .bool hasTid, .int .i64 tid, .bool sync, .bool hasKey, .int .i64 key] 53))
    clear hb
    go_wp2_with fail
    go_ret2
    exact ⟨by rw [HR.out]; rfl, HL.out.out⟩
end Go.Proofs.Ytkbdbandeioibaa
