/- Texts of one claim, laid together: AwkD AwkM -/
import Derived.Deep.RegionLaw
import Derived.Test.YtkcpfhbfjpldhaaGreatDoorJo10
import Derived.Test.YtkcpfhbfjpldhaaGreatDoorJo04
import Derived.Test.YtkcpfhbfjpldhaaGreatDoorJo09
/- awake24: sfu.New. (Written by gen_awkd.py.) -/
namespace Go.Proofs.YtkcpfhbfjpldhaaGreatDoor
open Go.RowKit
set_option linter.unusedVariables false

theorem newControl_v (a p b : Nat) (w : World) : Calls Tryz.prog 50 #[.agg #[.int .i64 2, .int .i64 4, .int .i64 20, .int .i64 4, .int .i64 6, .int .i64 4, .int .i64 4, .int .i64 8], .pointer (some ⟨a, 0, none⟩), .pointer (some ⟨p, 0, none⟩), .pointer (some ⟨b, 0, none⟩)] w (fun e w' => ∃ v, e = .returned v ∧ CtlV w.heap.size v w' ∧ Le w w') :=
  (newControl a p b w).mono fun e w' ⟨C, A, Q, cs, h1, h2, h3, h4, h5, h6, h7, h8, h9, h10⟩ => ⟨_, h1, ⟨C, A, Q, cs, rfl, h2, h3, h4, h5, h6, h7, h8, h9⟩, h10⟩

/-- the whole, when it is made -/
def WholeNew (w : World) (e : Ending) (w' : World) : Prop := ∃ B a p b c ws xs, e = .returned (.tuple #[.pointer (some ⟨B, 0, none⟩), .int .i64 0]) ∧ Half w.heap.size w' B a p b c 2 ws xs ∧ Le w w'

set_option maxRecDepth 100000 in
set_option maxHeartbeats 4000000 in
theorem sfuNew (w : World) : Calls Tryz.prog 23 #[.agg #[.int .i64 2, .int .i64 4, .int .i64 20, .int .i64 4, .int .i64 6, .int .i64 4, .int .i64 4, .int .i64 8, .int .i64 6, .int .i64 3, .int .i64 8]] w (WholeNew w) := by
  go_enter Tryz.func23, Tryz.ntmps23
  go_upto_region 2 with fail
  have hbx := heap_alloc_new w (.cells confC.toArray 61)
  rw [show (w.alloc (.cells #[.int .i64 2, .int .i64 4, .int .i64 20, .int .i64 4, .int .i64 6, .int .i64 4, .int .i64 4, .int .i64 8, .int .i64 6, .int .i64 3, .int .i64 8] 61)) = w.alloc (.cells confC.toArray 61) from rfl]
  have HBX := hide hbx
  have HLB := hide ((Le.refl w).alloc (.cells confC.toArray 61))
  clear hbx
  generalize w.alloc (.cells confC.toArray 61) = w1 at *
  generalize hgc : w.heap.size = cb at *
  have HGC := hide hgc
  clear hgc
  have HBC := hide (fun (i : Nat) (v : Value) (hv : confC.toArray[i]? = some v) => box_cell HBX.out i v hv)
  go_cut [5] (fun s5 wx => ∃ B a p b, s5 = .pointer (some ⟨B, 0, none⟩) ∧ Hd (cb ≤ B ∧ wx.heap[B]? = some (.cells (wholeC a p b (.pointer none) (.slice none 0 0) (.slice none 0 0)) 107 (0, 0))) ∧ Le w1 wx)
  case first =>
    have hle0 := (Le.refl w1).drew
    refine' wp_region_tailD 10 10 11 Le (IsD _ :: IsD _ :: IsD _ :: (fun _ v W => ∃ b, v = .pointer (some ⟨b, 0, none⟩)) :: IsD _ :: (fun _ v W => ∃ b, v = .pointer (some ⟨b, 0, none⟩)) :: IsD _ :: IsD _ :: IsD _ :: (fun _ v W => ∃ b, v = .pointer (some ⟨b, 0, none⟩)) :: []) ([] :: [] :: [1] :: [2] :: [] :: [4] :: [] :: [] :: [7] :: [6, 8] :: []) (by kernel_rfl) (by kernel_rfl) (by rfl) (by kernel_rfl) (by kernel_rfl) Le.refl (fun _ _ _ h h' => h.trans h') ⟨StD.is, StD.is, StD.is, (fun _ _ _ _ _ h => h), StD.is, (fun _ _ _ _ _ h => h), StD.is, StD.is, StD.is, (fun _ _ _ _ _ h => h), trivial⟩ ?m2
    case m2 =>
      simp (maxSteps := 100000000) only [AllV, OblD, LeansD, factAtD, allFactsD, depV, actOf, putAll, putRow, List.set_cons_succ, List.set_cons_zero, List.map_cons, List.getElem?_cons_zero, List.getElem?_cons_succ, Option.getD_some, List.map_nil, List.take_succ_cons, List.take_zero, List.drop_succ_cons, List.drop_zero, List.cons_append, List.nil_append, List.length_cons, List.length_nil, Nat.reduceAdd]
      intro x0 x1 x2 x3 x4 x5 x6 x7 x8 x9
      refine ⟨⟨?_, ?_, ?_, ?_, ?_, ?_, ?_, ?_, ?_, ?_, trivial⟩, ?_⟩
      -- 0: 11 := Op.load 61 t1
      · intro w hw  K hK; refine cast (if_pos (show Region.wanted _ _ = true from rfl)).symm ?_; refine wp_load_blk 61 (.tmp 1) rfl (cs := [.int .i64 2, .int .i64 4, .int .i64 20, .int .i64 4, .int .i64 6, .int .i64 4, .int .i64 4, .int .i64 8, .int .i64 6, .int .i64 3, .int .i64 8]) _ rfl Tryz.underlying61 rfl (by kernel_rfl) ((hle0.trans hw).heap HBX.out) ?_; exact hK _ _ (Le.refl _) (IsD.mk _ _ _)
      -- 1: 12 := Op.fieldAddr 61 t1 3
      · intro w hw  K hK; go_simp; exact hK _ _ (Le.refl _) (IsD.mk _ _ _)
      -- 2: 13 := Op.load 3 t12
      · intro w hw h1 K hK; cases h1; have k0 := HBC.out 10 (.int .i64 8) rfl w (hle0.trans hw); go_simp; exact hK _ _ (Le.refl _) (IsD.mk _ _ _)
      -- 3: 14 := Op.call { value (Operand.func 47), args := #[t13], argTypes := #[3] }
      · intro w hw h2 K hK; cases h2; go_simp; refine (newArena _).mono ?_; rintro r w' ⟨b, rfl, hb⟩; exact hK _ _ hb ⟨b, rfl⟩
      -- 4: 15 := Op.move t4
      · intro w hw  K hK; go_simp; exact hK _ _ (Le.refl _) (IsD.mk _ _ _)
      -- 5: 16 := Op.call { value (Operand.func 48), args := #[t15], argTypes := #[3] }
      · intro w hw h4 K hK; cases h4; go_simp; refine (newPins _).mono ?_; rintro r w' ⟨b, rfl, hb⟩; exact hK _ _ hb ⟨b, rfl⟩
      -- 6: 17 := Op.move t4
      · intro w hw  K hK; go_simp; exact hK _ _ (Le.refl _) (IsD.mk _ _ _)
      -- 7: 18 := Op.fieldAddr 61 t1 2
      · intro w hw  K hK; go_simp; exact hK _ _ (Le.refl _) (IsD.mk _ _ _)
      -- 8: 19 := Op.load 3 t18
      · intro w hw h7 K hK; cases h7; have k0 := HBC.out 9 (.int .i64 3) rfl w (hle0.trans hw); go_simp; exact hK _ _ (Le.refl _) (IsD.mk _ _ _)
      -- 9: 20 := Op.call { value (Operand.func 49), args := #[t17, t19], argTypes := #[3, 3] }
      · intro w hw h6 h8 K hK; cases h6; cases h8; go_simp; refine (newBoard _).mono ?_; rintro r w' ⟨b, rfl, hb⟩; exact hK _ _ hb ⟨b, rfl⟩
      · intro wz hz h0 h1 h2 h3 h4 h5 h6 h7 h8 h9; cases h0; cases h1; cases h2; obtain ⟨b3, rfl⟩ := h3; cases h4; obtain ⟨b5, rfl⟩ := h5; cases h6; cases h7; cases h8; obtain ⟨b9, rfl⟩ := h9; skip
        go_wp2_with fail
        go_meet
        exact ⟨_, b3, b5, b9, rfl, hide ⟨by have h1 := HLB.out.size; have h2 := ((Le.refl w1).drew.trans hz).size; have h3 := HGC.out; omega, heap_at rfl⟩, ((Le.refl w1).drew.trans hz).alloc _⟩
  case rest =>
    obtain ⟨B, a, p, b, rfl, HF, hle⟩ := hcut
    generalize wc = w2 at *
    have HL2 := hide hle
    clear hle
    have HCB := hide (fun (i : Nat) (v : Value) (hv : (wholeC a p b (.pointer none) (.slice none 0 0) (.slice none 0 0))[i]? = some v) => box_cell HF.out.2 i v hv)
    go_upto_region 3 with fail
    go_cut [] (fun wx => ∃ c, CtlV cb c wx ∧ Hd (wx.heap[B]? = some (.cells (wholeC a p b c (.slice none 0 0) (.slice none 0 0)) 107 (0, 0))) ∧ Hd (wx.heap[cb]? = some (.cells confC.toArray 61 (0, 0))) ∧ Below cb w wx)
    case first =>
      have hle0 := (Le.refl w2).drew
      refine' wp_region_tailD 18 18 23 Le (IsD _ :: IsD _ :: IsD _ :: IsD _ :: IsD _ :: IsD _ :: IsD _ :: IsD _ :: IsD _ :: IsD _ :: IsD _ :: IsD _ :: IsD _ :: IsD _ :: IsD _ :: (fun _ v W => CtlV cb v W) :: IsD _ :: IsD _ :: []) ([] :: [] :: [1] :: [] :: [3] :: [4] :: [5] :: [] :: [7] :: [8] :: [9] :: [] :: [11] :: [12] :: [13] :: [2, 6, 10, 14] :: [0] :: [16] :: []) (by kernel_rfl) (by kernel_rfl) (by rfl) (by kernel_rfl) (by kernel_rfl) Le.refl (fun _ _ _ h h' => h.trans h') ⟨StD.is, StD.is, StD.is, StD.is, StD.is, StD.is, StD.is, StD.is, StD.is, StD.is, StD.is, StD.is, StD.is, StD.is, StD.is, (fun _ _ _ _ h hc => hc.le h), StD.is, StD.is, trivial⟩ ?m3
      case m3 =>
        simp (maxSteps := 100000000) only [AllV, OblD, LeansD, factAtD, allFactsD, depV, actOf, putAll, putRow, List.set_cons_succ, List.set_cons_zero, List.map_cons, List.getElem?_cons_zero, List.getElem?_cons_succ, Option.getD_some, List.map_nil, List.take_succ_cons, List.take_zero, List.drop_succ_cons, List.drop_zero, List.cons_append, List.nil_append, List.length_cons, List.length_nil, Nat.reduceAdd]
        intro x0 x1 x2 x3 x4 x5 x6 x7 x8 x9 x10 x11 x12 x13 x14 x15 x16 x17
        refine ⟨⟨?_, ?_, ?_, ?_, ?_, ?_, ?_, ?_, ?_, ?_, ?_, ?_, ?_, ?_, ?_, ?_, ?_, ?_, trivial⟩, ?_⟩
        -- 0: 23 := Op.move t5
        · intro w hw  K hK; go_simp; exact hK _ _ (Le.refl _) (IsD.mk _ _ _)
        -- 1: 24 := Op.fieldAddr 61 t1 0
        · intro w hw  K hK; go_simp; exact hK _ _ (Le.refl _) (IsD.mk _ _ _)
        -- 2: 25 := Op.load 59 t24
        · intro w hw h1 K hK; cases h1; refine cast (if_pos (show Region.wanted _ _ = true from rfl)).symm ?_; refine wp_load_in 59 (.tmp 24) rfl [] [.int .i64 2, .int .i64 4, .int .i64 20, .int .i64 4, .int .i64 6, .int .i64 4, .int .i64 4, .int .i64 8] [.int .i64 6, .int .i64 3, .int .i64 8] _ rfl Tryz.underlying59 rfl (by kernel_rfl) (((HL2.out.trans hle0).trans hw).heap HBX.out) ?_; exact hK _ _ (Le.refl _) (IsD.mk _ _ _)
        -- 3: 26 := Op.move t5
        · intro w hw  K hK; go_simp; exact hK _ _ (Le.refl _) (IsD.mk _ _ _)
        -- 4: 27 := Op.nilCheck t26
        · intro w hw h3 K hK; cases h3; go_simp; exact hK _ _ (Le.refl _) (IsD.mk _ _ _)
        -- 5: 28 := Op.fieldAddr 107 t27 1
        · intro w hw h4 K hK; cases h4; go_simp; exact hK _ _ (Le.refl _) (IsD.mk _ _ _)
        -- 6: 29 := Op.load 96 t28
        · intro w hw h5 K hK; cases h5; have k0 := HCB.out 11 (.pointer (some ⟨a, 0, none⟩)) rfl w (hle0.trans hw); go_simp; exact hK _ _ (Le.refl _) (IsD.mk _ _ _)
        -- 7: 30 := Op.move t5
        · intro w hw  K hK; go_simp; exact hK _ _ (Le.refl _) (IsD.mk _ _ _)
        -- 8: 31 := Op.nilCheck t30
        · intro w hw h7 K hK; cases h7; go_simp; exact hK _ _ (Le.refl _) (IsD.mk _ _ _)
        -- 9: 32 := Op.fieldAddr 107 t31 2
        · intro w hw h8 K hK; cases h8; go_simp; exact hK _ _ (Le.refl _) (IsD.mk _ _ _)
        -- 10: 33 := Op.load 99 t32
        · intro w hw h9 K hK; cases h9; have k0 := HCB.out 12 (.pointer (some ⟨p, 0, none⟩)) rfl w (hle0.trans hw); go_simp; exact hK _ _ (Le.refl _) (IsD.mk _ _ _)
        -- 11: 34 := Op.move t5
        · intro w hw  K hK; go_simp; exact hK _ _ (Le.refl _) (IsD.mk _ _ _)
        -- 12: 35 := Op.nilCheck t34
        · intro w hw h11 K hK; cases h11; go_simp; exact hK _ _ (Le.refl _) (IsD.mk _ _ _)
        -- 13: 36 := Op.fieldAddr 107 t35 3
        · intro w hw h12 K hK; cases h12; go_simp; exact hK _ _ (Le.refl _) (IsD.mk _ _ _)
        -- 14: 37 := Op.load 101 t36
        · intro w hw h13 K hK; cases h13; have k0 := HCB.out 13 (.pointer (some ⟨b, 0, none⟩)) rfl w (hle0.trans hw); go_simp; exact hK _ _ (Le.refl _) (IsD.mk _ _ _)
        -- 15: 38 := Op.call { value (Operand.func 50), args := #[t25, t29, t33, t37], argTypes := #[59, 96, 99, 101] }
        · intro w hw h2 h6 h10 h14 K hK; cases h2; cases h6; cases h10; cases h14; go_simp; refine (newControl_v _ _ _ _).mono ?_; rintro r w' ⟨v, rfl, hv, hb⟩; exact hK _ _ hb (hv.mono (by have h1 := HLB.out.size; have h2 := HL2.out.size; have h3 := (hle0.trans hw).size; have h4 := HGC.out; omega))
        -- 16: 39 := Op.nilCheck t23
        · intro w hw h0 K hK; cases h0; go_simp; exact hK _ _ (Le.refl _) (IsD.mk _ _ _)
        -- 17: 40 := Op.fieldAddr 107 t39 4
        · intro w hw h16 K hK; cases h16; go_simp; exact hK _ _ (Le.refl _) (IsD.mk _ _ _)
        · intro wz hz h0 h1 h2 h3 h4 h5 h6 h7 h8 h9 h10 h11 h12 h13 h14 h15 h16 h17; cases h0; cases h1; cases h2; cases h3; cases h4; cases h5; cases h6; cases h7; cases h8; cases h9; cases h10; cases h11; cases h12; cases h13; cases h14; cases h16; cases h17; skip
          obtain ⟨C, A1, Q1, cs1, rfl, hct⟩ := h15
          have HBZ := hide ((hle0.trans hz).heap HF.out.2)
          have z0 := fun (i : Nat) => free_block HBZ.out i
          have z1 : wz.cell? ⟨B, 14, none⟩ = some (.pointer none) := cell_block HBZ.out 14
          have HCT := hide hct
          clear hct
          go_wp2_with fail
          go_meet
          have hQ4 := heap_set (i := 14) (.pointer (some ⟨C, 0, none⟩)) HBZ.out
          have hcv : CtlV cb (.pointer (some ⟨C, 0, none⟩)) wz := ⟨C, A1, Q1, cs1, rfl, HCT.out⟩
          exact ⟨_, hcv.grown (grown_set _) (fun k cs t fr hk ht e => by
            injection e with e
            subst e
            rw [HBZ.out] at hk
            injection hk with hk
            injection hk with _ hk _
            subst hk
            revert ht
            decide), hide hQ4, hide (heap_far _ ((HL2.out.trans (hle0.trans hz)).heap HBX.out) (blk_ne' ((HL2.out.trans (hle0.trans hz)).heap HBX.out) HBZ.out (by decide))), (((HLB.out.trans HL2.out).trans (hle0.trans hz)).out.mono (Nat.le_of_eq HGC.out.symm)).setCell HF.out.1 _⟩
    case rest =>
      obtain ⟨c, hcv, HB3, HK3, hb3⟩ := hcut
      generalize wc = w3 at *
      have HH3 : Hd (Half cb w3 B a p b c 0 (.slice none 0 0) []) := hide ⟨HF.out.1, HB3.out, hcv, World.ownsRow_nil _ _ _ _⟩
      obtain ⟨C, _, _, _, rfl, _⟩ := id hcv
      have hs := hb3.size
      have HS3 := hide (show cb ≤ w3.heap.size by have := HGC.out; omega)
      have HBL3 := hide hb3
      have y14 : w3.cell? ⟨B, 14, none⟩ = some (.pointer (some ⟨C, 0, none⟩)) := cell_block HB3.out 14
      clear hcv HB3 HCB HBC hb3 hs
      go_wp2_with fail
      clear y14
      go_loopw [6, 7, 47] (fun s6 s7 j wr => ∃ (k : Nat) (ws : Value) (xs : List Value), k ≤ 2 ∧ j = .int .i64 k ∧ Hd (Half cb wr B a p b (.pointer (some ⟨C, 0, none⟩)) k ws xs) ∧ Hd (wr.heap[cb]? = some (.cells confC.toArray 61 (0, 0))) ∧ Hd (cb ≤ wr.heap.size) ∧ Below cb w wr) (fun _ _ j _ => 2 - (intOf j).toNat)
      case atStart => exact ⟨0, .slice none 0 0, [], by omega, rfl, HH3, HK3, HS3, HBL3.out⟩
      case round =>
        clear HH3 HK3 HS3 HBL3
        obtain ⟨k, ws, xs, hk, rfl, HH, HK, HS, hb⟩ := hrel
        obtain ⟨A4, cap4, rfl, _, _⟩ := own_slice HH.out.hw
        by_cases hlt : k < 2
        · have hltI : (k : Int) < 2 := by omega
          have HBL := hide hb
          have HCB := hide (fun (i : Nat) (v : Value) (hv : (wholeC a p b (.pointer (some ⟨C, 0, none⟩)) (.slice A4 k cap4) (.slice none 0 0))[i]? = some v) => box_cell HH.out.hB i v hv)
          have HBC := hide (fun (i : Nat) (v : Value) (hv : confC.toArray[i]? = some v) => box_cell HK.out i v hv)
          clear hb
          go_upto_region 9 with fail
          go_cut [7] (fun s7 wx => ∃ q, s7 = .pointer (some ⟨q, 0, none⟩) ∧ Le wr wx)
          case first =>
            have hle0 := (Le.refl wr).drew
            refine' wp_region_tailD 16 16 50 Le (IsD _ :: IsD _ :: IsD _ :: IsD _ :: IsD _ :: IsD _ :: IsD _ :: IsD _ :: IsD _ :: IsD _ :: IsD _ :: IsD _ :: IsD _ :: IsD _ :: IsD _ :: (fun _ v W => ∃ b, v = .pointer (some ⟨b, 0, none⟩)) :: []) ([] :: [] :: [1] :: [] :: [3] :: [4] :: [5] :: [] :: [7] :: [8] :: [9] :: [] :: [11] :: [12] :: [13] :: [0, 2, 6, 10, 14] :: []) (by kernel_rfl) (by kernel_rfl) (by rfl) (by kernel_rfl) (by kernel_rfl) Le.refl (fun _ _ _ h h' => h.trans h') ⟨StD.is, StD.is, StD.is, StD.is, StD.is, StD.is, StD.is, StD.is, StD.is, StD.is, StD.is, StD.is, StD.is, StD.is, StD.is, (fun _ _ _ _ _ h => h), trivial⟩ ?m9
            case m9 =>
              simp (maxSteps := 100000000) only [AllV, OblD, LeansD, factAtD, allFactsD, depV, actOf, putAll, putRow, List.set_cons_succ, List.set_cons_zero, List.map_cons, List.getElem?_cons_zero, List.getElem?_cons_succ, Option.getD_some, List.map_nil, List.take_succ_cons, List.take_zero, List.drop_succ_cons, List.drop_zero, List.cons_append, List.nil_append, List.length_cons, List.length_nil, Nat.reduceAdd]
              intro x0 x1 x2 x3 x4 x5 x6 x7 x8 x9 x10 x11 x12 x13 x14 x15
              refine ⟨⟨?_, ?_, ?_, ?_, ?_, ?_, ?_, ?_, ?_, ?_, ?_, ?_, ?_, ?_, ?_, ?_, trivial⟩, ?_⟩
              -- 0: 50 := Op.move t6
              · intro w hw  K hK; go_simp; exact hK _ _ (Le.refl _) (IsD.mk _ _ _)
              -- 1: 51 := Op.fieldAddr 61 t1 1
              · intro w hw  K hK; go_simp; exact hK _ _ (Le.refl _) (IsD.mk _ _ _)
              -- 2: 52 := Op.load 3 t51
              · intro w hw h1 K hK; cases h1; have k0 := HBC.out 8 (.int .i64 6) rfl w (hle0.trans hw); go_simp; exact hK _ _ (Le.refl _) (IsD.mk _ _ _)
              -- 3: 53 := Op.move t5
              · intro w hw  K hK; go_simp; exact hK _ _ (Le.refl _) (IsD.mk _ _ _)
              -- 4: 54 := Op.nilCheck t53
              · intro w hw h3 K hK; cases h3; go_simp; exact hK _ _ (Le.refl _) (IsD.mk _ _ _)
              -- 5: 55 := Op.fieldAddr 107 t54 1
              · intro w hw h4 K hK; cases h4; go_simp; exact hK _ _ (Le.refl _) (IsD.mk _ _ _)
              -- 6: 56 := Op.load 96 t55
              · intro w hw h5 K hK; cases h5; have k0 := HCB.out 11 (.pointer (some ⟨a, 0, none⟩)) rfl w (hle0.trans hw); go_simp; exact hK _ _ (Le.refl _) (IsD.mk _ _ _)
              -- 7: 57 := Op.move t5
              · intro w hw  K hK; go_simp; exact hK _ _ (Le.refl _) (IsD.mk _ _ _)
              -- 8: 58 := Op.nilCheck t57
              · intro w hw h7 K hK; cases h7; go_simp; exact hK _ _ (Le.refl _) (IsD.mk _ _ _)
              -- 9: 59 := Op.fieldAddr 107 t58 2
              · intro w hw h8 K hK; cases h8; go_simp; exact hK _ _ (Le.refl _) (IsD.mk _ _ _)
              -- 10: 60 := Op.load 99 t59
              · intro w hw h9 K hK; cases h9; have k0 := HCB.out 12 (.pointer (some ⟨p, 0, none⟩)) rfl w (hle0.trans hw); go_simp; exact hK _ _ (Le.refl _) (IsD.mk _ _ _)
              -- 11: 61 := Op.move t5
              · intro w hw  K hK; go_simp; exact hK _ _ (Le.refl _) (IsD.mk _ _ _)
              -- 12: 62 := Op.nilCheck t61
              · intro w hw h11 K hK; cases h11; go_simp; exact hK _ _ (Le.refl _) (IsD.mk _ _ _)
              -- 13: 63 := Op.fieldAddr 107 t62 3
              · intro w hw h12 K hK; cases h12; go_simp; exact hK _ _ (Le.refl _) (IsD.mk _ _ _)
              -- 14: 64 := Op.load 101 t63
              · intro w hw h13 K hK; cases h13; have k0 := HCB.out 13 (.pointer (some ⟨b, 0, none⟩)) rfl w (hle0.trans hw); go_simp; exact hK _ _ (Le.refl _) (IsD.mk _ _ _)
              -- 15: 65 := Op.call { value (Operand.func 51), args := #[t50, t52, t56, t60, t64], argTypes := #[3, 3, 96, 99, 101] }
              · intro w hw h0 h2 h6 h10 h14 K hK; cases h0; cases h2; cases h6; cases h10; cases h14; go_simp; refine (newWorker k hlt _ _ _ _).mono ?_; rintro r w' ⟨b, rfl, hb⟩; exact hK _ _ hb ⟨b, rfl⟩
              · intro wz hz h0 h1 h2 h3 h4 h5 h6 h7 h8 h9 h10 h11 h12 h13 h14 h15; cases h0; cases h1; cases h2; cases h3; cases h4; cases h5; cases h6; cases h7; cases h8; cases h9; cases h10; cases h11; cases h12; cases h13; cases h14; obtain ⟨b15, rfl⟩ := h15; skip
                go_wp2_with fail
                go_meet
                exact ⟨_, rfl, hle0.trans hz⟩
          case rest =>
            obtain ⟨q, rfl, hle5⟩ := hcut
            generalize wc = w5 at *
            have HD := hide (HH.out.le hle5)
            have HKD := hide (hle5.heap HK.out)
            have HSD := hide (Nat.le_trans HS.out hle5.size)
            have HBD := hide (HBL.out.trans (hle5.out.mono HS.out))
            have HO := hide HD.out.hw
            have y5 : w5.cell? ⟨B, 15, none⟩ = some (.slice A4 k cap4) := cell_block HD.out.hB 15
            have y6 : ∀ o, (w5.alloc o).cell? ⟨B, 15, none⟩ = some (.slice A4 k cap4) := fun o => cell_block (heap_alloc (o' := o) HD.out.hB) 15
            clear hle5 HH HK HS HBL HCB HBC
            go_wp2_with (at_builtin; go_must (refine wpl_app rfl slWk (.tmp 72) (.tmp 74) rfl (HO.out.alloc _) rfl rfl (news := [.pointer (some ⟨q, 0, none⟩)]) (cells_new _ [.pointer (some ⟨q, 0, none⟩)] _) rfl (by simp [Value.oneCell']) (by omega) (by omega) (le_alloc HSD.out) ?_); intro v3 w6 hown3 hg3 hat3; obtain ⟨A3, cap3, rfl, _, _⟩ := own_slice hown3; have HOA := hide (HO.out.alloc (.cells #[.pointer (some ⟨q, 0, none⟩)] 109)); have HG3 := hide hg3; have HO3 := hide hown3; have HB6 := hide (heap_grown hg3 (heap_alloc HD.out.hB) (own_ne HOA.out (heap_alloc HD.out.hB) (by decide))); have x5 : w6.cell? ⟨B, 15, none⟩ = some (.slice A4 k cap4) := cell_block HB6.out 15; have x6 := free_block HB6.out 15; clear hown3 hg3 hat3)
            go_roundw
            case rel =>
              have hk6 := heap_grown HG3.out (heap_alloc HKD.out) (own_ne HOA.out (heap_alloc HKD.out) (by decide))
              have hs6 : cb ≤ w6.heap.size := Nat.le_trans (le_alloc HSD.out) HG3.out.size
              refine ⟨k + 1, _, _, by omega, by go_num, hide ((HD.out.le ((Le.refl _).alloc _)).push HG3.out HO3.out), hide (heap_far _ hk6 (blk_ne' hk6 HB6.out (by decide))), hide (by simpa [World.setCell] using hs6), (below_grown (HBD.out.alloc HSD.out _) HOA.out HG3.out (Nat.le_refl _) (le_alloc HSD.out)).setCell HD.out.sB _⟩
            case measure => simp [intOf]; omega
        · have hltI : ¬ (k : Int) < 2 := by omega
          obtain rfl : k = 2 := by omega
          go_wp2_with fail
          go_ret2
          exact ⟨B, a, p, b, _, _, xs, rfl, by rw [HGC.out]; exact HH.out, ⟨by rw [HGC.out]; exact hb⟩⟩
end Go.Proofs.YtkcpfhbfjpldhaaGreatDoor

/- awake24: Run at two steps. (Written by gen_awkm.py.) -/
namespace Go.Proofs.YtkcpfhbfjpldhaaGreatDoor
open Go.RowKit
set_option linter.unusedVariables false

theorem Half.sfu {s : Nat} {w : World} {B a p b : Nat} {c : Value} {k : Nat} {ws : Value} {xs : List Value} (h : Half s w B a p b c k ws xs) : ∃ C A Q, c = .pointer (some ⟨C, 0, none⟩) ∧ Sfu s w B a p b C A Q ws (.slice none 0 0) 0 [] ring0 0 0 := by
  obtain ⟨C, A, Q, cs, rfl, h2, h3, h4, h5, h6, h7, h8, h9⟩ := h.hc
  exact ⟨C, A, Q, rfl, h.sB, h3, h4, h.hB, ⟨cs, h8, h9⟩, h6, h7, World.ownsRow_nil _ _ _ _⟩
theorem Clo.kx {v : Value} {n : Nat} {w w' : World} (h : Clo v n w) (hk : KX w w') : Clo v n w' := by
  obtain ⟨g, h1, h2⟩ := h
  exact ⟨g, h1, hk _ _ _ _ h2 (by decide) (by decide) (by decide) (by decide)⟩
/-- steps' cells in a block -/
def StB (w : World) (g : Nat) (xs : List Value) : Prop := ∃ cur : Array Value, w.heap[g]? = some (.cells cur 70 (0, 0)) ∧ ∀ (j : Nat) (u : Value), xs[j]? = some u → cur[j]? = some u
theorem StB.kx {w w' : World} {g : Nat} {xs : List Value} (h : StB w g xs) (hk : KX w w') : StB w' g xs := by
  obtain ⟨cur, h1, h2⟩ := h
  exact ⟨cur, hk _ _ _ _ h1 (by decide) (by decide) (by decide) (by decide), h2⟩
theorem StB.range {w : World} {g : Nat} {xs : List Value} (h : StB w g xs) (off : Nat) (cs : List Value) (hc : ∀ j u, cs[j]? = some u → xs[off + j]? = some u) : w.rangeAt g off cs := fun j v hj => by
  obtain ⟨cur, h1, h2⟩ := h
  exact (cell_block h1 _).trans (h2 _ _ (hc j v hj))

set_option maxRecDepth 100000 in
set_option maxHeartbeats 4000000 in
theorem step0_any {s : Nat} {w : World} {B a p b C A Q : Nat} {ws ev : Value} (h : Sfu s w B a p b C A Q ws ev 0 [] ring0 0 0) (hs : s ≤ w.heap.size) (l : List UInt8) (A0 : Option Addr) (n0 c0 : Nat) (hl : l.length ≤ 1000000) (hd : D8 w l (.slice A0 n0 c0)) :
    Calls Tryz.prog 76 #[.pointer (some ⟨B, 0, none⟩), .agg #[.int .i64 0, .int .i64 0, .slice A0 n0 c0]] w (Asked s w B a p b C A Q ws l) := by
  have HH := hide h
  have HS := hide hs
  have HD := hide hd
  clear h hs hd
  go_enter Tryz.func76, Tryz.ntmps76
  go_wp2_with fail
  have HL := hide ((Le.refl w).alloc (.cells #[.int .i64 0, .int .i64 0, .slice A0 n0 c0] 70))
  generalize w.alloc _ = w1 at *
  refine (ask_any (HH.out.le HL.out) (Nat.le_trans HS.out HL.out.size) l A0 n0 c0 hl (HD.out.keep HL.out.out)).mono ?_
  rintro r w2 ⟨rfl, ev2, A1, c1, A2, c2, h1, h2, h3, h4, h5⟩
  have H2 := hide (show ∃ ev A1 c1 A2 c2, Sfu s w2 B a p b C A Q ws ev 1 (evC 0 0 0 0 (.slice A1 l.length c1)) (ring1 0 (.slice A2 l.length c2)) 0 1 ∧ D8 w2 l (.slice A1 l.length c1) ∧ D8 w2 l (.slice A2 l.length c2) ∧ KX w w2 ∧ Below s w w2 from ⟨ev2, A1, c1, A2, c2, h1, h2, h3, (KX.of HL.out).trans h4, (HL.out.out.mono HS.out).trans h5⟩)
  clear h1 h2 h3 h4 h5
  go_wp2_with fail
  go_end0
  exact ⟨rfl, H2.out⟩

set_option maxRecDepth 100000 in
set_option maxHeartbeats 4000000 in
theorem step4_any {s : Nat} {w : World} {B a p b C A Q : Nat} {ws ev : Value} {k : Nat} {xs : List Value} {m : Int} {A2 : Option Addr} {c2 g : Nat} (l : List UInt8) (h : Sfu s w B a p b C A Q ws ev k xs (ring1 m (.slice A2 l.length c2)) 0 1) (hs : s ≤ w.heap.size) (hk : k ≤ 1000) (hl : l.length ≤ 1000000) (hd : D8 w l (.slice A2 l.length c2)) (er : Int) (her : rqErr l = er) (hne : er ≠ 0) (hg : w.heap[g]? = some (.cells #[.func (Fn.func 28) #[] #[]] 136 (0, 0))) (A9 : Option Addr) (n9 c9 : Nat) :
    Calls Tryz.prog 75 #[.pointer (some ⟨B, 0, none⟩), .agg #[.int .i64 4, .int .i64 0, .slice A9 n9 c9], .pointer (some ⟨g, 0, none⟩)] w (Accd s w B a p b C A Q ws k xs m er) := by
  have HL := hide ((Le.refl w).alloc (.cells #[.int .i64 4, .int .i64 0, .slice A9 n9 c9] 70))
  have HC := hide (accept_bad l (h.le HL.out) (Nat.le_trans hs HL.out.size) hk hl (hd.keep HL.out.out) er her hne)
  have y0 : (w.alloc (.cells #[.int .i64 4, .int .i64 0, .slice A9 n9 c9] 70)).cell? ⟨g, 0, none⟩ = some (.func (Fn.func 28) #[] #[]) := cell_block (heap_alloc hg) 0
  have HS := hide hs
  clear h hs hd her hne hg
  go_enter Tryz.func75, Tryz.ntmps75
  go_wp2_with fail
  refine HC.out.mono ?_
  rintro r w2 ⟨rfl, ev2, h1, h2, h3⟩
  have H2 := hide (show ∃ ev', Sfu s w2 B a p b C A Q ws ev' (k + 1) (xs ++ evC 2 m 0 er (.slice none 0 0)) ring0 1 0 ∧ KX w w2 ∧ Below s w w2 from ⟨ev2, h1, (KX.of HL.out).trans h2, (HL.out.out.mono HS.out).trans h3⟩)
  clear h1 h2 h3 y0 HC HL
  go_wp2_with fail
  go_end0
  exact ⟨rfl, H2.out⟩

set_option maxRecDepth 100000 in
set_option maxHeartbeats 8000000 in
theorem run_two (w : World) (g cap : Nat) (A0 : Option Addr) (c0 : Nat) (A9 : Option Addr) (c9 : Nat) (l : List UInt8) (hl : l.length ≤ 1000) (her : rqErr l = 10) (hst : StB w g [.int .i64 0, .int .i64 0, .slice A0 l.length c0, .int .i64 4, .int .i64 0, .slice A9 0 c9]) (hd : D8 w l (.slice A0 l.length c0)) :
    Calls Tryz.prog 22 #[.agg #[.int .i64 2, .int .i64 4, .int .i64 20, .int .i64 4, .int .i64 6, .int .i64 4, .int .i64 4, .int .i64 8, .int .i64 6, .int .i64 3, .int .i64 8], .slice (some ⟨g, 0, none⟩) 2 cap] w (fun e w' => ∃ G cap', e = .returned (.tuple #[.slice (some ⟨G, 0, none⟩) 2 cap', .int .i64 0]) ∧ Two2 w' G l ∧ Le w w') := by
  have HST := hide hst
  have HD := hide hd
  have HER := hide her
  clear hst hd her
  go_enter Tryz.func22, Tryz.ntmps22
  go_wp2_with (refine wpl_load_blk rfl 61 (.tmp 2) rfl (cs := [.int .i64 2, .int .i64 4, .int .i64 20, .int .i64 4, .int .i64 6, .int .i64 4, .int .i64 4, .int .i64 8, .int .i64 6, .int .i64 3, .int .i64 8]) _ rfl Tryz.underlying61 rfl (by kernel_rfl) (heap_alloc_new w _) ?_)
  have HL := hide ((Le.refl w).alloc (.cells #[.int .i64 2, .int .i64 4, .int .i64 20, .int .i64 4, .int .i64 6, .int .i64 4, .int .i64 4, .int .i64 8, .int .i64 6, .int .i64 3, .int .i64 8] 61))
  generalize w.heap.size = gc at *
  generalize w.alloc _ = w1 at *
  refine (sfuNew w1).mono ?_
  rintro r w2 ⟨B, a, p, b, c, ws, xs, rfl, hh, hle⟩
  obtain ⟨C, A, Q, rfl, hS⟩ := hh.sfu
  have HS2 := hide hS
  have HL2 := hide hle
  clear hh hS hle
  go_wp2_with fail
  refine (calls_any w2).mono ?_
  rintro r w3 ⟨v4, v5, v6, v7, rfl, h4, h5, h6, h7, hle⟩
  obtain ⟨g4, rfl, HG4⟩ := h4
  obtain ⟨g5, rfl, _⟩ := h5
  obtain ⟨g6, rfl, _⟩ := h6
  obtain ⟨g7, rfl, _⟩ := h7
  have H3 := hide (And.intro HG4 hle)
  clear HG4 hle
  go_wp2_with (refine wpl_store_blk rfl 94 (.tmp 8) (.tmp 19) (cs := (CallsV (.func (Fn.func 75) #[] #[.pointer (some ⟨g4, 0, none⟩)]) (.func (Fn.func 75) #[] #[.pointer (some ⟨g5, 0, none⟩)]) (.func (Fn.func 75) #[] #[.pointer (some ⟨g6, 0, none⟩)]) (.func (Fn.func 75) #[] #[.pointer (some ⟨g7, 0, none⟩)])).toList) (old := [Value.nilFunc, Value.nilFunc, Value.nilFunc, Value.nilFunc, Value.nilFunc, Value.nilFunc, Value.nilFunc, Value.nilFunc, Value.nilFunc]) rfl rfl rfl (by kernel_rfl) (by simp [CallsV, fnV, Value.oneCell']) (heap_alloc_new w3 _) rfl ?_; intro wA hA9 hgA; have HDo := hide hA9; have HL4 := hide (le_boxed ((Le.refl w3).alloc _) hgA (Nat.le_refl _)); generalize w3.heap.size = gd at *; clear hA9 hgA)
  have hl34 := H3.out.2.trans HL4.out
  have HSA := hide (HS2.out.le hl34)
  have HLA := hide (HL.out.trans (HL2.out.trans hl34))
  have HSTA := hide (HST.out.kx (KX.of HLA.out))
  have HDA := hide (HD.out.keep HLA.out.out)
  have HCA := hide (HL4.out.heap H3.out.1)
  have HSZ := hide (HL2.out.trans hl34).size
  obtain ⟨s, hs⟩ : ∃ s, s = w1.heap.size := ⟨_, rfl⟩
  rw [← hs] at HSA HSZ
  have HWS := hide (show w.heap.size ≤ s by rw [hs]; exact HL.out.size)
  clear hs hl34 HS2 HST HD H3 HL4 HL2 HL
  go_loopw [10, 22] (fun s10 j wr => Hd (KX wA wr) ∧ Hd (Below s wA wr) ∧ ((j = .int .i64 0 ∧ Hd (∃ ev, Sfu s wr B a p b C A Q ws ev 0 [] ring0 0 0)) ∨ (j = .int .i64 1 ∧ Hd (∃ ev A1 c1 A2 c2, Sfu s wr B a p b C A Q ws ev 1 (evC 0 0 0 0 (.slice A1 l.length c1)) (ring1 0 (.slice A2 l.length c2)) 0 1 ∧ D8 wr l (.slice A1 l.length c1) ∧ D8 wr l (.slice A2 l.length c2))) ∨ (j = .int .i64 2 ∧ Hd (∃ ev A1 c1, Sfu s wr B a p b C A Q ws ev 2 (evC 0 0 0 0 (.slice A1 l.length c1) ++ evC 2 0 0 10 (.slice none 0 0)) ring0 1 0 ∧ D8 wr l (.slice A1 l.length c1))))) (fun _ j _ => 2 - (intOf j).toNat)
  case atStart => exact ⟨hide (KX.refl _), hide (Below.refl _ _), .inl ⟨rfl, hide ⟨_, HSA.out⟩⟩⟩
  case round =>
    obtain ⟨HK, HB, hrel⟩ := hrel
    have HDR := hide (HK.out _ _ _ _ HDo.out (by decide) (by decide) (by decide) (by decide))
    have HSZR := hide (Nat.le_trans HSZ.out HB.out.size)
    rcases hrel with ⟨rfl, HE⟩ | ⟨rfl, HE⟩ | ⟨rfl, HE⟩
    · have HRNG := hide ((HSTA.out.kx HK.out).range 0 [.int .i64 0, .int .i64 0, .slice A0 l.length c0] (by intro j u hj; match j, hj with | 0, hj => exact hj | 1, hj => exact hj | 2, hj => exact hj | j + 3, hj => simp at hj))
      go_wp2_with (first
        | (refine wpList_load_mid rfl 70 (.tmp 24) rfl g 0 rfl [.int .i64 0, .int .i64 0, .slice A0 l.length c0] _ HRNG.out Tryz.underlying70 rfl (by kernel_rfl) ?_)
        | (refine wpl_store_blk rfl 70 (.tmp 10) (.tmp 25) (cs := [.int .i64 0, .int .i64 0, .slice A0 l.length c0]) (old := [.int .i64 0, .int .i64 0, .slice none 0 0]) rfl rfl rfl (by kernel_rfl) (by simp [Value.oneCell']) (heap_alloc_new wr _) rfl ?_; intro w5 h5 hg5; have H5 := hide (And.intro h5 (le_boxed ((Le.refl wr).alloc _) hg5 (Nat.le_refl _))); generalize wr.heap.size = gs at H5 ⊢; have z0 : w5.cell? ⟨gs, 0, none⟩ = some (.int .i64 0) := cell_block H5.out.1 0; clear h5 hg5))
      obtain ⟨ev, hS⟩ := HE.out
      have HS5 := hide (hS.le H5.out.2)
      clear hS HE
      have HRW := hide (HK.out.le H5.out.2)
      have HBW := hide (HB.out.trans (H5.out.2.out.mono HSZR.out))
      have HSW := hide (Nat.le_trans HSZR.out H5.out.2.size)
      clear z0
      have hle0 := (Le.refl w5).drew
      refine' wp_region_tailD 6 6 34 Le (IsD _ :: IsD _ :: IsD _ :: IsD _ :: IsD _ :: IsD _ :: []) ([] :: [0] :: [1] :: [2] :: [] :: [] :: []) (by kernel_rfl) (by kernel_rfl) (by rfl) (by kernel_rfl) (by kernel_rfl) Le.refl (fun _ _ _ h h' => h.trans h') ⟨StD.is, StD.is, StD.is, StD.is, StD.is, StD.is, trivial⟩ ?m10
      case m10 =>
        simp (maxSteps := 100000000) only [AllV, OblD, LeansD, factAtD, allFactsD, depV, actOf, putAll, putRow, List.set_cons_succ, List.set_cons_zero, List.map_cons, List.getElem?_cons_zero, List.getElem?_cons_succ, Option.getD_some, List.map_nil, List.take_succ_cons, List.take_zero, List.drop_succ_cons, List.drop_zero, List.cons_append, List.nil_append, List.length_cons, List.length_nil, Nat.reduceAdd]
        intro x0 x1 x2 x3 x4 x5
        refine ⟨⟨?_, ?_, ?_, ?_, ?_, ?_, trivial⟩, ?_⟩
        -- 0: 34 := Op.fieldAddr 70 t10 0
        · intro w hw  K hK; go_simp; exact hK _ _ (Le.refl _) (IsD.mk _ _ _)
        -- 1: 35 := Op.load 3 t34
        · intro w hw h0 K hK; cases h0; have k0 : w.cell? ⟨gs, 0, none⟩ = some (.int .i64 0) := cell_block ((hle0.trans hw).heap H5.out.1) 0; go_simp; exact hK _ _ (Le.refl _) (IsD.mk _ _ _)
        -- 2: 36 := Op.indexAddr 94 t8 t35
        · intro w hw h1 K hK; cases h1; go_simp; exact hK _ _ (Le.refl _) (IsD.mk _ _ _)
        -- 3: 37 := Op.load 93 t36
        · intro w hw h2 K hK; cases h2; have k0 : w.cell? ⟨gd, 0, none⟩ = some (.func (Fn.func 76) #[] #[]) := cell_block ((hle0.trans hw).heap (H5.out.2.heap HDR.out)) 0; go_simp; exact hK _ _ (Le.refl _) (IsD.mk _ _ _)
        -- 4: 38 := Op.move t6
        · intro w hw  K hK; go_simp; exact hK _ _ (Le.refl _) (IsD.mk _ _ _)
        -- 5: 39 := Op.load 70 t10
        · intro w hw  K hK; refine cast (if_pos (show Region.wanted _ _ = true from rfl)).symm ?_; refine wp_load_blk 70 (.tmp 10) rfl (cs := [.int .i64 0, .int .i64 0, .slice A0 l.length c0]) _ rfl Tryz.underlying70 rfl (by kernel_rfl) ((hle0.trans hw).heap H5.out.1) ?_; exact hK _ _ (Le.refl _) (IsD.mk _ _ _)
        · intro wz hz h0 h1 h2 h3 h4 h5; cases h0; cases h1; cases h2; cases h3; cases h4; cases h5; skip
          have HZ := hide (hle0.trans hz)
          have HKZ := hide (HRW.out.le HZ.out)
          have HBZ := hide (HBW.out.trans (HZ.out.out.mono HSW.out))
          have HSZZ := hide (Nat.le_trans HSW.out HZ.out.size)
          go_wp2_with fail
          refine (step0_any (HS5.out.le HZ.out) HSZZ.out l A0 l.length c0 (by omega) (HDA.out.kx HKZ.out)).mono ?_
          rintro r w6 ⟨rfl, ev2, A1, c1, A2, c2, h1, h2, h3, h4, h5⟩
          have HKN := hide (HKZ.out.trans h4)
          have HBN := hide (HBZ.out.trans h5)
          have HEN := hide (show ∃ ev A1 c1 A2 c2, Sfu s w6 B a p b C A Q ws ev 1 (evC 0 0 0 0 (.slice A1 l.length c1)) (ring1 0 (.slice A2 l.length c2)) 0 1 ∧ D8 w6 l (.slice A1 l.length c1) ∧ D8 w6 l (.slice A2 l.length c2) from ⟨ev2, A1, c1, A2, c2, h1, h2, h3⟩)
          clear h1 h2 h3 h4 h5
          go_wp2_with fail
          go_roundw
          case rel => exact ⟨HKN, HBN, .inr (.inl ⟨rfl, HEN⟩)⟩
          case measure => simp [intOf]
    · have HRNG := hide ((HSTA.out.kx HK.out).range 3 [.int .i64 4, .int .i64 0, .slice A9 0 c9] (by intro j u hj; match j, hj with | 0, hj => exact hj | 1, hj => exact hj | 2, hj => exact hj | j + 3, hj => simp at hj))
      go_wp2_with (first
        | (refine wpList_load_mid rfl 70 (.tmp 24) rfl g 3 rfl [.int .i64 4, .int .i64 0, .slice A9 0 c9] _ HRNG.out Tryz.underlying70 rfl (by kernel_rfl) ?_)
        | (refine wpl_store_blk rfl 70 (.tmp 10) (.tmp 25) (cs := [.int .i64 4, .int .i64 0, .slice A9 0 c9]) (old := [.int .i64 0, .int .i64 0, .slice none 0 0]) rfl rfl rfl (by kernel_rfl) (by simp [Value.oneCell']) (heap_alloc_new wr _) rfl ?_; intro w5 h5 hg5; have H5 := hide (And.intro h5 (le_boxed ((Le.refl wr).alloc _) hg5 (Nat.le_refl _))); generalize wr.heap.size = gs at H5 ⊢; have z0 : w5.cell? ⟨gs, 0, none⟩ = some (.int .i64 4) := cell_block H5.out.1 0; clear h5 hg5))
      obtain ⟨ev, A1, c1, A2, c2, hS, hD1, hD2⟩ := HE.out
      have HS5 := hide (hS.le H5.out.2)
      have HE5 := hide (hD1.keep H5.out.2.out)
      have HF5 := hide (hD2.keep H5.out.2.out)
      clear hS hD1 hD2 HE
      have HRW := hide (HK.out.le H5.out.2)
      have HBW := hide (HB.out.trans (H5.out.2.out.mono HSZR.out))
      have HSW := hide (Nat.le_trans HSZR.out H5.out.2.size)
      clear z0
      have hle0 := (Le.refl w5).drew
      refine' wp_region_tailD 6 6 34 Le (IsD _ :: IsD _ :: IsD _ :: IsD _ :: IsD _ :: IsD _ :: []) ([] :: [0] :: [1] :: [2] :: [] :: [] :: []) (by kernel_rfl) (by kernel_rfl) (by rfl) (by kernel_rfl) (by kernel_rfl) Le.refl (fun _ _ _ h h' => h.trans h') ⟨StD.is, StD.is, StD.is, StD.is, StD.is, StD.is, trivial⟩ ?m10
      case m10 =>
        simp (maxSteps := 100000000) only [AllV, OblD, LeansD, factAtD, allFactsD, depV, actOf, putAll, putRow, List.set_cons_succ, List.set_cons_zero, List.map_cons, List.getElem?_cons_zero, List.getElem?_cons_succ, Option.getD_some, List.map_nil, List.take_succ_cons, List.take_zero, List.drop_succ_cons, List.drop_zero, List.cons_append, List.nil_append, List.length_cons, List.length_nil, Nat.reduceAdd]
        intro x0 x1 x2 x3 x4 x5
        refine ⟨⟨?_, ?_, ?_, ?_, ?_, ?_, trivial⟩, ?_⟩
        -- 0: 34 := Op.fieldAddr 70 t10 0
        · intro w hw  K hK; go_simp; exact hK _ _ (Le.refl _) (IsD.mk _ _ _)
        -- 1: 35 := Op.load 3 t34
        · intro w hw h0 K hK; cases h0; have k0 : w.cell? ⟨gs, 0, none⟩ = some (.int .i64 4) := cell_block ((hle0.trans hw).heap H5.out.1) 0; go_simp; exact hK _ _ (Le.refl _) (IsD.mk _ _ _)
        -- 2: 36 := Op.indexAddr 94 t8 t35
        · intro w hw h1 K hK; cases h1; go_simp; exact hK _ _ (Le.refl _) (IsD.mk _ _ _)
        -- 3: 37 := Op.load 93 t36
        · intro w hw h2 K hK; cases h2; have k0 : w.cell? ⟨gd, 4, none⟩ = some (.func (Fn.func 75) #[] #[.pointer (some ⟨g4, 0, none⟩)]) := cell_block ((hle0.trans hw).heap (H5.out.2.heap HDR.out)) 4; go_simp; exact hK _ _ (Le.refl _) (IsD.mk _ _ _)
        -- 4: 38 := Op.move t6
        · intro w hw  K hK; go_simp; exact hK _ _ (Le.refl _) (IsD.mk _ _ _)
        -- 5: 39 := Op.load 70 t10
        · intro w hw  K hK; refine cast (if_pos (show Region.wanted _ _ = true from rfl)).symm ?_; refine wp_load_blk 70 (.tmp 10) rfl (cs := [.int .i64 4, .int .i64 0, .slice A9 0 c9]) _ rfl Tryz.underlying70 rfl (by kernel_rfl) ((hle0.trans hw).heap H5.out.1) ?_; exact hK _ _ (Le.refl _) (IsD.mk _ _ _)
        · intro wz hz h0 h1 h2 h3 h4 h5; cases h0; cases h1; cases h2; cases h3; cases h4; cases h5; skip
          have HZ := hide (hle0.trans hz)
          have HKZ := hide (HRW.out.le HZ.out)
          have HBZ := hide (HBW.out.trans (HZ.out.out.mono HSW.out))
          have HSZZ := hide (Nat.le_trans HSW.out HZ.out.size)
          go_wp2_with fail
          refine (step4_any l (HS5.out.le HZ.out) HSZZ.out (by omega) (by omega) (HF5.out.keep HZ.out.out) 10 HER.out (by decide) (HKZ.out _ _ _ _ HCA.out (by decide) (by decide) (by decide) (by decide)) A9 0 c9).mono ?_
          rintro r w6 ⟨rfl, ev2, h1, h4, h5⟩
          have HKN := hide (HKZ.out.trans h4)
          have HBN := hide (HBZ.out.trans h5)
          have HEN := hide (show ∃ ev A1 c1, Sfu s w6 B a p b C A Q ws ev 2 (evC 0 0 0 0 (.slice A1 l.length c1) ++ evC 2 0 0 10 (.slice none 0 0)) ring0 1 0 ∧ D8 w6 l (.slice A1 l.length c1) from ⟨ev2, A1, c1, h1, (HE5.out.keep HZ.out.out).kx h4⟩)
          clear h1 h4 h5
          go_wp2_with fail
          go_roundw
          case rel => exact ⟨HKN, HBN, .inr (.inr ⟨rfl, HEN⟩)⟩
          case measure => simp [intOf]
    · obtain ⟨ev, A1, c1, hS, hD⟩ := HE.out
      have HS := hide hS
      have HD := hide hD
      clear hS hD HE
      go_wp2_with fail
      refine (events_two l (by omega) A1 c1 HS.out HD.out).mono ?_
      rintro r w9 ⟨G, cap9, rfl, hT, hle9⟩
      have H9 := hide (And.intro hT hle9)
      clear hT hle9
      go_wp2_with fail
      go_ret2
      exact ⟨G, cap9, rfl, H9.out.1, ⟨(HLA.out.out.trans (HB.out.mono HWS.out)).trans (H9.out.2.out.mono (Nat.le_trans HWS.out HSZR.out))⟩⟩
end Go.Proofs.YtkcpfhbfjpldhaaGreatDoor
