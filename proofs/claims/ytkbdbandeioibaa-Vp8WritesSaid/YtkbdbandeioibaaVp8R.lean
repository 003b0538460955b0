/- vp8.right. -/
import Derived.Test.YtkbdbandeioibaaVp8C
import Derived.Test.YtkbdbandeioibaaVp8E
namespace Go.Proofs.Ytkbdbandeioibaa
open Go.RowKit
set_option linter.unusedVariables false

theorem and5 (a b c d e : Bool) : (a = false) ∨ (a = true ∧ b = false) ∨ (a = true ∧ b = true ∧ c = false) ∨ (a = true ∧ b = true ∧ c = true ∧ d = false) ∨ (a = true ∧ b = true ∧ c = true ∧ d = true) := by
  cases a <;> cases b <;> cases c <;> cases d <;> simp

set_option maxRecDepth 100000 in
set_option maxHeartbeats 4000000 in
theorem right_false (d : Dsc) (hwd : d.wide = false) (w : World) : Calls Try.prog 50 #[d.val] w (Gives w (.bool d.right)) := by
  have hcl := fun w => clean_any d w
  have heq := fun w => desc_eql d d.clean w
  have hgu := fun w => desc_guarded .eql (.tmp 6) (.tmp 8) d d.clean w
  rw [Dsc.right]
  generalize d.clean = C at *
  generalize hq : decide (d = C) = q at *
  clear hq
  obtain ⟨more, lone, start, part, hasPic, wide, pic, hasTl0, tl0, hasTid, tid, sync, hasKey, key⟩ := d
  rw [Dsc.val] at *
  simp only at *
  have HC := hide hcl
  have HEQ := hide heq
  have HGU := hide hgu
  clear hcl heq hgu
  generalize hmost : (if wide then 32767 else 127 : Nat) = most
  have h1 : (decide ((part : Int) ≤ 7)) = decide (part ≤ 7) := decide_eq_decide.2 (by omega)
  have h2 : (decide ((pic : Int) ≤ (most : Int))) = decide (pic ≤ most) := decide_eq_decide.2 (by omega)
  have h3 : (decide ((tid : Int) ≤ 3)) = decide (tid ≤ 3) := decide_eq_decide.2 (by omega)
  have h4 : (decide ((key : Int) ≤ 31)) = decide (key ≤ 31) := decide_eq_decide.2 (by omega)
  generalize decide (part ≤ 7) = b1 at *
  generalize decide (pic ≤ most) = b2 at *
  generalize decide (tid ≤ 3) = b3 at *
  generalize decide (key ≤ 31) = b4 at *
  have hl := (Le.refl w).alloc (.cells (#[.bool more, .bool lone, .bool start, .int .u8 part, .bool hasPic, .bool wide, .int .u16 pic, .bool hasTl0, .int .u8 tl0, .bool hasTid, .int .u8 tid, .bool sync, .bool hasKey, .int .u8 key] : Array Value) 49)
  have HL := hide hl.drew
  have HB := hide (Le.refl (w.alloc (.cells (#[.bool more, .bool lone, .bool start, .int .u8 part, .bool hasPic, .bool wide, .int .u16 pic, .bool hasTl0, .int .u8 tl0, .bool hasTid, .int .u8 tid, .bool sync, .bool hasKey, .int .u8 key] : Array Value) 49))).drew
  have hy := heap_alloc_new w (.cells (#[.bool more, .bool lone, .bool start, .int .u8 part, .bool hasPic, .bool wide, .int .u16 pic, .bool hasTl0, .int .u8 tl0, .bool hasTid, .int .u8 tid, .bool sync, .bool hasKey, .int .u8 key] : Array Value) 49)
  have HY0 := hide (box_cell hy 0 _ rfl)
  have HY1 := hide (box_cell hy 1 _ rfl)
  have HY2 := hide (box_cell hy 2 _ rfl)
  have HY3 := hide (box_cell hy 3 _ rfl)
  have HY4 := hide (box_cell hy 4 _ rfl)
  have HY5 := hide (box_cell hy 5 _ rfl)
  have HY6 := hide (box_cell hy 6 _ rfl)
  have HY7 := hide (box_cell hy 7 _ rfl)
  have HY8 := hide (box_cell hy 8 _ rfl)
  have HY9 := hide (box_cell hy 9 _ rfl)
  have HY10 := hide (box_cell hy 10 _ rfl)
  have HY11 := hide (box_cell hy 11 _ rfl)
  have HY12 := hide (box_cell hy 12 _ rfl)
  have HY13 := hide (box_cell hy 13 _ rfl)
  clear hy hl
  subst hwd
  simp only [Bool.false_eq_true, if_false] at hmost
  subst hmost
  replace h2 : decide ((pic : Int) ≤ 127) = b2 := h2
  rcases and5 q b1 b2 b3 b4 with rfl | ⟨rfl, rfl⟩ | ⟨rfl, rfl, rfl⟩ | ⟨rfl, rfl, rfl, rfl⟩ | ⟨rfl, rfl, rfl, rfl⟩
  all_goals
    go_enter Try.func50, Try.ntmps50
    go_upto_region 4 with fail
    refine' wp_region_rows 25 6 Le (Is _ :: Is _ :: Is _ :: Is _ :: Is _ :: Is _ :: Is _ :: Is _ :: Is _ :: Is _ :: Is _ :: Is _ :: Is _ :: Is _ :: Is _ :: Is _ :: Is _ :: Is _ :: Is _ :: Is _ :: Is _ :: Is _ :: Is _ :: Is _ :: Is _ :: Is _ :: []) ([] :: [] :: [1] :: [0, 2] :: [3] :: [4] :: [4, 5] :: [4, 6] :: [4, 7] :: [8] :: [9] :: [9, 10] :: [9] :: [9, 11, 12] :: [9, 13] :: [14] :: [15] :: [15, 16] :: [15, 17] :: [15, 18] :: [19] :: [20] :: [20, 21] :: [20, 22] :: [20, 23] :: [24] :: []) (by kernel_rfl) (by kernel_rfl) rfl (by kernel_rfl) Le.refl (fun _ _ _ h h' => h.trans h') ⟨St.is, St.is, St.is, St.is, St.is, St.is, St.is, St.is, St.is, St.is, St.is, St.is, St.is, St.is, St.is, St.is, St.is, St.is, St.is, St.is, St.is, St.is, St.is, St.is, St.is, St.is, trivial⟩ ?m4
    case m4 =>
      simp (maxSteps := 100000000) only [AllV, Obl2, Leans, factAt, allFacts, actOf, putAll, putRow, Act.put, List.setIfInBounds_toArray, List.set_cons_succ, List.set_cons_zero, List.getElem?_cons_zero, List.getElem?_cons_succ, List.take_succ_cons, List.take_zero, List.drop_succ_cons, List.drop_zero, List.cons_append, List.nil_append, List.length_cons, List.length_nil, Nat.reduceAdd]
      intro x0 x1 x2 x3 x4 x5 x6 x7 x8 x9 x10 x11 x12 x13 x14 x15 x16 x17 x18 x19 x20 x21 x22 x23 x24 x25
      refine ⟨⟨?_, ?_, ?_, ?_, ?_, ?_, ?_, ?_, ?_, ?_, ?_, ?_, ?_, ?_, ?_, ?_, ?_, ?_, ?_, ?_, ?_, ?_, ?_, ?_, ?_, ?_, trivial⟩, ?_⟩
      -- 0: 6 := Op.load 49 t1
      · intro w hw  K hK; have hle := HB.out.trans hw; have c0 := HY0.out w hle; have c1 := HY1.out w hle; have c2 := HY2.out w hle; have c3 := HY3.out w hle; have c4 := HY4.out w hle; have c5 := HY5.out w hle; have c6 := HY6.out w hle; have c7 := HY7.out w hle; have c8 := HY8.out w hle; have c9 := HY9.out w hle; have c10 := HY10.out w hle; have c11 := HY11.out w hle; have c12 := HY12.out w hle; have c13 := HY13.out w hle; go_simp; exact hK _ _ (Le.refl _) (Is.mk _ _)
      -- 1: 7 := Op.load 49 t1
      · intro w hw  K hK; have hle := HB.out.trans hw; have c0 := HY0.out w hle; have c1 := HY1.out w hle; have c2 := HY2.out w hle; have c3 := HY3.out w hle; have c4 := HY4.out w hle; have c5 := HY5.out w hle; have c6 := HY6.out w hle; have c7 := HY7.out w hle; have c8 := HY8.out w hle; have c9 := HY9.out w hle; have c10 := HY10.out w hle; have c11 := HY11.out w hle; have c12 := HY12.out w hle; have c13 := HY13.out w hle; go_simp; exact hK _ _ (Le.refl _) (Is.mk _ _)
      -- 2: 8 := Op.call { value (Operand.func 58), args := #[t7], argTypes := #[49] }
      · intro w hw h1 K hK; cases h1; go_simp; refine (HC.out w).mono ?_; rintro r w' ⟨rfl, hb⟩; exact hK _ _ ⟨hb⟩ (Is.mk _ _)
      -- 3: 9 := Op.binOp BinOp.eql 49 t6 t8 49
      · intro w hw h0 h2 K hK; cases h0; cases h2; have heq := HEQ.out w; have hgu := HGU.out w; go_simp; exact hK _ _ (Le.refl _) (Is.mk _ _)
      -- 4: 10 := Op.move t9
      · intro w hw h3 K hK; cases h3; go_simp; exact hK _ _ (Le.refl _) (Is.mk _ _)
      -- 5: 11 := Op.fieldAddr 49 t1 3   [guarded: some (4, true)]
      · intro w hw h4 K hK; cases h4; go_simp; exact hK _ _ (Le.refl _) (Is.mk _ _)
      -- 6: 12 := Op.load 5 t11   [guarded: some (4, true)]
      · intro w hw h4 h5 K hK; cases h4; cases h5; have c3 := HY3.out w (HB.out.trans hw); go_simp; exact hK _ _ (Le.refl _) (Is.mk _ _)
      -- 7: 13 := Op.binOp BinOp.leq 5 t12 (const (7:u8)) 5   [guarded: some (4, true)]
      · intro w hw h4 h6 K hK; cases h4; cases h6; go_simp; exact hK _ _ (Le.refl _) (Is.mk _ _)
      -- 8: 14 := Op.pick t10 t13 (const (Value.bool false))
      · intro w hw h4 h7 K hK; cases h4; cases h7; go_simp; exact hK _ _ (Le.refl _) (Is.mk _ _)
      -- 9: 15 := Op.move t14
      · intro w hw h8 K hK; cases h8; go_simp; exact hK _ _ (Le.refl _) (Is.mk _ _)
      -- 10: 16 := Op.fieldAddr 49 t1 6   [guarded: some (9, true)]
      · intro w hw h9 K hK; cases h9; go_simp; exact hK _ _ (Le.refl _) (Is.mk _ _)
      -- 11: 17 := Op.load 25 t16   [guarded: some (9, true)]
      · intro w hw h9 h10 K hK; cases h9; cases h10; have c6 := HY6.out w (HB.out.trans hw); go_simp; exact hK _ _ (Le.refl _) (Is.mk _ _)
      -- 12: 18 := Op.move t3   [guarded: some (9, true)]
      · intro w hw h9 K hK; cases h9; go_simp; exact hK _ _ (Le.refl _) (Is.mk _ _)
      -- 13: 19 := Op.binOp BinOp.leq 25 t17 t18 25   [guarded: some (9, true)]
      · intro w hw h9 h11 h12 K hK; cases h9; cases h11; cases h12; go_simp; exact hK _ _ (Le.refl _) (Is.mk _ _)
      -- 14: 20 := Op.pick t15 t19 (const (Value.bool false))
      · intro w hw h9 h13 K hK; cases h9; cases h13; go_simp; exact hK _ _ (Le.refl _) (Is.mk _ _)
      -- 15: 21 := Op.move t20
      · intro w hw h14 K hK; cases h14; go_simp; exact hK _ _ (Le.refl _) (Is.mk _ _)
      -- 16: 22 := Op.fieldAddr 49 t1 10   [guarded: some (15, true)]
      · intro w hw h15 K hK; cases h15; go_simp; exact hK _ _ (Le.refl _) (Is.mk _ _)
      -- 17: 23 := Op.load 5 t22   [guarded: some (15, true)]
      · intro w hw h15 h16 K hK; cases h15; cases h16; have c10 := HY10.out w (HB.out.trans hw); go_simp; exact hK _ _ (Le.refl _) (Is.mk _ _)
      -- 18: 24 := Op.binOp BinOp.leq 5 t23 (const (3:u8)) 5   [guarded: some (15, true)]
      · intro w hw h15 h17 K hK; cases h15; cases h17; go_simp; exact hK _ _ (Le.refl _) (Is.mk _ _)
      -- 19: 25 := Op.pick t21 t24 (const (Value.bool false))
      · intro w hw h15 h18 K hK; cases h15; cases h18; go_simp; exact hK _ _ (Le.refl _) (Is.mk _ _)
      -- 20: 26 := Op.move t25
      · intro w hw h19 K hK; cases h19; go_simp; exact hK _ _ (Le.refl _) (Is.mk _ _)
      -- 21: 27 := Op.fieldAddr 49 t1 13   [guarded: some (20, true)]
      · intro w hw h20 K hK; cases h20; go_simp; exact hK _ _ (Le.refl _) (Is.mk _ _)
      -- 22: 28 := Op.load 5 t27   [guarded: some (20, true)]
      · intro w hw h20 h21 K hK; cases h20; cases h21; have c13 := HY13.out w (HB.out.trans hw); go_simp; exact hK _ _ (Le.refl _) (Is.mk _ _)
      -- 23: 29 := Op.binOp BinOp.leq 5 t28 (const (31:u8)) 5   [guarded: some (20, true)]
      · intro w hw h20 h22 K hK; cases h20; cases h22; go_simp; exact hK _ _ (Le.refl _) (Is.mk _ _)
      -- 24: 30 := Op.pick t26 t29 (const (Value.bool false))
      · intro w hw h20 h23 K hK; cases h20; cases h23; go_simp; exact hK _ _ (Le.refl _) (Is.mk _ _)
      -- 25: 2 := Op.assign t30
      · intro w hw h24 K hK; cases h24; go_simp; exact hK _ _ (Le.refl _) (Is.mk _ _)
      · intro wz hz h0 h1 h2 h3 h4 h5 h6 h7 h8 h9 h10 h11 h12 h13 h14 h15 h16 h17 h18 h19 h20 h21 h22 h23 h24 h25; cases h0; cases h1; cases h2; cases h3; cases h4; cases h5; cases h6; cases h7; cases h8; cases h9; cases h10; cases h11; cases h12; cases h13; cases h14; cases h15; cases h16; cases h17; cases h18; cases h19; cases h20; cases h21; cases h22; cases h23; cases h24; cases h25; skip
        have hlz := (HL.out.trans hz)
        go_wp2_with fail
        go_ret
        exact ⟨rfl, hlz.out⟩

set_option maxRecDepth 100000 in
set_option maxHeartbeats 4000000 in
theorem right_true (d : Dsc) (hwd : d.wide = true) (w : World) : Calls Try.prog 50 #[d.val] w (Gives w (.bool d.right)) := by
  have hcl := fun w => clean_any d w
  have heq := fun w => desc_eql d d.clean w
  have hgu := fun w => desc_guarded .eql (.tmp 6) (.tmp 8) d d.clean w
  rw [Dsc.right]
  generalize d.clean = C at *
  generalize hq : decide (d = C) = q at *
  clear hq
  obtain ⟨more, lone, start, part, hasPic, wide, pic, hasTl0, tl0, hasTid, tid, sync, hasKey, key⟩ := d
  rw [Dsc.val] at *
  simp only at *
  have HC := hide hcl
  have HEQ := hide heq
  have HGU := hide hgu
  clear hcl heq hgu
  generalize hmost : (if wide then 32767 else 127 : Nat) = most
  have h1 : (decide ((part : Int) ≤ 7)) = decide (part ≤ 7) := decide_eq_decide.2 (by omega)
  have h2 : (decide ((pic : Int) ≤ (most : Int))) = decide (pic ≤ most) := decide_eq_decide.2 (by omega)
  have h3 : (decide ((tid : Int) ≤ 3)) = decide (tid ≤ 3) := decide_eq_decide.2 (by omega)
  have h4 : (decide ((key : Int) ≤ 31)) = decide (key ≤ 31) := decide_eq_decide.2 (by omega)
  generalize decide (part ≤ 7) = b1 at *
  generalize decide (pic ≤ most) = b2 at *
  generalize decide (tid ≤ 3) = b3 at *
  generalize decide (key ≤ 31) = b4 at *
  have hl := (Le.refl w).alloc (.cells (#[.bool more, .bool lone, .bool start, .int .u8 part, .bool hasPic, .bool wide, .int .u16 pic, .bool hasTl0, .int .u8 tl0, .bool hasTid, .int .u8 tid, .bool sync, .bool hasKey, .int .u8 key] : Array Value) 49)
  have HL := hide hl.drew
  have HB := hide (Le.refl (w.alloc (.cells (#[.bool more, .bool lone, .bool start, .int .u8 part, .bool hasPic, .bool wide, .int .u16 pic, .bool hasTl0, .int .u8 tl0, .bool hasTid, .int .u8 tid, .bool sync, .bool hasKey, .int .u8 key] : Array Value) 49))).drew
  have hy := heap_alloc_new w (.cells (#[.bool more, .bool lone, .bool start, .int .u8 part, .bool hasPic, .bool wide, .int .u16 pic, .bool hasTl0, .int .u8 tl0, .bool hasTid, .int .u8 tid, .bool sync, .bool hasKey, .int .u8 key] : Array Value) 49)
  have HY0 := hide (box_cell hy 0 _ rfl)
  have HY1 := hide (box_cell hy 1 _ rfl)
  have HY2 := hide (box_cell hy 2 _ rfl)
  have HY3 := hide (box_cell hy 3 _ rfl)
  have HY4 := hide (box_cell hy 4 _ rfl)
  have HY5 := hide (box_cell hy 5 _ rfl)
  have HY6 := hide (box_cell hy 6 _ rfl)
  have HY7 := hide (box_cell hy 7 _ rfl)
  have HY8 := hide (box_cell hy 8 _ rfl)
  have HY9 := hide (box_cell hy 9 _ rfl)
  have HY10 := hide (box_cell hy 10 _ rfl)
  have HY11 := hide (box_cell hy 11 _ rfl)
  have HY12 := hide (box_cell hy 12 _ rfl)
  have HY13 := hide (box_cell hy 13 _ rfl)
  clear hy hl
  subst hwd
  simp only [if_true] at hmost
  subst hmost
  replace h2 : decide ((pic : Int) ≤ 32767) = b2 := h2
  rcases and5 q b1 b2 b3 b4 with rfl | ⟨rfl, rfl⟩ | ⟨rfl, rfl, rfl⟩ | ⟨rfl, rfl, rfl, rfl⟩ | ⟨rfl, rfl, rfl, rfl⟩
  all_goals
    go_enter Try.func50, Try.ntmps50
    go_upto_region 4 with fail
    refine' wp_region_rows 25 6 Le (Is _ :: Is _ :: Is _ :: Is _ :: Is _ :: Is _ :: Is _ :: Is _ :: Is _ :: Is _ :: Is _ :: Is _ :: Is _ :: Is _ :: Is _ :: Is _ :: Is _ :: Is _ :: Is _ :: Is _ :: Is _ :: Is _ :: Is _ :: Is _ :: Is _ :: Is _ :: []) ([] :: [] :: [1] :: [0, 2] :: [3] :: [4] :: [4, 5] :: [4, 6] :: [4, 7] :: [8] :: [9] :: [9, 10] :: [9] :: [9, 11, 12] :: [9, 13] :: [14] :: [15] :: [15, 16] :: [15, 17] :: [15, 18] :: [19] :: [20] :: [20, 21] :: [20, 22] :: [20, 23] :: [24] :: []) (by kernel_rfl) (by kernel_rfl) rfl (by kernel_rfl) Le.refl (fun _ _ _ h h' => h.trans h') ⟨St.is, St.is, St.is, St.is, St.is, St.is, St.is, St.is, St.is, St.is, St.is, St.is, St.is, St.is, St.is, St.is, St.is, St.is, St.is, St.is, St.is, St.is, St.is, St.is, St.is, St.is, trivial⟩ ?m4
    case m4 =>
      simp (maxSteps := 100000000) only [AllV, Obl2, Leans, factAt, allFacts, actOf, putAll, putRow, Act.put, List.setIfInBounds_toArray, List.set_cons_succ, List.set_cons_zero, List.getElem?_cons_zero, List.getElem?_cons_succ, List.take_succ_cons, List.take_zero, List.drop_succ_cons, List.drop_zero, List.cons_append, List.nil_append, List.length_cons, List.length_nil, Nat.reduceAdd]
      intro x0 x1 x2 x3 x4 x5 x6 x7 x8 x9 x10 x11 x12 x13 x14 x15 x16 x17 x18 x19 x20 x21 x22 x23 x24 x25
      refine ⟨⟨?_, ?_, ?_, ?_, ?_, ?_, ?_, ?_, ?_, ?_, ?_, ?_, ?_, ?_, ?_, ?_, ?_, ?_, ?_, ?_, ?_, ?_, ?_, ?_, ?_, ?_, trivial⟩, ?_⟩
      -- 0: 6 := Op.load 49 t1
      · intro w hw  K hK; have hle := HB.out.trans hw; have c0 := HY0.out w hle; have c1 := HY1.out w hle; have c2 := HY2.out w hle; have c3 := HY3.out w hle; have c4 := HY4.out w hle; have c5 := HY5.out w hle; have c6 := HY6.out w hle; have c7 := HY7.out w hle; have c8 := HY8.out w hle; have c9 := HY9.out w hle; have c10 := HY10.out w hle; have c11 := HY11.out w hle; have c12 := HY12.out w hle; have c13 := HY13.out w hle; go_simp; exact hK _ _ (Le.refl _) (Is.mk _ _)
      -- 1: 7 := Op.load 49 t1
      · intro w hw  K hK; have hle := HB.out.trans hw; have c0 := HY0.out w hle; have c1 := HY1.out w hle; have c2 := HY2.out w hle; have c3 := HY3.out w hle; have c4 := HY4.out w hle; have c5 := HY5.out w hle; have c6 := HY6.out w hle; have c7 := HY7.out w hle; have c8 := HY8.out w hle; have c9 := HY9.out w hle; have c10 := HY10.out w hle; have c11 := HY11.out w hle; have c12 := HY12.out w hle; have c13 := HY13.out w hle; go_simp; exact hK _ _ (Le.refl _) (Is.mk _ _)
      -- 2: 8 := Op.call { value (Operand.func 58), args := #[t7], argTypes := #[49] }
      · intro w hw h1 K hK; cases h1; go_simp; refine (HC.out w).mono ?_; rintro r w' ⟨rfl, hb⟩; exact hK _ _ ⟨hb⟩ (Is.mk _ _)
      -- 3: 9 := Op.binOp BinOp.eql 49 t6 t8 49
      · intro w hw h0 h2 K hK; cases h0; cases h2; have heq := HEQ.out w; have hgu := HGU.out w; go_simp; exact hK _ _ (Le.refl _) (Is.mk _ _)
      -- 4: 10 := Op.move t9
      · intro w hw h3 K hK; cases h3; go_simp; exact hK _ _ (Le.refl _) (Is.mk _ _)
      -- 5: 11 := Op.fieldAddr 49 t1 3   [guarded: some (4, true)]
      · intro w hw h4 K hK; cases h4; go_simp; exact hK _ _ (Le.refl _) (Is.mk _ _)
      -- 6: 12 := Op.load 5 t11   [guarded: some (4, true)]
      · intro w hw h4 h5 K hK; cases h4; cases h5; have c3 := HY3.out w (HB.out.trans hw); go_simp; exact hK _ _ (Le.refl _) (Is.mk _ _)
      -- 7: 13 := Op.binOp BinOp.leq 5 t12 (const (7:u8)) 5   [guarded: some (4, true)]
      · intro w hw h4 h6 K hK; cases h4; cases h6; go_simp; exact hK _ _ (Le.refl _) (Is.mk _ _)
      -- 8: 14 := Op.pick t10 t13 (const (Value.bool false))
      · intro w hw h4 h7 K hK; cases h4; cases h7; go_simp; exact hK _ _ (Le.refl _) (Is.mk _ _)
      -- 9: 15 := Op.move t14
      · intro w hw h8 K hK; cases h8; go_simp; exact hK _ _ (Le.refl _) (Is.mk _ _)
      -- 10: 16 := Op.fieldAddr 49 t1 6   [guarded: some (9, true)]
      · intro w hw h9 K hK; cases h9; go_simp; exact hK _ _ (Le.refl _) (Is.mk _ _)
      -- 11: 17 := Op.load 25 t16   [guarded: some (9, true)]
      · intro w hw h9 h10 K hK; cases h9; cases h10; have c6 := HY6.out w (HB.out.trans hw); go_simp; exact hK _ _ (Le.refl _) (Is.mk _ _)
      -- 12: 18 := Op.move t3   [guarded: some (9, true)]
      · intro w hw h9 K hK; cases h9; go_simp; exact hK _ _ (Le.refl _) (Is.mk _ _)
      -- 13: 19 := Op.binOp BinOp.leq 25 t17 t18 25   [guarded: some (9, true)]
      · intro w hw h9 h11 h12 K hK; cases h9; cases h11; cases h12; go_simp; exact hK _ _ (Le.refl _) (Is.mk _ _)
      -- 14: 20 := Op.pick t15 t19 (const (Value.bool false))
      · intro w hw h9 h13 K hK; cases h9; cases h13; go_simp; exact hK _ _ (Le.refl _) (Is.mk _ _)
      -- 15: 21 := Op.move t20
      · intro w hw h14 K hK; cases h14; go_simp; exact hK _ _ (Le.refl _) (Is.mk _ _)
      -- 16: 22 := Op.fieldAddr 49 t1 10   [guarded: some (15, true)]
      · intro w hw h15 K hK; cases h15; go_simp; exact hK _ _ (Le.refl _) (Is.mk _ _)
      -- 17: 23 := Op.load 5 t22   [guarded: some (15, true)]
      · intro w hw h15 h16 K hK; cases h15; cases h16; have c10 := HY10.out w (HB.out.trans hw); go_simp; exact hK _ _ (Le.refl _) (Is.mk _ _)
      -- 18: 24 := Op.binOp BinOp.leq 5 t23 (const (3:u8)) 5   [guarded: some (15, true)]
      · intro w hw h15 h17 K hK; cases h15; cases h17; go_simp; exact hK _ _ (Le.refl _) (Is.mk _ _)
      -- 19: 25 := Op.pick t21 t24 (const (Value.bool false))
      · intro w hw h15 h18 K hK; cases h15; cases h18; go_simp; exact hK _ _ (Le.refl _) (Is.mk _ _)
      -- 20: 26 := Op.move t25
      · intro w hw h19 K hK; cases h19; go_simp; exact hK _ _ (Le.refl _) (Is.mk _ _)
      -- 21: 27 := Op.fieldAddr 49 t1 13   [guarded: some (20, true)]
      · intro w hw h20 K hK; cases h20; go_simp; exact hK _ _ (Le.refl _) (Is.mk _ _)
      -- 22: 28 := Op.load 5 t27   [guarded: some (20, true)]
      · intro w hw h20 h21 K hK; cases h20; cases h21; have c13 := HY13.out w (HB.out.trans hw); go_simp; exact hK _ _ (Le.refl _) (Is.mk _ _)
      -- 23: 29 := Op.binOp BinOp.leq 5 t28 (const (31:u8)) 5   [guarded: some (20, true)]
      · intro w hw h20 h22 K hK; cases h20; cases h22; go_simp; exact hK _ _ (Le.refl _) (Is.mk _ _)
      -- 24: 30 := Op.pick t26 t29 (const (Value.bool false))
      · intro w hw h20 h23 K hK; cases h20; cases h23; go_simp; exact hK _ _ (Le.refl _) (Is.mk _ _)
      -- 25: 2 := Op.assign t30
      · intro w hw h24 K hK; cases h24; go_simp; exact hK _ _ (Le.refl _) (Is.mk _ _)
      · intro wz hz h0 h1 h2 h3 h4 h5 h6 h7 h8 h9 h10 h11 h12 h13 h14 h15 h16 h17 h18 h19 h20 h21 h22 h23 h24 h25; cases h0; cases h1; cases h2; cases h3; cases h4; cases h5; cases h6; cases h7; cases h8; cases h9; cases h10; cases h11; cases h12; cases h13; cases h14; cases h15; cases h16; cases h17; cases h18; cases h19; cases h20; cases h21; cases h22; cases h23; cases h24; cases h25; skip
        have hlz := (HL.out.trans hz)
        go_wp2_with fail
        go_ret
        exact ⟨rfl, hlz.out⟩

theorem right_any (d : Dsc) (w : World) : Calls Try.prog 50 #[d.val] w (Gives w (.bool d.right)) := by
  cases h : d.wide
  · exact right_false d h w
  · exact right_true d h w
end Go.Proofs.Ytkbdbandeioibaa
