/- louverref19.Parse. -/
import Derived.Test.YtlfomilalkkbeaaReqParse
import Derived.Test.YtlfomilalkkbeaaParL2
import Derived.Test.YtlfomilalkkbeaaW
import Derived.Test.YtlfomilalkkbeaaTail
import Derived.Test.YtlfomilalkkbeaaMid
namespace Go.Proofs.Ytlfomilalkkbeaa
open Go.RowKit
set_option linter.unusedVariables false

theorem parseP_bad {w w' : World} {l : List UInt8} {err : Int} (he : rqErr l = err) (hne : err ≠ 0) (hb : Below w.heap.size w w') :
    ParseP w (prId l) (prRq l) (rqErr l) (.returned (.tuple #[.int .u64 (0 : Nat), .agg #[.int .i64 0, .int .i64 0, .int .i64 0, .int .i64 0, .int .i64 0, .slice none 0 0, .int .i64 0, .int .i64 0], .int .i64 err])) w' := by
  have h := pr_bad l (by rw [he]; exact hne)
  rw [h.1, h.2, he]
  exact ⟨none, 0, rfl, RSl.nil, hb⟩

set_option maxRecDepth 100000 in
set_option maxHeartbeats 4000000 in
theorem rparse_any (l : List UInt8) (w : World) (hl : l.length ≤ 1000000) :
    Calls Try.prog 30 #[.string (str l)] w (ParseP w (prId l) (prRq l) (rqErr l)) := by
  by_cases h18 : l.length < 18
  · have HE := hide (err_short l (by omega))
    go_enter Try.func30, Try.ntmps30
    go_wp2
    refine bodyPost_ret (v := .tuple #[.int .u64 (0 : Nat), .agg #[.int .i64 0, .int .i64 0, .int .i64 0, .int .i64 0, .int .i64 0, .slice none 0 0, .int .i64 0, .int .i64 0], .int .i64 10]) (by simp [results, Try.results30, go_sem]) rfl (parseP_bad HE.out (by omega) ?_)
    exact ((Below.refl _ _).alloc (Nat.le_refl _) _)
  have h17 : (17 : Int) < (l.length : Int) := by omega
  have hcn := cnt_ok l (by omega)
  have hb17 := (l[17]'(by omega)).toNat_lt
  by_cases hsh : l.length < 18 + 4 * (l[17]'(by omega)).toNat
  · have HE := hide (err_short l (by rw [hcn]; exact hsh))
    clear hcn
    go_enter Try.func30, Try.ntmps30
    go_wp2
    refine bodyPost_ret (v := .tuple #[.int .u64 (0 : Nat), .agg #[.int .i64 0, .int .i64 0, .int .i64 0, .int .i64 0, .int .i64 0, .slice none 0 0, .int .i64 0, .int .i64 0], .int .i64 10]) (by simp [results, Try.results30, go_sem]) rfl (parseP_bad HE.out (by omega) ?_)
    exact ((Below.refl _ _).alloc (Nat.le_refl _) _)
  have HCN := hide hcn
  have HERR := hide (err_ok l (by omega) (by rw [hcn]; omega))
  have HRQ := hide (rq_closed l (by omega) (by rw [hcn]; omega))
  have HID := hide (id_closed l (by omega))
  have hT := fun W => rtake_any l 0 8 W (by omega)
  rw [show mayB 8 = mayB ((8 : Nat) : Int) from rfl, show ((8 : Int)) = ((8 : Nat) : Int) from rfl, cut_ok l 8 (by omega) (by omega) (by omega)] at hT
  have HT := hide hT
  clear hcn hT
  obtain ⟨y17, e17⟩ : ∃ y, l[17]'(by omega) = y := ⟨_, rfl⟩
  rw [e17] at hsh HCN hb17
  obtain ⟨y8, e8⟩ : ∃ y, l[8]'(by omega) = y := ⟨_, rfl⟩
  obtain ⟨y9, e9⟩ : ∃ y, l[9]'(by omega) = y := ⟨_, rfl⟩
  obtain ⟨y10, e10⟩ : ∃ y, l[10]'(by omega) = y := ⟨_, rfl⟩
  obtain ⟨y11, e11⟩ : ∃ y, l[11]'(by omega) = y := ⟨_, rfl⟩
  obtain ⟨y12, e12⟩ : ∃ y, l[12]'(by omega) = y := ⟨_, rfl⟩
  obtain ⟨y13, e13⟩ : ∃ y, l[13]'(by omega) = y := ⟨_, rfl⟩
  obtain ⟨y14, e14⟩ : ∃ y, l[14]'(by omega) = y := ⟨_, rfl⟩
  obtain ⟨y15, e15⟩ : ∃ y, l[15]'(by omega) = y := ⟨_, rfl⟩
  obtain ⟨y16, e16⟩ : ∃ y, l[16]'(by omega) = y := ⟨_, rfl⟩
  rw [e8, e9, e10, e11, e12, e13, e14, e15, e16] at HRQ
  have E8 := hide e8
  have E9 := hide e9
  have E10 := hide e10
  have E11 := hide e11
  have E12 := hide e12
  have E13 := hide e13
  have E14 := hide e14
  have E15 := hide e15
  have E16 := hide e16
  clear e8 e9 e10 e11 e12 e13 e14 e15 e16
  go_enter Try.func30, Try.ntmps30
  go_wp2_with fail
  refine (HT.out _).mono ?_
  rintro r w1 ⟨hr, hb1⟩
  obtain rfl : r = .returned (.tuple #[.agg #[.string (str (l.drop 8)), .int .i64 0], .int .u64 (val (l.take 8) : Nat)]) := hr
  have hw1 : Le w w1 := ((Le.refl w).alloc _).trans ⟨hb1⟩
  have hp3 := (Le.mk hb1).heap (heap_alloc_new w (.cells #[.int .i64 0, .int .i64 0, .int .i64 0, .int .i64 0, .int .i64 0, .slice none 0 0, .int .i64 0, .int .i64 0] 61))
  have hp5 := heap_alloc_new w1 (.cells #[.string (str (l.drop 8)), .int .i64 0] 38)
  have hp3' := heap_alloc (o' := .cells #[.string (str (l.drop 8)), .int .i64 0] 38) hp3
  have hlt3 := lt_of_heap hp3
  have hw2 := hw1.alloc (.cells #[.string (str (l.drop 8)), .int .i64 0] 38)
  clear hb1 hp3
  go_wp2_with fail
  generalize w1.alloc (.cells #[.string (str (l.drop 8)), .int .i64 0] 38) = w2 at *
  generalize w1.heap.size = p5 at *
  have HP3 := hide hp3'; have HP5 := hide hp5; have HW2 := hide hw2
  clear hp3' hp5 hw2 hw1
  generalize hv8 : val (l.take 8) = idv at *
  have HV8 := hide hv8
  clear hv8
  have e8 := E8.out
  have e9 := E9.out
  have e10 := E10.out
  have e11 := E11.out
  have e12 := E12.out
  have e13 := E13.out
  have e14 := E14.out
  have e15 := E15.out
  have e16 := E16.out
  have g8 : (8 : Int) < (l.length : Int) := by omega
  have g9 : (9 : Int) < (l.length : Int) := by omega
  have g10 : (10 : Int) < (l.length : Int) := by omega
  have g11 : (11 : Int) < (l.length : Int) := by omega
  have g12 : (12 : Int) < (l.length : Int) := by omega
  have g13 : (13 : Int) < (l.length : Int) := by omega
  have g14 : (14 : Int) < (l.length : Int) := by omega
  have g15 : (15 : Int) < (l.length : Int) := by omega
  have g16 : (16 : Int) < (l.length : Int) := by omega
  have c1 : ∀ b : UInt8, IntKind.i64.wrap (b.toNat : Int) = b.toNat := fun b => IntWalk.i64_in _ (by have := b.toNat_lt; omega)
  have c2 : ∀ b : UInt8, IntKind.i64.wrap (256 * (b.toNat : Int)) = 256 * b.toNat := fun b => IntWalk.i64_in _ (by have := b.toNat_lt; omega)
  have c3 : ∀ b c : UInt8, IntKind.i64.wrap (256 * (b.toNat : Int) + (c.toNat : Int)) = 256 * b.toNat + c.toNat := fun b c => IntWalk.i64_in _ (by have := b.toNat_lt; have := c.toNat_lt; omega)
  have hsame : True := trivial
  refine' wp_region_tail 33 32 31 Le (Is _ :: Is _ :: Is _ :: Is _ :: Is _ :: Is _ :: Is _ :: Is _ :: Is _ :: Is _ :: Is _ :: Is _ :: Is _ :: Is _ :: Is _ :: Is _ :: Is _ :: Is _ :: Is _ :: Is _ :: Is _ :: Is _ :: Is _ :: Is _ :: Is _ :: Is _ :: Is _ :: Is _ :: Is _ :: Is _ :: Is _ :: Is _ :: (fun v w => ∃ g : Nat, v = .pointer (some ⟨g, 0, none⟩) ∧ w2.heap.size ≤ g ∧ w.heap[g]? = some (.cells #[.int .i64 0, .int .i64 0, .int .i64 0, .int .i64 0, .int .i64 0, .slice none 0 0, .int .i64 0, .int .i64 0] 61 (0, 0))) :: []) ([] :: [0] :: [1] :: [] :: [3] :: [4] :: [5] :: [] :: [7] :: [8] :: [6, 9] :: [] :: [11] :: [12] :: [] :: [14] :: [15] :: [] :: [17] :: [18] :: [19] :: [] :: [21] :: [22] :: [20, 23] :: [] :: [25] :: [26] :: [] :: [28] :: [29] :: [2, 10, 13, 16, 24, 27, 30] :: [] :: []) (by kernel_rfl) (by kernel_rfl) rfl (by kernel_rfl) (by kernel_rfl) Le.refl (fun _ _ _ h h' => h.trans h') ⟨St.is, St.is, St.is, St.is, St.is, St.is, St.is, St.is, St.is, St.is, St.is, St.is, St.is, St.is, St.is, St.is, St.is, St.is, St.is, St.is, St.is, St.is, St.is, St.is, St.is, St.is, St.is, St.is, St.is, St.is, St.is, St.is, fun v w w' h ⟨g, e1, e2, e3⟩ => ⟨g, e1, e2, h.heap e3⟩, trivial⟩ ?m4
  case m4 =>
    simp (maxSteps := 100000000) only [AllV, Obl2, Leans, factAt, allFacts, actOf, putAll, putRow, Act.put, List.setIfInBounds_toArray, List.set_cons_succ, List.set_cons_zero, List.getElem?_cons_zero, List.getElem?_cons_succ, List.take_succ_cons, List.take_zero, List.drop_succ_cons, List.drop_zero, List.cons_append, List.nil_append, List.length_cons, List.length_nil, Nat.reduceAdd]
    intro x0 x1 x2 x3 x4 x5 x6 x7 x8 x9 x10 x11 x12 x13 x14 x15 x16 x17 x18 x19 x20 x21 x22 x23 x24 x25 x26 x27 x28 x29 x30 x31 x32
    refine ⟨⟨?_, ?_, ?_, ?_, ?_, ?_, ?_, ?_, ?_, ?_, ?_, ?_, ?_, ?_, ?_, ?_, ?_, ?_, ?_, ?_, ?_, ?_, ?_, ?_, ?_, ?_, ?_, ?_, ?_, ?_, ?_, ?_, ?_, trivial⟩, ?_⟩
    -- 0: 31 := Op.move t0
    · intro w hw  K hK; go_simp; exact hK _ _ (Le.refl _) (Is.mk _ _)
    -- 1: 32 := Op.index 9 t31 (const (8:i64))
    · intro w hw h0 K hK; cases h0; go_simp; exact hK _ _ (Le.refl _) (Is.mk _ _)
    -- 2: 33 := Op.convert 5 3 t32
    · intro w hw h1 K hK; cases h1; go_simp; exact hK _ _ (Le.refl _) (Is.mk _ _)
    -- 3: 34 := Op.move t0
    · intro w hw  K hK; go_simp; exact hK _ _ (Le.refl _) (Is.mk _ _)
    -- 4: 35 := Op.index 9 t34 (const (9:i64))
    · intro w hw h3 K hK; cases h3; go_simp; exact hK _ _ (Le.refl _) (Is.mk _ _)
    -- 5: 36 := Op.convert 5 3 t35
    · intro w hw h4 K hK; cases h4; go_simp; exact hK _ _ (Le.refl _) (Is.mk _ _)
    -- 6: 37 := Op.binOp BinOp.mul 3 (const (256:i64)) t36 3
    · intro w hw h5 K hK; cases h5; go_simp; exact hK _ _ (Le.refl _) (Is.mk _ _)
    -- 7: 38 := Op.move t0
    · intro w hw  K hK; go_simp; exact hK _ _ (Le.refl _) (Is.mk _ _)
    -- 8: 39 := Op.index 9 t38 (const (10:i64))
    · intro w hw h7 K hK; cases h7; go_simp; exact hK _ _ (Le.refl _) (Is.mk _ _)
    -- 9: 40 := Op.convert 5 3 t39
    · intro w hw h8 K hK; cases h8; go_simp; exact hK _ _ (Le.refl _) (Is.mk _ _)
    -- 10: 41 := Op.binOp BinOp.add 3 t37 t40 3
    · intro w hw h6 h9 K hK; cases h6; cases h9; go_simp; exact hK _ _ (Le.refl _) (Is.mk _ _)
    -- 11: 42 := Op.move t0
    · intro w hw  K hK; go_simp; exact hK _ _ (Le.refl _) (Is.mk _ _)
    -- 12: 43 := Op.index 9 t42 (const (11:i64))
    · intro w hw h11 K hK; cases h11; go_simp; exact hK _ _ (Le.refl _) (Is.mk _ _)
    -- 13: 44 := Op.convert 5 3 t43
    · intro w hw h12 K hK; cases h12; go_simp; exact hK _ _ (Le.refl _) (Is.mk _ _)
    -- 14: 45 := Op.move t0
    · intro w hw  K hK; go_simp; exact hK _ _ (Le.refl _) (Is.mk _ _)
    -- 15: 46 := Op.index 9 t45 (const (12:i64))
    · intro w hw h14 K hK; cases h14; go_simp; exact hK _ _ (Le.refl _) (Is.mk _ _)
    -- 16: 47 := Op.convert 5 3 t46
    · intro w hw h15 K hK; cases h15; go_simp; exact hK _ _ (Le.refl _) (Is.mk _ _)
    -- 17: 48 := Op.move t0
    · intro w hw  K hK; go_simp; exact hK _ _ (Le.refl _) (Is.mk _ _)
    -- 18: 49 := Op.index 9 t48 (const (13:i64))
    · intro w hw h17 K hK; cases h17; go_simp; exact hK _ _ (Le.refl _) (Is.mk _ _)
    -- 19: 50 := Op.convert 5 3 t49
    · intro w hw h18 K hK; cases h18; go_simp; exact hK _ _ (Le.refl _) (Is.mk _ _)
    -- 20: 51 := Op.binOp BinOp.mul 3 (const (256:i64)) t50 3
    · intro w hw h19 K hK; cases h19; go_simp; exact hK _ _ (Le.refl _) (Is.mk _ _)
    -- 21: 52 := Op.move t0
    · intro w hw  K hK; go_simp; exact hK _ _ (Le.refl _) (Is.mk _ _)
    -- 22: 53 := Op.index 9 t52 (const (14:i64))
    · intro w hw h21 K hK; cases h21; go_simp; exact hK _ _ (Le.refl _) (Is.mk _ _)
    -- 23: 54 := Op.convert 5 3 t53
    · intro w hw h22 K hK; cases h22; go_simp; exact hK _ _ (Le.refl _) (Is.mk _ _)
    -- 24: 55 := Op.binOp BinOp.add 3 t51 t54 3
    · intro w hw h20 h23 K hK; cases h20; cases h23; go_simp; exact hK _ _ (Le.refl _) (Is.mk _ _)
    -- 25: 56 := Op.move t0
    · intro w hw  K hK; go_simp; exact hK _ _ (Le.refl _) (Is.mk _ _)
    -- 26: 57 := Op.index 9 t56 (const (15:i64))
    · intro w hw h25 K hK; cases h25; go_simp; exact hK _ _ (Le.refl _) (Is.mk _ _)
    -- 27: 58 := Op.convert 5 3 t57
    · intro w hw h26 K hK; cases h26; go_simp; exact hK _ _ (Le.refl _) (Is.mk _ _)
    -- 28: 59 := Op.move t0
    · intro w hw  K hK; go_simp; exact hK _ _ (Le.refl _) (Is.mk _ _)
    -- 29: 60 := Op.index 9 t59 (const (16:i64))
    · intro w hw h28 K hK; cases h28; go_simp; exact hK _ _ (Le.refl _) (Is.mk _ _)
    -- 30: 61 := Op.convert 5 3 t60
    · intro w hw h29 K hK; cases h29; go_simp; exact hK _ _ (Le.refl _) (Is.mk _ _)
    -- 31: 62 := Op.build 61 #[(0, t33), (1, t41), (2, t44), (3, t47), (4, t55), (6, t58), (7, t61)]
    · intro w hw h2 h10 h13 h16 h24 h27 h30 K hK; cases h2; cases h10; cases h13; cases h16; cases h24; cases h27; cases h30; go_simp; exact hK _ _ (Le.refl _) (Is.mk _ _)
    -- 32: 7 := Op.alloc 61
    · intro w hw  K hK; go_simp; exact hK _ _ ((Le.refl _).alloc _) ⟨_, rfl, hw.size, heap_alloc_new _ _⟩
    · intro wz hz h0 h1 h2 h3 h4 h5 h6 h7 h8 h9 h10 h11 h12 h13 h14 h15 h16 h17 h18 h19 h20 h21 h22 h23 h24 h25 h26 h27 h28 h29 h30 h31 h32; cases h0; cases h1; cases h2; cases h3; cases h4; cases h5; cases h6; cases h7; cases h8; cases h9; cases h10; cases h11; cases h12; cases h13; cases h14; cases h15; cases h16; cases h17; cases h18; cases h19; cases h20; cases h21; cases h22; cases h23; cases h24; cases h25; cases h26; cases h27; cases h28; cases h29; cases h30; cases h31; obtain ⟨p7, rfl, hp7, hP7⟩ := h32; skip
      have hlz : Le w2 wz := (Le.refl w2).drew.trans hz
      have HLZ := hide hlz
      clear hz hlz c1 c2 c3 g8 g9 g10 g11 g12 g13 g14 g15 g16 hsame e8 e9 e10 e11 e12 e13 e14 e15 e16
      refine wpl_store_blk rfl 61 (.tmp 7) (.tmp 62) rfl rfl rfl (by kernel_rfl) (by simp [Value.oneCell']) hP7 rfl ?_
      intro w7 hP7' hg7
      have hl7 : Le w2 w7 := ⟨below_row HLZ.out.out hg7 hp7 HLZ.out.size⟩
      have z0 := cell_block hP7' 0
      simp only [List.getElem?_toArray, List.getElem?_cons_zero] at z0
      have HP7 := hide hP7'; have HG7 := hide hp7; have HP37 := hide (hl7.heap HP3.out); have HP57 := hide (hl7.heap HP5.out)
      have HL7 := hide (HW2.out.trans hl7)
      have hp57 : p5 < p7 := Nat.lt_of_lt_of_le (lt_of_heap HP5.out) hp7
      clear hP7 hP7' hg7 hl7 hp7 HLZ HP3 HP5 HW2
      have hp3w : w.heap.size < p5 := hlt3
      by_cases hk9 : 9 < y8.toNat
      · have hk9' : (9 : Int) < (y8.toNat : Int) := by omega
        have HE := hide (show rqErr l = 11 by rw [HERR.out, HRQ.out, if_pos (by simp only; omega)])
        go_wp2_with (first | (refine wpl_store_blk rfl 61 (.tmp 3) (.tmp 66) rfl rfl rfl (by kernel_rfl) (by simp [Value.oneCell']) HP37.out rfl ?_; intro w8 hP38 hg8; have r0 := cell_block hP38 0; have r1 := cell_block hP38 1; have r2 := cell_block hP38 2; have r3 := cell_block hP38 3; have r4 := cell_block hP38 4; have r5 := cell_block hP38 5; have r6 := cell_block hP38 6; have r7 := cell_block hP38 7; have HG8 := hide hg8; simp only [List.getElem?_toArray, List.getElem?_cons_zero, List.getElem?_cons_succ] at r0 r1 r2 r3 r4 r5 r6 r7; clear hP38 hg8 z0))
        refine bodyPost_ret (v := .tuple #[.int .u64 (0 : Nat), .agg #[.int .i64 0, .int .i64 0, .int .i64 0, .int .i64 0, .int .i64 0, .slice none 0 0, .int .i64 0, .int .i64 0], .int .i64 11]) (by simp [results, Try.results30, go_sem, r0, r1, r2, r3, r4, r5, r6, r7]) rfl (parseP_bad HE.out (by omega) ?_)
        exact below_row HL7.out.out HG8.out (Nat.le_refl _) HL7.out.size
      have hk9' : ¬ (9 : Int) < (y8.toNat : Int) := by omega
      have hC := fun W => rbytes_any (l.drop 8) 0 10 W (by simp; omega)
      rw [show cut (l.drop 8) 0 10 (decide ((0 : Int) ≤ 10)) = (l.drop 18, 0, (l.drop 8).take 10) by
        rw [cut, if_neg (by simp), if_neg (by simp), if_neg (by simp; omega)]
        simp [List.drop_drop]] at hC
      have HC := hide hC
      have s0 := cell_block HP57.out 0; have s1 := cell_block HP57.out 1
      simp only [List.getElem?_toArray, List.getElem?_cons_zero, List.getElem?_cons_succ] at s0 s1
      clear hC
      go_wp2_with fail
      refine (HC.out _).mono ?_
      rintro r w8 ⟨hr, hb8⟩
      obtain rfl : r = .returned (.tuple #[.agg #[.string (str (l.drop 18)), .int .i64 0], .string (str ((l.drop 8).take 10))]) := hr
      have hl8 : Le w7 w8 := ⟨hb8⟩
      have HP38 := hide (hl8.heap HP37.out); have HP78 := hide (hl8.heap HP7.out); have hP58 := hl8.heap HP57.out
      have HL8 := hide (HL7.out.trans hl8)
      clear hb8 hl8 HP37 HP7 HP57 HL7 HC s0 s1 z0
      go_wp2_with (first | (refine wpl_store_blk rfl 38 (.tmp 5) (.tmp 70) rfl rfl rfl (by kernel_rfl) (by simp [Value.oneCell']) hP58 rfl ?_; intro w9 hP59 hg9; have HP59 := hide hP59; have HG9 := hide hg9; clear hP59 hg9 hP58))
      have hl9 : Le w w9 := ⟨below_row HL8.out.out HG9.out (by omega) HL8.out.size⟩
      have HP39 := hide (heap_grown HG9.out HP38.out (fun e => by injection e with e; omega))
      have HP79 := hide (heap_grown HG9.out HP78.out (fun e => by injection e with e; omega))
      have h0 : HP59 = HP59 := rfl
      clear HG9 HP38 HP78 HL8 h0
      go_loopw [8] (fun j wr => ∃ (k : Nat) (v : Value), k ≤ y17.toNat ∧ j = .int .i64 k ∧ Hd (wr.heap[p5]? = some (.cells #[.string (str (l.drop (18 + 4 * k))), .int .i64 0] 38 (0, 0))) ∧ Hd (wr.heap[p7]? = some (.cells #[.int .i64 (y8.toNat : Nat), .int .i64 (256 * (y9.toNat : Int) + (y10.toNat : Int)), .int .i64 (y11.toNat : Nat), .int .i64 (y12.toNat : Nat), .int .i64 (256 * (y13.toNat : Int) + (y14.toNat : Int)), v, .int .i64 (y15.toNat : Nat), .int .i64 (y16.toNat : Nat)] 61 (0, 0))) ∧ Hd (wr.heap[w.heap.size]? = some (.cells #[.int .i64 0, .int .i64 0, .int .i64 0, .int .i64 0, .int .i64 0, .slice none 0 0, .int .i64 0, .int .i64 0] 61 (0, 0))) ∧ Hd (wr.ownsRow w.heap.size 83 1 v k ((numsTo l k).map fun x => Value.int .u32 (x : Nat))) ∧ Le w wr) (fun j _ => y17.toNat - (intOf j).toNat)
      case atStart => exact ⟨0, .slice none 0 0, Nat.zero_le _, rfl, HP59, HP79, HP39, hide (World.ownsRow_nil _ _ _ _), hl9⟩
      case round =>
        clear HP59 HP79 HP39 hl9
        obtain ⟨k, v, hk, rfl, H5, H7, H3, HO, hle⟩ := hrel
        have s0 := cell_block H5.out 0; have s1 := cell_block H5.out 1
        simp only [List.getElem?_toArray, List.getElem?_cons_zero, List.getElem?_cons_succ] at s0 s1
        by_cases hlt : k < y17.toNat
        · have hltI : (k : Int) < (y17.toNat : Int) := by omega
          have hT := fun W => rtake_any (l.drop (18 + 4 * k)) 0 4 W (by simp; omega)
          rw [show mayB 4 = mayB ((4 : Nat) : Int) from rfl, show ((4 : Int)) = ((4 : Nat) : Int) from rfl, cut_ok _ 4 (by omega) (by omega) (by simp; omega), List.drop_drop] at hT
          have HT := hide hT
          have hnl := numAt_lt l k
          have hwr : IntKind.u32.wrap ((numAt l k : Nat) : Int) = numAt l k := IntWalk.u32_in _ (by omega)
          have HNS := hide (show ((numsTo l (k + 1)).map fun x => Value.int .u32 (x : Nat)) = ((numsTo l k).map fun x => Value.int .u32 (x : Nat)) ++ [.int .u32 (numAt l k : Nat)] by rw [numsTo_succ, List.map_append]; rfl)
          obtain ⟨A, cap, rfl, hcap, _⟩ := own_slice HO.out
          have HNE5 := hide (own_ne HO.out H5.out (by decide)); have HNE7 := hide (own_ne HO.out H7.out (by decide)); have HNE3 := hide (own_ne HO.out H3.out (by decide))
          have HLE := hide hle
          clear hT hle hnl hlt
          go_wp2_with fail
          refine (HT.out _).mono ?_
          rintro r w5 ⟨hr, hb5⟩
          obtain rfl : r = .returned (.tuple #[.agg #[.string (str (l.drop (18 + 4 * k + 4))), .int .i64 0], .int .u64 (numAt l k : Nat)]) := hr
          have hl5 := (Le.mk hb5).alloc (.cells #[.string (str (l.drop (18 + 4 * k + 4))), .int .i64 0] 38)
          have H55 := hide (hl5.heap H5.out); have H75 := hide (hl5.heap H7.out); have H35 := hide (hl5.heap H3.out); have HO5 := hide (hl5.own HO.out)
          have HLE5 := hide (HLE.out.trans hl5)
          clear hb5 hl5 s0 s1 H5 H7 H3 HO HT HLE
          generalize numAt l k = x at *
          go_wp2_with (first
            | (refine wpl_store_blk rfl 38 (.tmp 5) (.tmp 84) rfl rfl rfl (by kernel_rfl) (by simp [Value.oneCell']) H55.out rfl ?_; intro w6 h6 hg6; have H56 := hide h6; have H76 := hide (heap_grown hg6 H75.out (fun e => by injection e with e; omega)); have H36 := hide (heap_grown hg6 H35.out (fun e => by injection e with e; omega)); have HO6 := hide (HO5.out.kept hg6 (Or.inr HNE5.out)); have HL6 := hide (below_row HLE5.out.out hg6 (by omega) HLE5.out.size); have z5 := cell_block H76.out 5; simp only [List.getElem?_toArray, List.getElem?_cons_zero, List.getElem?_cons_succ] at z5; clear h6 hg6)
            | (at_builtin; go_must (refine wpl_app rfl sl32 (.tmp 86) (.tmp 89) rfl (HO6.out.alloc _) rfl rfl (cells_new _ [_] _) rfl (by simp [Value.oneCell']) (by omega) (by omega) (le_alloc HL6.out.size) ?_); intro v8 w8 ho8 hg8 hat8; have H58 := hide (heap_grown hg8 (heap_alloc H56.out) HNE5.out); have H78 := hide (heap_grown hg8 (heap_alloc H76.out) HNE7.out); have H38 := hide (heap_grown hg8 (heap_alloc H36.out) HNE3.out); have HL8 := hide (below_grown (HL6.out.alloc HL6.out.size _) (HO6.out.alloc _) hg8 (Nat.le_refl _) (le_alloc HL6.out.size)); obtain ⟨A8, cap8, rfl, hcap8, _⟩ := own_slice ho8; have HO8 := hide ho8; have y5 := cell_block H78.out 5; have f5 := free_block H78.out 5; simp only [List.getElem?_toArray, List.getElem?_cons_zero, List.getElem?_cons_succ] at y5; clear ho8 hg8 hat8 z5))
          go_roundw
          case rel =>
            have h7 := heap_set (i := 5) (.slice A8 (k + 1) cap8) H78.out
            simp only [List.setIfInBounds_toArray, List.set_cons_zero, List.set_cons_succ] at h7
            refine ⟨k + 1, .slice A8 (k + 1) cap8, by omega, by go_num, hide ?_, hide h7, hide ?_, hide ?_, ⟨HL8.out.setCell (p := ⟨p7, 5, none⟩) (Nat.le_of_lt (Nat.lt_trans hp3w hp57)) _⟩⟩
            · have := heap_far (p := p7) (i := 5) (.slice A8 (k + 1) cap8) H58.out (by omega)
              rw [show 18 + 4 * (k + 1) = 18 + 4 * k + 4 by omega]
              exact this
            · exact heap_far (p := p7) (i := 5) (.slice A8 (k + 1) cap8) H38.out (by omega)
            · have := ownsRow_setCell_other (a := ⟨p7, 5, none⟩) HO8.out (own_ne HO8.out H78.out (by decide)) (.slice A8 (k + 1) cap8)
              rw [HNS.out]
              exact this
          case measure => simp [intOf]; omega
        · obtain rfl : k = y17.toNat := by omega
          have hltI : ¬ ((y17.toNat : Nat) : Int) < (y17.toNat : Int) := by omega
          obtain ⟨A, cap, rfl, hcap, _⟩ := own_slice HO.out
          have HLE := hide hle
          obtain ⟨L, hL⟩ : ∃ L, l.drop (18 + 4 * y17.toNat) = L := ⟨_, rfl⟩
          rw [hL] at s0
          have hLl : L.length = l.length - (18 + 4 * y17.toNat) := by rw [← hL]; simp
          have HERR2 := hide (show rqErr l = if 18 + 4 * y17.toNat < l.length then 12 else 0 by rw [HERR.out, HRQ.out, if_neg (by simp only; omega), HCN.out])
          clear hle hL
          by_cases hmore : 18 + 4 * y17.toNat < l.length
          · have HE := hide (show rqErr l = 12 by rw [HERR2.out, if_pos hmore])
            have hne : L ≠ [] := by rintro rfl; simp at hLl; omega
            have hne1 : (L == []) = false := by simpa using hne
            have hne2 : L.isEmpty = false := by simpa using hne
            have HLne := hide hne
            clear hne
            go_wp2_with (first | (refine wpl_store_blk rfl 61 (.tmp 3) (.tmp 95) rfl rfl rfl (by kernel_rfl) (by simp [Value.oneCell']) H3.out rfl ?_; intro w8 hP38 hg8; have r0 := cell_block hP38 0; have r1 := cell_block hP38 1; have r2 := cell_block hP38 2; have r3 := cell_block hP38 3; have r4 := cell_block hP38 4; have r5 := cell_block hP38 5; have r6 := cell_block hP38 6; have r7 := cell_block hP38 7; have HG8 := hide hg8; simp only [List.getElem?_toArray, List.getElem?_cons_zero, List.getElem?_cons_succ] at r0 r1 r2 r3 r4 r5 r6 r7; clear hP38 hg8 s0 s1))
            refine bodyPost_ret (v := .tuple #[.int .u64 (0 : Nat), .agg #[.int .i64 0, .int .i64 0, .int .i64 0, .int .i64 0, .int .i64 0, .slice none 0 0, .int .i64 0, .int .i64 0], .int .i64 12]) (by simp [results, Try.results30, go_sem, r0, r1, r2, r3, r4, r5, r6, r7]) rfl (parseP_bad HE.out (by omega) ?_)
            exact below_row HLE.out.out HG8.out (Nat.le_refl _) HLE.out.size
          · have HE := hide (show rqErr l = 0 by rw [HERR2.out, if_neg hmore])
            obtain rfl : L = [] := List.eq_nil_of_length_eq_zero (by omega)
            go_wp2_with fail
            have HNE3 := hide (own_ne HO.out H3.out (by decide))
            have q0 := box_cell H7.out 0 _ rfl
            have q1 := box_cell H7.out 1 _ rfl
            have q2 := box_cell H7.out 2 _ rfl
            have q3 := box_cell H7.out 3 _ rfl
            have q4 := box_cell H7.out 4 _ rfl
            have q5 := box_cell H7.out 5 _ rfl
            have q6 := box_cell H7.out 6 _ rfl
            have q7 := box_cell H7.out 7 _ rfl
            clear s0 s1
            refine' wp_region_tail 3 2 96 Le (Is _ :: Is _ :: Is _ :: []) ([] :: [] :: [0] :: []) (by kernel_rfl) (by kernel_rfl) rfl (by kernel_rfl) (by kernel_rfl) Le.refl (fun _ _ _ h h' => h.trans h') ⟨St.is, St.is, St.is, trivial⟩ ?m16
            case m16 =>
              simp (maxSteps := 100000000) only [AllV, Obl2, Leans, factAt, allFacts, actOf, putAll, putRow, Act.put, List.setIfInBounds_toArray, List.set_cons_succ, List.set_cons_zero, List.getElem?_cons_zero, List.take_succ_cons, List.take_zero, List.drop_succ_cons, List.drop_zero, List.cons_append, List.nil_append, List.length_cons, List.length_nil, Nat.reduceAdd]
              intro x0 x1 x2
              refine ⟨⟨?_, ?_, ?_, trivial⟩, ?_⟩
              -- 0: 96 := Op.move t6
              · intro w hw  K hK; go_simp; exact hK _ _ (Le.refl _) (Is.mk _ _)
              -- 1: 97 := Op.load 61 t7
              · intro w hw  K hK; have hle := (Le.refl wr).drew.trans hw; go_simp; exact hK _ _ (Le.refl _) (Is.mk _ _)
              -- 2: 2 := Op.assign t96
              · intro w hw h0 K hK; cases h0; go_simp; exact hK _ _ (Le.refl _) (Is.mk _ _)
              · intro wz hz h0 h1 h2; cases h0; cases h1; cases h2; skip
                clear q0 q1 q2 q3 q4 q5 q6 q7
                have hlz := (Le.refl wr).drew.trans hz
                have HZ := hide (HLE.out.trans hlz)
                have HOZ := hide (hlz.own HO.out)
                have H3Z := hide (hlz.heap H3.out)
                clear hz hlz
                go_wp2_with (first | (refine wpl_store_blk rfl 61 (.tmp 3) (.tmp 97) rfl rfl rfl (by kernel_rfl) (by simp [Value.oneCell']) H3Z.out rfl ?_; intro w8 hP38 hg8; have r0 := cell_block hP38 0; have r1 := cell_block hP38 1; have r2 := cell_block hP38 2; have r3 := cell_block hP38 3; have r4 := cell_block hP38 4; have r5 := cell_block hP38 5; have r6 := cell_block hP38 6; have r7 := cell_block hP38 7; have HG8 := hide hg8; simp only [List.getElem?_toArray, List.getElem?_cons_zero, List.getElem?_cons_succ] at r0 r1 r2 r3 r4 r5 r6 r7; clear hP38 hg8))
                refine bodyPost_ret (v := .tuple #[.int .u64 (idv : Nat), .agg #[.int .i64 (y8.toNat : Nat), .int .i64 (256 * (y9.toNat : Int) + (y10.toNat : Int)), .int .i64 (y11.toNat : Nat), .int .i64 (y12.toNat : Nat), .int .i64 (256 * (y13.toNat : Int) + (y14.toNat : Int)), .slice A y17.toNat cap, .int .i64 (y15.toNat : Nat), .int .i64 (y16.toNat : Nat)], .int .i64 0]) (by simp [results, Try.results30, go_sem, r0, r1, r2, r3, r4, r5, r6, r7]) rfl ?_
                have h1 := pr_ok l HE.out
                rw [HID.out] at h1
                rw [h1.1, h1.2, HRQ.out, HE.out, HCN.out]
                refine ⟨A, cap, by rw [numsTo_len]; rfl, ?_, below_row HZ.out.out HG8.out (Nat.le_refl _) HZ.out.size⟩
                rw [numsTo_len]
                exact rsl_u32 (HOZ.out.kept HG8.out (Or.inr HNE3.out)) (fun x hx => by
                  simp only [numsTo, List.mem_map] at hx
                  obtain ⟨j, _, rfl⟩ := hx
                  exact numAt_lt l j)
end Go.Proofs.Ytlfomilalkkbeaa
