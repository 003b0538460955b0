/- louverref19.Put: a request that may be. -/
import Derived.Test.YtlfomilalkkbeaaLongL
import Derived.Test.YtlfomilalkkbeaaW
import Derived.Test.YtlfomilalkkbeaaRow
namespace Go.Proofs.Ytlfomilalkkbeaa
open Go.RowKit
set_option linter.unusedVariables false

theorem conv_block (w : World) (g : Nat) (l : List UInt8) (h : w.heap[g]? = some (.cells (u8s l).toArray 5 (0, 0))) : (convert 24 9 (.slice (some ⟨g, 0, none⟩) l.length l.length)).run Try.prog w = .ok (.string (str l)) w := by
  refine run_convert_bytes_back w _ _ 5 _ _ l Try.underlying24 Try.underlying5 Try.underlying9 (fun j hj => ?_)
  rw [addr_add, cell_block h]
  simp [u8s, hj]

theorem head_bytes (id kind who room rights track layer tid : Nat) (ss : List Nat) : putOne (id, 8) ++ [UInt8.ofNat kind, UInt8.ofNat (who / 256), UInt8.ofNat who, UInt8.ofNat room, UInt8.ofNat rights, UInt8.ofNat (track / 256), UInt8.ofNat track, UInt8.ofNat layer, UInt8.ofNat tid, UInt8.ofNat ss.length] ++ puts (tailP ss) = Rq.bytes id ⟨kind, who, room, rights, track, layer, tid, ss⟩ := by
  rw [bytes_rest, Rq.rest, puts_append, ← List.append_assoc]
  congr 2
  simp [Rq.head, puts, putOne, mayB, be, bAt, List.range_succ]

set_option maxRecDepth 100000 in
set_option maxHeartbeats 4000000 in
theorem rput_ok (id : Nat) (q : Rq) (A : Option Addr) (n cap : Nat) (w : World) (hid : (id : Int) < 18446744073709551616) (hr : RSl 1 RU32 w q.ssrcs (.slice A n cap)) (h : q.ok = true) :
    Calls Try.prog 27 #[.int .u64 id, .agg #[.int .i64 q.kind, .int .i64 q.who, .int .i64 q.room, .int .i64 q.rights, .int .i64 q.track, .slice A n cap, .int .i64 q.layer, .int .i64 q.tid]] w (Gives w (.tuple #[.string (str (q.bytes id)), .int .i64 0])) := by
  have HID := hide hid
  have HR := hide hr
  obtain ⟨A', cap', hv, hcap, hri⟩ := hr
  injection hv with e1 e2 e3
  subst e1 e2 e3
  obtain ⟨⟨a0, a1⟩, ⟨b0, b1⟩, ⟨c0, c1⟩, ⟨d0, d1⟩, ⟨e0, e1⟩, ⟨f0, f1⟩, ⟨g0, g1⟩, h1⟩ := ok_parts h
  obtain ⟨kind, who, room, rights, track, layer, tid, ss⟩ := q
  simp only at *
  obtain ⟨kind, rfl⟩ := Int.eq_ofNat_of_zero_le a0
  obtain ⟨who, rfl⟩ := Int.eq_ofNat_of_zero_le b0
  obtain ⟨room, rfl⟩ := Int.eq_ofNat_of_zero_le c0
  obtain ⟨rights, rfl⟩ := Int.eq_ofNat_of_zero_le d0
  obtain ⟨track, rfl⟩ := Int.eq_ofNat_of_zero_le e0
  obtain ⟨layer, rfl⟩ := Int.eq_ofNat_of_zero_le f0
  obtain ⟨tid, rfl⟩ := Int.eq_ofNat_of_zero_le g0
  have hss : ((ss.length : Nat) : Int) ≤ 255 := by omega
  have k1 : (kind : Int) ≤ 9 := by omega
  have k2 : (who : Int) ≤ 65535 := by omega
  have k3 : (room : Int) ≤ 255 := by omega
  have k4 : (rights : Int) ≤ 255 := by omega
  have k5 : (track : Int) ≤ 65535 := by omega
  have k6 : (layer : Int) ≤ 255 := by omega
  have k7 : (tid : Int) ≤ 255 := by omega
  have HRI := hide hri
  clear hid hri h a0 b0 c0 d0 e0 f0 g0 h1 a1 b1 c1 d1 e1 f1 g1
  have hq := heap_alloc (o' := .cells #[.int .i64 room, .int .i64 rights, .int .i64 layer, .int .i64 tid] 86) (heap_alloc_new w (.cells #[.int .i64 kind, .int .i64 who, .int .i64 room, .int .i64 rights, .int .i64 track, .slice A ss.length cap, .int .i64 layer, .int .i64 tid] 61))
  have hs := heap_alloc_new (w.alloc (.cells #[.int .i64 kind, .int .i64 who, .int .i64 room, .int .i64 rights, .int .i64 track, .slice A ss.length cap, .int .i64 layer, .int .i64 tid] 61)) (.cells #[.int .i64 room, .int .i64 rights, .int .i64 layer, .int .i64 tid] 86)
  rw [alloc_size] at hs
  have hwb : Le w ((w.alloc (.cells #[.int .i64 kind, .int .i64 who, .int .i64 room, .int .i64 rights, .int .i64 track, .slice A ss.length cap, .int .i64 layer, .int .i64 tid] 61)).alloc (.cells #[.int .i64 room, .int .i64 rights, .int .i64 layer, .int .i64 tid] 86)) := ((Le.refl w).alloc _).alloc _
  go_enter Try.func27, Try.ntmps27
  go_wp2_with fail
  generalize (w.alloc (.cells #[.int .i64 kind, .int .i64 who, .int .i64 room, .int .i64 rights, .int .i64 track, .slice A ss.length cap, .int .i64 layer, .int .i64 tid] 61)).alloc (.cells #[.int .i64 room, .int .i64 rights, .int .i64 layer, .int .i64 tid] 86) = wb at *
  generalize w.heap.size = p at *
  have hsm : ∀ k, k < 4 → ∃ x : Nat, x ≤ 255 ∧ wb.cell? ⟨p + 1, k, none⟩ = some (.int .i64 x) := by
    intro k hk
    rw [cell_block hs]
    obtain rfl | rfl | rfl | rfl : k = 0 ∨ k = 1 ∨ k = 2 ∨ k = 3 := by omega
    · exact ⟨room, by omega, rfl⟩
    · exact ⟨rights, by omega, rfl⟩
    · exact ⟨layer, by omega, rfl⟩
    · exact ⟨tid, by omega, rfl⟩
  have HSM := hide hsm
  have q0 := box_cell hq 0 _ rfl
  have q1 := box_cell hq 1 _ rfl
  have q2 := box_cell hq 2 _ rfl
  have q3 := box_cell hq 3 _ rfl
  have q4 := box_cell hq 4 _ rfl
  have q5 := box_cell hq 5 _ rfl
  have q6 := box_cell hq 6 _ rfl
  have q7 := box_cell hq 7 _ rfl
  have hle0 := Le.refl wb
  clear hsm hs hq
  go_loop [7] (fun j => ∃ k : Nat, k ≤ 4 ∧ j = .int .i64 k) (fun j => 4 - (intOf j).toNat)
  case atStart => exact ⟨0, by omega, rfl⟩
  case round =>
    obtain ⟨k, hk, rfl⟩ := hrel
    by_cases hlt : k < 4
    · obtain ⟨x, hx, hc⟩ := HSM.out k hlt
      have hlt' : (k : Int) < 4 := by omega
      go_wp2
      go_round
      case rel => exact ⟨k + 1, by omega, by go_num⟩
      case measure => simp [intOf]; omega
    · have hlt' : ¬ (k : Int) < 4 := by omega
      clear hlt
      go_wp2_with fail
      have HN := hide (fun W => rnum_any id 8 W HID.out)
      have hpl : (putOne (id, 8)).length = 8 := one8_len id
      obtain ⟨P, hP⟩ : ∃ P, putOne (id, 8) = P := ⟨_, rfl⟩
      rw [hP] at HN hpl
      have HPE := hide hP
      clear hP
      have hsum : ¬ 9223372036854775807 < P.length + 10 := by omega
      have hlq := hle0.drew
      have hu := wrap_u8
      have hd : ∀ x : Nat, x ≤ 65535 → IntKind.u8.wrap (IntKind.i64.wrap ((x : Int) / 256)) = ((UInt8.ofNat (x / 256)).toNat : Int) := fun x hx => by
        rw [IntWalk.i64_in _ (by omega), show (x : Int) / 256 = ((x / 256 : Nat) : Int) by omega, hu]
      have t0 := hu kind; have t1 := hd who (by omega); have t2 := hu who; have t3 := hu room; have t4 := hu rights; have t5 := hd track (by omega); have t6 := hu track; have t7 := hu layer; have t8 := hu tid; have t9 := hu ss.length
      clear hu hd
      obtain ⟨b0, b1, b2, b3, b4, b5, b6, b7, b8, b9, HBS⟩ : ∃ b0 b1 b2 b3 b4 b5 b6 b7 b8 b9 : UInt8, Hd (b0 = UInt8.ofNat kind ∧ b1 = UInt8.ofNat (who / 256) ∧ b2 = UInt8.ofNat who ∧ b3 = UInt8.ofNat room ∧ b4 = UInt8.ofNat rights ∧ b5 = UInt8.ofNat (track / 256) ∧ b6 = UInt8.ofNat track ∧ b7 = UInt8.ofNat layer ∧ b8 = UInt8.ofNat tid ∧ b9 = UInt8.ofNat ss.length) := ⟨_, _, _, _, _, _, _, _, _, _, hide ⟨rfl, rfl, rfl, rfl, rfl, rfl, rfl, rfl, rfl, rfl⟩⟩
      rw [← HBS.out.1] at t0
      rw [← HBS.out.2.1] at t1
      rw [← HBS.out.2.2.1] at t2
      rw [← HBS.out.2.2.2.1] at t3
      rw [← HBS.out.2.2.2.2.1] at t4
      rw [← HBS.out.2.2.2.2.2.1] at t5
      rw [← HBS.out.2.2.2.2.2.2.1] at t6
      rw [← HBS.out.2.2.2.2.2.2.2.1] at t7
      rw [← HBS.out.2.2.2.2.2.2.2.2.1] at t8
      rw [← HBS.out.2.2.2.2.2.2.2.2.2] at t9
      clear hle0
      refine' wp_region_rows 38 67 Le (Is _ :: Is _ :: Is _ :: Is _ :: Is _ :: Is _ :: Is _ :: Is _ :: Is _ :: Is _ :: Is _ :: Is _ :: Is _ :: Is _ :: Is _ :: Is _ :: Is _ :: Is _ :: Is _ :: Is _ :: Is _ :: Is _ :: Is _ :: Is _ :: Is _ :: Is _ :: Is _ :: Is _ :: Is _ :: Is _ :: Is _ :: Is _ :: Is _ :: Is _ :: Is _ :: (fun v w => ∃ g : Nat, v = .slice (some ⟨g, 0, none⟩) 10 10 ∧ w.heap[g]? = some (.cells (u8s [b0, b1, b2, b3, b4, b5, b6, b7, b8, b9]).toArray 5 (0, 0))) :: Is _ :: Is _ :: Is _ :: []) ([] :: [0] :: [] :: [2] :: [3] :: [] :: [5] :: [6] :: [7] :: [] :: [9] :: [10] :: [] :: [12] :: [13] :: [] :: [15] :: [16] :: [] :: [18] :: [19] :: [20] :: [] :: [22] :: [23] :: [] :: [25] :: [26] :: [] :: [28] :: [29] :: [] :: [31] :: [32] :: [33] :: [4, 8, 11, 14, 17, 21, 24, 27, 30, 34] :: [35] :: [1, 36] :: [37] :: []) (by kernel_rfl) (by kernel_rfl) rfl (by kernel_rfl) Le.refl (fun _ _ _ h h' => h.trans h') ⟨St.is, St.is, St.is, St.is, St.is, St.is, St.is, St.is, St.is, St.is, St.is, St.is, St.is, St.is, St.is, St.is, St.is, St.is, St.is, St.is, St.is, St.is, St.is, St.is, St.is, St.is, St.is, St.is, St.is, St.is, St.is, St.is, St.is, St.is, St.is, fun v w w' h ⟨g, e1, e2⟩ => ⟨g, e1, h.heap e2⟩, St.is, St.is, St.is, trivial⟩ ?m9
      case m9 =>
        simp (maxSteps := 100000000) only [AllV, Obl2, Leans, factAt, allFacts, actOf, putAll, putRow, Act.put, List.setIfInBounds_toArray, List.set_cons_succ, List.set_cons_zero, List.getElem?_cons_zero, List.getElem?_cons_succ, List.take_succ_cons, List.take_zero, List.drop_succ_cons, List.drop_zero, List.cons_append, List.nil_append, List.length_cons, List.length_nil, Nat.reduceAdd]
        intro x0 x1 x2 x3 x4 x5 x6 x7 x8 x9 x10 x11 x12 x13 x14 x15 x16 x17 x18 x19 x20 x21 x22 x23 x24 x25 x26 x27 x28 x29 x30 x31 x32 x33 x34 x35 x36 x37 x38
        refine ⟨⟨?_, ?_, ?_, ?_, ?_, ?_, ?_, ?_, ?_, ?_, ?_, ?_, ?_, ?_, ?_, ?_, ?_, ?_, ?_, ?_, ?_, ?_, ?_, ?_, ?_, ?_, ?_, ?_, ?_, ?_, ?_, ?_, ?_, ?_, ?_, ?_, ?_, ?_, ?_, trivial⟩, ?_⟩
        -- 0: 67 := Op.move t0
        · intro w hw  K hK; go_simp; exact hK _ _ (Le.refl _) (Is.mk _ _)
        -- 1: 68 := Op.call { value (Operand.func 16), args := #[t67, const (8:i64)], argTypes := #[26, 3] }
        · intro w hw h0 K hK; cases h0; go_simp; refine (HN.out _).mono ?_; rintro r w5 ⟨rfl, hb5⟩; exact hK _ _ ⟨hb5⟩ (Is.mk _ _)
        -- 2: 69 := Op.fieldAddr 61 t3 0
        · intro w hw  K hK; go_simp; exact hK _ _ (Le.refl _) (Is.mk _ _)
        -- 3: 70 := Op.load 3 t69
        · intro w hw h2 K hK; cases h2; have hle := hlq.trans hw; go_simp; exact hK _ _ (Le.refl _) (Is.mk _ _)
        -- 4: 71 := Op.convert 3 5 t70
        · intro w hw h3 K hK; cases h3; go_simp; exact hK _ _ (Le.refl _) (Is.mk _ _)
        -- 5: 72 := Op.fieldAddr 61 t3 1
        · intro w hw  K hK; go_simp; exact hK _ _ (Le.refl _) (Is.mk _ _)
        -- 6: 73 := Op.load 3 t72
        · intro w hw h5 K hK; cases h5; have hle := hlq.trans hw; go_simp; exact hK _ _ (Le.refl _) (Is.mk _ _)
        -- 7: 74 := Op.binOp BinOp.quo 3 t73 (const (256:i64)) 3
        · intro w hw h6 K hK; cases h6; go_simp; exact hK _ _ (Le.refl _) (Is.mk _ _)
        -- 8: 75 := Op.convert 3 5 t74
        · intro w hw h7 K hK; cases h7; go_simp; exact hK _ _ (Le.refl _) (Is.mk _ _)
        -- 9: 76 := Op.fieldAddr 61 t3 1
        · intro w hw  K hK; go_simp; exact hK _ _ (Le.refl _) (Is.mk _ _)
        -- 10: 77 := Op.load 3 t76
        · intro w hw h9 K hK; cases h9; have hle := hlq.trans hw; go_simp; exact hK _ _ (Le.refl _) (Is.mk _ _)
        -- 11: 78 := Op.convert 3 5 t77
        · intro w hw h10 K hK; cases h10; go_simp; exact hK _ _ (Le.refl _) (Is.mk _ _)
        -- 12: 79 := Op.fieldAddr 61 t3 2
        · intro w hw  K hK; go_simp; exact hK _ _ (Le.refl _) (Is.mk _ _)
        -- 13: 80 := Op.load 3 t79
        · intro w hw h12 K hK; cases h12; have hle := hlq.trans hw; go_simp; exact hK _ _ (Le.refl _) (Is.mk _ _)
        -- 14: 81 := Op.convert 3 5 t80
        · intro w hw h13 K hK; cases h13; go_simp; exact hK _ _ (Le.refl _) (Is.mk _ _)
        -- 15: 82 := Op.fieldAddr 61 t3 3
        · intro w hw  K hK; go_simp; exact hK _ _ (Le.refl _) (Is.mk _ _)
        -- 16: 83 := Op.load 3 t82
        · intro w hw h15 K hK; cases h15; have hle := hlq.trans hw; go_simp; exact hK _ _ (Le.refl _) (Is.mk _ _)
        -- 17: 84 := Op.convert 3 5 t83
        · intro w hw h16 K hK; cases h16; go_simp; exact hK _ _ (Le.refl _) (Is.mk _ _)
        -- 18: 85 := Op.fieldAddr 61 t3 4
        · intro w hw  K hK; go_simp; exact hK _ _ (Le.refl _) (Is.mk _ _)
        -- 19: 86 := Op.load 3 t85
        · intro w hw h18 K hK; cases h18; have hle := hlq.trans hw; go_simp; exact hK _ _ (Le.refl _) (Is.mk _ _)
        -- 20: 87 := Op.binOp BinOp.quo 3 t86 (const (256:i64)) 3
        · intro w hw h19 K hK; cases h19; go_simp; exact hK _ _ (Le.refl _) (Is.mk _ _)
        -- 21: 88 := Op.convert 3 5 t87
        · intro w hw h20 K hK; cases h20; go_simp; exact hK _ _ (Le.refl _) (Is.mk _ _)
        -- 22: 89 := Op.fieldAddr 61 t3 4
        · intro w hw  K hK; go_simp; exact hK _ _ (Le.refl _) (Is.mk _ _)
        -- 23: 90 := Op.load 3 t89
        · intro w hw h22 K hK; cases h22; have hle := hlq.trans hw; go_simp; exact hK _ _ (Le.refl _) (Is.mk _ _)
        -- 24: 91 := Op.convert 3 5 t90
        · intro w hw h23 K hK; cases h23; go_simp; exact hK _ _ (Le.refl _) (Is.mk _ _)
        -- 25: 92 := Op.fieldAddr 61 t3 6
        · intro w hw  K hK; go_simp; exact hK _ _ (Le.refl _) (Is.mk _ _)
        -- 26: 93 := Op.load 3 t92
        · intro w hw h25 K hK; cases h25; have hle := hlq.trans hw; go_simp; exact hK _ _ (Le.refl _) (Is.mk _ _)
        -- 27: 94 := Op.convert 3 5 t93
        · intro w hw h26 K hK; cases h26; go_simp; exact hK _ _ (Le.refl _) (Is.mk _ _)
        -- 28: 95 := Op.fieldAddr 61 t3 7
        · intro w hw  K hK; go_simp; exact hK _ _ (Le.refl _) (Is.mk _ _)
        -- 29: 96 := Op.load 3 t95
        · intro w hw h28 K hK; cases h28; have hle := hlq.trans hw; go_simp; exact hK _ _ (Le.refl _) (Is.mk _ _)
        -- 30: 97 := Op.convert 3 5 t96
        · intro w hw h29 K hK; cases h29; go_simp; exact hK _ _ (Le.refl _) (Is.mk _ _)
        -- 31: 98 := Op.fieldAddr 61 t3 5
        · intro w hw  K hK; go_simp; exact hK _ _ (Le.refl _) (Is.mk _ _)
        -- 32: 99 := Op.load 54 t98
        · intro w hw h31 K hK; cases h31; have hle := hlq.trans hw; go_simp; exact hK _ _ (Le.refl _) (Is.mk _ _)
        -- 33: 100 := Op.call { builtin len, args := #[t99], argTypes := #[54] }
        · intro w hw h32 K hK; cases h32; go_simp; exact hK _ _ (Le.refl _) (Is.mk _ _)
        -- 34: 101 := Op.convert 3 5 t100
        · intro w hw h33 K hK; cases h33; go_simp; exact hK _ _ (Le.refl _) (Is.mk _ _)
        -- 35: 102 := Op.buildSlice 24 10 #[(0, t71), (1, t75), (2, t78), (3, t81), (4, t84), (5, t88), (6, t91), (7, t94), (8, t97), (9, t101)]
        · intro w hw h4 h8 h11 h14 h17 h21 h24 h27 h30 h34 K hK; cases h4; cases h8; cases h11; cases h14; cases h17; cases h21; cases h24; cases h27; cases h30; cases h34; go_simp; exact hK _ _ ((Le.refl _).alloc _) ⟨_, rfl, heap_alloc_new _ _⟩
        -- 36: 103 := Op.convert 24 9 t102
        · intro w hw h35 K hK; obtain ⟨g, rfl, hg⟩ := h35; have hc := conv_block w g [b0, b1, b2, b3, b4, b5, b6, b7, b8, b9] hg; simp only [List.length_cons, List.length_nil, Nat.reduceAdd] at hc; go_simp; exact hK _ _ (Le.refl _) (Is.mk _ _)
        -- 37: 104 := Op.binOp BinOp.add 9 t68 t103 9
        · intro w hw h1 h36 K hK; cases h1; cases h36; go_simp; exact hK _ _ (Le.refl _) (Is.mk _ _)
        -- 38: 8 := Op.assign t104
        · intro w hw h37 K hK; cases h37; go_simp; exact hK _ _ (Le.refl _) (Is.mk _ _)
        · intro wz hz h0 h1 h2 h3 h4 h5 h6 h7 h8 h9 h10 h11 h12 h13 h14 h15 h16 h17 h18 h19 h20 h21 h22 h23 h24 h25 h26 h27 h28 h29 h30 h31 h32 h33 h34 h35 h36 h37 h38; cases h0; cases h1; cases h2; cases h3; cases h4; cases h5; cases h6; cases h7; cases h8; cases h9; cases h10; cases h11; cases h12; cases h13; cases h14; cases h15; cases h16; cases h17; cases h18; cases h19; cases h20; cases h21; cases h22; cases h23; cases h24; cases h25; cases h26; cases h27; cases h28; cases h29; cases h30; cases h31; cases h32; cases h33; cases h34; obtain ⟨g, rfl, hg⟩ := h35; cases h36; cases h37; cases h38; skip
          clear t0 t1 t2 t3 t4 t5 t6 t7 t8 t9 hsum
          have hlz := hlq.trans hz
          have HW := hide (hwb.trans hlz)
          obtain ⟨H, hH⟩ : ∃ H, P ++ [b0, b1, b2, b3, b4, b5, b6, b7, b8, b9] = H := ⟨_, rfl⟩
          have hHl : H.length = 18 := by rw [← hH]; simp [hpl]
          rw [hH]
          have HH := hide hH
          clear hH hpl hlq hz
          go_wp2_with fail
          have h90 : ((ss.length : Nat) : Int) ≤ 255 := hss
          go_loopw [8, 9] (fun s j wr => ∃ k : Nat, k ≤ ss.length ∧ j = .int .i64 k ∧ s = .string (str (H ++ puts (tailP (ss.take k)))) ∧ Le wz wr) (fun _ j _ => ss.length - (intOf j).toNat)
          case atStart => exact ⟨0, Nat.zero_le _, rfl, by simp [tailP, puts], Le.refl _⟩
          case round =>
            obtain ⟨k, hk, rfl, rfl, hle⟩ := hrel
            have hle5 := hlz.trans hle
            by_cases hlt : k < ss.length
            · obtain ⟨b, off, rfl, hi⟩ := HRI.out (by rintro rfl; simp at hlt)
              obtain ⟨cs, _, hcc, hR, hx⟩ := hi k hlt
              subst hR
              have c0 : wr.cell? ⟨b, off + k, none⟩ = some (.int .u32 ss[k]) := (HW.out.trans hle).cell (by simpa using hcc 0 (by omega))
              have HT := hide (show puts (tailP (ss.take (k + 1))) = puts (tailP (ss.take k)) ++ putOne (ss[k], 4) by rw [tail_take ss k hlt, puts_append]; simp [puts])
              have htl := tail_bytes (ss.take k)
              have htk : (ss.take k).length ≤ k := List.length_take_le _ _
              have hp1 := putOne_length (ss[k], 4)
              have HX := hide hx
              clear hcc hi hx
              have HN := hide (fun W => rnum_any ss[k] 4 W (by have := HX.out; omega))
              generalize ss[k] = x at *
              generalize putOne (x, 4) = q at *
              generalize puts (tailP (ss.take k)) = T at *
              have hwx : IntKind.u64.wrap (x : Int) = x := IntWalk.u64_in _ (by have := HX.out; omega)
              have hsum : ¬ 9223372036854775807 < (H ++ T).length + q.length := by rw [List.length_append]; omega
              rw [List.length_append] at hsum
              have HLE := hide hle
              clear hle htl htk
              go_wp2_with fail
              refine (HN.out _).mono ?_
              rintro r w9 ⟨rfl, hb9⟩
              have hl9 := HLE.out.trans ⟨hb9⟩
              clear hb9
              go_wp2_with fail
              go_roundw
              case rel => exact ⟨k + 1, by omega, by go_num, by rw [HT.out], hl9⟩
              case measure => simp [intOf]; omega
            · have hke : k = ss.length := by omega
              have HK := hide (show ss.take k = ss by rw [hke]; exact List.take_length)
              clear hke
              have HL := hide (HW.out.trans hle)
              go_wp2_with fail
              go_ret2
              refine ⟨?_, HL.out.out⟩
              rw [HK.out, ← HH.out, ← HPE.out, HBS.out.1, HBS.out.2.1, HBS.out.2.2.1, HBS.out.2.2.2.1, HBS.out.2.2.2.2.1, HBS.out.2.2.2.2.2.1, HBS.out.2.2.2.2.2.2.1, HBS.out.2.2.2.2.2.2.2.1, HBS.out.2.2.2.2.2.2.2.2.1, HBS.out.2.2.2.2.2.2.2.2.2, head_bytes]
              rfl

set_option maxRecDepth 100000 in
set_option maxHeartbeats 4000000 in
theorem rput_bad (id : Nat) (q : Rq) (A : Option Addr) (n cap : Nat) (w : World) (hn : n = q.ssrcs.length) (h : q.ok = false) :
    Calls Try.prog 27 #[.int .u64 id, .agg #[.int .i64 q.kind, .int .i64 q.who, .int .i64 q.room, .int .i64 q.rights, .int .i64 q.track, .slice A n cap, .int .i64 q.layer, .int .i64 q.tid]] w (Gives w (.tuple #[.string (str []), .int .i64 1])) := by
  subst hn
  have HB := hide h
  clear h
  obtain ⟨kind, who, room, rights, track, layer, tid, ss⟩ := q
  simp only at *
  have hq := heap_alloc (o' := .cells #[.int .i64 room, .int .i64 rights, .int .i64 layer, .int .i64 tid] 86) (heap_alloc_new w (.cells #[.int .i64 kind, .int .i64 who, .int .i64 room, .int .i64 rights, .int .i64 track, .slice A ss.length cap, .int .i64 layer, .int .i64 tid] 61))
  have hs := heap_alloc_new (w.alloc (.cells #[.int .i64 kind, .int .i64 who, .int .i64 room, .int .i64 rights, .int .i64 track, .slice A ss.length cap, .int .i64 layer, .int .i64 tid] 61)) (.cells #[.int .i64 room, .int .i64 rights, .int .i64 layer, .int .i64 tid] 86)
  rw [alloc_size] at hs
  have hwb : Le w ((w.alloc (.cells #[.int .i64 kind, .int .i64 who, .int .i64 room, .int .i64 rights, .int .i64 track, .slice A ss.length cap, .int .i64 layer, .int .i64 tid] 61)).alloc (.cells #[.int .i64 room, .int .i64 rights, .int .i64 layer, .int .i64 tid] 86)) := ((Le.refl w).alloc _).alloc _
  go_enter Try.func27, Try.ntmps27
  go_wp2_with fail
  generalize (w.alloc (.cells #[.int .i64 kind, .int .i64 who, .int .i64 room, .int .i64 rights, .int .i64 track, .slice A ss.length cap, .int .i64 layer, .int .i64 tid] 61)).alloc (.cells #[.int .i64 room, .int .i64 rights, .int .i64 layer, .int .i64 tid] 86) = wb at *
  generalize w.heap.size = p at *
  have hsm : ∀ k (hk : k < [room, rights, layer, tid].length), wb.cell? ⟨p + 1, k, none⟩ = some (.int .i64 ([room, rights, layer, tid][k]'hk)) := by
    intro k hk
    rw [cell_block hs]
    obtain rfl | rfl | rfl | rfl : k = 0 ∨ k = 1 ∨ k = 2 ∨ k = 3 := by simp at hk; omega
    all_goals rfl
  have HSM := hide hsm
  have q0 := box_cell hq 0 _ rfl
  have q1 := box_cell hq 1 _ rfl
  have q2 := box_cell hq 2 _ rfl
  have q3 := box_cell hq 3 _ rfl
  have q4 := box_cell hq 4 _ rfl
  have q5 := box_cell hq 5 _ rfl
  have q6 := box_cell hq 6 _ rfl
  have q7 := box_cell hq 7 _ rfl
  have hle0 := Le.refl wb
  clear hsm hs hq
  go_loop [7] (fun j => ∃ k : Nat, k ≤ 4 ∧ j = .int .i64 k ∧ Hd (∀ i (hi : i < [room, rights, layer, tid].length), i < k → 0 ≤ [room, rights, layer, tid][i]'hi ∧ [room, rights, layer, tid][i]'hi ≤ 255)) (fun j => 4 - (intOf j).toNat)
  case atStart => exact ⟨0, by omega, rfl, hide (fun i hi h => absurd h (by omega))⟩
  case round =>
    obtain ⟨k, hk, rfl, HI⟩ := hrel
    by_cases hlt : k < 4
    · have hc := HSM.out k (by simpa using hlt)
      have HI2 := hide (fun (h : 0 ≤ [room, rights, layer, tid][k]'(by simpa using hlt) ∧ [room, rights, layer, tid][k]'(by simpa using hlt) ≤ 255) => hide (show ∀ i (hi : i < [room, rights, layer, tid].length), i < k + 1 → 0 ≤ [room, rights, layer, tid][i]'hi ∧ [room, rights, layer, tid][i]'hi ≤ 255 from fun i hi h' => by
        by_cases e : i = k
        · subst e; exact h
        · exact HI.out i hi (by omega)))
      generalize [room, rights, layer, tid][k]'(by simpa using hlt) = x at hc HI2
      have hlt' : (k : Int) < 4 := by omega
      go_wp2
      all_goals first
        | (go_ret2; exact ⟨rfl, hwb.out⟩)
        | skip
      go_round
      case rel => exact ⟨k + 1, by omega, by go_num, HI2.out (by omega)⟩
      case measure => simp [intOf]; omega
    · have hlt' : ¬ (k : Int) < 4 := by omega
      have h0 := HI.out 0 (by simp) (by omega)
      have h1 := HI.out 1 (by simp) (by omega)
      have h2 := HI.out 2 (by simp) (by omega)
      have h3 := HI.out 3 (by simp) (by omega)
      simp only [List.getElem_cons_zero, List.getElem_cons_succ] at h0 h1 h2 h3
      have HF := hide (fun hh => (absurd (ok_mk (q := ⟨kind, who, room, rights, track, layer, tid, ss⟩) hh) (by rw [HB.out]; simp) : False))
      simp only at HF
      clear hlt HB
      go_wp2_with fail
      all_goals first
        | (go_ret2; exact ⟨rfl, hwb.out⟩)
        | exact (HF.out (by omega)).elim
end Go.Proofs.Ytlfomilalkkbeaa
