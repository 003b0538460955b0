/- Texts of one claim, laid together: Exts14 Of14 ExtSame Same6 DownSL DownCounts DownStreams DownJ DownSame RowDownSame -/
import Derived.ShutString
import Derived.ChangeOld
import Derived.OpenShut
import Derived.Test.YtekioihjfggmdaaJo26
import Derived.Test.YtekioihjfggmdaaJo24
import Derived.Test.YtekioihjfggmdaaJo21
import Derived.Test.YtekioihjfggmdaaJo27
/- louverlaw14.exts: items as the reference has them. -/
namespace Go.Proofs.Ytekioihjfggmdaa
open Go.RowKit
set_option linter.unusedVariables false

set_option maxRecDepth 100000 in
set_option maxHeartbeats 2000000 in
theorem exts14_any (l : List It) (A : Option Addr) (n cap : Nat) (w : World) (hr : RSl 2 RItem w l (.slice A n cap)) (hl : l.length ≤ 100000) :
    Calls Try.prog 36 #[.slice A n cap] w fun e w' => ∃ A' cap', e = .returned (.slice A' l.length cap') ∧ w'.ownsRow w.heap.size 165 2 (.slice A' l.length cap') l.length (l.flatMap encR) ∧ Below w.heap.size w w' := by
  have HR := hide hr
  obtain ⟨A', cap', hv, hcap, hi⟩ := hr
  injection hv with e1 e2 e3
  subst e1 e2 e3
  have HI := hide hi
  clear hi
  go_enter Try.func36, Try.ntmps36
  go_wp2_with fail
  go_loopw [3, 4] (fun v j wr => ∃ k : Nat, k ≤ l.length ∧ j = .int .i64 k ∧ Hd (wr.ownsRow w.heap.size 165 2 v k ((l.take k).flatMap encR)) ∧ Le w wr) (fun _ j _ => l.length - (intOf j).toNat)
  case atStart => exact ⟨0, Nat.zero_le _, rfl, hide (World.ownsRow_nil _ _ _ _), Le.refl _⟩
  case round =>
    obtain ⟨k, hk, rfl, HO, hle⟩ := hrel
    obtain ⟨A2, cap2, rfl, _, _⟩ := own_slice HO.out
    by_cases hlt : k < l.length
    · obtain ⟨b, off, rfl, hg⟩ := HI.out (by rintro rfl; simp at hlt)
      obtain ⟨cs, _, hc, v, hcs, hv⟩ := hg k hlt
      subst hcs
      obtain ⟨A1, cp1, hv1, _⟩ := id hv
      subst hv1
      have c0 := hle.cell (show w.cell? ⟨b, off + k * 2, none⟩ = some (.int .u8 (l[k].1.toNat : Nat)) from hc 0 (by omega))
      have c1 := hle.cell (show w.cell? ⟨b, off + k * 2 + 1, none⟩ = some (.slice A1 l[k].2.length cp1) from hc 1 (by omega))
      have hdk := hle.rsl keeps_u8 hv
      have HT := hide (show (l.take (k + 1)).flatMap encR = (l.take k).flatMap encR ++ encR l[k] by rw [List.take_succ_eq_append_getElem hlt, List.flatMap_append]; simp)
      generalize l[k] = x at *
      obtain ⟨xi, xd⟩ := x
      simp only at c0 c1 hdk
      clear hc hg hv
      have hltI : (k : Int) < (l.length : Int) := by omega
      have h0I : (0 : Int) ≤ (k : Int) := by omega
      have C0 : ∀ W, Le wr W → W.cell? ⟨b, off + k * 2, none⟩ = some (.int .u8 (xi.toNat : Nat)) := fun W h => h.cell c0
      have C1 : ∀ W, Le wr W → W.cell? ⟨b, off + k * 2 + 1, none⟩ = some (.slice A1 xd.length cp1) := fun W h => h.cell c1
      have hle0 := (Le.refl wr).drew
      have HLE := hide hle
      clear hle c0 c1
      go_wp2_with fail
      refine' wp_region_tail 14 14 11 Le (Is _ :: Is _ :: Is _ :: Is _ :: Is _ :: Is _ :: Is _ :: Is _ :: Is _ :: Is _ :: Is _ :: Is _ :: Is _ :: (fun v w => ∃ g : Nat, v = .slice (some ⟨g, 0, none⟩) 1 1 ∧ w.heap[g]? = some (.cells #[.int .u8 (xi.toNat : Nat), .string (str xd)] 165 (0, 0))) :: []) ([] :: [] :: [] :: [1, 2] :: [3] :: [4] :: [] :: [] :: [6, 7] :: [8] :: [9] :: [10] :: [5, 11] :: [12] :: []) (by kernel_rfl) (by kernel_rfl) rfl (by kernel_rfl) (by kernel_rfl) Le.refl (fun _ _ _ h h' => h.trans h') ⟨St.is, St.is, St.is, St.is, St.is, St.is, St.is, St.is, St.is, St.is, St.is, St.is, St.is, fun v w w' h ⟨g, e1, e2⟩ => ⟨g, e1, h.heap e2⟩, trivial⟩ ?m5
      case m5 =>
        simp (maxSteps := 100000000) only [AllV, Obl2, Leans, factAt, allFacts, actOf, putAll, putRow, List.set_cons_succ, List.set_cons_zero, List.getElem?_cons_zero, List.getElem?_cons_succ, List.take_succ_cons, List.take_zero, List.drop_succ_cons, List.drop_zero, List.cons_append, List.nil_append, List.length_cons, List.length_nil, Nat.reduceAdd]
        intro x0 x1 x2 x3 x4 x5 x6 x7 x8 x9 x10 x11 x12 x13
        refine ⟨⟨?_, ?_, ?_, ?_, ?_, ?_, ?_, ?_, ?_, ?_, ?_, ?_, ?_, ?_, trivial⟩, ?_⟩
        -- 0: 11 := Op.move t3
        · intro w hw  K hK; have hlw := hle0.trans hw; go_simp; exact hK _ _ (Le.refl _) (Is.mk _ _)
        -- 1: 12 := Op.move t0
        · intro w hw  K hK; have hlw := hle0.trans hw; go_simp; exact hK _ _ (Le.refl _) (Is.mk _ _)
        -- 2: 13 := Op.move t4
        · intro w hw  K hK; have hlw := hle0.trans hw; go_simp; exact hK _ _ (Le.refl _) (Is.mk _ _)
        -- 3: 14 := Op.indexAddr 22 t12 t13
        · intro w hw h1 h2 K hK; have hlw := hle0.trans hw; cases h1; cases h2; go_simp; exact hK _ _ (Le.refl _) (Is.mk _ _)
        -- 4: 15 := Op.fieldAddr 46 t14 0
        · intro w hw h3 K hK; have hlw := hle0.trans hw; cases h3; go_simp; exact hK _ _ (Le.refl _) (Is.mk _ _)
        -- 5: 16 := Op.load 5 t15
        · intro w hw h4 K hK; have hlw := hle0.trans hw; cases h4; go_simp; exact hK _ _ (Le.refl _) (Is.mk _ _)
        -- 6: 17 := Op.move t0
        · intro w hw  K hK; have hlw := hle0.trans hw; go_simp; exact hK _ _ (Le.refl _) (Is.mk _ _)
        -- 7: 18 := Op.move t4
        · intro w hw  K hK; have hlw := hle0.trans hw; go_simp; exact hK _ _ (Le.refl _) (Is.mk _ _)
        -- 8: 19 := Op.indexAddr 22 t17 t18
        · intro w hw h6 h7 K hK; have hlw := hle0.trans hw; cases h6; cases h7; go_simp; exact hK _ _ (Le.refl _) (Is.mk _ _)
        -- 9: 20 := Op.fieldAddr 46 t19 1
        · intro w hw h8 K hK; have hlw := hle0.trans hw; cases h8; go_simp; exact hK _ _ (Le.refl _) (Is.mk _ _)
        -- 10: 21 := Op.load 26 t20
        · intro w hw h9 K hK; have hlw := hle0.trans hw; cases h9; go_simp; exact hK _ _ (Le.refl _) (Is.mk _ _)
        -- 11: 22 := Op.convert 26 9 t21
        · intro w hw h10 K hK; have hlw := hle0.trans hw; cases h10; have hc := conv_le hdk _ ((hle0.trans hw)); go_simp; exact hK _ _ (Le.refl _) (Is.mk _ _)
        -- 12: 23 := Op.build 42 #[(0, t16), (1, t22)]
        · intro w hw h5 h11 K hK; have hlw := hle0.trans hw; cases h5; cases h11; go_simp; exact hK _ _ (Le.refl _) (Is.mk _ _)
        -- 13: 24 := Op.buildSlice 32 1 #[(0, t23)]
        · intro w hw h12 K hK; have hlw := hle0.trans hw; cases h12; go_simp; exact hK _ _ ((Le.refl _).alloc _) ⟨_, rfl, heap_alloc_new _ _⟩
        · intro wz hz h0 h1 h2 h3 h4 h5 h6 h7 h8 h9 h10 h11 h12 h13; cases h0; cases h1; cases h2; cases h3; cases h4; cases h5; cases h6; cases h7; cases h8; cases h9; cases h10; cases h11; cases h12; obtain ⟨g, rfl, hg⟩ := h13; skip
          clear C0 C1
          have hz2 : Le wr wz := hle0.trans hz
          have HZ := hide (HLE.out.trans hz2)
          have HOZ := hide (hz2.own HO.out)
          have hcz : Cells wz (some ⟨g, 0, none⟩) (encR (xi, xd)) := fun _ => ⟨g, 0, rfl, fun j u hu => by rw [Nat.zero_add, cell_block hg]; simpa [encR] using hu⟩
          clear hz hz2
          go_wp2_with (at_builtin; go_must (refine wpl_app rfl slRI (.tmp 11) (.tmp 24) rfl HOZ.out rfl rfl hcz rfl (by simp [encR, Value.oneCell']) (by omega) (by omega) HZ.out.size ?_); intro v5 w5 ho5 hg5 hat5; have HO5 := hide ho5; have hb5 := below_grown HZ.out.out HOZ.out hg5 (Nat.le_refl _) HZ.out.size; clear ho5 hg5 hat5)
          go_roundw
          case rel => exact ⟨k + 1, by omega, by go_num, hide (by rw [HT.out]; exact HO5.out), ⟨hb5⟩⟩
          case measure => simp [intOf]; omega
    · have hltI : ¬ (k : Int) < (l.length : Int) := by omega
      obtain rfl : k = l.length := by omega
      have HO2 := HO.out
      rw [List.take_length] at HO2
      have HO3 := hide HO2
      clear HO2 HO
      go_wp2_with fail
      go_ret
      exact ⟨A2, cap2, rfl, HO3.out, hle.out⟩
end Go.Proofs.Ytekioihjfggmdaa

/- louverlaw14.of: a packet as the reference has it. -/
namespace Go.Proofs.Ytekioihjfggmdaa
open Go.RowKit
set_option linter.unusedVariables false

set_option maxRecDepth 100000 in
set_option maxHeartbeats 2000000 in
theorem of14_any (p : Pk) (hp : p.Ok) (v5 v6 v7 : Value) (w : World) (hP : PkAt w p v5 v6 v7) :
    Calls Try.prog 15 #[p.val v5 v6 v7] w (fun e w' => ∃ v6', e = .returned (.agg #[.bool p.mark, .int .u8 p.type, .int .u16 p.seq, .int .u32 p.time, .int .u32 p.ssrc, v5, v6', .string (str p.payload), .int .i64 p.pad]) ∧ RSl 2 RI w' p.exts v6' ∧ Below w.heap.size w w') := by
  obtain ⟨A5, c5, rfl, _, _⟩ := id hP.csrc
  obtain ⟨A6, c6, rfl, _, _⟩ := id hP.exts
  obtain ⟨A7, c7, rfl, _, _⟩ := id hP.payload
  have HX := hide (fun W (hW : Le w W) => exts14_any p.exts A6 p.exts.length c6 W (hW.rsl keeps_item hP.exts) hp.ne)
  have HC := hide (fun W (hW : Le w W) => conv_le hP.payload W hW)
  clear hP hp
  rw [Pk.val]
  go_enter Try.func15, Try.ntmps15
  go_upto_region 1 with fail
  have HB := hide (show ((w.alloc (.cells #[.bool p.mark, .int .u8 p.type, .int .u16 p.seq, .int .u32 p.time, .int .u32 p.ssrc, .slice A5 p.csrc.length c5, .slice A6 p.exts.length c6, .slice A7 p.payload.length c7, .int .i64 p.pad] 46)).alloc (.cells #[.bool false, .int .u8 0, .int .u16 0, .int .u32 0, .int .u32 0, .slice none 0 0, .slice none 0 0, .string ⟨#[]⟩, .int .i64 0] 57)).drew.heap[w.heap.size]? = some (.cells #[.bool p.mark, .int .u8 p.type, .int .u16 p.seq, .int .u32 p.time, .int .u32 p.ssrc, .slice A5 p.csrc.length c5, .slice A6 p.exts.length c6, .slice A7 p.payload.length c7, .int .i64 p.pad] 46 (0, 0)) from heap_alloc (heap_alloc_new w _))
  have HB2 := hide (show ((w.alloc (.cells #[.bool p.mark, .int .u8 p.type, .int .u16 p.seq, .int .u32 p.time, .int .u32 p.ssrc, .slice A5 p.csrc.length c5, .slice A6 p.exts.length c6, .slice A7 p.payload.length c7, .int .i64 p.pad] 46)).alloc (.cells #[.bool false, .int .u8 0, .int .u16 0, .int .u32 0, .int .u32 0, .slice none 0 0, .slice none 0 0, .string ⟨#[]⟩, .int .i64 0] 57)).drew.heap[w.heap.size + 1]? = some (.cells #[.bool false, .int .u8 0, .int .u16 0, .int .u32 0, .int .u32 0, .slice none 0 0, .slice none 0 0, .string ⟨#[]⟩, .int .i64 0] 57 (0, 0)) from heap_at (by simp))
  have HL0 := hide ((((Le.refl w).alloc (.cells #[.bool p.mark, .int .u8 p.type, .int .u16 p.seq, .int .u32 p.time, .int .u32 p.ssrc, .slice A5 p.csrc.length c5, .slice A6 p.exts.length c6, .slice A7 p.payload.length c7, .int .i64 p.pad] 46)).alloc (.cells #[.bool false, .int .u8 0, .int .u16 0, .int .u32 0, .int .u32 0, .slice none 0 0, .slice none 0 0, .string ⟨#[]⟩, .int .i64 0] 57)).drew)
  go_wp2_with fail
  refine' wp_region_tailD 27 27 3 Le (IsD _ :: IsD _ :: IsD _ :: IsD _ :: IsD _ :: IsD _ :: IsD _ :: IsD _ :: IsD _ :: IsD _ :: IsD _ :: IsD _ :: IsD _ :: IsD _ :: IsD _ :: IsD _ :: IsD _ :: IsD _ :: IsD _ :: IsD _ :: IsD _ :: (fun _ v W => ∃ A' c', v = .slice A' p.exts.length c' ∧ W.ownsRow w.heap.size 165 2 (.slice A' p.exts.length c') p.exts.length (p.exts.flatMap encR)) :: IsD _ :: IsD _ :: IsD _ :: IsD _ :: IsD _ :: []) ([] :: [0] :: [1] :: [] :: [3] :: [4] :: [] :: [6] :: [7] :: [] :: [9] :: [10] :: [] :: [12] :: [13] :: [] :: [15] :: [16] :: [] :: [18] :: [19] :: [20] :: [] :: [22] :: [23] :: [] :: [25] :: []) (by kernel_rfl) (by kernel_rfl) (by rfl) (by kernel_rfl) (by kernel_rfl) Le.refl (fun _ _ _ h h' => h.trans h') ⟨StD.is, StD.is, StD.is, StD.is, StD.is, StD.is, StD.is, StD.is, StD.is, StD.is, StD.is, StD.is, StD.is, StD.is, StD.is, StD.is, StD.is, StD.is, StD.is, StD.is, StD.is, (fun _ _ _ _ hr h => by obtain ⟨A', c', e, h⟩ := h; exact ⟨A', c', e, hr.own h⟩), StD.is, StD.is, StD.is, StD.is, StD.is, trivial⟩ ?m1
  case m1 =>
    simp (maxSteps := 100000000) only [AllV, OblD, LeansD, factAtD, allFactsD, depV, actOf, putAll, putRow, List.set_cons_succ, List.set_cons_zero, List.map_cons, List.getElem?_cons_zero, List.getElem?_cons_succ, Option.getD_some, List.map_nil, List.take_succ_cons, List.take_zero, List.drop_succ_cons, List.drop_zero, List.cons_append, List.nil_append, List.length_cons, List.length_nil, Nat.reduceAdd]
    intro x0 x1 x2 x3 x4 x5 x6 x7 x8 x9 x10 x11 x12 x13 x14 x15 x16 x17 x18 x19 x20 x21 x22 x23 x24 x25 x26
    refine ⟨⟨?_, ?_, ?_, ?_, ?_, ?_, ?_, ?_, ?_, ?_, ?_, ?_, ?_, ?_, ?_, ?_, ?_, ?_, ?_, ?_, ?_, ?_, ?_, ?_, ?_, ?_, ?_, trivial⟩, ?_⟩
    -- 0: 3 := Op.fieldAddr 46 t1 0
    · intro w hw  K hK; go_simp; exact hK _ _ (Le.refl _) (IsD.mk _ _ _)
    -- 1: 4 := Op.fieldAddr 43 t3 0
    · intro w hw h0 K hK; cases h0; go_simp; exact hK _ _ (Le.refl _) (IsD.mk _ _ _)
    -- 2: 5 := Op.load 4 t4
    · intro w hw h1 K hK; cases h1; have hle := HL0.out.trans hw; have k0 := box_cell (hw.heap HB.out) 0 _ rfl w (Le.refl _); go_simp; exact hK _ _ (Le.refl _) (IsD.mk _ _ _)
    -- 3: 6 := Op.fieldAddr 46 t1 0
    · intro w hw  K hK; go_simp; exact hK _ _ (Le.refl _) (IsD.mk _ _ _)
    -- 4: 7 := Op.fieldAddr 43 t6 1
    · intro w hw h3 K hK; cases h3; go_simp; exact hK _ _ (Le.refl _) (IsD.mk _ _ _)
    -- 5: 8 := Op.load 5 t7
    · intro w hw h4 K hK; cases h4; have hle := HL0.out.trans hw; have k0 := box_cell (hw.heap HB.out) 1 _ rfl w (Le.refl _); go_simp; exact hK _ _ (Le.refl _) (IsD.mk _ _ _)
    -- 6: 9 := Op.fieldAddr 46 t1 0
    · intro w hw  K hK; go_simp; exact hK _ _ (Le.refl _) (IsD.mk _ _ _)
    -- 7: 10 := Op.fieldAddr 43 t9 2
    · intro w hw h6 K hK; cases h6; go_simp; exact hK _ _ (Le.refl _) (IsD.mk _ _ _)
    -- 8: 11 := Op.load 39 t10
    · intro w hw h7 K hK; cases h7; have hle := HL0.out.trans hw; have k0 := box_cell (hw.heap HB.out) 2 _ rfl w (Le.refl _); go_simp; exact hK _ _ (Le.refl _) (IsD.mk _ _ _)
    -- 9: 12 := Op.fieldAddr 46 t1 0
    · intro w hw  K hK; go_simp; exact hK _ _ (Le.refl _) (IsD.mk _ _ _)
    -- 10: 13 := Op.fieldAddr 43 t12 3
    · intro w hw h9 K hK; cases h9; go_simp; exact hK _ _ (Le.refl _) (IsD.mk _ _ _)
    -- 11: 14 := Op.load 22 t13
    · intro w hw h10 K hK; cases h10; have hle := HL0.out.trans hw; have k0 := box_cell (hw.heap HB.out) 3 _ rfl w (Le.refl _); go_simp; exact hK _ _ (Le.refl _) (IsD.mk _ _ _)
    -- 12: 15 := Op.fieldAddr 46 t1 0
    · intro w hw  K hK; go_simp; exact hK _ _ (Le.refl _) (IsD.mk _ _ _)
    -- 13: 16 := Op.fieldAddr 43 t15 4
    · intro w hw h12 K hK; cases h12; go_simp; exact hK _ _ (Le.refl _) (IsD.mk _ _ _)
    -- 14: 17 := Op.load 22 t16
    · intro w hw h13 K hK; cases h13; have hle := HL0.out.trans hw; have k0 := box_cell (hw.heap HB.out) 4 _ rfl w (Le.refl _); go_simp; exact hK _ _ (Le.refl _) (IsD.mk _ _ _)
    -- 15: 18 := Op.fieldAddr 46 t1 0
    · intro w hw  K hK; go_simp; exact hK _ _ (Le.refl _) (IsD.mk _ _ _)
    -- 16: 19 := Op.fieldAddr 43 t18 5
    · intro w hw h15 K hK; cases h15; go_simp; exact hK _ _ (Le.refl _) (IsD.mk _ _ _)
    -- 17: 20 := Op.load 40 t19
    · intro w hw h16 K hK; cases h16; have hle := HL0.out.trans hw; have k0 := box_cell (hw.heap HB.out) 5 _ rfl w (Le.refl _); go_simp; exact hK _ _ (Le.refl _) (IsD.mk _ _ _)
    -- 18: 21 := Op.fieldAddr 46 t1 0
    · intro w hw  K hK; go_simp; exact hK _ _ (Le.refl _) (IsD.mk _ _ _)
    -- 19: 22 := Op.fieldAddr 43 t21 6
    · intro w hw h18 K hK; cases h18; go_simp; exact hK _ _ (Le.refl _) (IsD.mk _ _ _)
    -- 20: 23 := Op.load 41 t22
    · intro w hw h19 K hK; cases h19; have hle := HL0.out.trans hw; have k0 := box_cell (hw.heap HB.out) 6 _ rfl w (Le.refl _); go_simp; exact hK _ _ (Le.refl _) (IsD.mk _ _ _)
    -- 21: 24 := Op.call { value (Operand.func 36), args := #[t23], argTypes := #[41] }
    · intro w hw h20 K hK; cases h20; have hle := HL0.out.trans hw; go_simp; refine (HX.out _ hle).mono ?_; rintro r w' ⟨A', c', rfl, hr', hb'⟩; exact hK _ _ ⟨hb'⟩ ⟨A', c', rfl, own_base hr' hle.size⟩
    -- 22: 25 := Op.fieldAddr 46 t1 1
    · intro w hw  K hK; go_simp; exact hK _ _ (Le.refl _) (IsD.mk _ _ _)
    -- 23: 26 := Op.load 44 t25
    · intro w hw h22 K hK; cases h22; have hle := HL0.out.trans hw; have k0 := box_cell (hw.heap HB.out) 7 _ rfl w (Le.refl _); go_simp; exact hK _ _ (Le.refl _) (IsD.mk _ _ _)
    -- 24: 27 := Op.convert 44 9 t26
    · intro w hw h23 K hK; cases h23; have hle := HL0.out.trans hw; have f1 := HC.out w hle; go_simp; exact hK _ _ (Le.refl _) (IsD.mk _ _ _)
    -- 25: 28 := Op.fieldAddr 46 t1 2
    · intro w hw  K hK; go_simp; exact hK _ _ (Le.refl _) (IsD.mk _ _ _)
    -- 26: 29 := Op.load 3 t28
    · intro w hw h25 K hK; cases h25; have hle := HL0.out.trans hw; have k0 := box_cell (hw.heap HB.out) 8 _ rfl w (Le.refl _); go_simp; exact hK _ _ (Le.refl _) (IsD.mk _ _ _)
    · intro wz hz h0 h1 h2 h3 h4 h5 h6 h7 h8 h9 h10 h11 h12 h13 h14 h15 h16 h17 h18 h19 h20 h21 h22 h23 h24 h25 h26; cases h0; cases h1; cases h2; cases h3; cases h4; cases h5; cases h6; cases h7; cases h8; cases h9; cases h10; cases h11; cases h12; cases h13; cases h14; cases h15; cases h16; cases h17; cases h18; cases h19; cases h20; obtain ⟨A', c', rfl, hr'⟩ := h21; cases h22; cases h23; cases h24; cases h25; cases h26; skip
      have HZ := hide (HL0.out.trans hz)
      have HRR := hide hr'
      clear hr'
      go_wp2_with (first | (refine wpl_store_blk rfl 57 (.tmp 2) (.tmp 30) (cs := [.bool p.mark, .int .u8 p.type, .int .u16 p.seq, .int .u32 p.time, .int .u32 p.ssrc, .slice A5 p.csrc.length c5, .slice A' p.exts.length c', .string (str p.payload), .int .i64 p.pad]) rfl rfl rfl (by kernel_rfl) (by simp [Value.oneCell']) (hz.heap HB2.out) rfl ?_; intro wq hn hg; have HQ := hide (And.intro hn hg); clear hn hg))
      have hq := HZ.out.boxed HQ.out.2 (by omega)
      refine bodyPost_ret (results_cell_row Try.results15 _ _ _ 57 _ (0, 0) _ rfl HQ.out.1 Try.underlying57 rfl (by kernel_rfl)) rfl ⟨_, rfl, ?_, hq.out⟩
      exact rsl_ri (HRR.out.kept HQ.out.2 (Or.inr (own_ne HRR.out (hz.heap HB2.out) (by decide))))
end Go.Proofs.Ytekioihjfggmdaa

/- louverref05.Same, louverref05.Put. -/
namespace Go.Proofs.Ytekioihjfggmdaa
open Go.RowKit
set_option linter.unusedVariables false

set_option maxHeartbeats 2000000 in
theorem rsame_any (a b : List It) (A : Option Addr) (n cap : Nat) (B : Option Addr) (m bap : Nat) (w : World) (ha : RSl 2 RI w a (.slice A n cap)) (hb : RSl 2 RI w b (.slice B m bap)) (hl : a.length ≤ 100000) :
    Calls Try.prog 45 #[.slice A n cap, .slice B m bap] w (Gives w (.bool (decide (a = b)))) := by
  obtain ⟨A', cap', hv, hcap, hia⟩ := ha
  injection hv with e1 e2 e3
  subst e1 e2 e3
  obtain ⟨A', cap', hv, hbap, hib⟩ := hb
  injection hv with e1 e2 e3
  subst e1 e2 e3
  have HIA := hide hia; have HIB := hide hib
  clear hia hib
  by_cases hab : a.length = b.length
  · have hd : (((a.length : Nat) : Int) != (b.length : Int)) = false := by rw [hab]; simp
    have hl1 : a.length ≤ b.length := by omega
    have HAB := hide hab
    clear hab
    go_enter Try.func45, Try.ntmps45
    go_wp2_with fail
    go_loopw [5] (fun j wr => ∃ k : Nat, k ≤ a.length ∧ j = .int .i64 k ∧ Hd (a.take k = b.take k) ∧ Le w wr) (fun j _ => a.length - (intOf j).toNat)
    case atStart => exact ⟨0, Nat.zero_le _, rfl, hide rfl, Le.refl _⟩
    case round =>
      obtain ⟨k, hk, rfl, HT, hle⟩ := hrel
      by_cases hlt : k < a.length
      · obtain ⟨b1, off1, rfl, hi1⟩ := HIA.out (by rintro rfl; simp at hlt)
        obtain ⟨cs1, _, hc1, hR1⟩ := hi1 k hlt
        rw [show cs1 = encR a[k] from hR1] at hc1
        have hlt2 : k < b.length := by omega
        obtain ⟨b2, off2, rfl, hi2⟩ := HIB.out (by rintro rfl; simp at hlt2)
        obtain ⟨cs2, _, hc2, hR2⟩ := hi2 k hlt2
        rw [show cs2 = encR b[k] from hR2] at hc2
        have c1 := hle.cell (show w.cell? ⟨b1, off1 + k * 2, none⟩ = some (.int .u8 (a[k].1.toNat : Nat)) from hc1 0 (by omega))
        have c2 := hle.cell (show w.cell? ⟨b1, off1 + k * 2 + 1, none⟩ = some (.string (str a[k].2)) from hc1 1 (by omega))
        have c3 := hle.cell (show w.cell? ⟨b2, off2 + k * 2, none⟩ = some (.int .u8 (b[k].1.toNat : Nat)) from hc2 0 (by omega))
        have c4 := hle.cell (show w.cell? ⟨b2, off2 + k * 2 + 1, none⟩ = some (.string (str b[k].2)) from hc2 1 (by omega))
        have HT1 := hide (fun (h : a[k] = b[k]) => show a.take (k + 1) = b.take (k + 1) by rw [List.take_succ_eq_append_getElem hlt, List.take_succ_eq_append_getElem hlt2, HT.out, h])
        have HN := hide (fun (h : a[k] ≠ b[k]) => show decide (a = b) = false from decide_eq_false (fun e => h (by simp only [e])))
        generalize a[k] = x1 at *
        generalize b[k] = x2 at *
        obtain ⟨i1, d1⟩ := x1
        obtain ⟨i2, d2⟩ := x2
        simp only at c1 c2 c3 c4
        have h0k : (0 : Int) ≤ (k : Int) := by omega
        have h1k : (k : Int) < (a.length : Int) := by omega
        have h2k : (k : Int) < (b.length : Int) := by omega
        clear hc1 hc2 hi1 hi2 hR1 hR2
        by_cases hx : i1 = i2 ∧ d1 = d2
        · obtain ⟨rfl, rfl⟩ := hx
          have HE := hide (HT1.out rfl)
          have e1 : (((i1.toNat : Nat) : Int) == (i1.toNat : Int)) = true := by simp
          have e2 : (d1 == d1) = true := by simp
          go_wp2_with fail
          go_quiet (fail)
          go_wp2_with fail
          go_roundw
          case rel => exact ⟨k + 1, by omega, by go_num, HE, hle.drewN _⟩
          case measure => simp [intOf]; omega
        · have HE := hide (HN.out (by simpa using hx))
          by_cases hi12 : i1 = i2
          · subst hi12
            have e1 : (((i1.toNat : Nat) : Int) == (i1.toNat : Int)) = true := by simp
            have e2 : (d1 == d2) = false := by rw [beq_eq_false_iff_ne]; exact fun e => hx ⟨rfl, e⟩
            clear hx
            go_wp2_with fail
            go_quiet (fail)
            go_wp2_with fail
            go_ret
            exact ⟨by rw [HE.out]; rfl, (hle.drewN _).out⟩
          · have e1 : (((i1.toNat : Nat) : Int) == (i2.toNat : Int)) = false := by rw [beq_eq_false_iff_ne]; exact fun e => hi12 (UInt8.toNat_inj.1 (by omega))
            clear hx hi12
            go_wp2_with fail
            go_quiet (fail)
            go_wp2_with fail
            go_ret
            exact ⟨by rw [HE.out]; rfl, (hle.drewN _).out⟩
      · have hltI : ¬ (k : Int) < (a.length : Int) := by omega
        have HE := hide (show decide (a = b) = true from decide_eq_true (by
          have := HT.out
          rw [List.take_of_length_le (by omega), List.take_of_length_le (by have := HAB.out; omega)] at this
          exact this))
        go_wp2_with fail
        go_ret
        exact ⟨by rw [HE.out]; rfl, hle.out⟩
  · have hd : (((a.length : Nat) : Int) != (b.length : Int)) = true := by rw [bne_iff_ne]; omega
    have HE := hide (show decide (a = b) = false from decide_eq_false (by rintro rfl; exact hab rfl))
    clear hab
    go_enter Try.func45, Try.ntmps45
    go_wp2_with fail
    go_ret
    exact ⟨by rw [HE.out]; rfl, Below.refl _ _⟩
end Go.Proofs.Ytekioihjfggmdaa

/- louverref06.Same of equal packets. -/
namespace Go.Proofs.Ytekioihjfggmdaa
open Go.RowKit
set_option linter.unusedVariables false

theorem nat_cell {w : World} {l : List Nat} {A : Option Addr} {n cap : Nat} (h : RSl 1 (RNat .u32) w l (.slice A n cap)) (k : Nat) (hk : k < l.length) : ∃ g o, A = some ⟨g, o, none⟩ ∧ w.cell? ⟨g, o + k, none⟩ = some (.int .u32 (l[k] : Nat)) := by
  obtain ⟨A', c', e, _, hh⟩ := id h
  injection e with e1 e2 e3
  obtain ⟨g, o, e4, hi⟩ := hh (by rintro rfl; simp at hk)
  obtain ⟨cs, h1, h2, h3⟩ := hi k hk
  have h3' : cs = [.int .u32 (l[k] : Nat)] := h3
  subst h3'
  refine ⟨g, o, e1.trans e4, ?_⟩
  have := h2 0 (by omega)
  simpa using this

set_option maxRecDepth 100000 in
set_option maxHeartbeats 4000000 in
theorem same6_self (m : Bool) (t s tm ss : Nat) (cs : List Nat) (ex : List It) (pl : List UInt8) (pd : Int) (A5 B5 A6 B6 : Option Addr) (c5 e5 c6 e6 : Nat) (w : World) (hlc : cs.length ≤ 100000) (hle : ex.length ≤ 100000)
    (h5 : RSl 1 (RNat .u32) w cs (.slice A5 cs.length c5)) (g5 : RSl 1 (RNat .u32) w cs (.slice B5 cs.length e5)) (h6 : RSl 2 RI w ex (.slice A6 ex.length c6)) (g6 : RSl 2 RI w ex (.slice B6 ex.length e6)) :
    Calls Try.prog 22 #[.agg #[.bool m, .int .u8 (t : Nat), .int .u16 (s : Nat), .int .u32 (tm : Nat), .int .u32 (ss : Nat), .slice A5 cs.length c5, .slice A6 ex.length c6, .string (str pl), .int .i64 pd], .agg #[.bool m, .int .u8 (t : Nat), .int .u16 (s : Nat), .int .u32 (tm : Nat), .int .u32 (ss : Nat), .slice B5 cs.length e5, .slice B6 ex.length e6, .string (str pl), .int .i64 pd]] w (Gives w (.bool true)) := by
  have HS := hide (fun W (hW : Le w W) => show Calls Try.prog 45 #[.slice A6 ex.length c6, .slice B6 ex.length e6] W (Gives W (.bool true)) from by
    have h := rsame_any ex ex A6 ex.length c6 B6 ex.length e6 W (hW.rsl keeps_ri h6) (hW.rsl keeps_ri g6) hle
    rwa [show decide (ex = ex) = true from decide_eq_true rfl] at h)
  have H5 := hide (And.intro h5 g5)
  have H1 := hide (show ((w.alloc (.cells #[.bool m, .int .u8 (t : Nat), .int .u16 (s : Nat), .int .u32 (tm : Nat), .int .u32 (ss : Nat), .slice A5 cs.length c5, .slice A6 ex.length c6, .string (str pl), .int .i64 pd] 57)).alloc (.cells #[.bool m, .int .u8 (t : Nat), .int .u16 (s : Nat), .int .u32 (tm : Nat), .int .u32 (ss : Nat), .slice B5 cs.length e5, .slice B6 ex.length e6, .string (str pl), .int .i64 pd] 57)).heap[w.heap.size]? = some (.cells #[.bool m, .int .u8 (t : Nat), .int .u16 (s : Nat), .int .u32 (tm : Nat), .int .u32 (ss : Nat), .slice A5 cs.length c5, .slice A6 ex.length c6, .string (str pl), .int .i64 pd] 57 (0, 0)) from heap_alloc (heap_alloc_new w _))
  have H2 := hide (heap_alloc_new (w.alloc (.cells #[.bool m, .int .u8 (t : Nat), .int .u16 (s : Nat), .int .u32 (tm : Nat), .int .u32 (ss : Nat), .slice A5 cs.length c5, .slice A6 ex.length c6, .string (str pl), .int .i64 pd] 57)) (.cells #[.bool m, .int .u8 (t : Nat), .int .u16 (s : Nat), .int .u32 (tm : Nat), .int .u32 (ss : Nat), .slice B5 cs.length e5, .slice B6 ex.length e6, .string (str pl), .int .i64 pd] 57))
  have HL := hide (((Le.refl w).alloc (.cells #[.bool m, .int .u8 (t : Nat), .int .u16 (s : Nat), .int .u32 (tm : Nat), .int .u32 (ss : Nat), .slice A5 cs.length c5, .slice A6 ex.length c6, .string (str pl), .int .i64 pd] 57)).alloc (.cells #[.bool m, .int .u8 (t : Nat), .int .u16 (s : Nat), .int .u32 (tm : Nat), .int .u32 (ss : Nat), .slice B5 cs.length e5, .slice B6 ex.length e6, .string (str pl), .int .i64 pd] 57))
  have hsz : (w.alloc (.cells #[.bool m, .int .u8 (t : Nat), .int .u16 (s : Nat), .int .u32 (tm : Nat), .int .u32 (ss : Nat), .slice A5 cs.length c5, .slice A6 ex.length c6, .string (str pl), .int .i64 pd] 57)).heap.size = w.heap.size + 1 := alloc_size _ _
  rw [hsz] at H2
  clear h5 g5 h6 g6 hsz
  go_enter Try.func22, Try.ntmps22
  go_wp2_with fail
  refine (HS.out _ HL.out).mono ?_
  rintro e w1 ⟨rfl, hb1⟩
  have HL1 := hide (HL.out.trans ⟨hb1⟩)
  have HB := hide (Le.mk hb1)
  clear hb1 HS
  go_wp2_with fail
  go_loopw [5] (fun j wr => ∃ k : Nat, k ≤ cs.length ∧ j = .int .i64 k ∧ Le w1 wr) (fun j _ => cs.length - (intOf j).toNat)
  case atStart => exact ⟨0, Nat.zero_le _, rfl, Le.refl _⟩
  case round =>
    obtain ⟨k, hk, rfl, hr⟩ := hrel
    have HR := hide hr
    have HBR := hide (HB.out.trans hr)
    have a5 := box_cell H1.out 5 _ rfl wr HBR.out
    have b5 := box_cell H2.out 5 _ rfl wr HBR.out
    by_cases hlt : k < cs.length
    · have hltI : (k : Int) < (cs.length : Int) := by omega
      have h0I : (0 : Int) ≤ (k : Int) := by omega
      obtain ⟨g1, o1, rfl, k1⟩ := nat_cell H5.out.1 k hlt
      obtain ⟨g2, o2, rfl, k2⟩ := nat_cell H5.out.2 k hlt
      have d1 := (HL1.out.trans hr).cell k1
      have d2 := (HL1.out.trans hr).cell k2
      clear k1 k2 hr
      generalize cs[k] = x at *
      have hne : (((x : Nat) : Int) != (x : Int)) = false := by simp
      go_wp2_with fail
      go_quiet (fail)
      go_wp2
      go_roundw
      case rel => exact ⟨k + 1, by omega, by go_num, HR.out.drewN _⟩
      case measure => simp [intOf]; omega
    · have hltI : ¬ (k : Int) < (cs.length : Int) := by omega
      have a0 := box_cell H1.out 0 _ rfl wr HBR.out
      have b0 := box_cell H2.out 0 _ rfl wr HBR.out
      have a1 := box_cell H1.out 1 _ rfl wr HBR.out
      have b1 := box_cell H2.out 1 _ rfl wr HBR.out
      have a2 := box_cell H1.out 2 _ rfl wr HBR.out
      have b2 := box_cell H2.out 2 _ rfl wr HBR.out
      have a3 := box_cell H1.out 3 _ rfl wr HBR.out
      have b3 := box_cell H2.out 3 _ rfl wr HBR.out
      have a4 := box_cell H1.out 4 _ rfl wr HBR.out
      have b4 := box_cell H2.out 4 _ rfl wr HBR.out
      have a7 := box_cell H1.out 7 _ rfl wr HBR.out
      have b7 := box_cell H2.out 7 _ rfl wr HBR.out
      have a8 := box_cell H1.out 8 _ rfl wr HBR.out
      have b8 := box_cell H2.out 8 _ rfl wr HBR.out
      have HF := hide (HL1.out.trans hr)
      clear hr
      go_wp2_with fail
      go_ret
      exact ⟨by simp, HF.out.out⟩
end Go.Proofs.Ytekioihjfggmdaa

/- DownSame: descriptors. -/
namespace Go.Proofs.Ytekioihjfggmdaa
open Go.RowKit
theorem with_back (q : Dsc) (pic tl0 : Nat) : { q.with pic tl0 with pic := q.pic, tl0 := q.tl0 } = q := by
  cases q
  simp [Dsc.with]
theorem desc_neq_self (more lone start : Bool) (part : Nat) (hasPic wide : Bool) (pic : Nat) (hasTl0 : Bool) (tl0 : Nat) (hasTid : Bool) (tid : Nat) (sync hasKey : Bool) (key : Nat) (w : World) :
    (binOp .neq 74 (.agg #[.bool more, .bool lone, .bool start, .int .u8 part, .bool hasPic, .bool wide, .int .u16 pic, .bool hasTl0, .int .u8 tl0, .bool hasTid, .int .u8 tid, .bool sync, .bool hasKey, .int .u8 key]) (.agg #[.bool more, .bool lone, .bool start, .int .u8 part, .bool hasPic, .bool wide, .int .u16 pic, .bool hasTl0, .int .u8 tl0, .bool hasTid, .int .u8 tid, .bool sync, .bool hasKey, .int .u8 key])).run Try.prog w = .ok (.bool false) w := by
  have h := desc_neq ⟨more, lone, start, part, hasPic, wide, pic, hasTl0, tl0, hasTid, tid, sync, hasKey, key⟩ ⟨more, lone, start, part, hasPic, wide, pic, hasTl0, tl0, hasTid, tid, sync, hasKey, key⟩ w
  rw [decide_eq_true rfl] at h
  exact h
theorem rsl_cap {α : Type} {size : Nat} {R : Rd α} {w : World} {l : List α} {A : Option Addr} {n cap : Nat} (h : RSl size R w l (.slice A n cap)) : l.length ≤ cap := by
  obtain ⟨_, _, e, h, _⟩ := h
  injection e with e1 e2 e3
  subst e3
  exact h
theorem rsl_none (w : World) (A : Option Addr) (c : Nat) : RSl 1 RU8 w [] (.slice A 0 c) := ⟨A, c, rfl, Nat.zero_le _, fun h => absurd rfl h⟩
end Go.Proofs.Ytekioihjfggmdaa

/- DownCounts: the walk. -/
namespace Go.Proofs.Ytekioihjfggmdaa
open Go.RowKit
set_option linter.unusedVariables false

theorem fewS_at {l : List Stp} (h : fewS l = true) (k : Nat) (hk : k < l.length) : l[k].p.few = true := by
  rw [fewS, Bool.and_eq_true] at h
  exact List.all_eq_true.1 h.1 _ (List.getElem_mem hk)
theorem fewS_len {l : List Stp} (h : fewS l = true) : l.length ≤ 120 := by
  rw [fewS, Bool.and_eq_true] at h
  simpa using h.2
theorem step_range {w wr : World} {b o : Nat} {x : Stp} {v5 v6 v7 : Value} (hl : Le w wr) (hc : ∀ j, j < 15 → w.cell? ⟨b, o + j, none⟩ = (x.cells v5 v6 v7)[j]?) : wr.rangeAt b o (x.cells v5 v6 v7) := fun j v hj => by
  refine hl.cell ?_
  have h15 : j < 15 := by
    have := (List.getElem?_eq_some_iff.1 hj).1
    simpa [Stp.cells] using this
  rw [hc j h15, hj]

set_option maxRecDepth 100000 in
set_option maxHeartbeats 4000000 in
theorem downCounts_walk (w : World) (room : Nat) (hroom : room < 256) (l : List Stp) (A : Option Addr) (n cap : Nat) (hr : RSl 15 RStp w l (.slice A n cap)) (hl : l.length ≤ 9223372036854775807) : Calls Try.prog 8 #[.int .u8 room, .slice A n cap] w (Gives w (.bool true)) := by
  have HR := hide hr
  obtain ⟨A', cap', hv, hcap, hi⟩ := hr
  injection hv with e1 e2 e3
  subst e1 e2 e3
  have HI := hide hi
  clear hi
  have HFEW := hide (fun W (hW : Le w W) => few14_any l A cap W (hW.rsl keeps_stp HR.out) hl)
  go_enter Try.func8, Try.ntmps8
  go_wp2_with fail
  refine (awake14 _).mono ?_
  rintro r w1 ⟨rfl, hb1⟩
  have HL1 := hide (show Le w w1 from ⟨hb1⟩)
  clear hb1
  go_wp2_with fail
  refine (HFEW.out _ HL1.out).mono ?_
  rintro r w2 ⟨rfl, hb2⟩
  have HL2 := hide (HL1.out.trans ⟨hb2⟩)
  clear hb2 HL1 HFEW
  cases hf : fewS l
  · go_wp2_with fail
    go_ret
    exact ⟨rfl, HL2.out.out⟩
  have hlen := fewS_len hf
  have HF := hide hf
  clear hf
  obtain ⟨M, hM⟩ : ∃ M, M = room % 9 := ⟨_, rfl⟩
  obtain ⟨N, hN⟩ : ∃ N, N = M + 1 := ⟨_, rfl⟩
  have hN1 : 0 < N ∧ N ≤ 9 := by omega
  have HNEW := hide (downNew_any 3 N hN1.1 (by omega) w2)
  have q1 : (room : Int).tmod 9 = (M : Int) := by rw [hM]; rfl
  have q2 : IntKind.u8.wrap (M : Int) = M := by simp [IntKind.wrap, IntKind.signed, IntKind.bits]; omega
  have q3 : (M : Int) + 1 = (N : Int) := by omega
  have q4 : IntKind.i64.wrap (N : Int) = N := IntWalk.i64_in _ (by omega)
  have q5 : IntKind.i64.wrap (M : Int) = M := IntWalk.i64_in _ (by omega)
  clear hM hN
  go_wp2_with fail
  refine HNEW.out.mono ?_
  rintro e w3 ⟨L, vs0, rfl, hd0, hS0, hb3⟩
  have HS := hide (fun k hk => Nat.le_trans HL2.out.size (hS0 k hk))
  have H3 := hide (And.intro hd0 (HL2.out.trans ⟨hb3⟩))
  clear hd0 hS0 hb3 HNEW q1 q2 q3 q4 q5
  go_wp2_with fail
  go_loopw [8, 9] (fun s j wr => ∃ (k : Nat) (d : Dn) (vs : List Value), k ≤ l.length ∧ j = .int .i64 k ∧ s = .int .i64 (d.sent : Nat) ∧ DnAt wr L k d vs ∧ d.Ok k ∧ Le w wr) (fun s j _ => l.length - (intOf j).toNat)
  case atStart => exact ⟨0, Dn.new 3 N, vs0, Nat.zero_le _, rfl, rfl, H3.out.1, Dn.new_ok (by decide) hN1.1 (by omega), H3.out.2⟩
  case round =>
    clear H3
    obtain ⟨k, d, vs, hk, rfl, rfl, hd, hok, hle⟩ := hrel
    by_cases hlt : k < l.length
    · obtain ⟨b, off, rfl, hg⟩ := HI.out (by rintro rfl; simp at hlt)
      obtain ⟨cs, _, hc, v5, v6, v7, hcs, hP, hN⟩ := hg k hlt
      subst hcs
      have hp := hN.ok (fewS_at HF.out k hlt)
      have hltI : (k : Int) < (l.length : Int) := by omega
      generalize l[k] = x at *
      have HRNG := hide (step_range hle hc)
      have hok' := Dn.take_ok hok x.p hp x.src x.layer x.want x.muted
      have hsent := Dn.take_sent d x.p x.src x.layer x.want x.muted
      have HTK := hide (fun W (hW : Le wr W) => downTake_any (hd.le hW) hok (by omega) x.p hp v5 v6 v7 (PdAt.old hP (hle.trans hW).out HS.out) (by omega) x.src x.layer x.want x.muted)
      obtain ⟨A5, c5, rfl, _, _⟩ := id hP.csrc
      obtain ⟨A6, c6, rfl, _, _⟩ := id hP.exts
      obtain ⟨A7, c7, rfl, _, _⟩ := id hP.payload
      generalize d.take x.p x.src x.layer x.want x.muted = r at *
      obtain ⟨d', o, ask⟩ := r
      dsimp only at hok' hsent
      have hcnt := hok'.cnt
      have HOK := hide hok'
      have HLE := hide hle
      clear hc hg hP hN hp hd hok hok' hle
      obtain ⟨p, sr, la, wn, mu⟩ := x
      obtain ⟨ws, wl, wt⟩ := wn
      obtain ⟨mk, ty, sq, tm, ss, cs, ex, pl, pd⟩ := p
      simp only [Stp.cells, Pk.val, Wnt.val] at HRNG HTK
      go_upto_region 13 with (first | (refine wpList_load_mid rfl 50 (.tmp 35) rfl b (off + k * 15) rfl [.bool mk, .int .u8 ty, .int .u16 sq, .int .u32 tm, .int .u32 ss, .slice A5 cs.length c5, .slice A6 ex.length c6, .slice A7 pl.length c7, .int .i64 pd, .int .i64 sr, .int .i64 la, .int .i64 ws, .int .i64 wl, .int .i64 wt, .bool mu] _ HRNG.out Try.underlying50 rfl (by kernel_rfl) ?_) | (refine wpl_store_blk rfl 50 (.tmp 10) (.tmp 36) (cs := [.bool mk, .int .u8 ty, .int .u16 sq, .int .u32 tm, .int .u32 ss, .slice A5 cs.length c5, .slice A6 ex.length c6, .slice A7 pl.length c7, .int .i64 pd, .int .i64 sr, .int .i64 la, .int .i64 ws, .int .i64 wl, .int .i64 wt, .bool mu]) rfl rfl rfl (by kernel_rfl) (by simp [Value.oneCell']) (heap_alloc_new _ _) rfl ?_; intro wz hn hgz; have HZ := hide (And.intro hn (((Le.refl wr).alloc _).boxed hgz (Nat.le_refl _))); clear hn hgz))
      have HTZ := hide (HTK.out wz HZ.out.2)
      have y9 : wz.cell? ⟨wr.heap.size, 9, none⟩ = some (.int .i64 sr) := box_cell HZ.out.1 9 _ rfl _ (Le.refl _)
      have y10 : wz.cell? ⟨wr.heap.size, 10, none⟩ = some (.int .i64 la) := box_cell HZ.out.1 10 _ rfl _ (Le.refl _)
      have y14 : wz.cell? ⟨wr.heap.size, 14, none⟩ = some (.bool mu) := box_cell HZ.out.1 14 _ rfl _ (Le.refl _)
      generalize wr.heap.size = g at *
      clear HTK HRNG
      go_wp2_with (first | (refine wpl_load_in rfl 46 (.tmp 39) rfl [] [.bool mk, .int .u8 ty, .int .u16 sq, .int .u32 tm, .int .u32 ss, .slice A5 cs.length c5, .slice A6 ex.length c6, .slice A7 pl.length c7, .int .i64 pd] [.int .i64 sr, .int .i64 la, .int .i64 ws, .int .i64 wl, .int .i64 wt, .bool mu] _ rfl Try.underlying46 rfl (by kernel_rfl) HZ.out.1 ?_) | (refine wpl_load_in rfl 48 (.tmp 45) rfl [.bool mk, .int .u8 ty, .int .u16 sq, .int .u32 tm, .int .u32 ss, .slice A5 cs.length c5, .slice A6 ex.length c6, .slice A7 pl.length c7, .int .i64 pd, .int .i64 sr, .int .i64 la] [.int .i64 ws, .int .i64 wl, .int .i64 wt] [.bool mu] _ rfl Try.underlying48 rfl (by kernel_rfl) HZ.out.1 ?_))
      refine HTZ.out.mono ?_
      rintro e w9 ⟨v, vs9, rfl, hd9, hr9, hf9⟩
      have hle9 : Le w w9 := ⟨hf9.below (HLE.out.trans HZ.out.2).out (HLE.out.trans HZ.out.2).size HS.out⟩
      have H9 := hide (And.intro hd9 hle9)
      have HCN := hide (fun W (hW : Le w9 W) => downCount_any (hd9.le hW))
      clear y9 y10 y14 hd9 hr9 hf9 hle9 HTZ
      dsimp only at HCN H9 ⊢
      simp only [Dn.countV] at HCN
      obtain ⟨dss, dpk, dnm, dst, S, Lf, Dr, La, Ba⟩ := d'
      dsimp only at hcnt hsent HCN
      generalize o.isSome = is at *
      generalize hdS : d.sent = S0 at *
      clear hdS
      obtain ⟨T1, hT1⟩ : ∃ T1, T1 = S + Lf := ⟨_, rfl⟩
      obtain ⟨T2, hT2⟩ : ∃ T2, T2 = T1 + Dr := ⟨_, rfl⟩
      obtain ⟨T3, hT3⟩ : ∃ T3, T3 = T2 + La := ⟨_, rfl⟩
      have e1 : (S : Int) + (Lf : Int) = (T1 : Int) := by omega
      have e2 : (T1 : Int) + (Dr : Int) = (T2 : Int) := by omega
      have e3 : (T2 : Int) + (La : Int) = (T3 : Int) := by omega
      have e4 : (T3 : Int) + (Ba : Int) = (k : Int) + 1 := by omega
      have t1 : IntKind.i64.wrap (T1 : Int) = T1 := IntWalk.i64_in _ (by omega)
      have t2 : IntKind.i64.wrap (T2 : Int) = T2 := IntWalk.i64_in _ (by omega)
      have t3 : IntKind.i64.wrap (T3 : Int) = T3 := IntWalk.i64_in _ (by omega)
      have hS : S ≤ 121 := by omega
      clear hcnt hT1 hT2 hT3
      cases is
      · have hSS : S = S0 := by simpa using hsent
        subst hSS
        clear hsent
        go_wp2_with fail
        refine (HCN.out _ (Le.refl _)).mono ?_
        rintro e w10 ⟨rfl, hb10⟩
        have H10 := hide (And.intro (H9.out.1.le ⟨hb10⟩) (H9.out.2.trans ⟨hb10⟩))
        clear hb10 HCN H9
        go_wp2_with fail
        go_roundw
        case rel => exact ⟨k + 1, _, vs9, by omega, by go_num, rfl, H10.out.1.le ((Le.refl _).alloc _), HOK.out, H10.out.2.alloc _⟩
        case measure => simp [intOf]; omega
      · have hSS : S = S0 + 1 := by simpa using hsent
        have e5 : (S0 : Int) + 1 = (S : Int) := by omega
        have t5 : IntKind.i64.wrap (S : Int) = S := IntWalk.i64_in _ (by omega)
        clear hsent hSS
        go_wp2_with fail
        refine (HCN.out _ (Le.refl _)).mono ?_
        rintro e w10 ⟨rfl, hb10⟩
        have H10 := hide (And.intro (H9.out.1.le ⟨hb10⟩) (H9.out.2.trans ⟨hb10⟩))
        clear hb10 HCN H9
        go_wp2_with fail
        go_roundw
        case rel => exact ⟨k + 1, _, vs9, by omega, by go_num, rfl, H10.out.1.le ((Le.refl _).alloc _), HOK.out, H10.out.2.alloc _⟩
        case measure => simp [intOf]; omega
    · have hltI : ¬ (k : Int) < (l.length : Int) := by omega
      have HB := hide hle
      clear hd hok hle
      go_wp2_with fail
      go_ret
      exact ⟨rfl, HB.out.out⟩
end Go.Proofs.Ytekioihjfggmdaa

/- DownStreams: the walk. -/
namespace Go.Proofs.Ytekioihjfggmdaa
open Go.RowKit
set_option linter.unusedVariables false

theorem Ch.is_iff {s : Ch} {f l : Int} : s.is f l = true ↔ s.on = true ∧ s.src = f ∧ s.layer = l := by
  simp only [Ch.is, Bool.and_eq_true, decide_eq_true_eq]
  constructor
  · rintro ⟨a, b, c⟩; exact ⟨a, b.symm, c.symm⟩
  · rintro ⟨a, b, c⟩; exact ⟨a, b.symm, c.symm⟩
theorem does_pick (d : Dn) (p : Pk) (f l what : Int) : (d.does p f l what).1.pick = d.pick := by
  unfold Dn.does
  split
  · rfl
  · split
    · rfl
    · split
      · rfl
      · split <;> rfl
theorem does_some {d : Dn} {p : Pk} {f l what : Int} (h : (d.does p f l what).2.isSome = true) : what ≠ 0 ∧ what ≠ 2 := by
  unfold Dn.does at h
  split at h
  · cases h
  · split at h
    · cases h
    · exact ⟨by assumption, by assumption⟩
/-- what is sent is of one stream until another one begins -/
theorem Dn.take_stream (d : Dn) (p : Pk) (f l : Int) (x : Wnt) (mu : Bool) :
    ((d.take p f l x mu).1.pick.on = true → mu = false ∧ (((d.take p f l x mu).2.1.isSome = true ∧ (d.take p f l x mu).1.pick.src = f ∧ (d.take p f l x mu).1.pick.layer = l) ∨ (d.pick.on = true ∧ (d.take p f l x mu).1.pick.src = d.pick.src ∧ (d.take p f l x mu).1.pick.layer = d.pick.layer))) ∧
    ((d.take p f l x mu).2.1.isSome = true → mu = false ∧ ((d.take p f l x mu).1.pick.on = true ∧ (d.take p f l x mu).1.pick.src = f ∧ (d.take p f l x mu).1.pick.layer = l) ∧ ((d.pick.on = true ∧ d.pick.src = f ∧ d.pick.layer = l) ∨ (vpW p.payload = true ∧ f = x.src ∧ l = x.layer ∧ (d.take p f l x mu).2.2 = false))) := by
  cases mu
  · by_cases hb : vpE p.payload ≠ 0 ∨ p.err ≠ 0
    · have e : d.take1 p f l x = ((if d.pick.is f l then d.setNums (d.nums.drop ⟨p.seq, 0, 0, 0⟩ false) else d).addBad, none) := by rw [Dn.take1, if_pos hb]
      have ep : (d.take1 p f l x).1.pick = d.pick := by rw [e]; dsimp only; split <;> rfl
      have e2 : (d.take1 p f l x).2 = none := by rw [e]
      simp only [Dn.take, ep, e2]
      simp
      intro h
      rw [ep] at h ⊢
      exact ⟨h, rfl, rfl⟩
    · have e : d.take1 p f l x = (d.setPick (d.pick.take (p.inn f l) x).1).does p f l (d.pick.take (p.inn f l) x).2 := by rw [Dn.take1, if_neg hb]
      have ep : (d.take1 p f l x).1.pick = (d.pick.take (p.inn f l) x).1 := by rw [e, does_pick]; rfl
      have hs : (d.take1 p f l x).2.isSome = true → (d.pick.take (p.inn f l) x).2 ≠ 0 ∧ (d.pick.take (p.inn f l) x).2 ≠ 2 := fun h => does_some (by rw [← e]; exact h)
      have h3 : (d.pick.take (p.inn f l) x).2 = 3 → (d.take1 p f l x).2.isSome = true := fun h => by rw [e, h]; rfl
      simp only [Dn.take, Bool.false_eq_true, if_false, ep]
      generalize (d.take1 p f l x).2.isSome = S at *
      clear e ep
      by_cases his : d.pick.is f l = true
      · have his' := Ch.is_iff.1 his
        have hp1 : (d.pick.take (p.inn f l) x).1.on = d.pick.on ∧ (d.pick.take (p.inn f l) x).1.src = d.pick.src ∧ (d.pick.take (p.inn f l) x).1.layer = d.pick.layer := by
          unfold Ch.take
          rw [if_pos (show d.pick.is (p.inn f l).src (p.inn f l).layer = true from his)]
          dsimp only
          split <;> exact ⟨rfl, rfl, rfl⟩
        refine ⟨fun _ => ⟨trivial, .inr ⟨his'.1, hp1.2.1, hp1.2.2⟩⟩, fun _ => ⟨trivial, ⟨hp1.1.trans his'.1, hp1.2.1.trans his'.2.1, hp1.2.2.trans his'.2.2⟩, .inl his'⟩⟩
      · by_cases hw : f = x.src ∧ l = x.layer ∧ (p.inn f l).begin_ = true ∧ (p.inn f l).whole = true
        · have et : d.pick.take (p.inn f l) x = (⟨true, x.src, x.layer, x.tid⟩, 3) := by
            unfold Ch.take
            rw [if_neg (show ¬ d.pick.is (p.inn f l).src (p.inn f l).layer = true from his), if_pos (show (p.inn f l).src = x.src ∧ (p.inn f l).layer = x.layer ∧ (p.inn f l).begin_ = true ∧ (p.inn f l).whole = true from hw)]
          rw [et] at h3 ⊢
          have hS := h3 rfl
          obtain ⟨w1, w2, w3, w4⟩ := hw
          refine ⟨fun _ => ⟨trivial, .inl ⟨hS, w1.symm, w2.symm⟩⟩, fun _ => ⟨trivial, ⟨rfl, w1.symm, w2.symm⟩, .inr ⟨w4, w1, w2, ?_⟩⟩⟩
          simp [Ch.asks, Ch.is]
        · have et : d.pick.take (p.inn f l) x = (d.pick, 0) := by
            unfold Ch.take
            rw [if_neg (show ¬ d.pick.is (p.inn f l).src (p.inn f l).layer = true from his), if_neg (show ¬ ((p.inn f l).src = x.src ∧ (p.inn f l).layer = x.layer ∧ (p.inn f l).begin_ = true ∧ (p.inn f l).whole = true) from hw)]
          rw [et] at hs ⊢
          refine ⟨fun h => ⟨trivial, .inr ⟨h, rfl, rfl⟩⟩, fun h => absurd rfl (hs h).1⟩
  · refine ⟨fun h => ?_, fun h => ?_⟩
    · simp [Dn.take, Dn.mute, Dn.addLeft, Dn.setPick] at h
    · simp [Dn.take] at h

set_option maxRecDepth 100000 in
set_option maxHeartbeats 4000000 in
theorem downStreams_walk (w : World) (l : List Stp) (A : Option Addr) (n cap : Nat) (hr : RSl 15 RStp w l (.slice A n cap)) (hl : l.length ≤ 9223372036854775807) : Calls Try.prog 6 #[.slice A n cap] w (Gives w (.bool true)) := by
  have HR := hide hr
  obtain ⟨A', cap', hv, hcap, hi⟩ := hr
  injection hv with e1 e2 e3
  subst e1 e2 e3
  have HI := hide hi
  clear hi
  have HFEW := hide (fun W (hW : Le w W) => few14_any l A cap W (hW.rsl keeps_stp HR.out) hl)
  go_enter Try.func6, Try.ntmps6
  go_wp2_with fail
  refine (awake14 _).mono ?_
  rintro r w1 ⟨rfl, hb1⟩
  have HL1 := hide (show Le w w1 from ⟨hb1⟩)
  clear hb1
  go_wp2_with fail
  refine (HFEW.out _ HL1.out).mono ?_
  rintro r w2 ⟨rfl, hb2⟩
  have HL2 := hide (HL1.out.trans ⟨hb2⟩)
  clear hb2 HL1 HFEW
  cases hf : fewS l
  · go_wp2_with fail
    go_ret
    exact ⟨rfl, HL2.out.out⟩
  have hlen := fewS_len hf
  have HF := hide hf
  clear hf
  have HNEW := hide (downNew_any 5 200 (by decide) (by decide) w2)
  go_wp2_with fail
  refine HNEW.out.mono ?_
  rintro e w3 ⟨L, vs0, rfl, hd0, hS0, hb3⟩
  have HS := hide (fun k hk => Nat.le_trans HL2.out.size (hS0 k hk))
  have H3 := hide (And.intro hd0 (HL2.out.trans ⟨hb3⟩))
  clear hd0 hS0 hb3 HNEW
  go_wp2_with fail
  go_loopw [6, 7, 8, 9] (fun on fr ly j wr => ∃ (k : Nat) (d : Dn) (vs : List Value) (o : Bool) (F Y : Int), k ≤ l.length ∧ j = .int .i64 k ∧ on = .bool o ∧ fr = .int .i64 F ∧ ly = .int .i64 Y ∧ DnAt wr L k d vs ∧ d.Ok k ∧ Hd (d.pick.on = true → o = true ∧ F = d.pick.src ∧ Y = d.pick.layer) ∧ Le w wr) (fun on fr ly j _ => l.length - (intOf j).toNat)
  case atStart => exact ⟨0, Dn.new 5 200, vs0, false, 0, 0, Nat.zero_le _, rfl, rfl, rfl, rfl, H3.out.1, Dn.new_ok (by decide) (by decide) (by decide), hide (fun h => by cases h), H3.out.2⟩
  case round =>
    clear H3
    obtain ⟨k, d, vs, o0, F, Y, hk, rfl, rfl, rfl, rfl, hd, hok, HJ, hle⟩ := hrel
    by_cases hlt : k < l.length
    · obtain ⟨b, off, rfl, hg⟩ := HI.out (by rintro rfl; simp at hlt)
      obtain ⟨cs, _, hc, v5, v6, v7, hcs, hP, hN⟩ := hg k hlt
      subst hcs
      have hp := hN.ok (fewS_at HF.out k hlt)
      have hltI : (k : Int) < (l.length : Int) := by omega
      generalize l[k] = x at *
      have HRNG := hide (step_range hle hc)
      have hok' := Dn.take_ok hok x.p hp x.src x.layer x.want x.muted
      have hstr := Dn.take_stream d x.p x.src x.layer x.want x.muted
      have HTK := hide (fun W (hW : Le wr W) => downTake_any (hd.le hW) hok (by omega) x.p hp v5 v6 v7 (PdAt.old hP (hle.trans hW).out HS.out) (by omega) x.src x.layer x.want x.muted)
      obtain ⟨A5, c5, rfl, _, _⟩ := id hP.csrc
      obtain ⟨A6, c6, rfl, _, _⟩ := id hP.exts
      obtain ⟨A7, c7, rfl, _, _⟩ := id hP.payload
      have HWH := hide (fun W (hW : Le w W) => whole_any A7 c7 x.p.payload W (hW.rsl keeps_u8 hP.payload) (by have := hp.np; omega) (vpD_ok x.p.payload).part)
      generalize d.take x.p x.src x.layer x.want x.muted = r at *
      obtain ⟨d', o, ask⟩ := r
      dsimp only at hok' hstr
      have HST := hide hstr
      have HOK := hide hok'
      have HLE := hide hle
      have HDD := hide hd
      clear hc hg hP hN hp hd hok hok' hle hstr
      obtain ⟨p, sr, la, wn, mu⟩ := x
      obtain ⟨ws, wl, wt⟩ := wn
      obtain ⟨mk, ty, sq, tm, ss, cs, ex, pl, pd⟩ := p
      simp only [Stp.cells, Pk.val, Wnt.val] at HRNG HTK HST HWH
      generalize d.pick = pk0 at *
      go_upto_region 15 with (first | (refine wpList_load_mid rfl 50 (.tmp 31) rfl b (off + k * 15) rfl [.bool mk, .int .u8 ty, .int .u16 sq, .int .u32 tm, .int .u32 ss, .slice A5 cs.length c5, .slice A6 ex.length c6, .slice A7 pl.length c7, .int .i64 pd, .int .i64 sr, .int .i64 la, .int .i64 ws, .int .i64 wl, .int .i64 wt, .bool mu] _ HRNG.out Try.underlying50 rfl (by kernel_rfl) ?_) | (refine wpl_store_blk rfl 50 (.tmp 10) (.tmp 32) (cs := [.bool mk, .int .u8 ty, .int .u16 sq, .int .u32 tm, .int .u32 ss, .slice A5 cs.length c5, .slice A6 ex.length c6, .slice A7 pl.length c7, .int .i64 pd, .int .i64 sr, .int .i64 la, .int .i64 ws, .int .i64 wl, .int .i64 wt, .bool mu]) rfl rfl rfl (by kernel_rfl) (by simp [Value.oneCell']) (heap_alloc_new _ _) rfl ?_; intro wz hn hgz; have HZ := hide (And.intro hn (((Le.refl wr).alloc _).boxed hgz (Nat.le_refl _))); clear hn hgz))
      have HTZ := hide (HTK.out wz HZ.out.2)
      have HNS := hide ((HDD.out.le HZ.out.2).notS HZ.out.1 (by decide) (by decide) (by decide))
      have y9 : wz.cell? ⟨wr.heap.size, 9, none⟩ = some (.int .i64 sr) := box_cell HZ.out.1 9 _ rfl _ (Le.refl _)
      have y10 : wz.cell? ⟨wr.heap.size, 10, none⟩ = some (.int .i64 la) := box_cell HZ.out.1 10 _ rfl _ (Le.refl _)
      have y14 : wz.cell? ⟨wr.heap.size, 14, none⟩ = some (.bool mu) := box_cell HZ.out.1 14 _ rfl _ (Le.refl _)
      generalize wr.heap.size = g at *
      clear HTK HRNG
      go_wp2_with (first | (refine wpl_load_in rfl 46 (.tmp 35) rfl [] [.bool mk, .int .u8 ty, .int .u16 sq, .int .u32 tm, .int .u32 ss, .slice A5 cs.length c5, .slice A6 ex.length c6, .slice A7 pl.length c7, .int .i64 pd] [.int .i64 sr, .int .i64 la, .int .i64 ws, .int .i64 wl, .int .i64 wt, .bool mu] _ rfl Try.underlying46 rfl (by kernel_rfl) HZ.out.1 ?_) | (refine wpl_load_in rfl 48 (.tmp 41) rfl [.bool mk, .int .u8 ty, .int .u16 sq, .int .u32 tm, .int .u32 ss, .slice A5 cs.length c5, .slice A6 ex.length c6, .slice A7 pl.length c7, .int .i64 pd, .int .i64 sr, .int .i64 la] [.int .i64 ws, .int .i64 wl, .int .i64 wt] [.bool mu] _ rfl Try.underlying48 rfl (by kernel_rfl) HZ.out.1 ?_))
      refine HTZ.out.mono ?_
      rintro e w9 ⟨v, vs9, rfl, hd9, hr9, hf9⟩
      have hle9 : Le w w9 := ⟨hf9.below (HLE.out.trans HZ.out.2).out (HLE.out.trans HZ.out.2).size HS.out⟩
      have hz9 : w9.heap[g]? = some (.cells [.bool mk, .int .u8 ty, .int .u16 sq, .int .u32 tm, .int .u32 ss, .slice A5 cs.length c5, .slice A6 ex.length c6, .slice A7 pl.length c7, .int .i64 pd, .int .i64 sr, .int .i64 la, .int .i64 ws, .int .i64 wl, .int .i64 wt, .bool mu].toArray 50 (0, 0)) := hf9.heap HZ.out.1 HNS.out
      have HZ9 := hide hz9
      have H9 := hide (And.intro hd9 hle9)
      clear y9 y10 y14 hd9 hr9 hf9 hle9 hz9 HTZ HDD HNS
      dsimp only at H9 ⊢
      generalize o.isSome = is at *
      have z7 : w9.cell? ⟨g, 7, none⟩ = some (.slice A7 pl.length c7) := box_cell HZ9.out 7 _ rfl _ (Le.refl _)
      have z9 : w9.cell? ⟨g, 9, none⟩ = some (.int .i64 sr) := box_cell HZ9.out 9 _ rfl _ (Le.refl _)
      have z10 : w9.cell? ⟨g, 10, none⟩ = some (.int .i64 la) := box_cell HZ9.out 10 _ rfl _ (Le.refl _)
      have z11 : w9.cell? ⟨g, 11, none⟩ = some (.int .i64 ws) := box_cell HZ9.out 11 _ rfl _ (Le.refl _)
      have z12 : w9.cell? ⟨g, 12, none⟩ = some (.int .i64 wl) := box_cell HZ9.out 12 _ rfl _ (Le.refl _)
      have z14 : w9.cell? ⟨g, 14, none⟩ = some (.bool mu) := box_cell HZ9.out 14 _ rfl _ (Le.refl _)
      cases is
      · have hj : d'.pick.on = true → mu = false ∧ (o0 = true ∧ F = d'.pick.src ∧ Y = d'.pick.layer) := fun h => by
          obtain ⟨h1, h2 | h2⟩ := HST.out.1 h
          · cases h2.1
          · obtain ⟨a, b, c⟩ := HJ.out h2.1
            exact ⟨h1, a, b.trans h2.2.1.symm, c.trans h2.2.2.symm⟩
        have HJ2 := hide hj
        clear hj
        cases mu
        · go_wp2_with fail
          go_roundw
          case rel => exact ⟨k + 1, d', vs9, o0, F, Y, by omega, by go_num, rfl, rfl, rfl, H9.out.1, HOK.out, hide (fun h => (HJ2.out h).2), H9.out.2⟩
          case measure => simp [intOf]; omega
        · go_wp2_with fail
          go_roundw
          case rel => exact ⟨k + 1, d', vs9, false, F, Y, by omega, by go_num, rfl, rfl, rfl, H9.out.1, HOK.out, hide (fun h => by cases (HJ2.out h).1), H9.out.2⟩
          case measure => simp [intOf]; omega
      · obtain ⟨rfl, hq, halt⟩ := HST.out.2 rfl
        have HQ := hide (show d'.pick.on = true → true = true ∧ sr = d'.pick.src ∧ la = d'.pick.layer from fun _ => ⟨rfl, hq.2.1.symm, hq.2.2.symm⟩)
        have hor : (o0 = true ∧ F = sr ∧ Y = la) ∨ (¬ (o0 = true ∧ F = sr ∧ Y = la) ∧ vpW pl = true ∧ sr = ws ∧ la = wl ∧ ask = false) := by
          by_cases hs : o0 = true ∧ F = sr ∧ Y = la
          · exact .inl hs
          · rcases halt with h | h
            · obtain ⟨a, b, c⟩ := HJ.out h.1
              exact absurd ⟨a, b.trans h.2.1, c.trans h.2.2⟩ hs
            · exact .inr ⟨hs, h⟩
        clear hq halt HST HJ
        rcases hor with ⟨rfl, rfl, rfl⟩ | ⟨hs, hw, rfl, rfl, rfl⟩
        · go_wp2_with fail
          go_roundw
          case rel => exact ⟨k + 1, d', vs9, true, _, _, by omega, by go_num, rfl, rfl, rfl, H9.out.1, HOK.out, hide (fun h => ⟨rfl, (HQ.out h).2⟩), H9.out.2⟩
          case measure => simp [intOf]; omega
        · rw [hw] at HWH
          clear hw
          have hth : o0 = false ∨ (o0 = true ∧ ¬ sr = F) ∨ (o0 = true ∧ F = sr ∧ ¬ la = Y) := by
            cases o0
            · exact .inl rfl
            · by_cases h1 : F = sr
              · exact .inr (.inr ⟨rfl, h1, fun h => hs ⟨rfl, h1, h.symm⟩⟩)
              · exact .inr (.inl ⟨rfl, fun h => h1 h.symm⟩)
          clear hs
          have HLW := hide (fun W (hW : Le w9 W) => H9.out.2.trans hW)
          rcases hth with rfl | ⟨rfl, h1⟩ | ⟨rfl, rfl, h1⟩
          all_goals
            try have h2 : (sr == F) = false := by rw [beq_eq_false_iff_ne]; exact h1
            try have h2 : (la == Y) = false := by rw [beq_eq_false_iff_ne]; exact h1
            go_wp2_with fail
            refine (HWH.out _ H9.out.2).mono ?_
            rintro e w11 ⟨rfl, hb11⟩
            have HB := hide (Le.mk hb11)
            clear hb11 z7 z9 z10 z11 z12 z14
            have x7 := box_cell HZ9.out 7 _ rfl _ HB.out
            have x9 := box_cell HZ9.out 9 _ rfl _ HB.out
            have x10 := box_cell HZ9.out 10 _ rfl _ HB.out
            have x11 := box_cell HZ9.out 11 _ rfl _ HB.out
            have x12 := box_cell HZ9.out 12 _ rfl _ HB.out
            have x14 := box_cell HZ9.out 14 _ rfl _ HB.out
            go_wp2_with fail
            go_roundw
            case rel => exact ⟨k + 1, d', vs9, true, _, _, by omega, by go_num, rfl, rfl, rfl, H9.out.1.le HB.out, HOK.out, hide (fun h => ⟨rfl, (HQ.out h).2⟩), H9.out.2.trans HB.out⟩
            case measure => simp [intOf]; omega
    · have hltI : ¬ (k : Int) < (l.length : Int) := by omega
      have HB := hide hle
      clear hd hok hle
      go_wp2_with fail
      go_ret
      exact ⟨rfl, HB.out.out⟩
end Go.Proofs.Ytekioihjfggmdaa

/- down: what is sent. -/
namespace Go.Proofs.Ytekioihjfggmdaa
open Go.RowKit
set_option linter.unusedVariables false

theorem vpWr_length {b : List UInt8} (h : vpE b = 0) (pic tl0 : Nat) : (vpWr b pic tl0).length = b.length := by
  rw [vpWr, if_pos h, wrT_len, wrP_len]
theorem renum_err {p : Pk} (hp : p.err = 0) (hv : vpE p.payload = 0) (n : Nm) (ssrc : Nat) : (p.renum n ssrc).err = 0 := by
  rw [← hp]
  simp only [Pk.err, Pk.may, Pk.size, Pk.renum, vpWr_length hv]
  rfl
theorem Dn.does_out {d : Dn} {p : Pk} {f l what : Int} {b : List UInt8} (hk : d.nums.Bd 1000) (hp : p.Ok) (h : (d.does p f l what).2 = some b) : ∃ n : Nm, n.Ok ∧ b = (p.renum n d.ssrc).out := by
  have hn := Pk.nm_ok hp
  unfold Dn.does at h
  split at h
  · cases h
  · split at h
    · cases h
    · split at h
      · injection h with h
        exact ⟨_, (hk.switch hn 3000).2, h.symm⟩
      · split at h
        · injection h with h
          exact ⟨_, (hk.send hn).2, h.symm⟩
        · cases h
theorem Dn.take_some {d : Dn} {i : Nat} (hk : d.Ok i) (hi : i ≤ 1000) {p : Pk} (hp : p.Ok) {f l : Int} {x : Wnt} {mu : Bool} {b : List UInt8} (h : (d.take p f l x mu).2.1 = some b) :
    mu = false ∧ vpE p.payload = 0 ∧ ∃ n : Nm, n.Ok ∧ (p.renum n d.ssrc).err = 0 ∧ b = (p.renum n d.ssrc).bytes := by
  cases mu
  · simp only [Dn.take, Bool.false_eq_true, if_false] at h
    by_cases hb : vpE p.payload ≠ 0 ∨ p.err ≠ 0
    · rw [Dn.take1, if_pos hb] at h
      cases h
    · rw [Dn.take1, if_neg hb] at h
      obtain ⟨hv, he⟩ := not_or.1 hb
      have hv' : vpE p.payload = 0 := Classical.not_not.1 hv
      have he' : p.err = 0 := Classical.not_not.1 he
      obtain ⟨n, hn, e⟩ := Dn.does_out (d := d.setPick (d.pick.take (p.inn f l) x).1) ⟨by have := hk.high; show _ ≤ d.nums.high ∧ d.nums.high ≤ _; omega, by have := hk.since; show _ ≤ d.nums.since ∧ d.nums.since ≤ _; omega, hk.off, hk.out⟩ hp h
      have er := renum_err he' hv' n d.ssrc
      refine ⟨rfl, hv', n, hn, er, ?_⟩
      rw [e]
      show (p.renum n d.ssrc).out = _
      rw [Pk.out, if_pos er]
  · simp [Dn.take] at h
end Go.Proofs.Ytekioihjfggmdaa

/- DownSame: the walk. -/
namespace Go.Proofs.Ytekioihjfggmdaa
open Go.RowKit
set_option linter.unusedVariables false

theorem Dn.take_ssrc (d : Dn) (p : Pk) (f l : Int) (x : Wnt) (mu : Bool) : (d.take p f l x mu).1.ssrc = d.ssrc := by
  cases mu
  · simp only [Dn.take, Bool.false_eq_true, if_false, Dn.take1]
    split
    · dsimp only [Dn.addBad]
      split <;> rfl
    · simp only [Dn.does]
      split
      · rfl
      · split
        · rfl
        · split
          · rfl
          · split <;> rfl
  · rfl
theorem vpE_nil : vpE [] ≠ 0 := by decide

set_option maxRecDepth 100000 in
set_option maxHeartbeats 8000000 in
theorem downSame_walk (w : World) (ssrc : Nat) (hssrc : ssrc < 4294967296) (l : List Stp) (A : Option Addr) (n cap : Nat) (hr : RSl 15 RStp w l (.slice A n cap)) (hl : l.length ≤ 9223372036854775807) : Calls Try.prog 4 #[.int .u32 ssrc, .slice A n cap] w (Gives w (.bool true)) := by
  have HR := hide hr
  obtain ⟨A', cap', hv, hcap, hi⟩ := hr
  injection hv with e1 e2 e3
  subst e1 e2 e3
  have HI := hide hi
  clear hi
  have HFEW := hide (fun W (hW : Le w W) => few14_any l A cap W (hW.rsl keeps_stp HR.out) hl)
  go_enter Try.func4, Try.ntmps4
  go_wp2_with fail
  refine (awake14 _).mono ?_
  rintro r w1 ⟨rfl, hb1⟩
  have HL1 := hide (show Le w w1 from ⟨hb1⟩)
  clear hb1
  go_wp2_with fail
  refine (HFEW.out _ HL1.out).mono ?_
  rintro r w2 ⟨rfl, hb2⟩
  have HL2 := hide (HL1.out.trans ⟨hb2⟩)
  clear hb2 HL1 HFEW
  cases hf : fewS l
  · go_wp2_with fail
    go_ret
    exact ⟨rfl, HL2.out.out⟩
  have hlen := fewS_len hf
  have HF := hide hf
  clear hf
  have HNEW := hide (downNew_any ssrc 200 (by decide) (by decide) w2)
  go_wp2_with fail
  refine HNEW.out.mono ?_
  rintro e w3 ⟨L, vs0, rfl, hd0, hS0, hb3⟩
  have HS := hide (fun k hk => Nat.le_trans HL2.out.size (hS0 k hk))
  have H3 := hide (And.intro hd0 (HL2.out.trans ⟨hb3⟩))
  clear hd0 hS0 hb3 HNEW
  go_wp2_with fail
  go_loopw [8] (fun j wr => ∃ (k : Nat) (d : Dn) (vs : List Value), k ≤ l.length ∧ j = .int .i64 k ∧ DnAt wr L k d vs ∧ d.Ok k ∧ Hd (d.ssrc = ssrc) ∧ Le w wr) (fun j _ => l.length - (intOf j).toNat)
  case atStart => exact ⟨0, Dn.new ssrc 200, vs0, Nat.zero_le _, rfl, H3.out.1, Dn.new_ok hssrc (by decide) (by decide), hide rfl, H3.out.2⟩
  case round =>
    clear H3
    obtain ⟨k, d, vs, hk, rfl, hd, hok, HJ, hle⟩ := hrel
    by_cases hlt : k < l.length
    · obtain ⟨b, off, rfl, hg⟩ := HI.out (by rintro rfl; simp at hlt)
      obtain ⟨cs, _, hc, v5, v6, v7, hcs, hP, hN⟩ := hg k hlt
      subst hcs
      have hp := hN.ok (fewS_at HF.out k hlt)
      have hltI : (k : Int) < (l.length : Int) := by omega
      generalize l[k] = x at *
      have HRNG := hide (step_range hle hc)
      have hok' := Dn.take_ok hok x.p hp x.src x.layer x.want x.muted
      have hsr' := Dn.take_ssrc d x.p x.src x.layer x.want x.muted
      have HP0 := hide (And.intro hp (And.intro hP hok.ssrc))
      have hstr := fun b => Dn.take_some (b := b) hok (by omega) hp (f := x.src) (l := x.layer) (x := x.want) (mu := x.muted)
      have HTK := hide (fun W (hW : Le wr W) => downTake_any (hd.le hW) hok (by omega) x.p hp v5 v6 v7 (PdAt.old hP (hle.trans hW).out HS.out) (by omega) x.src x.layer x.want x.muted)
      obtain ⟨A5, c5, rfl, _, _⟩ := id hP.csrc
      obtain ⟨A6, c6, rfl, _, _⟩ := id hP.exts
      obtain ⟨A7, c7, rfl, _, _⟩ := id hP.payload
      generalize d.take x.p x.src x.layer x.want x.muted = r at *
      obtain ⟨d', o, ask⟩ := r
      dsimp only at hok' hstr hsr'
      have HJ' := hide (hsr'.trans HJ.out)
      clear hsr'
      have HST := hide hstr
      have HOK := hide hok'
      have HLE := hide hle
      have HDD := hide hd
      clear hc hg hP hN hp hd hok hok' hle hstr
      obtain ⟨p, sr, la, wn, mu⟩ := x
      obtain ⟨ws, wl, wt⟩ := wn
      obtain ⟨mk, ty, sq, tm, ss, cs, ex, pl, pd⟩ := p
      simp only [Stp.cells, Pk.val, Wnt.val] at HRNG HTK HST HP0
      go_upto_region 12 with (first | (refine wpList_load_mid rfl 50 (.tmp 40) rfl b (off + k * 15) rfl [.bool mk, .int .u8 ty, .int .u16 sq, .int .u32 tm, .int .u32 ss, .slice A5 cs.length c5, .slice A6 ex.length c6, .slice A7 pl.length c7, .int .i64 pd, .int .i64 sr, .int .i64 la, .int .i64 ws, .int .i64 wl, .int .i64 wt, .bool mu] _ HRNG.out Try.underlying50 rfl (by kernel_rfl) ?_) | (refine wpl_store_blk rfl 50 (.tmp 9) (.tmp 41) (cs := [.bool mk, .int .u8 ty, .int .u16 sq, .int .u32 tm, .int .u32 ss, .slice A5 cs.length c5, .slice A6 ex.length c6, .slice A7 pl.length c7, .int .i64 pd, .int .i64 sr, .int .i64 la, .int .i64 ws, .int .i64 wl, .int .i64 wt, .bool mu]) rfl rfl rfl (by kernel_rfl) (by simp [Value.oneCell']) (heap_alloc_new _ _) rfl ?_; intro wz hn hgz; have HZ := hide (And.intro hn (((Le.refl wr).alloc _).boxed hgz (Nat.le_refl _))); clear hn hgz))
      have HTZ := hide (HTK.out wz HZ.out.2)
      have HNS := hide ((HDD.out.le HZ.out.2).notS HZ.out.1 (by decide) (by decide) (by decide))
      have y9 : wz.cell? ⟨wr.heap.size, 9, none⟩ = some (.int .i64 sr) := box_cell HZ.out.1 9 _ rfl _ (Le.refl _)
      have y10 : wz.cell? ⟨wr.heap.size, 10, none⟩ = some (.int .i64 la) := box_cell HZ.out.1 10 _ rfl _ (Le.refl _)
      have y14 : wz.cell? ⟨wr.heap.size, 14, none⟩ = some (.bool mu) := box_cell HZ.out.1 14 _ rfl _ (Le.refl _)
      generalize wr.heap.size = g at *
      clear HTK HRNG
      go_wp2_with (first | (refine wpl_load_in rfl 46 (.tmp 44) rfl [] [.bool mk, .int .u8 ty, .int .u16 sq, .int .u32 tm, .int .u32 ss, .slice A5 cs.length c5, .slice A6 ex.length c6, .slice A7 pl.length c7, .int .i64 pd] [.int .i64 sr, .int .i64 la, .int .i64 ws, .int .i64 wl, .int .i64 wt, .bool mu] _ rfl Try.underlying46 rfl (by kernel_rfl) HZ.out.1 ?_) | (refine wpl_load_in rfl 48 (.tmp 50) rfl [.bool mk, .int .u8 ty, .int .u16 sq, .int .u32 tm, .int .u32 ss, .slice A5 cs.length c5, .slice A6 ex.length c6, .slice A7 pl.length c7, .int .i64 pd, .int .i64 sr, .int .i64 la] [.int .i64 ws, .int .i64 wl, .int .i64 wt] [.bool mu] _ rfl Try.underlying48 rfl (by kernel_rfl) HZ.out.1 ?_))
      refine HTZ.out.mono ?_
      rintro e w9 ⟨v, vs9, rfl, hd9, hr9, hf9⟩
      have hle9 : Le w w9 := ⟨hf9.below (HLE.out.trans HZ.out.2).out (HLE.out.trans HZ.out.2).size HS.out⟩
      have hz9 : w9.heap[g]? = some (.cells [.bool mk, .int .u8 ty, .int .u16 sq, .int .u32 tm, .int .u32 ss, .slice A5 cs.length c5, .slice A6 ex.length c6, .slice A7 pl.length c7, .int .i64 pd, .int .i64 sr, .int .i64 la, .int .i64 ws, .int .i64 wl, .int .i64 wt, .bool mu].toArray 50 (0, 0)) := hf9.heap HZ.out.1 HNS.out
      have HZ9 := hide hz9
      have HR9 := hide hr9
      have H9 := hide (And.intro hd9 hle9)
      clear y9 y10 y14 hd9 hr9 hf9 hle9 hz9 HTZ HDD HNS
      dsimp only at H9 HR9 ⊢
      rcases o with _ | bs
      · simp only [Option.isSome_none, Option.getD_none] at HR9 ⊢
        obtain ⟨Av, cv, rfl, _, _⟩ := (show RSl 1 RU8 w9 [] v from HR9.out)
        simp only [List.length_nil]
        clear HST
        go_wp2_with fail
        go_roundw
        case rel => exact ⟨k + 1, d', vs9, by omega, by go_num, H9.out.1, HOK.out, HJ', H9.out.2⟩
        case measure => simp [intOf]; omega
      · obtain ⟨hmu, hv, n, hn, her, hbs⟩ := HST.out bs rfl
        subst hmu hbs
        clear HST
        have hq := Pk.renum_ok HP0.out.1 hn HP0.out.2.2
        simp only [Option.isSome_some, Option.getD_some] at HR9 ⊢
        obtain ⟨Av, cv, rfl, _, _⟩ := id HR9.out
        have HPAR := hide (rtpParse_put _ hq her Av cv w9 HR9.out)
        have HN := hide hn
        have HV := hide hv
        have HQ := hide (show Pk.Ok ⟨mk, ty, n.seq, n.time, d.ssrc, cs, ex, vpWr pl n.pic n.tl0, pd⟩ from hq)
        clear hq her hn hv HR9
        generalize (Pk.renum ⟨mk, ty, sq, tm, ss, cs, ex, pl, pd⟩ n d.ssrc).bytes = BB at *
        go_wp2_with fail
        refine HPAR.out.mono ?_
        rintro e w10 ⟨v5, v6, v7, rfl, hP10, hb10⟩
        obtain ⟨B5, e5, rfl, _, _⟩ := id hP10.csrc
        obtain ⟨B6, e6, rfl, _, _⟩ := id hP10.exts
        obtain ⟨B7, e7, rfl, _, _⟩ := id hP10.payload
        have HP10 := hide (show PkAt w10 ⟨mk, ty, n.seq, n.time, d.ssrc, cs, ex, vpWr pl n.pic n.tl0, pd⟩ (.slice B5 cs.length e5) (.slice B6 ex.length e6) (.slice B7 (vpWr pl n.pic n.tl0).length e7) from hP10)
        have HL10 := hide (Le.mk hb10)
        clear hP10 hb10 HPAR
        simp only [Pk.val, Pk.renum]
        go_upto_region 17 with fail
        have HB2 := hide (heap_alloc_new w10 (.cells #[.bool mk, .int .u8 ty, .int .u16 (n.seq : Nat), .int .u32 (n.time : Nat), .int .u32 (d.ssrc : Nat), .slice B5 cs.length e5, .slice B6 ex.length e6, .slice B7 (vpWr pl n.pic n.tl0).length e7, .int .i64 pd] 46))
        have HLA := hide ((Le.refl w10).alloc (.cells #[.bool mk, .int .u8 ty, .int .u16 (n.seq : Nat), .int .u32 (n.time : Nat), .int .u32 (d.ssrc : Nat), .slice B5 cs.length e5, .slice B6 ex.length e6, .slice B7 (vpWr pl n.pic n.tl0).length e7, .int .i64 pd] 46))
        generalize w10.alloc (.cells #[.bool mk, .int .u8 ty, .int .u16 (n.seq : Nat), .int .u32 (n.time : Nat), .int .u32 (d.ssrc : Nat), .slice B5 cs.length e5, .slice B6 ex.length e6, .slice B7 (vpWr pl n.pic n.tl0).length e7, .int .i64 pd] 46) = w11 at *
        generalize w10.heap.size = g2 at *
        have HL11 := hide (HL10.out.trans HLA.out)
        have z4 := box_cell HB2.out 4 _ rfl _ (Le.refl _)
        have z7 := box_cell HB2.out 7 _ rfl _ (Le.refl _)
        have y14 := box_cell HZ9.out 14 _ rfl _ HL11.out
        have y7 := box_cell HZ9.out 7 _ rfl _ HL11.out
        obtain ⟨q1, q2, q3, q4, q5, _⟩ := numbers pl n.pic n.tl0 HN.out.pic HN.out.tl0 HV.out
        generalize hPL : vpWr pl n.pic n.tl0 = PL at *
        have HQ1 := hide q1
        have HQ3 := hide q3
        have HQ5 := hide q5
        clear hPL q1 q3 q5
        have hss : (((d.ssrc : Nat) : Int) != (ssrc : Int)) = false := by rw [HJ.out]; simp
        go_upto_region 19 with fail
        go_wp2_with fail
        have HPA := hide (parseX_any A7 c7 pl _ ((H9.out.2.trans HL11.out).rsl keeps_u8 HP0.out.2.1.payload) (by have := HP0.out.1.np; dsimp only at this; omega))
        rw [vpV, HV.out] at HPA
        obtain ⟨K, hK⟩ : ∃ K : Nat, vpN pl = K := ⟨(vpN pl).toNat, by have := vpN_range pl; omega⟩
        have hKl : K ≤ pl.length := by have := vpN_range pl; omega
        have hl0 : 0 < pl.length := by
          rcases Nat.eq_zero_or_pos pl.length with h | h
          · have := HV.out
            rw [List.eq_nil_of_length_eq_zero h] at this
            exact absurd this vpE_nil
          · exact h
        rw [hK] at q2 q4 HPA
        rw [Int.toNat_natCast] at q4
        have HQ2 := hide q2
        have HQ4 := hide q4
        clear q2 q4
        refine HPA.out.mono ?_
        rintro e w12 ⟨rfl, hb12⟩
        have HL12 := hide (HL11.out.trans ⟨hb12⟩)
        have HL1112 := hide (Le.mk hb12)
        clear hb12 HPA hss z4 z7 y14 y7
        have wbk := with_back (vpD pl) n.pic n.tl0
        generalize hA : vpD pl = a at *
        obtain ⟨b, hB⟩ : ∃ b, b = a.with n.pic n.tl0 := ⟨_, rfl⟩
        have q5 := HQ5.out
        rw [← hB] at q5 wbk
        clear HQ5
        obtain ⟨more, lone, start, part, hasPic, wide, pc, hasTl0, t0, hasTid, tid, sync, hasKey, key⟩ := a
        simp only [Dsc.with] at hB
        generalize (if hasPic = true then if wide = true then n.pic % 32768 else n.pic % 128 else pc) = PC at *
        generalize (if hasTl0 = true then n.tl0 else t0) = TL at *
        subst hB
        have HQ5 := hide q5
        have HWB := hide wbk
        clear wbk q5
        simp only [Dsc.val]
        have z7 := box_cell HB2.out 7 _ rfl _ HL1112.out
        go_upto_region 20 with fail
        have HA15 := hide (heap_alloc_new w12 (.cells #[.bool more, .bool lone, .bool start, .int .u8 part, .bool hasPic, .bool wide, .int .u16 pc, .bool hasTl0, .int .u8 t0, .bool hasTid, .int .u8 tid, .bool sync, .bool hasKey, .int .u8 key] 74))
        have HLB := hide ((Le.refl w12).alloc (.cells #[.bool more, .bool lone, .bool start, .int .u8 part, .bool hasPic, .bool wide, .int .u16 pc, .bool hasTl0, .int .u8 t0, .bool hasTid, .int .u8 tid, .bool sync, .bool hasKey, .int .u8 key] 74))
        generalize w12.alloc (.cells #[.bool more, .bool lone, .bool start, .int .u8 part, .bool hasPic, .bool wide, .int .u16 pc, .bool hasTl0, .int .u8 t0, .bool hasTid, .int .u8 tid, .bool sync, .bool hasKey, .int .u8 key] 74) = w13 at *
        generalize w12.heap.size = g15 at *
        have HL1113 := hide (HL1112.out.trans HLB.out)
        have HL13 := hide (HL11.out.trans HL1113.out)
        clear z7
        have z7 := box_cell HB2.out 7 _ rfl _ HL1113.out
        go_wp2_with fail
        have HPB := hide (parseX_any B7 e7 PL _ ((HLA.out.trans HL1113.out).rsl keeps_u8 HP10.out.payload) (by rw [HQ3.out]; have := HP0.out.1.np; dsimp only at this; omega))
        rw [vpV, HQ1.out, HQ2.out, HQ5.out] at HPB
        refine HPB.out.mono ?_
        rintro e w14 ⟨rfl, hb14⟩
        have HL1314 := hide (Le.mk hb14)
        clear hb14 HPB z7
        simp only [Dsc.val]
        go_upto_region 21 with fail
        have HB18 := hide (heap_alloc_new w14 (.cells #[.bool more, .bool lone, .bool start, .int .u8 part, .bool hasPic, .bool wide, .int .u16 PC, .bool hasTl0, .int .u8 TL, .bool hasTid, .int .u8 tid, .bool sync, .bool hasKey, .int .u8 key] 74))
        have HLC := hide ((Le.refl w14).alloc (.cells #[.bool more, .bool lone, .bool start, .int .u8 part, .bool hasPic, .bool wide, .int .u16 PC, .bool hasTl0, .int .u8 TL, .bool hasTid, .int .u8 tid, .bool sync, .bool hasKey, .int .u8 key] 74))
        have HLT18 := hide (show w14.heap.size ≤ w14.heap.size from Nat.le_refl _)
        have HLT15 := hide (lt_of_heap (HL1314.out.heap HA15.out))
        generalize w14.alloc (.cells #[.bool more, .bool lone, .bool start, .int .u8 part, .bool hasPic, .bool wide, .int .u16 PC, .bool hasTl0, .int .u8 TL, .bool hasTid, .int .u8 tid, .bool sync, .bool hasKey, .int .u8 key] 74) = w15 at *
        have HL1115 := hide (HL1113.out.trans (HL1314.out.trans HLC.out))
        have HL15 := hide (HL11.out.trans HL1115.out)
        have HA15' := hide ((HL1314.out.trans HLC.out).heap HA15.out)
        have z7 := box_cell HB2.out 7 _ rfl _ HL1115.out
        have y7 := box_cell HZ9.out 7 _ rfl _ HL15.out
        obtain ⟨bx, ox, rfl⟩ := rsl_addr HP0.out.2.1.payload hl0
        obtain ⟨bq, oq, rfl⟩ := rsl_addr HP10.out.payload (by show 0 < PL.length; rw [HQ3.out]; omega)
        have HSX := hide ((H9.out.2.trans HL15.out).rsl keeps_u8 HP0.out.2.1.payload)
        have HSQ := hide ((HLA.out.trans HL1115.out).rsl keeps_u8 HP10.out.payload)
        dsimp only at HSX HSQ
        rw [HQ3.out] at HP10 HB2 HSQ z7 ⊢
        have hcx := rsl_cap HSX.out
        have hcq := rsl_cap HSQ.out
        rw [HQ3.out] at hcq
        go_cut [130] (fun s wx => s = .bool false ∧ Le w15 wx)
        case first =>
          have hkk : ((K : Int) != (K : Int)) = false := by simp
          have hll : ((pl.length : Int) != (pl.length : Int)) = false := by simp
          rcases Nat.lt_or_ge K pl.length with hlt2 | hge
          · have k1 : K < c7 := by omega
            have k2 : ¬ c7 = K := by omega
            have k3 : K < e7 := by omega
            have k4 : ¬ e7 = K := by omega
            have f1 := fun nq => conv_le (rsl_drop HSX.out hKl) _ ((Le.refl w15).drewN nq)
            have f2 := fun nq => conv_le (rsl_drop HSQ.out (k := K) (by rw [HQ3.out]; exact hKl)) _ ((Le.refl w15).drewN nq)
            rw [HQ4.out] at f2
            generalize pl.drop K = DD at *
            have g2 : (DD != DD) = false := by simp
            go_quiet (fail)
            go_wp2_with fail
            go_meet
            exact ⟨rfl, (Le.refl w15).drewN _⟩
          · obtain rfl : K = pl.length := by omega
            have fz := fun (A' : Option Addr) (c nq : Nat) => conv_le (rsl_none w15 A' c) _ ((Le.refl w15).drewN nq)
            have g2 : (([] : List UInt8) != []) = false := by simp
            rcases Nat.lt_or_ge pl.length c7 with k1 | k1 <;> rcases Nat.lt_or_ge pl.length e7 with k3 | k3
            · have k2 : ¬ c7 = pl.length := by omega
              have k4 : ¬ e7 = pl.length := by omega
              go_quiet (fail)
              go_wp2_with fail
              go_meet
              exact ⟨rfl, (Le.refl w15).drewN _⟩
            · have k2 : ¬ c7 = pl.length := by omega
              have k4 : e7 = pl.length := by omega
              go_quiet (fail)
              go_wp2_with fail
              go_meet
              exact ⟨rfl, (Le.refl w15).drewN _⟩
            · have k2 : c7 = pl.length := by omega
              have k4 : ¬ e7 = pl.length := by omega
              go_quiet (fail)
              go_wp2_with fail
              go_meet
              exact ⟨rfl, (Le.refl w15).drewN _⟩
            · have k2 : c7 = pl.length := by omega
              have k4 : e7 = pl.length := by omega
              go_quiet (fail)
              go_wp2_with fail
              go_meet
              exact ⟨rfl, (Le.refl w15).drewN _⟩
        case rest =>
          obtain ⟨rfl, hlc⟩ := hcut
          generalize wc = wd at *
          have HZ15 := hide (hlc.heap HA15'.out)
          have HZ18 := hide (hlc.heap HB18.out)
          have a6 := box_cell HZ15.out 6 _ rfl _ (Le.refl _)
          have a8 := box_cell HZ15.out 8 _ rfl _ (Le.refl _)
          have b6 := box_cell HZ18.out 6 _ rfl _ (Le.refl _)
          have b8 := box_cell HZ18.out 8 _ rfl _ (Le.refl _)
          have fr6 := free_block HZ18.out 6
          have fr8 := free_block HZ18.out 8
          have H186 := hide (heap_set (i := 6) (.int .u16 (pc : Nat)) HZ18.out)
          have H188 := hide (heap_set (i := 8) (.int .u8 (t0 : Nat)) H186.out)
          have HLd := hide (((HLC.out.trans hlc).boxed (grown_cell wd w14.heap.size 6 (.int .u16 (pc : Nat))) HLT18.out).boxed (grown_cell _ w14.heap.size 8 (.int .u8 (t0 : Nat))) HLT18.out)
          have hne : ¬ g15 = w14.heap.size := by have := HLT15.out; omega
          have hne' : ¬ w14.heap.size = g15 := by have := HLT15.out; omega
          generalize w14.heap.size = g18 at *
          clear hlc z7 y7
          go_upto_region 25 with fail
          have HD18 := hide (show ((wd.setCell ⟨g18, 6, none⟩ (.int .u16 (pc : Nat))).setCell ⟨g18, 8, none⟩ (.int .u8 (t0 : Nat))).heap[g18]? = some (.cells [.bool more, .bool lone, .bool start, .int .u8 part, .bool hasPic, .bool wide, .int .u16 pc, .bool hasTl0, .int .u8 t0, .bool hasTid, .int .u8 tid, .bool sync, .bool hasKey, .int .u8 key].toArray 74 (0, 0)) from H188.out)
          generalize (wd.setCell ⟨g18, 6, none⟩ (.int .u16 (pc : Nat))).setCell ⟨g18, 8, none⟩ (.int .u8 (t0 : Nat)) = wq at *
          have HD15 := hide (HLd.out.heap (HL1314.out.heap HA15.out))
          have HLQ := hide (HL1113.out.trans (HL1314.out.trans HLd.out))
          have HZX := hide ((HL11.out.trans HLQ.out).heap HZ9.out)
          have HZQ := hide (HLQ.out.heap HB2.out)
          clear a6 a8 b6 b8 fr6 fr8 H186 H188 HZ15 HZ18 HLd hne hne'
          have HOF := hide (of14_any _ HP0.out.1 _ _ _ wq (HP0.out.2.1.le (H9.out.2.trans (HL11.out.trans HLQ.out))))
          simp only [Pk.val] at HOF
          go_wp2_with (first | (refine wpl_load_in rfl 46 (.tmp 137) rfl [] [.bool mk, .int .u8 ty, .int .u16 sq, .int .u32 tm, .int .u32 ss, .slice A5 cs.length c5, .slice A6 ex.length c6, .slice (some ⟨bx, ox, none⟩) pl.length c7, .int .i64 pd] [.int .i64 sr, .int .i64 la, .int .i64 ws, .int .i64 wl, .int .i64 wt, .bool false] _ rfl Try.underlying46 rfl (by kernel_rfl) HZX.out ?_) | (refine HOF.out.mono ?_))
          rintro e w16 ⟨v6', rfl, hr6, hb16⟩
          obtain ⟨C6, d6, rfl, _, _⟩ := id hr6
          have HR6 := hide hr6
          have HL16 := hide (Le.mk hb16)
          clear hr6 hb16 HOF
          go_upto_region 26 with fail
          have HB21 := hide (heap_alloc_new w16 (.cells #[.bool mk, .int .u8 ty, .int .u16 sq, .int .u32 tm, .int .u32 ss, .slice A5 cs.length c5, .slice C6 ex.length d6, .string (str pl), .int .i64 pd] 57))
          have HLE1 := hide ((Le.refl w16).alloc (.cells #[.bool mk, .int .u8 ty, .int .u16 sq, .int .u32 tm, .int .u32 ss, .slice A5 cs.length c5, .slice C6 ex.length d6, .string (str pl), .int .i64 pd] 57))
          generalize w16.alloc (.cells #[.bool mk, .int .u8 ty, .int .u16 sq, .int .u32 tm, .int .u32 ss, .slice A5 cs.length c5, .slice C6 ex.length d6, .string (str pl), .int .i64 pd] 57) = w17 at *
          generalize w16.heap.size = g21 at *
          have HL17 := hide (HL16.out.trans HLE1.out)
          have HOF := hide (of14_any _ HQ.out _ _ _ w17 (HP10.out.le (HLA.out.trans (HLQ.out.trans HL17.out))))
          simp only [Pk.val] at HOF
          go_wp2_with (first | (refine wpl_load_in rfl 46 (.tmp 13) rfl [] [.bool mk, .int .u8 ty, .int .u16 (n.seq : Nat), .int .u32 (n.time : Nat), .int .u32 (d.ssrc : Nat), .slice B5 cs.length e5, .slice B6 ex.length e6, .slice (some ⟨bq, oq, none⟩) pl.length e7, .int .i64 pd] [] _ rfl Try.underlying46 rfl (by kernel_rfl) (HL17.out.heap HZQ.out) ?_) | (refine HOF.out.mono ?_))
          rintro e w18 ⟨v6', rfl, hr6, hb18⟩
          obtain ⟨E6, f6, rfl, _, _⟩ := id hr6
          have HRQ := hide hr6
          have HL18 := hide (Le.mk hb18)
          clear hr6 hb18 HOF
          go_upto_region 27 with fail
          have HB22 := hide (heap_alloc_new w18 (.cells #[.bool mk, .int .u8 ty, .int .u16 (n.seq : Nat), .int .u32 (n.time : Nat), .int .u32 (d.ssrc : Nat), .slice B5 cs.length e5, .slice E6 ex.length f6, .string (str PL), .int .i64 pd] 57))
          have HLE2 := hide ((Le.refl w18).alloc (.cells #[.bool mk, .int .u8 ty, .int .u16 (n.seq : Nat), .int .u32 (n.time : Nat), .int .u32 (d.ssrc : Nat), .slice B5 cs.length e5, .slice E6 ex.length f6, .string (str PL), .int .i64 pd] 57))
          have HLT22 := hide (show w18.heap.size ≤ w18.heap.size from Nat.le_refl _)
          have HLT21 := hide (lt_of_heap (HL18.out.heap HB21.out))
          generalize w18.alloc (.cells #[.bool mk, .int .u8 ty, .int .u16 (n.seq : Nat), .int .u32 (n.time : Nat), .int .u32 (d.ssrc : Nat), .slice B5 cs.length e5, .slice E6 ex.length f6, .string (str PL), .int .i64 pd] 57) = w19 at *
          have HZ21 := hide ((HL18.out.trans HLE2.out).heap HB21.out)
          have a2 := box_cell HZ21.out 2 _ rfl _ (Le.refl _)
          have a3 := box_cell HZ21.out 3 _ rfl _ (Le.refl _)
          have a4 := box_cell HZ21.out 4 _ rfl _ (Le.refl _)
          have a7 := box_cell HZ21.out 7 _ rfl _ (Le.refl _)
          have b2 := box_cell HB22.out 2 _ rfl _ (Le.refl _)
          have b3 := box_cell HB22.out 3 _ rfl _ (Le.refl _)
          have b4 := box_cell HB22.out 4 _ rfl _ (Le.refl _)
          have b7 := box_cell HB22.out 7 _ rfl _ (Le.refl _)
          have fr2 := free_block HB22.out 2
          have fr3 := free_block HB22.out 3
          have fr4 := free_block HB22.out 4
          have fr7 := free_block HB22.out 7
          have K2 := hide (heap_set (i := 2) (.int .u16 (sq : Nat)) HB22.out)
          have K3 := hide (heap_set (i := 3) (.int .u32 (tm : Nat)) K2.out)
          have K4 := hide (heap_set (i := 4) (.int .u32 (ss : Nat)) K3.out)
          have K7 := hide (heap_set (i := 7) (.string (str pl)) K4.out)
          have HLs := hide ((((HLE2.out.boxed (grown_cell w19 w18.heap.size 2 (.int .u16 (sq : Nat))) HLT22.out).boxed (grown_cell _ w18.heap.size 3 (.int .u32 (tm : Nat))) HLT22.out).boxed (grown_cell _ w18.heap.size 4 (.int .u32 (ss : Nat))) HLT22.out).boxed (grown_cell _ w18.heap.size 7 (.string (str pl))) HLT22.out)
          have hne : ¬ g21 = w18.heap.size := by have := HLT21.out; omega
          have hne' : ¬ w18.heap.size = g21 := by have := HLT21.out; omega
          generalize w18.heap.size = g22 at *
          go_upto_region 31 with fail
          have HK22 := hide (show ((((w19.setCell ⟨g22, 2, none⟩ (.int .u16 (sq : Nat))).setCell ⟨g22, 3, none⟩ (.int .u32 (tm : Nat))).setCell ⟨g22, 4, none⟩ (.int .u32 (ss : Nat))).setCell ⟨g22, 7, none⟩ (.string (str pl))).heap[g22]? = some (.cells [.bool mk, .int .u8 ty, .int .u16 sq, .int .u32 tm, .int .u32 ss, .slice B5 cs.length e5, .slice E6 ex.length f6, .string (str pl), .int .i64 pd].toArray 57 (0, 0)) from K7.out)
          generalize (((w19.setCell ⟨g22, 2, none⟩ (.int .u16 (sq : Nat))).setCell ⟨g22, 3, none⟩ (.int .u32 (tm : Nat))).setCell ⟨g22, 4, none⟩ (.int .u32 (ss : Nat))).setCell ⟨g22, 7, none⟩ (.string (str pl)) = wt at *
          have HK21 := hide (HLs.out.heap (HL18.out.heap HB21.out))
          have HL1t := hide (HL17.out.trans (HL18.out.trans HLs.out))
          have HK15 := hide (HL1t.out.heap HD15.out)
          have HK18 := hide (HL1t.out.heap HD18.out)
          clear a2 a3 a4 a7 b2 b3 b4 b7 fr2 fr3 fr4 fr7 K2 K3 K4 K7 HZ21 hne hne'
          have HRP := hide ((HLE1.out.trans (HL18.out.trans HLs.out)).rsl keeps_ri HR6.out)
          have HRR := hide (HLs.out.rsl keeps_ri HRQ.out)
          have HCP := hide ((H9.out.2.trans (HL11.out.trans (HLQ.out.trans HL1t.out))).rsl (keeps_nat _) HP0.out.2.1.csrc)
          have HCQ := hide ((HLA.out.trans (HLQ.out.trans HL1t.out)).rsl (keeps_nat _) HP10.out.csrc)
          have HSM := hide (fun W (hW : Le wt W) => same6_self mk ty sq tm ss cs ex pl pd A5 B5 C6 E6 c5 e5 d6 f6 W (by have := HP0.out.1.nc; dsimp only at this; exact this) (by have := HP0.out.1.ne; dsimp only at this; exact this) (hW.rsl (keeps_nat _) HCP.out) (hW.rsl (keeps_nat _) HCQ.out) (hW.rsl keeps_ri HRP.out) (hW.rsl keeps_ri HRR.out))
          have heq := fun W => desc_neq_self more lone start part hasPic wide pc hasTl0 t0 hasTid tid sync hasKey key W
          have hgu := desc_guard
          have a0 := box_cell HK21.out 0 _ rfl _ (Le.refl _)
          have a1 := box_cell HK21.out 1 _ rfl _ (Le.refl _)
          have a2 := box_cell HK21.out 2 _ rfl _ (Le.refl _)
          have a3 := box_cell HK21.out 3 _ rfl _ (Le.refl _)
          have a4 := box_cell HK21.out 4 _ rfl _ (Le.refl _)
          have a5 := box_cell HK21.out 5 _ rfl _ (Le.refl _)
          have a6 := box_cell HK21.out 6 _ rfl _ (Le.refl _)
          have a7 := box_cell HK21.out 7 _ rfl _ (Le.refl _)
          have a8 := box_cell HK21.out 8 _ rfl _ (Le.refl _)
          have b0 := box_cell HK22.out 0 _ rfl _ (Le.refl _)
          have b1 := box_cell HK22.out 1 _ rfl _ (Le.refl _)
          have b2 := box_cell HK22.out 2 _ rfl _ (Le.refl _)
          have b3 := box_cell HK22.out 3 _ rfl _ (Le.refl _)
          have b4 := box_cell HK22.out 4 _ rfl _ (Le.refl _)
          have b5 := box_cell HK22.out 5 _ rfl _ (Le.refl _)
          have b6 := box_cell HK22.out 6 _ rfl _ (Le.refl _)
          have b7 := box_cell HK22.out 7 _ rfl _ (Le.refl _)
          have b8 := box_cell HK22.out 8 _ rfl _ (Le.refl _)
          go_wp2_with (first | (refine wpl_load_in rfl 74 (.tmp 15) rfl [] [.bool more, .bool lone, .bool start, .int .u8 part, .bool hasPic, .bool wide, .int .u16 pc, .bool hasTl0, .int .u8 t0, .bool hasTid, .int .u8 tid, .bool sync, .bool hasKey, .int .u8 key] [] _ rfl Try.underlying74 rfl (by kernel_rfl) HK15.out ?_) | (refine wpl_load_in rfl 74 (.tmp 18) rfl [] [.bool more, .bool lone, .bool start, .int .u8 part, .bool hasPic, .bool wide, .int .u16 pc, .bool hasTl0, .int .u8 t0, .bool hasTid, .int .u8 tid, .bool sync, .bool hasKey, .int .u8 key] [] _ rfl Try.underlying74 rfl (by kernel_rfl) HK18.out ?_) | (refine (HSM.out _ (Le.refl _)).mono ?_))
          rintro e w20 ⟨rfl, hb20⟩
          have HLF := hide (HL11.out.trans (HLQ.out.trans (HL1t.out.trans ⟨hb20⟩)))
          clear hb20 a0 a1 a2 a3 a4 a5 a6 a7 a8 b0 b1 b2 b3 b4 b5 b6 b7 b8 heq hgu
          go_wp2_with fail
          go_roundw
          case rel => exact ⟨k + 1, d', vs9, by omega, by go_num, H9.out.1.le HLF.out, HOK.out, HJ', H9.out.2.trans HLF.out⟩
          case measure => simp [intOf]; omega
    · have hltI : ¬ (k : Int) < (l.length : Int) := by omega
      have HB := hide hle
      clear hd hok hle
      go_wp2_with fail
      go_ret
      exact ⟨rfl, HB.out.out⟩
end Go.Proofs.Ytekioihjfggmdaa

/- DownSame: for every input the call returns true, and each argument reads behind it as it read before. No condition. -/
namespace Go.Proofs.Ytekioihjfggmdaa.downSame
open Go.ChangeShapes Go.WideShapes Go.ChangeAt Go.RowKit
open Go.ChangeMaps (open_string shut_string)
set_option linter.unusedVariables false

theorem own : ownKnob Try.prog.godebug = none := by kernel_rfl
theorem laidOut : laidOutB Try.prog = true := by kernel_rfl

set_option maxRecDepth 100000 in
theorem lifted (os : Os) (started : os.Started) (H : Type) (enc : TypeId × Value → H) :
    ReturnsInHanded {} Try.checked os 4 .any (Rows.downSameSpec.pre6 enc Try.prog Try.f4 Rows.downSameRow.domain false) (Rows.downSameSpec.post enc Try.prog Try.f4 false true false false) := by
  refine returnsInHanded_of_change (C := Try.checked) own started (by kernel_rfl) Try.func4
    (ChangeSpec.witness6 (enc := enc) (C := Try.checked) false ⟨#[], #[.int .u32 0, .slice none 0 0], []⟩ 8 (by kernel_rfl) (by kernel_rfl) (by kernel_rfl) (by kernel_rfl)) ?_
  intro W base args ds gs before hval0 hW hcnd _
  have hval : ∀ (j : Nat) t v, Try.f4.params[j]? = some t → args[j]? = some v → Value.okWide Try.prog W .any base t v := hval0
  have hW' := hW
  obtain ⟨p, q, hA0, hV, rfl, hfz, hnd⟩ := hW
  have hA : DataW.TrodAll enc Try.prog W 0 (fun _ => true) true Try.f4.params.toList args.toList ds p := hA0
  rw [Try.params4] at hA hval
  obtain ⟨v0, vs0, d0, ds0, p0, q0, hargs, rfl, rfl, h0, r0⟩ := trodAll_cons hA
  obtain ⟨v1, vs1, d1, ds1, p1, q1, rfl, rfl, rfl, h1, r1⟩ := trodAll_cons r0
  obtain ⟨rfl, rfl, rfl⟩ := trodAll_nil r1
  obtain rfl : args = #[v0, v1] := by cases args; simp_all
  obtain ⟨rfl, rfl⟩ := trodVars_none hV
  have lt0 : ∀ x ∈ p0, x.block < W.heap.size := by obtain ⟨m, hm⟩ := h0; exact DataW.trod_lt m _ _ _ hm
  have lt1 : ∀ x ∈ p1, x.block < W.heap.size := by obtain ⟨m, hm⟩ := h1; exact DataW.trod_lt m _ _ _ hm
  obtain ⟨y0, hv0, _, _, wx0⟩ := open_int Try.underlying22 (hval 0 22 v0 rfl rfl) h0
  subst hv0
  obtain ⟨x0, rfl, w0⟩ := wf_u32 wx0
  obtain ⟨a1, n1, c1, rfl⟩ := okWide_slice Try.underlying23 (hval 1 23 v1 rfl rfl)
  obtain ⟨l1, w1, x1⟩ := open_steps14 h1
  clear hA0 hval0
  refine (downSame_walk W x0 w0 l1 a1 n1 c1 w1 x1).mono fun e W' ⟨he, bel⟩ => ?_
  subst he
  exact ⟨_, rfl, _, _, _, [], _, [], hW', trodAll_mk1 (shut_bool Try.underlying4 _), (trodAll_cons_mk (Below.trod laidOut (by kernel_rfl) (of_decide_eq_true (by kernel_rfl)) h0 bel lt0) (trodAll_cons_mk (Below.trod laidOut (by kernel_rfl) (of_decide_eq_true (by kernel_rfl)) h1 bel lt1) trodAll_mk0)), rfl, bel.frame _, fun h => by cases h⟩

theorem over : Rows.downSameRow.holds Try.pinned (OpenSpec.ofChange Rows.downSameSpec) :=
  OpenClaim.holds_of_wide 4 Try.f4 rfl rfl rfl rfl rfl rfl rfl ⟨rfl, rfl, rfl, rfl, rfl⟩ rfl rfl rfl rfl rfl (by kernel_rfl) Try.func4 (by kernel_rfl)
    (of_decide_eq_true (by kernel_rfl)) (by unfold Func.isWrapper; first | (rw [if_pos (by decide +kernel)]; kernel_rfl) | (rw [if_neg (by decide +kernel)]; exact ⟨rfl, rfl⟩))
    (fun os started H enc _ => lifted os started H enc)

/-- THE STATEMENT. -/
theorem proved : Rows.DownSameSaid := over
#print axioms proved
end Go.Proofs.Ytekioihjfggmdaa.downSame
