/- Texts of one claim, laid together: Sho NumR -/
import Derived.Test.YtkcpfhbfjpldhaaGreatDoorJo16
import Derived.Test.YtkcpfhbfjpldhaaGreatDoorJo15
/- script.Show of an Out, the table given. (Written by program: gen_showo.py.) -/
namespace Go.Proofs.YtkcpfhbfjpldhaaGreatDoor
open Go.RowKit
set_option linter.unusedVariables false
theorem rsl_row {w : World} {g : Nat} (l : List Nat) {T : TypeId} (h : w.heap[g]? = some (.cells (l.map fun (n : Nat) => Value.int .u64 (n : Int)).toArray T (0, 0))) : RSl 1 RNum w l (.slice (some ⟨g, 0, none⟩) l.length l.length) := by
  refine rsl_of_cells (enc := fun (n : Nat) => [Value.int .u64 (n : Int)]) rfl (Nat.le_refl _) (fun _ _ => rfl) (fun x hx => rfl) (by omega) ?_
  rw [show l.flatMap (fun (n : Nat) => [Value.int .u64 (n : Int)]) = l.map (fun (n : Nat) => Value.int .u64 (n : Int)) from (List.map_eq_flatMap ..).symm]
  refine fun _ => ⟨g, 0, rfl, fun j u hu => ?_⟩
  rw [Nat.zero_add, cell_of_row _ g j _ T (0, 0) h]
  simpa using hu

set_option maxRecDepth 100000 in
set_option maxHeartbeats 400000 in
theorem showo0 (n who tr ss LO : Nat) (hn : n < 9223372036854775808) (hwho : who < 9223372036854775808) (htr : tr < 9223372036854775808) (hss : ss < 4294967296) (hLO : LO ≤ 1000000) (AO : Option Addr) (cO : Nat) (y2 y3 y4 y5 y6 y7 y8 y9 y10 y11 y12 y13 : Value) (y19 y20 y21 y22 : Int) (A : Option Addr) (L c : Nat) (hL : L ≤ 1000000) (w : World) (htab : Lib.TabIs Tryz.prog w "internal/strconv.uint64pow10" .u64 Lib.pow10Tab) :
    Calls Tryz.prog 20 #[.agg #[.int .i64 7, .int .i64 n, y2, y3, y4, y5, y6, y7, y8, y9, y10, y11, y12, y13, .int .i64 0, .int .i64 who, .int .i64 tr, .int .u32 ss, .slice AO LO cO, .int .i64 y19, .int .u64 y20, .int .i64 y21, .int .u32 y22, .slice A L c]] w (Gives w (.string (str (txt [109, 101, 100, 105, 97] [n, who, tr, ss, LO])))) := by
  have q1 : IntKind.u64.wrap (L : Int) = L := IntWalk.u64_in _ (by omega)
  have q2 : IntKind.u64.wrap (n : Int) = n := IntWalk.u64_in _ (by omega)
  have q3 : IntKind.u64.wrap (who : Int) = who := IntWalk.u64_in _ (by omega)
  have q4 : IntKind.u64.wrap (tr : Int) = tr := IntWalk.u64_in _ (by omega)
  have q5 : IntKind.u64.wrap (ss : Int) = ss := IntWalk.u64_in _ (by omega)
  have q6 : IntKind.u64.wrap (LO : Int) = LO := IntWalk.u64_in _ (by omega)
  have hf : ∀ x ∈ ([n, who, tr, ss, LO] : List Nat), x < 18446744073709551616 := by intro x hx; simp only [List.mem_cons, List.not_mem_nil, or_false] at hx; omega
  have HF := hide hf
  have HTb := hide (Lib.tabBelow_of_tabIs htab)
  clear hf htab
  obtain ⟨R, hR⟩ : ∃ R, R = Gives w (.string (str (txt [109, 101, 100, 105, 97] [n, who, tr, ss, LO]))) := ⟨_, rfl⟩
  rw [← hR]
  have HR := hide hR
  clear hR
  go_enter Tryz.func20, Tryz.ntmps20
  go_wp2_with fail
  have HB := hide (((Le.refl w).alloc (.cells #[.int .i64 7, .int .i64 n, y2, y3, y4, y5, y6, y7, y8, y9, y10, y11, y12, y13, .int .i64 0, .int .i64 who, .int .i64 tr, .int .u32 ss, .slice AO LO cO, .int .i64 y19, .int .u64 y20, .int .i64 y21, .int .u32 y22, .slice A L c] 51)).alloc (.cells #[.int .i64 0, .int .i64 who, .int .i64 tr, .int .u32 ss, .slice AO LO cO, .int .i64 y19, .int .u64 y20, .int .i64 y21, .int .u32 y22] 49))
  have HO := hide (show ((w.alloc (.cells #[.int .i64 7, .int .i64 n, y2, y3, y4, y5, y6, y7, y8, y9, y10, y11, y12, y13, .int .i64 0, .int .i64 who, .int .i64 tr, .int .u32 ss, .slice AO LO cO, .int .i64 y19, .int .u64 y20, .int .i64 y21, .int .u32 y22, .slice A L c] 51)).alloc (.cells #[.int .i64 0, .int .i64 who, .int .i64 tr, .int .u32 ss, .slice AO LO cO, .int .i64 y19, .int .u64 y20, .int .i64 y21, .int .u32 y22] 49)).heap[w.heap.size + 1]? = some (.cells #[.int .i64 0, .int .i64 who, .int .i64 tr, .int .u32 ss, .slice AO LO cO, .int .i64 y19, .int .u64 y20, .int .i64 y21, .int .u32 y22] 49 (0, 0)) from by
    have h := heap_alloc_new (w.alloc (.cells #[.int .i64 7, .int .i64 n, y2, y3, y4, y5, y6, y7, y8, y9, y10, y11, y12, y13, .int .i64 0, .int .i64 who, .int .i64 tr, .int .u32 ss, .slice AO LO cO, .int .i64 y19, .int .u64 y20, .int .i64 y21, .int .u32 y22, .slice A L c] 51)) (.cells #[.int .i64 0, .int .i64 who, .int .i64 tr, .int .u32 ss, .slice AO LO cO, .int .i64 y19, .int .u64 y20, .int .i64 y21, .int .u32 y22] 49)
    rwa [alloc_size] at h)
  generalize (w.alloc (.cells #[.int .i64 7, .int .i64 n, y2, y3, y4, y5, y6, y7, y8, y9, y10, y11, y12, y13, .int .i64 0, .int .i64 who, .int .i64 tr, .int .u32 ss, .slice AO LO cO, .int .i64 y19, .int .u64 y20, .int .i64 y21, .int .u32 y22, .slice A L c] 51)).alloc (.cells #[.int .i64 0, .int .i64 who, .int .i64 tr, .int .u32 ss, .slice AO LO cO, .int .i64 y19, .int .u64 y20, .int .i64 y21, .int .u32 y22] 49) = w1 at *
  generalize w.heap.size + 1 = p1 at *
  have hle0 := (Le.refl w1).drew
  refine' wp_region_tailD 20 20 80 Le ((fun _ v W => ∃ g : Nat, v = .slice (some ⟨g, 0, none⟩) 3 3 ∧ W.heap[g]? = some (.cells #[.string ⟨#[109, 101, 100, 105, 97]⟩, .string ⟨#[97, 103, 97, 105, 110]⟩, .string ⟨#[97, 115, 107]⟩] 9 (0, 0))) :: IsD _ :: IsD _ :: (fun _ v W => ∃ g : Nat, v = .pointer (some ⟨g, 0, none⟩) ∧ W.heap[g]? = some (.cells #[.string ⟨#[109, 101, 100, 105, 97]⟩, .string ⟨#[97, 103, 97, 105, 110]⟩, .string ⟨#[97, 115, 107]⟩] 9 (0, 0))) :: IsD _ :: IsD _ :: IsD _ :: IsD _ :: IsD _ :: IsD _ :: IsD _ :: IsD _ :: IsD _ :: IsD _ :: IsD _ :: IsD _ :: IsD _ :: IsD _ :: IsD _ :: (fun _ v W => ∃ g : Nat, v = .slice (some ⟨g, 0, none⟩) 5 5 ∧ W.heap[g]? = some (.cells #[.int .u64 n, .int .u64 who, .int .u64 tr, .int .u64 ss, .int .u64 LO] 41 (0, 0))) :: []) ([] :: [] :: [1] :: [0, 2] :: [3] :: [] :: [] :: [6] :: [7] :: [] :: [9] :: [10] :: [] :: [12] :: [13] :: [] :: [15] :: [16] :: [17] :: [5, 8, 11, 14, 18] :: []) (by kernel_rfl) (by kernel_rfl) (by rfl) (by kernel_rfl) (by kernel_rfl) Le.refl (fun _ _ _ h h' => h.trans h') ⟨(fun _ _ _ _ h ⟨g, e1, e2⟩ => ⟨g, e1, h.heap e2⟩), StD.is, StD.is, (fun _ _ _ _ h ⟨g, e1, e2⟩ => ⟨g, e1, h.heap e2⟩), StD.is, StD.is, StD.is, StD.is, StD.is, StD.is, StD.is, StD.is, StD.is, StD.is, StD.is, StD.is, StD.is, StD.is, StD.is, (fun _ _ _ _ h ⟨g, e1, e2⟩ => ⟨g, e1, h.heap e2⟩), trivial⟩ ?m21
  case m21 =>
    simp (maxSteps := 100000000) only [AllV, OblD, LeansD, factAtD, allFactsD, depV, actOf, putAll, putRow, List.set_cons_succ, List.set_cons_zero, List.map_cons, List.getElem?_cons_zero, List.getElem?_cons_succ, Option.getD_some, List.map_nil, List.take_succ_cons, List.take_zero, List.drop_succ_cons, List.drop_zero, List.cons_append, List.nil_append, List.length_cons, List.length_nil, Nat.reduceAdd]
    intro x0 x1 x2 x3 x4 x5 x6 x7 x8 x9 x10 x11 x12 x13 x14 x15 x16 x17 x18 x19
    refine ⟨⟨?_, ?_, ?_, ?_, ?_, ?_, ?_, ?_, ?_, ?_, ?_, ?_, ?_, ?_, ?_, ?_, ?_, ?_, ?_, ?_, trivial⟩, ?_⟩
    -- 0: 80 := Op.buildSlice 92 3 #[(0, const (Value.string { data := #[109, 101, 100, 105, 97] })), (1, const (Value.string { data := #[97, 103, 97, 105, 110] })), (2, const (Value.string { data := #[97, 115, 107] }))]
    · intro w hw  K hK; go_simp; exact hK _ _ ((Le.refl _).alloc _) ⟨_, rfl, heap_alloc_new _ _⟩
    -- 1: 81 := Op.fieldAddr 49 t5 0
    · intro w hw  K hK; go_simp; exact hK _ _ (Le.refl _) (IsD.mk _ _ _)
    -- 2: 82 := Op.load 3 t81
    · intro w hw h1 K hK; cases h1; have k0 := cell_block ((hle0.trans hw).heap HO.out) 0; simp only [List.getElem?_toArray, List.getElem?_cons_zero] at k0; go_simp; exact hK _ _ (Le.refl _) (IsD.mk _ _ _)
    -- 3: 83 := Op.indexAddr 92 t80 t82
    · intro w hw h0 h2 K hK; obtain ⟨g0, rfl, hg0⟩ := h0; cases h2; go_simp; exact hK _ _ (Le.refl _) ⟨_, rfl, hg0⟩
    -- 4: 84 := Op.load 9 t83
    · intro w hw h3 K hK; obtain ⟨g3, rfl, hg3⟩ := h3; have k0 := cell_block hg3 0; simp only [List.getElem?_toArray, List.getElem?_cons_zero] at k0; go_simp; exact hK _ _ (Le.refl _) (IsD.mk _ _ _)
    -- 5: 85 := Op.move t3
    · intro w hw  K hK; go_simp; exact hK _ _ (Le.refl _) (IsD.mk _ _ _)
    -- 6: 86 := Op.fieldAddr 49 t5 1
    · intro w hw  K hK; go_simp; exact hK _ _ (Le.refl _) (IsD.mk _ _ _)
    -- 7: 87 := Op.load 3 t86
    · intro w hw h6 K hK; cases h6; have k0 := cell_block ((hle0.trans hw).heap HO.out) 1; simp only [List.getElem?_toArray, List.getElem?_cons_zero, List.getElem?_cons_succ] at k0; go_simp; exact hK _ _ (Le.refl _) (IsD.mk _ _ _)
    -- 8: 88 := Op.convert 3 41 t87
    · intro w hw h7 K hK; cases h7; go_simp; exact hK _ _ (Le.refl _) (IsD.mk _ _ _)
    -- 9: 89 := Op.fieldAddr 49 t5 2
    · intro w hw  K hK; go_simp; exact hK _ _ (Le.refl _) (IsD.mk _ _ _)
    -- 10: 90 := Op.load 3 t89
    · intro w hw h9 K hK; cases h9; have k0 := cell_block ((hle0.trans hw).heap HO.out) 2; simp only [List.getElem?_toArray, List.getElem?_cons_zero, List.getElem?_cons_succ] at k0; go_simp; exact hK _ _ (Le.refl _) (IsD.mk _ _ _)
    -- 11: 91 := Op.convert 3 41 t90
    · intro w hw h10 K hK; cases h10; go_simp; exact hK _ _ (Le.refl _) (IsD.mk _ _ _)
    -- 12: 92 := Op.fieldAddr 49 t5 3
    · intro w hw  K hK; go_simp; exact hK _ _ (Le.refl _) (IsD.mk _ _ _)
    -- 13: 93 := Op.load 45 t92
    · intro w hw h12 K hK; cases h12; have k0 := cell_block ((hle0.trans hw).heap HO.out) 3; simp only [List.getElem?_toArray, List.getElem?_cons_zero, List.getElem?_cons_succ] at k0; go_simp; exact hK _ _ (Le.refl _) (IsD.mk _ _ _)
    -- 14: 94 := Op.convert 45 41 t93
    · intro w hw h13 K hK; cases h13; go_simp; exact hK _ _ (Le.refl _) (IsD.mk _ _ _)
    -- 15: 95 := Op.fieldAddr 49 t5 4
    · intro w hw  K hK; go_simp; exact hK _ _ (Le.refl _) (IsD.mk _ _ _)
    -- 16: 96 := Op.load 25 t95
    · intro w hw h15 K hK; cases h15; have k0 := cell_block ((hle0.trans hw).heap HO.out) 4; simp only [List.getElem?_toArray, List.getElem?_cons_zero, List.getElem?_cons_succ] at k0; go_simp; exact hK _ _ (Le.refl _) (IsD.mk _ _ _)
    -- 17: 97 := Op.call { builtin len, args := #[t96], argTypes := #[25] }
    · intro w hw h16 K hK; cases h16; go_simp; exact hK _ _ (Le.refl _) (IsD.mk _ _ _)
    -- 18: 98 := Op.convert 3 41 t97
    · intro w hw h17 K hK; cases h17; go_simp; exact hK _ _ (Le.refl _) (IsD.mk _ _ _)
    -- 19: 99 := Op.buildSlice 53 5 #[(0, t85), (1, t88), (2, t91), (3, t94), (4, t98)]
    · intro w hw h5 h8 h11 h14 h18 K hK; cases h5; cases h8; cases h11; cases h14; cases h18; go_simp; exact hK _ _ ((Le.refl _).alloc _) ⟨_, rfl, heap_alloc_new _ _⟩
    · intro wz hz h0 h1 h2 h3 h4 h5 h6 h7 h8 h9 h10 h11 h12 h13 h14 h15 h16 h17 h18 h19; obtain ⟨g0, rfl, hg0⟩ := h0; cases h1; cases h2; obtain ⟨g3, rfl, hg3⟩ := h3; cases h4; cases h5; cases h6; cases h7; cases h8; cases h9; cases h10; cases h11; cases h12; cases h13; cases h14; cases h15; cases h16; cases h17; cases h18; obtain ⟨g9, rfl, hg9⟩ := h19; skip
      have HZ := hide (HB.out.trans (hle0.trans hz))
      have HR9 := hide (rsl_row [n, who, tr, ss, LO] hg9)
      have HT9 := hide (HTb.out wz HZ.out.out)
      clear hg9 hg0 hg3 hz
      go_wp2_with fail
      refine (text_tab [109, 101, 100, 105, 97] (by simp) [n, who, tr, ss, LO] (by simp) HF.out (some ⟨g9, 0, none⟩) _ _ _ HT9.out HR9.out).mono ?_
      rintro r w2 ⟨rfl, hb2⟩
      have H2 := hide (HZ.out.trans (Le.mk hb2))
      clear hb2 HB HR9 HT9
      generalize str (txt [109, 101, 100, 105, 97] [n, who, tr, ss, LO]) = S at *
      go_wp2_with fail
      rw [HR.out]
      exact ⟨rfl, H2.out.out⟩

set_option maxRecDepth 100000 in
set_option maxHeartbeats 400000 in
theorem showo1 (n who tr ss LO : Nat) (hn : n < 9223372036854775808) (hwho : who < 9223372036854775808) (htr : tr < 9223372036854775808) (hss : ss < 4294967296) (hLO : LO ≤ 1000000) (AO : Option Addr) (cO : Nat) (y2 y3 y4 y5 y6 y7 y8 y9 y10 y11 y12 y13 : Value) (y19 y20 y21 y22 : Int) (A : Option Addr) (L c : Nat) (hL : L ≤ 1000000) (w : World) (htab : Lib.TabIs Tryz.prog w "internal/strconv.uint64pow10" .u64 Lib.pow10Tab) :
    Calls Tryz.prog 20 #[.agg #[.int .i64 7, .int .i64 n, y2, y3, y4, y5, y6, y7, y8, y9, y10, y11, y12, y13, .int .i64 1, .int .i64 who, .int .i64 tr, .int .u32 ss, .slice AO LO cO, .int .i64 y19, .int .u64 y20, .int .i64 y21, .int .u32 y22, .slice A L c]] w (Gives w (.string (str (txt [97, 103, 97, 105, 110] [n, who, tr, ss, LO])))) := by
  have q1 : IntKind.u64.wrap (L : Int) = L := IntWalk.u64_in _ (by omega)
  have q2 : IntKind.u64.wrap (n : Int) = n := IntWalk.u64_in _ (by omega)
  have q3 : IntKind.u64.wrap (who : Int) = who := IntWalk.u64_in _ (by omega)
  have q4 : IntKind.u64.wrap (tr : Int) = tr := IntWalk.u64_in _ (by omega)
  have q5 : IntKind.u64.wrap (ss : Int) = ss := IntWalk.u64_in _ (by omega)
  have q6 : IntKind.u64.wrap (LO : Int) = LO := IntWalk.u64_in _ (by omega)
  have hf : ∀ x ∈ ([n, who, tr, ss, LO] : List Nat), x < 18446744073709551616 := by intro x hx; simp only [List.mem_cons, List.not_mem_nil, or_false] at hx; omega
  have HF := hide hf
  have HTb := hide (Lib.tabBelow_of_tabIs htab)
  clear hf htab
  obtain ⟨R, hR⟩ : ∃ R, R = Gives w (.string (str (txt [97, 103, 97, 105, 110] [n, who, tr, ss, LO]))) := ⟨_, rfl⟩
  rw [← hR]
  have HR := hide hR
  clear hR
  go_enter Tryz.func20, Tryz.ntmps20
  go_wp2_with fail
  have HB := hide (((Le.refl w).alloc (.cells #[.int .i64 7, .int .i64 n, y2, y3, y4, y5, y6, y7, y8, y9, y10, y11, y12, y13, .int .i64 1, .int .i64 who, .int .i64 tr, .int .u32 ss, .slice AO LO cO, .int .i64 y19, .int .u64 y20, .int .i64 y21, .int .u32 y22, .slice A L c] 51)).alloc (.cells #[.int .i64 1, .int .i64 who, .int .i64 tr, .int .u32 ss, .slice AO LO cO, .int .i64 y19, .int .u64 y20, .int .i64 y21, .int .u32 y22] 49))
  have HO := hide (show ((w.alloc (.cells #[.int .i64 7, .int .i64 n, y2, y3, y4, y5, y6, y7, y8, y9, y10, y11, y12, y13, .int .i64 1, .int .i64 who, .int .i64 tr, .int .u32 ss, .slice AO LO cO, .int .i64 y19, .int .u64 y20, .int .i64 y21, .int .u32 y22, .slice A L c] 51)).alloc (.cells #[.int .i64 1, .int .i64 who, .int .i64 tr, .int .u32 ss, .slice AO LO cO, .int .i64 y19, .int .u64 y20, .int .i64 y21, .int .u32 y22] 49)).heap[w.heap.size + 1]? = some (.cells #[.int .i64 1, .int .i64 who, .int .i64 tr, .int .u32 ss, .slice AO LO cO, .int .i64 y19, .int .u64 y20, .int .i64 y21, .int .u32 y22] 49 (0, 0)) from by
    have h := heap_alloc_new (w.alloc (.cells #[.int .i64 7, .int .i64 n, y2, y3, y4, y5, y6, y7, y8, y9, y10, y11, y12, y13, .int .i64 1, .int .i64 who, .int .i64 tr, .int .u32 ss, .slice AO LO cO, .int .i64 y19, .int .u64 y20, .int .i64 y21, .int .u32 y22, .slice A L c] 51)) (.cells #[.int .i64 1, .int .i64 who, .int .i64 tr, .int .u32 ss, .slice AO LO cO, .int .i64 y19, .int .u64 y20, .int .i64 y21, .int .u32 y22] 49)
    rwa [alloc_size] at h)
  generalize (w.alloc (.cells #[.int .i64 7, .int .i64 n, y2, y3, y4, y5, y6, y7, y8, y9, y10, y11, y12, y13, .int .i64 1, .int .i64 who, .int .i64 tr, .int .u32 ss, .slice AO LO cO, .int .i64 y19, .int .u64 y20, .int .i64 y21, .int .u32 y22, .slice A L c] 51)).alloc (.cells #[.int .i64 1, .int .i64 who, .int .i64 tr, .int .u32 ss, .slice AO LO cO, .int .i64 y19, .int .u64 y20, .int .i64 y21, .int .u32 y22] 49) = w1 at *
  generalize w.heap.size + 1 = p1 at *
  have hle0 := (Le.refl w1).drew
  refine' wp_region_tailD 20 20 80 Le ((fun _ v W => ∃ g : Nat, v = .slice (some ⟨g, 0, none⟩) 3 3 ∧ W.heap[g]? = some (.cells #[.string ⟨#[109, 101, 100, 105, 97]⟩, .string ⟨#[97, 103, 97, 105, 110]⟩, .string ⟨#[97, 115, 107]⟩] 9 (0, 0))) :: IsD _ :: IsD _ :: (fun _ v W => ∃ g : Nat, v = .pointer (some ⟨g, 1, none⟩) ∧ W.heap[g]? = some (.cells #[.string ⟨#[109, 101, 100, 105, 97]⟩, .string ⟨#[97, 103, 97, 105, 110]⟩, .string ⟨#[97, 115, 107]⟩] 9 (0, 0))) :: IsD _ :: IsD _ :: IsD _ :: IsD _ :: IsD _ :: IsD _ :: IsD _ :: IsD _ :: IsD _ :: IsD _ :: IsD _ :: IsD _ :: IsD _ :: IsD _ :: IsD _ :: (fun _ v W => ∃ g : Nat, v = .slice (some ⟨g, 0, none⟩) 5 5 ∧ W.heap[g]? = some (.cells #[.int .u64 n, .int .u64 who, .int .u64 tr, .int .u64 ss, .int .u64 LO] 41 (0, 0))) :: []) ([] :: [] :: [1] :: [0, 2] :: [3] :: [] :: [] :: [6] :: [7] :: [] :: [9] :: [10] :: [] :: [12] :: [13] :: [] :: [15] :: [16] :: [17] :: [5, 8, 11, 14, 18] :: []) (by kernel_rfl) (by kernel_rfl) (by rfl) (by kernel_rfl) (by kernel_rfl) Le.refl (fun _ _ _ h h' => h.trans h') ⟨(fun _ _ _ _ h ⟨g, e1, e2⟩ => ⟨g, e1, h.heap e2⟩), StD.is, StD.is, (fun _ _ _ _ h ⟨g, e1, e2⟩ => ⟨g, e1, h.heap e2⟩), StD.is, StD.is, StD.is, StD.is, StD.is, StD.is, StD.is, StD.is, StD.is, StD.is, StD.is, StD.is, StD.is, StD.is, StD.is, (fun _ _ _ _ h ⟨g, e1, e2⟩ => ⟨g, e1, h.heap e2⟩), trivial⟩ ?m21
  case m21 =>
    simp (maxSteps := 100000000) only [AllV, OblD, LeansD, factAtD, allFactsD, depV, actOf, putAll, putRow, List.set_cons_succ, List.set_cons_zero, List.map_cons, List.getElem?_cons_zero, List.getElem?_cons_succ, Option.getD_some, List.map_nil, List.take_succ_cons, List.take_zero, List.drop_succ_cons, List.drop_zero, List.cons_append, List.nil_append, List.length_cons, List.length_nil, Nat.reduceAdd]
    intro x0 x1 x2 x3 x4 x5 x6 x7 x8 x9 x10 x11 x12 x13 x14 x15 x16 x17 x18 x19
    refine ⟨⟨?_, ?_, ?_, ?_, ?_, ?_, ?_, ?_, ?_, ?_, ?_, ?_, ?_, ?_, ?_, ?_, ?_, ?_, ?_, ?_, trivial⟩, ?_⟩
    -- 0: 80 := Op.buildSlice 92 3 #[(0, const (Value.string { data := #[109, 101, 100, 105, 97] })), (1, const (Value.string { data := #[97, 103, 97, 105, 110] })), (2, const (Value.string { data := #[97, 115, 107] }))]
    · intro w hw  K hK; go_simp; exact hK _ _ ((Le.refl _).alloc _) ⟨_, rfl, heap_alloc_new _ _⟩
    -- 1: 81 := Op.fieldAddr 49 t5 0
    · intro w hw  K hK; go_simp; exact hK _ _ (Le.refl _) (IsD.mk _ _ _)
    -- 2: 82 := Op.load 3 t81
    · intro w hw h1 K hK; cases h1; have k0 := cell_block ((hle0.trans hw).heap HO.out) 0; simp only [List.getElem?_toArray, List.getElem?_cons_zero] at k0; go_simp; exact hK _ _ (Le.refl _) (IsD.mk _ _ _)
    -- 3: 83 := Op.indexAddr 92 t80 t82
    · intro w hw h0 h2 K hK; obtain ⟨g0, rfl, hg0⟩ := h0; cases h2; go_simp; exact hK _ _ (Le.refl _) ⟨_, rfl, hg0⟩
    -- 4: 84 := Op.load 9 t83
    · intro w hw h3 K hK; obtain ⟨g3, rfl, hg3⟩ := h3; have k0 := cell_block hg3 1; simp only [List.getElem?_toArray, List.getElem?_cons_zero, List.getElem?_cons_succ] at k0; go_simp; exact hK _ _ (Le.refl _) (IsD.mk _ _ _)
    -- 5: 85 := Op.move t3
    · intro w hw  K hK; go_simp; exact hK _ _ (Le.refl _) (IsD.mk _ _ _)
    -- 6: 86 := Op.fieldAddr 49 t5 1
    · intro w hw  K hK; go_simp; exact hK _ _ (Le.refl _) (IsD.mk _ _ _)
    -- 7: 87 := Op.load 3 t86
    · intro w hw h6 K hK; cases h6; have k0 := cell_block ((hle0.trans hw).heap HO.out) 1; simp only [List.getElem?_toArray, List.getElem?_cons_zero, List.getElem?_cons_succ] at k0; go_simp; exact hK _ _ (Le.refl _) (IsD.mk _ _ _)
    -- 8: 88 := Op.convert 3 41 t87
    · intro w hw h7 K hK; cases h7; go_simp; exact hK _ _ (Le.refl _) (IsD.mk _ _ _)
    -- 9: 89 := Op.fieldAddr 49 t5 2
    · intro w hw  K hK; go_simp; exact hK _ _ (Le.refl _) (IsD.mk _ _ _)
    -- 10: 90 := Op.load 3 t89
    · intro w hw h9 K hK; cases h9; have k0 := cell_block ((hle0.trans hw).heap HO.out) 2; simp only [List.getElem?_toArray, List.getElem?_cons_zero, List.getElem?_cons_succ] at k0; go_simp; exact hK _ _ (Le.refl _) (IsD.mk _ _ _)
    -- 11: 91 := Op.convert 3 41 t90
    · intro w hw h10 K hK; cases h10; go_simp; exact hK _ _ (Le.refl _) (IsD.mk _ _ _)
    -- 12: 92 := Op.fieldAddr 49 t5 3
    · intro w hw  K hK; go_simp; exact hK _ _ (Le.refl _) (IsD.mk _ _ _)
    -- 13: 93 := Op.load 45 t92
    · intro w hw h12 K hK; cases h12; have k0 := cell_block ((hle0.trans hw).heap HO.out) 3; simp only [List.getElem?_toArray, List.getElem?_cons_zero, List.getElem?_cons_succ] at k0; go_simp; exact hK _ _ (Le.refl _) (IsD.mk _ _ _)
    -- 14: 94 := Op.convert 45 41 t93
    · intro w hw h13 K hK; cases h13; go_simp; exact hK _ _ (Le.refl _) (IsD.mk _ _ _)
    -- 15: 95 := Op.fieldAddr 49 t5 4
    · intro w hw  K hK; go_simp; exact hK _ _ (Le.refl _) (IsD.mk _ _ _)
    -- 16: 96 := Op.load 25 t95
    · intro w hw h15 K hK; cases h15; have k0 := cell_block ((hle0.trans hw).heap HO.out) 4; simp only [List.getElem?_toArray, List.getElem?_cons_zero, List.getElem?_cons_succ] at k0; go_simp; exact hK _ _ (Le.refl _) (IsD.mk _ _ _)
    -- 17: 97 := Op.call { builtin len, args := #[t96], argTypes := #[25] }
    · intro w hw h16 K hK; cases h16; go_simp; exact hK _ _ (Le.refl _) (IsD.mk _ _ _)
    -- 18: 98 := Op.convert 3 41 t97
    · intro w hw h17 K hK; cases h17; go_simp; exact hK _ _ (Le.refl _) (IsD.mk _ _ _)
    -- 19: 99 := Op.buildSlice 53 5 #[(0, t85), (1, t88), (2, t91), (3, t94), (4, t98)]
    · intro w hw h5 h8 h11 h14 h18 K hK; cases h5; cases h8; cases h11; cases h14; cases h18; go_simp; exact hK _ _ ((Le.refl _).alloc _) ⟨_, rfl, heap_alloc_new _ _⟩
    · intro wz hz h0 h1 h2 h3 h4 h5 h6 h7 h8 h9 h10 h11 h12 h13 h14 h15 h16 h17 h18 h19; obtain ⟨g0, rfl, hg0⟩ := h0; cases h1; cases h2; obtain ⟨g3, rfl, hg3⟩ := h3; cases h4; cases h5; cases h6; cases h7; cases h8; cases h9; cases h10; cases h11; cases h12; cases h13; cases h14; cases h15; cases h16; cases h17; cases h18; obtain ⟨g9, rfl, hg9⟩ := h19; skip
      have HZ := hide (HB.out.trans (hle0.trans hz))
      have HR9 := hide (rsl_row [n, who, tr, ss, LO] hg9)
      have HT9 := hide (HTb.out wz HZ.out.out)
      clear hg9 hg0 hg3 hz
      go_wp2_with fail
      refine (text_tab [97, 103, 97, 105, 110] (by simp) [n, who, tr, ss, LO] (by simp) HF.out (some ⟨g9, 0, none⟩) _ _ _ HT9.out HR9.out).mono ?_
      rintro r w2 ⟨rfl, hb2⟩
      have H2 := hide (HZ.out.trans (Le.mk hb2))
      clear hb2 HB HR9 HT9
      generalize str (txt [97, 103, 97, 105, 110] [n, who, tr, ss, LO]) = S at *
      go_wp2_with fail
      rw [HR.out]
      exact ⟨rfl, H2.out.out⟩

set_option maxRecDepth 100000 in
set_option maxHeartbeats 400000 in
theorem showo2 (n who tr ss LO : Nat) (hn : n < 9223372036854775808) (hwho : who < 9223372036854775808) (htr : tr < 9223372036854775808) (hss : ss < 4294967296) (hLO : LO ≤ 1000000) (AO : Option Addr) (cO : Nat) (y2 y3 y4 y5 y6 y7 y8 y9 y10 y11 y12 y13 : Value) (y19 y20 y21 y22 : Int) (A : Option Addr) (L c : Nat) (hL : L ≤ 1000000) (w : World) (htab : Lib.TabIs Tryz.prog w "internal/strconv.uint64pow10" .u64 Lib.pow10Tab) :
    Calls Tryz.prog 20 #[.agg #[.int .i64 7, .int .i64 n, y2, y3, y4, y5, y6, y7, y8, y9, y10, y11, y12, y13, .int .i64 2, .int .i64 who, .int .i64 tr, .int .u32 ss, .slice AO LO cO, .int .i64 y19, .int .u64 y20, .int .i64 y21, .int .u32 y22, .slice A L c]] w (Gives w (.string (str (txt [97, 115, 107] [n, who, tr, ss, LO])))) := by
  have q1 : IntKind.u64.wrap (L : Int) = L := IntWalk.u64_in _ (by omega)
  have q2 : IntKind.u64.wrap (n : Int) = n := IntWalk.u64_in _ (by omega)
  have q3 : IntKind.u64.wrap (who : Int) = who := IntWalk.u64_in _ (by omega)
  have q4 : IntKind.u64.wrap (tr : Int) = tr := IntWalk.u64_in _ (by omega)
  have q5 : IntKind.u64.wrap (ss : Int) = ss := IntWalk.u64_in _ (by omega)
  have q6 : IntKind.u64.wrap (LO : Int) = LO := IntWalk.u64_in _ (by omega)
  have hf : ∀ x ∈ ([n, who, tr, ss, LO] : List Nat), x < 18446744073709551616 := by intro x hx; simp only [List.mem_cons, List.not_mem_nil, or_false] at hx; omega
  have HF := hide hf
  have HTb := hide (Lib.tabBelow_of_tabIs htab)
  clear hf htab
  obtain ⟨R, hR⟩ : ∃ R, R = Gives w (.string (str (txt [97, 115, 107] [n, who, tr, ss, LO]))) := ⟨_, rfl⟩
  rw [← hR]
  have HR := hide hR
  clear hR
  go_enter Tryz.func20, Tryz.ntmps20
  go_wp2_with fail
  have HB := hide (((Le.refl w).alloc (.cells #[.int .i64 7, .int .i64 n, y2, y3, y4, y5, y6, y7, y8, y9, y10, y11, y12, y13, .int .i64 2, .int .i64 who, .int .i64 tr, .int .u32 ss, .slice AO LO cO, .int .i64 y19, .int .u64 y20, .int .i64 y21, .int .u32 y22, .slice A L c] 51)).alloc (.cells #[.int .i64 2, .int .i64 who, .int .i64 tr, .int .u32 ss, .slice AO LO cO, .int .i64 y19, .int .u64 y20, .int .i64 y21, .int .u32 y22] 49))
  have HO := hide (show ((w.alloc (.cells #[.int .i64 7, .int .i64 n, y2, y3, y4, y5, y6, y7, y8, y9, y10, y11, y12, y13, .int .i64 2, .int .i64 who, .int .i64 tr, .int .u32 ss, .slice AO LO cO, .int .i64 y19, .int .u64 y20, .int .i64 y21, .int .u32 y22, .slice A L c] 51)).alloc (.cells #[.int .i64 2, .int .i64 who, .int .i64 tr, .int .u32 ss, .slice AO LO cO, .int .i64 y19, .int .u64 y20, .int .i64 y21, .int .u32 y22] 49)).heap[w.heap.size + 1]? = some (.cells #[.int .i64 2, .int .i64 who, .int .i64 tr, .int .u32 ss, .slice AO LO cO, .int .i64 y19, .int .u64 y20, .int .i64 y21, .int .u32 y22] 49 (0, 0)) from by
    have h := heap_alloc_new (w.alloc (.cells #[.int .i64 7, .int .i64 n, y2, y3, y4, y5, y6, y7, y8, y9, y10, y11, y12, y13, .int .i64 2, .int .i64 who, .int .i64 tr, .int .u32 ss, .slice AO LO cO, .int .i64 y19, .int .u64 y20, .int .i64 y21, .int .u32 y22, .slice A L c] 51)) (.cells #[.int .i64 2, .int .i64 who, .int .i64 tr, .int .u32 ss, .slice AO LO cO, .int .i64 y19, .int .u64 y20, .int .i64 y21, .int .u32 y22] 49)
    rwa [alloc_size] at h)
  generalize (w.alloc (.cells #[.int .i64 7, .int .i64 n, y2, y3, y4, y5, y6, y7, y8, y9, y10, y11, y12, y13, .int .i64 2, .int .i64 who, .int .i64 tr, .int .u32 ss, .slice AO LO cO, .int .i64 y19, .int .u64 y20, .int .i64 y21, .int .u32 y22, .slice A L c] 51)).alloc (.cells #[.int .i64 2, .int .i64 who, .int .i64 tr, .int .u32 ss, .slice AO LO cO, .int .i64 y19, .int .u64 y20, .int .i64 y21, .int .u32 y22] 49) = w1 at *
  generalize w.heap.size + 1 = p1 at *
  have hle0 := (Le.refl w1).drew
  refine' wp_region_tailD 20 20 80 Le ((fun _ v W => ∃ g : Nat, v = .slice (some ⟨g, 0, none⟩) 3 3 ∧ W.heap[g]? = some (.cells #[.string ⟨#[109, 101, 100, 105, 97]⟩, .string ⟨#[97, 103, 97, 105, 110]⟩, .string ⟨#[97, 115, 107]⟩] 9 (0, 0))) :: IsD _ :: IsD _ :: (fun _ v W => ∃ g : Nat, v = .pointer (some ⟨g, 2, none⟩) ∧ W.heap[g]? = some (.cells #[.string ⟨#[109, 101, 100, 105, 97]⟩, .string ⟨#[97, 103, 97, 105, 110]⟩, .string ⟨#[97, 115, 107]⟩] 9 (0, 0))) :: IsD _ :: IsD _ :: IsD _ :: IsD _ :: IsD _ :: IsD _ :: IsD _ :: IsD _ :: IsD _ :: IsD _ :: IsD _ :: IsD _ :: IsD _ :: IsD _ :: IsD _ :: (fun _ v W => ∃ g : Nat, v = .slice (some ⟨g, 0, none⟩) 5 5 ∧ W.heap[g]? = some (.cells #[.int .u64 n, .int .u64 who, .int .u64 tr, .int .u64 ss, .int .u64 LO] 41 (0, 0))) :: []) ([] :: [] :: [1] :: [0, 2] :: [3] :: [] :: [] :: [6] :: [7] :: [] :: [9] :: [10] :: [] :: [12] :: [13] :: [] :: [15] :: [16] :: [17] :: [5, 8, 11, 14, 18] :: []) (by kernel_rfl) (by kernel_rfl) (by rfl) (by kernel_rfl) (by kernel_rfl) Le.refl (fun _ _ _ h h' => h.trans h') ⟨(fun _ _ _ _ h ⟨g, e1, e2⟩ => ⟨g, e1, h.heap e2⟩), StD.is, StD.is, (fun _ _ _ _ h ⟨g, e1, e2⟩ => ⟨g, e1, h.heap e2⟩), StD.is, StD.is, StD.is, StD.is, StD.is, StD.is, StD.is, StD.is, StD.is, StD.is, StD.is, StD.is, StD.is, StD.is, StD.is, (fun _ _ _ _ h ⟨g, e1, e2⟩ => ⟨g, e1, h.heap e2⟩), trivial⟩ ?m21
  case m21 =>
    simp (maxSteps := 100000000) only [AllV, OblD, LeansD, factAtD, allFactsD, depV, actOf, putAll, putRow, List.set_cons_succ, List.set_cons_zero, List.map_cons, List.getElem?_cons_zero, List.getElem?_cons_succ, Option.getD_some, List.map_nil, List.take_succ_cons, List.take_zero, List.drop_succ_cons, List.drop_zero, List.cons_append, List.nil_append, List.length_cons, List.length_nil, Nat.reduceAdd]
    intro x0 x1 x2 x3 x4 x5 x6 x7 x8 x9 x10 x11 x12 x13 x14 x15 x16 x17 x18 x19
    refine ⟨⟨?_, ?_, ?_, ?_, ?_, ?_, ?_, ?_, ?_, ?_, ?_, ?_, ?_, ?_, ?_, ?_, ?_, ?_, ?_, ?_, trivial⟩, ?_⟩
    -- 0: 80 := Op.buildSlice 92 3 #[(0, const (Value.string { data := #[109, 101, 100, 105, 97] })), (1, const (Value.string { data := #[97, 103, 97, 105, 110] })), (2, const (Value.string { data := #[97, 115, 107] }))]
    · intro w hw  K hK; go_simp; exact hK _ _ ((Le.refl _).alloc _) ⟨_, rfl, heap_alloc_new _ _⟩
    -- 1: 81 := Op.fieldAddr 49 t5 0
    · intro w hw  K hK; go_simp; exact hK _ _ (Le.refl _) (IsD.mk _ _ _)
    -- 2: 82 := Op.load 3 t81
    · intro w hw h1 K hK; cases h1; have k0 := cell_block ((hle0.trans hw).heap HO.out) 0; simp only [List.getElem?_toArray, List.getElem?_cons_zero] at k0; go_simp; exact hK _ _ (Le.refl _) (IsD.mk _ _ _)
    -- 3: 83 := Op.indexAddr 92 t80 t82
    · intro w hw h0 h2 K hK; obtain ⟨g0, rfl, hg0⟩ := h0; cases h2; go_simp; exact hK _ _ (Le.refl _) ⟨_, rfl, hg0⟩
    -- 4: 84 := Op.load 9 t83
    · intro w hw h3 K hK; obtain ⟨g3, rfl, hg3⟩ := h3; have k0 := cell_block hg3 2; simp only [List.getElem?_toArray, List.getElem?_cons_zero, List.getElem?_cons_succ] at k0; go_simp; exact hK _ _ (Le.refl _) (IsD.mk _ _ _)
    -- 5: 85 := Op.move t3
    · intro w hw  K hK; go_simp; exact hK _ _ (Le.refl _) (IsD.mk _ _ _)
    -- 6: 86 := Op.fieldAddr 49 t5 1
    · intro w hw  K hK; go_simp; exact hK _ _ (Le.refl _) (IsD.mk _ _ _)
    -- 7: 87 := Op.load 3 t86
    · intro w hw h6 K hK; cases h6; have k0 := cell_block ((hle0.trans hw).heap HO.out) 1; simp only [List.getElem?_toArray, List.getElem?_cons_zero, List.getElem?_cons_succ] at k0; go_simp; exact hK _ _ (Le.refl _) (IsD.mk _ _ _)
    -- 8: 88 := Op.convert 3 41 t87
    · intro w hw h7 K hK; cases h7; go_simp; exact hK _ _ (Le.refl _) (IsD.mk _ _ _)
    -- 9: 89 := Op.fieldAddr 49 t5 2
    · intro w hw  K hK; go_simp; exact hK _ _ (Le.refl _) (IsD.mk _ _ _)
    -- 10: 90 := Op.load 3 t89
    · intro w hw h9 K hK; cases h9; have k0 := cell_block ((hle0.trans hw).heap HO.out) 2; simp only [List.getElem?_toArray, List.getElem?_cons_zero, List.getElem?_cons_succ] at k0; go_simp; exact hK _ _ (Le.refl _) (IsD.mk _ _ _)
    -- 11: 91 := Op.convert 3 41 t90
    · intro w hw h10 K hK; cases h10; go_simp; exact hK _ _ (Le.refl _) (IsD.mk _ _ _)
    -- 12: 92 := Op.fieldAddr 49 t5 3
    · intro w hw  K hK; go_simp; exact hK _ _ (Le.refl _) (IsD.mk _ _ _)
    -- 13: 93 := Op.load 45 t92
    · intro w hw h12 K hK; cases h12; have k0 := cell_block ((hle0.trans hw).heap HO.out) 3; simp only [List.getElem?_toArray, List.getElem?_cons_zero, List.getElem?_cons_succ] at k0; go_simp; exact hK _ _ (Le.refl _) (IsD.mk _ _ _)
    -- 14: 94 := Op.convert 45 41 t93
    · intro w hw h13 K hK; cases h13; go_simp; exact hK _ _ (Le.refl _) (IsD.mk _ _ _)
    -- 15: 95 := Op.fieldAddr 49 t5 4
    · intro w hw  K hK; go_simp; exact hK _ _ (Le.refl _) (IsD.mk _ _ _)
    -- 16: 96 := Op.load 25 t95
    · intro w hw h15 K hK; cases h15; have k0 := cell_block ((hle0.trans hw).heap HO.out) 4; simp only [List.getElem?_toArray, List.getElem?_cons_zero, List.getElem?_cons_succ] at k0; go_simp; exact hK _ _ (Le.refl _) (IsD.mk _ _ _)
    -- 17: 97 := Op.call { builtin len, args := #[t96], argTypes := #[25] }
    · intro w hw h16 K hK; cases h16; go_simp; exact hK _ _ (Le.refl _) (IsD.mk _ _ _)
    -- 18: 98 := Op.convert 3 41 t97
    · intro w hw h17 K hK; cases h17; go_simp; exact hK _ _ (Le.refl _) (IsD.mk _ _ _)
    -- 19: 99 := Op.buildSlice 53 5 #[(0, t85), (1, t88), (2, t91), (3, t94), (4, t98)]
    · intro w hw h5 h8 h11 h14 h18 K hK; cases h5; cases h8; cases h11; cases h14; cases h18; go_simp; exact hK _ _ ((Le.refl _).alloc _) ⟨_, rfl, heap_alloc_new _ _⟩
    · intro wz hz h0 h1 h2 h3 h4 h5 h6 h7 h8 h9 h10 h11 h12 h13 h14 h15 h16 h17 h18 h19; obtain ⟨g0, rfl, hg0⟩ := h0; cases h1; cases h2; obtain ⟨g3, rfl, hg3⟩ := h3; cases h4; cases h5; cases h6; cases h7; cases h8; cases h9; cases h10; cases h11; cases h12; cases h13; cases h14; cases h15; cases h16; cases h17; cases h18; obtain ⟨g9, rfl, hg9⟩ := h19; skip
      have HZ := hide (HB.out.trans (hle0.trans hz))
      have HR9 := hide (rsl_row [n, who, tr, ss, LO] hg9)
      have HT9 := hide (HTb.out wz HZ.out.out)
      clear hg9 hg0 hg3 hz
      go_wp2_with fail
      refine (text_tab [97, 115, 107] (by simp) [n, who, tr, ss, LO] (by simp) HF.out (some ⟨g9, 0, none⟩) _ _ _ HT9.out HR9.out).mono ?_
      rintro r w2 ⟨rfl, hb2⟩
      have H2 := hide (HZ.out.trans (Le.mk hb2))
      clear hb2 HB HR9 HT9
      generalize str (txt [97, 115, 107] [n, who, tr, ss, LO]) = S at *
      go_wp2_with fail
      rw [HR.out]
      exact ⟨rfl, H2.out.out⟩

set_option maxRecDepth 100000 in
set_option maxHeartbeats 400000 in
theorem shown (kk : Int) (h0 : ¬ kk = 0) (h1 : ¬ kk = 1) (h2 : ¬ kk = 2) (h3 : ¬ kk = 3) (h4 : ¬ kk = 4) (h5 : ¬ kk = 5) (h6 : ¬ kk = 6) (h7 : ¬ kk = 7) (n : Nat) (y2 y3 y4 y5 y6 y7 y8 y9 y10 y11 y12 y13 y14 y15 y16 y17 y18 y19 y20 y21 y22 : Value) (A : Option Addr) (L c : Nat) (hL : L ≤ 1000000) (w : World) :
    Calls Tryz.prog 20 #[.agg #[.int .i64 kk, .int .i64 n, y2, y3, y4, y5, y6, y7, y8, y9, y10, y11, y12, y13, y14, y15, y16, y17, y18, y19, y20, y21, y22, .slice A L c]] w (Gives w (.string ⟨#[]⟩)) := by
  have q1 : IntKind.u64.wrap (L : Int) = L := IntWalk.u64_in _ (by omega)
  go_enter Tryz.func20, Tryz.ntmps20
  go_wp2_with fail
  go_ret
  exact ⟨rfl, ((Le.refl w).alloc _).out⟩
set_option maxRecDepth 100000 in
set_option maxHeartbeats 400000 in
theorem showon (ok : Int) (hok : ¬ (0 ≤ ok ∧ ok ≤ 2)) (n : Nat) (y15 y16 y17 : Int) (AO : Option Addr) (LO cO : Nat) (y2 y3 y4 y5 y6 y7 y8 y9 y10 y11 y12 y13 : Value) (y19 y20 y21 y22 : Int) (A : Option Addr) (L c : Nat) (hL : L ≤ 1000000) (w : World) :
    Calls Tryz.prog 20 #[.agg #[.int .i64 7, .int .i64 n, y2, y3, y4, y5, y6, y7, y8, y9, y10, y11, y12, y13, .int .i64 ok, .int .i64 y15, .int .i64 y16, .int .u32 y17, .slice AO LO cO, .int .i64 y19, .int .u64 y20, .int .i64 y21, .int .u32 y22, .slice A L c]] w (Gives w (.string ⟨#[]⟩)) := by
  have q1 : IntKind.u64.wrap (L : Int) = L := IntWalk.u64_in _ (by omega)
  go_enter Tryz.func20, Tryz.ntmps20
  by_cases hlo : 0 ≤ ok
  · have hhi : ¬ ok ≤ 2 := fun h => hok ⟨hlo, h⟩
    go_wp2_with fail
    go_ret
    exact ⟨rfl, (((Le.refl w).alloc _).alloc _).out⟩
  · go_wp2_with fail
    go_ret
    exact ⟨rfl, (((Le.refl w).alloc _).alloc _).out⟩
end Go.Proofs.YtkcpfhbfjpldhaaGreatDoor

/- louverref24: Number, Text. -/
namespace Go.Proofs.YtkcpfhbfjpldhaaGreatDoor
open Go.RowKit
set_option linter.unusedVariables false

theorem digs_len (n : Nat) (h : n < 18446744073709551616) : (digs n).length ≤ 20 := by
  unfold digs
  split
  · simp
  · exact dec_len n h
set_option maxRecDepth 100000 in
set_option maxHeartbeats 2000000 in
theorem rnumber_any (n : Nat) (hn : n < 18446744073709551616) (w : World) : Calls Tryz.prog 44 #[.int .u64 n] w (Gives w (.string (str (Lib.decDigits n)))) := by
  have HN := hide hn
  clear hn
  go_enter Tryz.func44, Tryz.ntmps44
  go_wp2_with fail
  go_loopw [0, 3] (fun y s wr => ∃ (k : Nat) (acc : List UInt8), k ≤ n ∧ y = .int .u64 (k : Int) ∧ s = .string (str acc) ∧ Hd (digs k ++ acc = digs n) ∧ Le w wr) (fun y _ _ => (intOf y).toNat)
  case atStart => exact ⟨n, [], Nat.le_refl _, rfl, rfl, hide (by simp), Le.refl _⟩
  case round =>
    obtain ⟨k, acc, hk, rfl, rfl, HD, hle⟩ := hrel
    have hacc : acc.length ≤ 20 := by
      have h1 := digs_len n HN.out
      rw [← HD.out, List.length_append] at h1
      omega
    have hk64 : (k : Int) < 18446744073709551616 := by have := HN.out; omega
    by_cases h0 : 0 < k
    · have h0I : (0 : Int) < (k : Int) := by omega
      have HS := hide (digs_step h0 acc)
      have hc := conv_one (P := Tryz.prog) wr 25 9 5 5 ((48 : Int) + (k : Int) % 10) Tryz.underlying25 Tryz.underlying5 Tryz.underlying9 (by omega) (by omega)
      rw [show ((48 : Int) + (k : Int) % 10).toNat = 48 + k % 10 by omega] at hc
      have hw : IntKind.u8.wrap ((48 : Int) + (k : Int) % 10) = 48 + (k : Int) % 10 := IntWalk.u8_in _ (by omega)
      have hw2 : IntKind.u64.wrap ((48 : Int) + (k : Int) % 10) = 48 + (k : Int) % 10 := IntWalk.u64_in _ (by omega)
      go_wp2_with fail
      go_roundw
      case rel => exact ⟨k / 10, UInt8.ofNat (48 + k % 10) :: acc, by omega, by go_num, by rw [UInt8.ofNat_add]; rfl, hide (HS.out.trans HD.out), hle.alloc _⟩
      case measure => simp [intOf]; omega
    · obtain rfl : k = 0 := by omega
      have hacc2 : acc = digs n := by have := HD.out; rw [digs_zero, List.nil_append] at this; exact this
      by_cases hn0 : n = 0
      · subst hn0
        rw [digs_zero] at hacc2
        subst hacc2
        have hem : (([] : List UInt8) == []) = true := rfl
        go_wp2_with fail
        go_ret
        rw [dec_zero]
        exact ⟨rfl, hle.out⟩
      · have hne := digs_ne (show 0 < n by omega)
        have HE := hide (hacc2.trans (digs_pos (show 0 < n by omega)))
        rw [← hacc2] at hne
        have hem : (acc == ([] : List UInt8)) = false := by rw [beq_eq_false_iff_ne]; exact hne
        clear hacc2 hne
        go_wp2_with fail
        go_ret
        exact ⟨by rw [← HE.out]; rfl, hle.out⟩
theorem fmtR (n : Nat) (hn : n < 18446744073709551616) : ∀ w : World, Calls Tryz.prog 44 #[.int .u64 n] w (Gives w (.string (str (Lib.decDigits n)))) := rnumber_any n hn

set_option maxRecDepth 100000 in
set_option maxHeartbeats 2000000 in
theorem rtext_any (word : List UInt8) (hw : word.length ≤ 100) (l : List Nat) (hl : l.length ≤ 10) (hn : ∀ n ∈ l, n < 18446744073709551616) (A : Option Addr) (n cap : Nat) (w : World) (hr : RSl 1 RNum w l (.slice A n cap)) :
    Calls Tryz.prog 19 #[.string (str word), .slice A n cap] w (Gives w (.string (str (txt word l)))) := by
  obtain ⟨A', cap', hv, hcap, hi⟩ := hr
  injection hv with e1 e2 e3
  subst e1 e2 e3
  have HI := hide hi
  have HN := hide hn
  clear hi hn
  go_enter Tryz.func19, Tryz.ntmps19
  go_wp2_with fail
  go_loopw [0, 5] (fun s0 j wr => ∃ k : Nat, k ≤ l.length ∧ j = .int .i64 k ∧ s0 = .string (str (txt word (l.take k))) ∧ Hd ((txt word (l.take k)).length ≤ 100 + 21 * k) ∧ Le w wr) (fun _ j _ => l.length - (intOf j).toNat)
  case atStart => exact ⟨0, by omega, rfl, by simp [txt], hide (by simp [txt]; omega), Le.refl _⟩
  case round =>
    obtain ⟨k, hk, rfl, rfl, HT, hle⟩ := hrel
    by_cases hlt : k < l.length
    · obtain ⟨b, off, rfl, hg⟩ := HI.out (by rintro rfl; simp at hlt)
      obtain ⟨cs, _, hc, hcs⟩ := hg k hlt
      subst hcs
      have c0 := hle.cell (show w.cell? ⟨b, off + k, none⟩ = some (.int .u64 l[k]) from by simpa using hc 0 (by omega))
      have HX := hide (show txt word (l.take (k + 1)) = txt word (l.take k) ++ (32 :: Lib.decDigits l[k]) by rw [txt, txt, List.take_succ_eq_append_getElem hlt, List.flatMap_append, List.flatMap_singleton, List.append_assoc])
      have HF := hide (HN.out l[k] (List.getElem_mem hlt))
      have hD := dec_len l[k] HF.out
      have hT := HT.out
      have hltI : (k : Int) < (l.length : Int) := by omega
      have h0I : (0 : Int) ≤ (k : Int) := by omega
      generalize l[k] = x at *
      generalize txt word (l.take k) = S at *
      clear hc hg HT
      go_wp2_with fail
      refine (rnumber_any x HF.out wr).mono ?_
      rintro r w2 ⟨rfl, hb2⟩
      have hle2 := hle.trans ⟨hb2⟩
      clear hb2
      generalize Lib.decDigits x = D at *
      go_wp2_with fail
      go_roundw
      case rel => exact ⟨k + 1, by omega, by go_num, by rw [HX.out]; rfl, hide (by rw [HX.out]; simp; omega), hle2⟩
      case measure => simp [intOf]; omega
    · obtain rfl : k = l.length := by omega
      have hltI : ¬ ((l.length : Nat) : Int) < (l.length : Int) := by omega
      rw [List.take_length]
      go_wp2_with fail
      go_ret
      exact ⟨rfl, hle.out⟩
end Go.Proofs.YtkcpfhbfjpldhaaGreatDoor
