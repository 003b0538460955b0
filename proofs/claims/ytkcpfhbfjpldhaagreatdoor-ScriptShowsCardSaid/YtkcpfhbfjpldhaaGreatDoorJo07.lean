/- Texts of one claim, laid together: AwkF AwkG AwkH Ref1 Law1 ReqL -/
import Derived.Test.YtkcpfhbfjpldhaaGreatDoorJo06
import Derived.Test.YtkcpfhbfjpldhaaGreatDoorJo04
import Derived.Test.YtkcpfhbfjpldhaaGreatDoorJo02
import Derived.Test.YtkcpfhbfjpldhaaGreatDoorJo01
/- awake24: the queue of calls; Ask. (Written by gen_awkf.py.) -/
namespace Go.Proofs.YtkcpfhbfjpldhaaGreatDoor
open Go.RowKit
set_option linter.unusedVariables false

theorem d8_own {w : World} {base n : Nat} {v : Value} {l : List UInt8} (h : w.ownsRow base 5 1 v n (u8s l)) : D8 w l v := by
  have hl := h.1
  simp only [u8s_length, Nat.mul_one] at hl
  subst hl
  rcases h.2 with ⟨rfl, hn⟩ | ⟨g, cap, cur, rfl, _, hh, hnc, _, hcs, ht⟩
  · obtain rfl := List.eq_nil_of_length_eq_zero hn
    exact D8.nil
  · refine ⟨_, cap, rfl, hnc, fun _ => ⟨g, 0, cur, _, rfl, hh, fun j hj => ?_⟩⟩
    have hc := h.cells (g := g) rfl j (.int .u8 l[j].toNat) (by simp [u8s, hj])
    rw [addr_add, cell_block hh] at hc
    exact hc
section
variable {w : World} {A Q : Nat} {f n : Nat}
theorem callRoom (hQ : w.heap[Q]? = some (.cells #[.slice (some ⟨A, 0, none⟩) 4 4, .int .i64 f, .int .i64 n] 250 (0, 0))) (hn : n ≤ 4) : Calls Tryz.prog 126 #[.pointer (some ⟨Q, 0, none⟩)] w (Gives w (.int .i64 (4 - n))) := by
  have c0 : w.cell? ⟨Q, 0, none⟩ = some (.slice (some ⟨A, 0, none⟩) 4 4) := cell_block hQ 0
  have c2 : w.cell? ⟨Q, 2, none⟩ = some (.int .i64 n) := cell_block hQ 2
  have q1 : IntKind.i64.wrap ((4 : Int) - n) = 4 - n := IntWalk.i64_in _ (by omega)
  clear hQ
  go_enter Tryz.func126, Tryz.ntmps126
  go_wp2_with fail
  go_quiet (fail)
  go_wp2_with fail
  go_ret
  exact ⟨rfl, ((Le.refl w).drewN _).out⟩
theorem callPlace (hQ : w.heap[Q]? = some (.cells #[.slice (some ⟨A, 0, none⟩) 4 4, .int .i64 f, .int .i64 n] 250 (0, 0))) (hf : f < 4) (i r : Nat) (hi : i ≤ 4) (hr : r = (f + i) % 4) : Calls Tryz.prog 127 #[.pointer (some ⟨Q, 0, none⟩), .int .i64 i] w (Gives w (.int .i64 r)) := by
  have c0 : w.cell? ⟨Q, 0, none⟩ = some (.slice (some ⟨A, 0, none⟩) 4 4) := cell_block hQ 0
  have c1 : w.cell? ⟨Q, 1, none⟩ = some (.int .i64 f) := cell_block hQ 1
  have q1 : IntKind.i64.wrap ((f : Int) + i) = ((f + i : Nat) : Int) := by rw [IntWalk.i64_in _ (by omega)]; simp
  have q2 : ((f + i : Nat) : Int).tmod 4 = (r : Int) := by rw [hr, Int.tmod_eq_emod_of_nonneg (by omega)]; simp
  have q3 : IntKind.i64.wrap (r : Int) = (r : Int) := IntWalk.i64_in _ (by omega)
  clear hQ hr
  generalize f + i = fi at *
  go_enter Tryz.func127, Tryz.ntmps127
  go_wp2_with fail
  go_quiet (fail)
  go_wp2_with fail
  go_ret
  exact ⟨rfl, ((Le.refl w).drewN _).out⟩
theorem callLen (hQ : w.heap[Q]? = some (.cells #[.slice (some ⟨A, 0, none⟩) 4 4, .int .i64 f, .int .i64 n] 250 (0, 0))) : Calls Tryz.prog 167 #[.pointer (some ⟨Q, 0, none⟩)] w (Gives w (.int .i64 n)) := by
  have c2 : w.cell? ⟨Q, 2, none⟩ = some (.int .i64 n) := cell_block hQ 2
  clear hQ
  go_enter Tryz.func167, Tryz.ntmps167
  go_wp2_with fail
  go_ret
  exact ⟨rfl, (Le.refl w).out⟩
end
def ring0 : List Value := [.int .i64 0, .slice none 0 0, .int .i64 0, .slice none 0 0, .int .i64 0, .slice none 0 0, .int .i64 0, .slice none 0 0]
def ring1 (m : Int) (v : Value) : List Value := [.int .i64 m, v, .int .i64 0, .slice none 0 0, .int .i64 0, .slice none 0 0, .int .i64 0, .slice none 0 0]

set_option maxRecDepth 100000 in
set_option maxHeartbeats 4000000 in
theorem callPush {s : Nat} {w : World} {B a p b C A Q : Nat} {ws ev : Value} {k : Nat} {xs : List Value} (h : Sfu s w B a p b C A Q ws ev k xs ring0 0 0) (hs : s ≤ w.heap.size) (m : Int) (A1 : Option Addr) (n1 c1 : Nat) :
    Calls Tryz.prog 88 #[.pointer (some ⟨Q, 0, none⟩), .agg #[.int .i64 m, .slice A1 n1 c1]] w (fun e w' => e = .returned (.bool true) ∧ Sfu s w' B a p b C A Q ws ev k xs (ring1 m (.slice A1 n1 c1)) 0 1 ∧ KX w w' ∧ Below s w w') := by
  have HH := hide h
  have HS := hide hs
  clear h hs
  go_enter Tryz.func88, Tryz.ntmps88
  go_wp2_with fail
  have hx := heap_alloc_new w (.cells #[.int .i64 m, .slice A1 n1 c1] 158)
  have hl1 := (Le.refl w).alloc (.cells #[.int .i64 m, .slice A1 n1 c1] 158)
  have HX := hide hx
  have HL := hide hl1
  clear hx hl1
  generalize w.heap.size = gx at HX ⊢
  generalize w.alloc _ = w1 at *
  refine (callRoom (HH.out.le HL.out).hQ (by omega)).mono ?_
  rintro r w2 ⟨rfl, hb2⟩
  have hl2 : Le w1 w2 := ⟨hb2⟩
  have HL2 := hide (HL.out.trans hl2)
  have HX2 := hide (hl2.heap HX.out)
  have HH2 := hide (HH.out.le HL2.out)
  clear HX HL hl2 hb2
  go_upto_region 3 with fail
  have hle0 := (Le.refl w2).drew
  refine' wp_region_tailD 12 12 8 Le (IsD _ :: IsD _ :: IsD _ :: IsD _ :: IsD _ :: IsD _ :: IsD _ :: IsD _ :: IsD _ :: IsD _ :: IsD _ :: IsD _ :: []) ([] :: [0] :: [1] :: [2] :: [] :: [] :: [5] :: [6] :: [7] :: [4, 8] :: [] :: [3, 9] :: []) (by kernel_rfl) (by kernel_rfl) (by rfl) (by kernel_rfl) (by kernel_rfl) Le.refl (fun _ _ _ h h' => h.trans h') ⟨StD.is, StD.is, StD.is, StD.is, StD.is, StD.is, StD.is, StD.is, StD.is, StD.is, StD.is, StD.is, trivial⟩ ?m3
  case m3 =>
    simp (maxSteps := 100000000) only [AllV, OblD, LeansD, factAtD, allFactsD, depV, actOf, putAll, putRow, List.set_cons_succ, List.set_cons_zero, List.map_cons, List.getElem?_cons_zero, List.getElem?_cons_succ, Option.getD_some, List.map_nil, List.take_succ_cons, List.take_zero, List.drop_succ_cons, List.drop_zero, List.cons_append, List.nil_append, List.length_cons, List.length_nil, Nat.reduceAdd]
    intro x0 x1 x2 x3 x4 x5 x6 x7 x8 x9 x10 x11
    refine ⟨⟨?_, ?_, ?_, ?_, ?_, ?_, ?_, ?_, ?_, ?_, ?_, ?_, trivial⟩, ?_⟩
    -- 0: 8 := Op.move t0
    · intro w hw  K hK; go_simp; exact hK _ _ (Le.refl _) (IsD.mk _ _ _)
    -- 1: 9 := Op.nilCheck t8
    · intro w hw h0 K hK; cases h0; go_simp; exact hK _ _ (Le.refl _) (IsD.mk _ _ _)
    -- 2: 10 := Op.fieldAddr 250 t9 0
    · intro w hw h1 K hK; cases h1; go_simp; exact hK _ _ (Le.refl _) (IsD.mk _ _ _)
    -- 3: 11 := Op.load 248 t10
    · intro w hw h2 K hK; cases h2; have k0 : w.cell? ⟨Q, 0, none⟩ = some (.slice (some ⟨A, 0, none⟩) 4 4) := cell_block ((hle0.trans hw).heap HH2.out.hQ) 0; go_simp; exact hK _ _ (Le.refl _) (IsD.mk _ _ _)
    -- 4: 12 := Op.move t0
    · intro w hw  K hK; go_simp; exact hK _ _ (Le.refl _) (IsD.mk _ _ _)
    -- 5: 13 := Op.move t0
    · intro w hw  K hK; go_simp; exact hK _ _ (Le.refl _) (IsD.mk _ _ _)
    -- 6: 14 := Op.nilCheck t13
    · intro w hw h5 K hK; cases h5; go_simp; exact hK _ _ (Le.refl _) (IsD.mk _ _ _)
    -- 7: 15 := Op.fieldAddr 250 t14 2
    · intro w hw h6 K hK; cases h6; go_simp; exact hK _ _ (Le.refl _) (IsD.mk _ _ _)
    -- 8: 16 := Op.load 3 t15
    · intro w hw h7 K hK; cases h7; have k0 : w.cell? ⟨Q, 2, none⟩ = some (.int .i64 0) := cell_block ((hle0.trans hw).heap HH2.out.hQ) 2; go_simp; exact hK _ _ (Le.refl _) (IsD.mk _ _ _)
    -- 9: 17 := Op.call { value (Operand.func 127), args := #[t12, t16], argTypes := #[155, 3] }
    · intro w hw h4 h8 K hK; cases h4; cases h8; go_simp; refine (callPlace (HH2.out.le (hle0.trans hw)).hQ (by omega) 0 0 (by omega) rfl).mono ?_; rintro r w' ⟨rfl, hb⟩; exact hK _ _ ⟨hb⟩ (IsD.mk _ _ _)
    -- 10: 18 := Op.load 158 t3
    · intro w hw  K hK; refine cast (if_pos (show Region.wanted _ _ = true from rfl)).symm ?_; refine wp_load_blk 158 (.tmp 3) rfl (cs := [.int .i64 m, .slice A1 n1 c1]) _ rfl Tryz.underlying158 rfl (by kernel_rfl) ((hle0.trans hw).heap HX2.out) ?_; exact hK _ _ (Le.refl _) (IsD.mk _ _ _)
    -- 11: 19 := Op.indexAddr 248 t11 t17
    · intro w hw h3 h9 K hK; cases h3; cases h9; go_simp; exact hK _ _ (Le.refl _) (IsD.mk _ _ _)
    · intro wz hz h0 h1 h2 h3 h4 h5 h6 h7 h8 h9 h10 h11; cases h0; cases h1; cases h2; cases h3; cases h4; cases h5; cases h6; cases h7; cases h8; cases h9; cases h10; cases h11; skip
      have hz2 := hle0.trans hz
      have HH3 := hide (HH2.out.le hz2)
      have HL3 := hide (HL2.out.trans hz2)
      clear HH HH2 HL2 HX2 hz hz2 hle0
      go_wp2_with (refine wpl_store_in rfl 158 (.tmp 19) (.tmp 18) rfl [] (cs := [.int .i64 m, .slice A1 n1 c1]) (old := [.int .i64 0, .slice none 0 0]) (post := [.int .i64 0, .slice none 0 0, .int .i64 0, .slice none 0 0, .int .i64 0, .slice none 0 0]) rfl rfl (by kernel_rfl) (by simp [Value.oneCell']) HH3.out.hA rfl ?_; intro w4 h4 hg4; have HH4 := hide (HH3.out.row (ring' := ring1 m (.slice A1 n1 c1)) hg4 h4); have HK4 := hide (HH3.out.row_kx hg4); have HG4 := hide hg4; have z4 : w4.cell? ⟨Q, 2, none⟩ = some (.int .i64 0) := cell_block HH4.out.hQ 2; have z5 := free_block HH4.out.hQ 2; clear h4 hg4)
      go_ret
      have hQ5 := heap_set (i := 2) (.int .i64 1) HH4.out.hQ
      refine ⟨rfl, HH4.out.queue (grown_set _) hQ5, ((KX.of HL3.out).trans HK4.out).trans (HH4.out.queue_kx (grown_set _)), ?_⟩
      exact (below_row (HL3.out.out.mono HS.out) HG4.out HH3.out.sA (Nat.le_trans HS.out HL3.out.size)).setCell HH4.out.sQ _
/-- what is known behind Call -/
def Called (s : Nat) (w : World) (B a p b C A Q : Nat) (ws ev : Value) (k : Nat) (xs : List Value) (m : Int) (l : List UInt8) (e : Ending) (w' : World) : Prop := ∃ A2 c2, e = .returned (.bool true) ∧ Sfu s w' B a p b C A Q ws ev k xs (ring1 m (.slice A2 l.length c2)) 0 1 ∧ D8 w' l (.slice A2 l.length c2) ∧ KX w w' ∧ Below s w w'

set_option maxRecDepth 100000 in
set_option maxHeartbeats 4000000 in
theorem ctlCall {s : Nat} {w : World} {B a p b C A Q : Nat} {ws ev : Value} {k : Nat} {xs : List Value} (h : Sfu s w B a p b C A Q ws ev k xs ring0 0 0) (hs : s ≤ w.heap.size) (m : Int) (l : List UInt8) (A1 : Option Addr) (n1 c1 : Nat) (hl : l.length ≤ 1000000) (hr : RSl 1 RU8 w l (.slice A1 n1 c1)) :
    Calls Tryz.prog 54 #[.pointer (some ⟨C, 0, none⟩), .int .i64 m, .slice A1 n1 c1] w (Called s w B a p b C A Q ws ev k xs m l) := by
  obtain ⟨cs, hC, hC11⟩ := h.hC
  have HH := hide h
  have HS := hide hs
  have HCC := hide hC
  have HR := hide hr
  have HC11 := hide hC11
  clear h hs hC hr hC11
  go_enter Tryz.func54, Tryz.ntmps54
  go_upto_region 1 with fail
  have hle0 := (Le.refl w).drew
  refine' wp_region_tailD 11 11 7 Le (IsD _ :: IsD _ :: IsD _ :: IsD _ :: IsD _ :: IsD _ :: IsD _ :: IsD _ :: IsD _ :: (fun _ v W => ∃ A2 c2, v = .slice A2 l.length c2 ∧ Hd (D8 W l v)) :: (fun us v _ => v = .agg #[.int .i64 m, (us[2]?).getD undef]) :: []) ([] :: [0] :: [1] :: [2] :: [2, 3] :: [2, 4] :: [2, 5] :: [2] :: [2] :: [2, 8] :: [2, 7, 9] :: []) (by kernel_rfl) (by kernel_rfl) (by rfl) (by kernel_rfl) (by kernel_rfl) Le.refl (fun _ _ _ h h' => h.trans h') ⟨StD.is, StD.is, StD.is, StD.is, StD.is, StD.is, StD.is, StD.is, StD.is, (fun _ _ _ _ h ⟨A2, c2, e1, e2⟩ => ⟨A2, c2, e1, hide (e2.out.keep h.out)⟩), (fun _ _ _ _ _ h => h), trivial⟩ ?m1
  case m1 =>
    simp (maxSteps := 100000000) only [AllV, OblD, LeansD, factAtD, allFactsD, depV, actOf, putAll, putRow, List.set_cons_succ, List.set_cons_zero, List.map_cons, List.getElem?_cons_zero, List.getElem?_cons_succ, Option.getD_some, List.map_nil, List.take_succ_cons, List.take_zero, List.drop_succ_cons, List.drop_zero, List.cons_append, List.nil_append, List.length_cons, List.length_nil, Nat.reduceAdd]
    intro x0 x1 x2 x3 x4 x5 x6 x7 x8 x9 x10
    refine ⟨⟨?_, ?_, ?_, ?_, ?_, ?_, ?_, ?_, ?_, ?_, ?_, trivial⟩, ?_⟩
    -- 0: 7 := Op.move t0
    · intro w hw  K hK; go_simp; exact hK _ _ (Le.refl _) (IsD.mk _ _ _)
    -- 1: 8 := Op.binOp BinOp.neq 103 t7 (const (Value.pointer none)) 103
    · intro w hw h0 K hK; cases h0; go_simp; exact hK _ _ (Le.refl _) (IsD.mk _ _ _)
    -- 2: 9 := Op.move t8
    · intro w hw h1 K hK; cases h1; go_simp; exact hK _ _ (Le.refl _) (IsD.mk _ _ _)
    -- 3: 10 := Op.move t0   [guarded: some (2, true)]
    · intro w hw h2 K hK; cases h2; go_simp; exact hK _ _ (Le.refl _) (IsD.mk _ _ _)
    -- 4: 11 := Op.nilCheck t10   [guarded: some (2, true)]
    · intro w hw h2 h3 K hK; cases h2; cases h3; go_simp; exact hK _ _ (Le.refl _) (IsD.mk _ _ _)
    -- 5: 12 := Op.fieldAddr 173 t11 4   [guarded: some (2, true)]
    · intro w hw h2 h4 K hK; cases h2; cases h4; go_simp; exact hK _ _ (Le.refl _) (IsD.mk _ _ _)
    -- 6: 13 := Op.load 155 t12   [guarded: some (2, true)]
    · intro w hw h2 h5 K hK; cases h2; cases h5; have k0 : w.cell? ⟨C, 11, none⟩ = some (.pointer (some ⟨Q, 0, none⟩)) := (cell_block ((hle0.trans hw).heap HCC.out) 11).trans HC11.out; go_simp; exact hK _ _ (Le.refl _) (IsD.mk _ _ _)
    -- 7: 14 := Op.move t1   [guarded: some (2, true)]
    · intro w hw h2 K hK; cases h2; go_simp; exact hK _ _ (Le.refl _) (IsD.mk _ _ _)
    -- 8: 15 := Op.move t2   [guarded: some (2, true)]
    · intro w hw h2 K hK; cases h2; go_simp; exact hK _ _ (Le.refl _) (IsD.mk _ _ _)
    -- 9: 16 := Op.call { value (Operand.func 53), args := #[t15], argTypes := #[25] }   [guarded: some (2, true)]
    · intro w hw h2 h8 K hK; cases h2; cases h8; go_simp; refine (clone_any w A1 n1 c1 l ((hle0.trans hw).rsl keeps_u8 HR.out) (by omega)).mono ?_; rintro r w' ⟨v, rfl, ho, hb⟩; obtain ⟨A2, c2, rfl, _, _⟩ := own_slice ho; exact hK _ _ ⟨hb⟩ ⟨A2, c2, rfl, hide (d8_own ho)⟩
    -- 10: 17 := Op.build 158 #[(0, t14), (1, t16)]   [guarded: some (2, true)]
    · intro w hw h2 h7 h9 K hK; cases h2; cases h7; obtain ⟨A2, c2, rfl, HD9⟩ := h9; go_simp; exact hK _ _ (Le.refl _) rfl
    · intro wz hz h0 h1 h2 h3 h4 h5 h6 h7 h8 h9 h10; cases h0; cases h1; cases h2; cases h3; cases h4; cases h5; cases h6; cases h7; cases h8; obtain ⟨A2, c2, rfl, HD9⟩ := h9; obtain rfl := h10; skip
      have hz2 := hle0.trans hz
      have HZ := hide hz2
      go_wp2_with (go_at_call 88; refine (callPush (HH.out.le HZ.out) (Nat.le_trans HS.out HZ.out.size) m A2 l.length c2).mono ?_; rintro r w4 ⟨rfl, hS4, hK4, hB4⟩; have H4 := hide (And.intro hS4 (And.intro hK4 hB4)); clear hS4 hK4 hB4)
      go_ret
      exact ⟨A2, c2, rfl, H4.out.1, (HD9.out.kx H4.out.2.1), (KX.of HZ.out).trans H4.out.2.1, (HZ.out.out.mono HS.out).trans H4.out.2.2⟩
end Go.Proofs.YtkcpfhbfjpldhaaGreatDoor

/- awake24: Ask; the queue of calls gives back. (Written by gen_awkg.py.) -/
namespace Go.Proofs.YtkcpfhbfjpldhaaGreatDoor
open Go.RowKit
set_option linter.unusedVariables false

/-- what is known behind Ask -/
def Asked (s : Nat) (w : World) (B a p b C A Q : Nat) (ws : Value) (l : List UInt8) (e : Ending) (w' : World) : Prop := e = .returned (.tuple #[]) ∧ ∃ ev A1 c1 A2 c2, Sfu s w' B a p b C A Q ws ev 1 (evC 0 0 0 0 (.slice A1 l.length c1)) (ring1 0 (.slice A2 l.length c2)) 0 1 ∧ D8 w' l (.slice A1 l.length c1) ∧ D8 w' l (.slice A2 l.length c2) ∧ KX w w' ∧ Below s w w'

set_option maxRecDepth 100000 in
set_option maxHeartbeats 4000000 in
theorem ask_any {s : Nat} {w : World} {B a p b C A Q : Nat} {ws ev : Value} (h : Sfu s w B a p b C A Q ws ev 0 [] ring0 0 0) (hs : s ≤ w.heap.size) (l : List UInt8) (A0 : Option Addr) (n0 c0 : Nat) (hl : l.length ≤ 1000000) (hd : D8 w l (.slice A0 n0 c0)) :
    Calls Tryz.prog 24 #[.pointer (some ⟨B, 0, none⟩), .slice A0 n0 c0] w (Asked s w B a p b C A Q ws l) := by
  have HH := hide h
  have HS := hide hs
  have HD := hide hd
  clear h hs hd
  go_enter Tryz.func24, Tryz.ntmps24
  go_wp2_with fail
  refine (clone_any w A0 n0 c0 l HD.out.rsl (by omega)).mono ?_
  rintro r w1 ⟨v, rfl, ho, hb⟩
  obtain ⟨A1, c1, rfl, _, _⟩ := own_slice ho
  have HO := hide (d8_own ho)
  have HL := hide (Le.mk hb)
  clear ho hb
  go_wp2_with fail
  refine (happens_any (HH.out.le HL.out) (Nat.le_trans HS.out HL.out.size) (by omega) 0 0 0 0 A1 l.length c1).mono ?_
  rintro r w2 ⟨rfl, ev2, hS2, hK2, hB2⟩
  have H2 := hide (And.intro hS2 (And.intro ((KX.of HL.out).trans hK2) ((HL.out.out.mono HS.out).trans hB2)))
  have HK2 := hide hK2
  have z4 : w2.cell? ⟨B, 14, none⟩ = some (.pointer (some ⟨C, 0, none⟩)) := cell_block hS2.hB 14
  clear hS2 hK2 hB2
  go_wp2_with fail
  have hs2 : s ≤ w2.heap.size := Nat.le_trans HS.out H2.out.2.2.size
  refine (ctlCall H2.out.1 hs2 0 l A0 n0 c0 hl (HD.out.kx H2.out.2.1).rsl).mono ?_
  rintro r w3 ⟨A2, c2, rfl, hS3, hD3, hK3, hB3⟩
  have H3 := hide (And.intro hS3 (And.intro hD3 (And.intro hK3 hB3)))
  clear hS3 hD3 hK3 hB3 z4
  go_wp2_with fail
  go_end0
  exact ⟨rfl, _, A1, c1, A2, c2, H3.out.1, (HO.out.kx HK2.out).kx H3.out.2.2.1, H3.out.2.1, H2.out.2.1.trans H3.out.2.2.1, H2.out.2.2.trans H3.out.2.2.2⟩

set_option maxRecDepth 100000 in
set_option maxHeartbeats 4000000 in
theorem callPeek {s : Nat} {w : World} {B a p b C A Q : Nat} {ws ev : Value} {k : Nat} {xs : List Value} {m : Int} {A2 : Option Addr} {n2 c2 : Nat} (h : Sfu s w B a p b C A Q ws ev k xs (ring1 m (.slice A2 n2 c2)) 0 1) :
    Calls Tryz.prog 147 #[.pointer (some ⟨Q, 0, none⟩)] w (Gives w (.tuple #[.agg #[.int .i64 m, .slice A2 n2 c2], .bool true])) := by
  have HH := hide h
  clear h
  go_enter Tryz.func147, Tryz.ntmps147
  go_wp2_with fail
  have hx := heap_alloc_new w (.cells #[.int .i64 0, .slice none 0 0] 158)
  have hl1 := (Le.refl w).alloc (.cells #[.int .i64 0, .slice none 0 0] 158)
  have HX := hide hx
  have HL := hide hl1
  have HG := hide (Nat.le_refl w.heap.size)
  clear hx hl1
  generalize hgx : w.heap.size = gx at HX ⊢
  have HGX := hide hgx
  clear hgx
  generalize w.alloc _ = w1 at *
  refine (callLen (HH.out.le HL.out).hQ).mono ?_
  rintro r w2 ⟨rfl, hb2⟩
  have hl2 : Le w1 w2 := ⟨hb2⟩
  have HL2 := hide (HL.out.trans hl2)
  have HX2 := hide (hl2.heap HX.out)
  have HH2 := hide (HH.out.le HL2.out)
  clear HX HL hl2 hb2 HG
  go_upto_region 4 with fail
  have hle0 := (Le.refl w2).drew
  refine' wp_region_tailD 10 10 9 Le (IsD _ :: IsD _ :: IsD _ :: IsD _ :: IsD _ :: IsD _ :: IsD _ :: IsD _ :: IsD _ :: IsD _ :: []) ([] :: [0] :: [1] :: [2] :: [] :: [4] :: [5] :: [6] :: [3, 7] :: [8] :: []) (by kernel_rfl) (by kernel_rfl) (by rfl) (by kernel_rfl) (by kernel_rfl) Le.refl (fun _ _ _ h h' => h.trans h') ⟨StD.is, StD.is, StD.is, StD.is, StD.is, StD.is, StD.is, StD.is, StD.is, StD.is, trivial⟩ ?m4
  case m4 =>
    simp (maxSteps := 100000000) only [AllV, OblD, LeansD, factAtD, allFactsD, depV, actOf, putAll, putRow, List.set_cons_succ, List.set_cons_zero, List.map_cons, List.getElem?_cons_zero, List.getElem?_cons_succ, Option.getD_some, List.map_nil, List.take_succ_cons, List.take_zero, List.drop_succ_cons, List.drop_zero, List.cons_append, List.nil_append, List.length_cons, List.length_nil, Nat.reduceAdd]
    intro x0 x1 x2 x3 x4 x5 x6 x7 x8 x9
    refine ⟨⟨?_, ?_, ?_, ?_, ?_, ?_, ?_, ?_, ?_, ?_, trivial⟩, ?_⟩
    -- 0: 9 := Op.move t0
    · intro w hw  K hK; go_simp; exact hK _ _ (Le.refl _) (IsD.mk _ _ _)
    -- 1: 10 := Op.nilCheck t9
    · intro w hw h0 K hK; cases h0; go_simp; exact hK _ _ (Le.refl _) (IsD.mk _ _ _)
    -- 2: 11 := Op.fieldAddr 250 t10 0
    · intro w hw h1 K hK; cases h1; go_simp; exact hK _ _ (Le.refl _) (IsD.mk _ _ _)
    -- 3: 12 := Op.load 248 t11
    · intro w hw h2 K hK; cases h2; have k0 : w.cell? ⟨Q, 0, none⟩ = some (.slice (some ⟨A, 0, none⟩) 4 4) := cell_block ((hle0.trans hw).heap HH2.out.hQ) 0; go_simp; exact hK _ _ (Le.refl _) (IsD.mk _ _ _)
    -- 4: 13 := Op.move t0
    · intro w hw  K hK; go_simp; exact hK _ _ (Le.refl _) (IsD.mk _ _ _)
    -- 5: 14 := Op.nilCheck t13
    · intro w hw h4 K hK; cases h4; go_simp; exact hK _ _ (Le.refl _) (IsD.mk _ _ _)
    -- 6: 15 := Op.fieldAddr 250 t14 1
    · intro w hw h5 K hK; cases h5; go_simp; exact hK _ _ (Le.refl _) (IsD.mk _ _ _)
    -- 7: 16 := Op.load 3 t15
    · intro w hw h6 K hK; cases h6; have k0 : w.cell? ⟨Q, 1, none⟩ = some (.int .i64 0) := cell_block ((hle0.trans hw).heap HH2.out.hQ) 1; go_simp; exact hK _ _ (Le.refl _) (IsD.mk _ _ _)
    -- 8: 17 := Op.indexAddr 248 t12 t16
    · intro w hw h3 h7 K hK; cases h3; cases h7; go_simp; exact hK _ _ (Le.refl _) (IsD.mk _ _ _)
    -- 9: 18 := Op.load 158 t17
    · intro w hw h8 K hK; cases h8; refine cast (if_pos (show Region.wanted _ _ = true from rfl)).symm ?_; refine wp_load_in 158 (.tmp 17) rfl [] [.int .i64 m, .slice A2 n2 c2] [.int .i64 0, .slice none 0 0, .int .i64 0, .slice none 0 0, .int .i64 0, .slice none 0 0] _ rfl Tryz.underlying158 rfl (by kernel_rfl) ((hle0.trans hw).heap HH2.out.hA) ?_; exact hK _ _ (Le.refl _) (IsD.mk _ _ _)
    · intro wz hz h0 h1 h2 h3 h4 h5 h6 h7 h8 h9; cases h0; cases h1; cases h2; cases h3; cases h4; cases h5; cases h6; cases h7; cases h8; cases h9; skip
      have hz2 := hle0.trans hz
      have HXZ := hide (hz2.heap HX2.out)
      have HLZ := hide (HL2.out.trans hz2)
      go_wp2_with (refine wpl_store_blk rfl 158 (.tmp 2) (.tmp 18) (cs := [.int .i64 m, .slice A2 n2 c2]) (old := [.int .i64 0, .slice none 0 0]) rfl rfl rfl (by kernel_rfl) (by simp [Value.oneCell']) HXZ.out rfl ?_; intro w4 h4 hg4; have H4 := hide h4; have HG4 := hide hg4; clear h4 hg4)
      have r0 : w4.cell? ⟨gx, 0, none⟩ = some (.int .i64 m) := cell_block H4.out 0
      have r1 : w4.cell? ⟨gx, 1, none⟩ = some (.slice A2 n2 c2) := cell_block H4.out 1
      exact bodyPost_ret (v := .tuple #[.agg #[.int .i64 m, .slice A2 n2 c2], .bool true]) (by simp [results, Tryz.results147, go_sem, r0, r1]) rfl ⟨rfl, below_row HLZ.out.out HG4.out (Nat.le_of_eq HGX.out) HLZ.out.size⟩
end Go.Proofs.YtkcpfhbfjpldhaaGreatDoor

/- awake24: the queue of calls gives back. (Written by gen_awkh.py.) -/
namespace Go.Proofs.YtkcpfhbfjpldhaaGreatDoor
open Go.RowKit
set_option linter.unusedVariables false

theorem le_boxed {a b c : World} {g : Nat} (h : Le a b) (hg : b.grownBy c (some g)) (hs : a.heap.size ≤ g) : Le a c := ⟨below_row h.out hg hs h.size⟩
theorem Sfu.box {s : Nat} {w w2 : World} {B a p b C A Q : Nat} {ws ev : Value} {k : Nat} {xs ring : List Value} {f n g : Nat} {cs : Array Value} {fr : Nat × Nat} (h : Sfu s w B a p b C A Q ws ev k xs ring f n) (hg : w.grownBy w2 (some g)) (hk : w.heap[g]? = some (.cells cs 158 fr)) (hne : g ≠ A) : Sfu s w2 B a p b C A Q ws ev k xs ring f n := by
  obtain ⟨h1, h2, h3, h4, ⟨cs, h5, h6⟩, h7, h8, h9⟩ := h
  have ne : ∀ {g' cs t fr}, w.heap[g']? = some (.cells cs t fr) → t ≠ 158 → some g ≠ some g' := fun hh hn e => by
    injection e with e
    exact blk_ne' hh hk hn e.symm
  exact ⟨h1, h2, h3, heap_grown hg h4 (ne h4 (by decide)), ⟨cs, heap_grown hg h5 (ne h5 (by decide)), h6⟩, heap_grown hg h7 (fun e => by injection e with e; exact hne e), heap_grown hg h8 (ne h8 (by decide)), h9.kept hg (Or.inr (own_ne h9 hk (by decide)))⟩
theorem kx_box {w w2 : World} {g : Nat} {cs : Array Value} {fr : Nat × Nat} (hg : w.grownBy w2 (some g)) (hk : w.heap[g]? = some (.cells cs 158 fr)) : KX w w2 := fun g' cs t fr hh t1 t2 t3 t4 => heap_grown hg hh (fun e => by
  injection e with e
  exact blk_ne' hh hk t3 e.symm)

set_option maxRecDepth 100000 in
set_option maxHeartbeats 4000000 in
theorem callPop {s : Nat} {w : World} {B a p b C A Q : Nat} {ws ev : Value} {k : Nat} {xs : List Value} {m : Int} {A2 : Option Addr} {n2 c2 : Nat} (h : Sfu s w B a p b C A Q ws ev k xs (ring1 m (.slice A2 n2 c2)) 0 1) (hs : s ≤ w.heap.size) :
    Calls Tryz.prog 102 #[.pointer (some ⟨Q, 0, none⟩)] w (fun e w' => e = .returned (.tuple #[.agg #[.int .i64 m, .slice A2 n2 c2], .bool true]) ∧ Sfu s w' B a p b C A Q ws ev k xs ring0 1 0 ∧ KX w w' ∧ Below s w w') := by
  have HA0 := hide (lt_of_heap h.hA)
  have HH := hide h
  have HS := hide hs
  clear h hs
  go_enter Tryz.func102, Tryz.ntmps102
  go_wp2_with fail
  have hx := heap_alloc_new w (.cells #[.int .i64 0, .slice none 0 0] 158)
  have hl1 := (Le.refl w).alloc (.cells #[.int .i64 0, .slice none 0 0] 158)
  have HX := hide hx
  have HL := hide hl1
  clear hx hl1
  generalize hgx : w.heap.size = gx at HX ⊢
  have HGX := hide hgx
  clear hgx
  generalize w.alloc _ = w1 at *
  refine (callPeek (HH.out.le HL.out)).mono ?_
  rintro r w2 ⟨rfl, hb2⟩
  have hl2 : Le w1 w2 := ⟨hb2⟩
  have HL2 := hide (HL.out.trans hl2)
  have HX2 := hide (hl2.heap HX.out)
  clear HX HL hl2 hb2
  go_wp2_with (refine wpl_store_blk rfl 158 (.tmp 4) (.tmp 10) (cs := [.int .i64 m, .slice A2 n2 c2]) (old := [.int .i64 0, .slice none 0 0]) rfl rfl rfl (by kernel_rfl) (by simp [Value.oneCell']) (heap_alloc_new w2 _) rfl ?_; intro w3 h3 hg3; have H3 := hide (And.intro h3 (le_boxed ((Le.refl w2).alloc _) hg3 (Nat.le_refl _))); clear h3 hg3)
  go_upto_region 4 with fail
  have hx6 := heap_alloc_new w3 (.cells #[.int .i64 0, .slice none 0 0] 158)
  have hl6 := (Le.refl w3).alloc (.cells #[.int .i64 0, .slice none 0 0] 158)
  generalize hg4 : w2.heap.size = g4 at *
  generalize hg6 : w3.heap.size = g6 at *
  generalize w3.alloc _ = w4 at *
  have HN := hide (show gx ≠ A ∧ g4 ≠ A ∧ g4 ≠ gx from ⟨by have h1 := HGX.out; have h2 := HA0.out; omega, by have h2 := HA0.out; have h3 := HL2.out.size; omega, by have h1 := lt_of_heap HX2.out; omega⟩)
  have HL4 := hide (HL2.out.trans (H3.out.2.trans hl6))
  have HX4 := hide ((H3.out.2.trans hl6).heap HX2.out)
  have HY4 := hide (hl6.heap H3.out.1)
  have HZ4 := hide hx6
  have HH4 := hide (HH.out.le HL4.out)
  clear HL2 HX2 H3 hx6 hl6 hg4 hg6
  have hle0 := (Le.refl w4).drew
  refine' wp_region_tailD 10 10 13 Le (IsD _ :: IsD _ :: IsD _ :: IsD _ :: IsD _ :: IsD _ :: IsD _ :: IsD _ :: IsD _ :: IsD _ :: []) ([] :: [0] :: [1] :: [2] :: [] :: [4] :: [5] :: [6] :: [] :: [3, 7] :: []) (by kernel_rfl) (by kernel_rfl) (by rfl) (by kernel_rfl) (by kernel_rfl) Le.refl (fun _ _ _ h h' => h.trans h') ⟨StD.is, StD.is, StD.is, StD.is, StD.is, StD.is, StD.is, StD.is, StD.is, StD.is, trivial⟩ ?m4
  case m4 =>
    simp (maxSteps := 100000000) only [AllV, OblD, LeansD, factAtD, allFactsD, depV, actOf, putAll, putRow, List.set_cons_succ, List.set_cons_zero, List.map_cons, List.getElem?_cons_zero, List.getElem?_cons_succ, Option.getD_some, List.map_nil, List.take_succ_cons, List.take_zero, List.drop_succ_cons, List.drop_zero, List.cons_append, List.nil_append, List.length_cons, List.length_nil, Nat.reduceAdd]
    intro x0 x1 x2 x3 x4 x5 x6 x7 x8 x9
    refine ⟨⟨?_, ?_, ?_, ?_, ?_, ?_, ?_, ?_, ?_, ?_, trivial⟩, ?_⟩
    -- 0: 13 := Op.move t0
    · intro w hw  K hK; go_simp; exact hK _ _ (Le.refl _) (IsD.mk _ _ _)
    -- 1: 14 := Op.nilCheck t13
    · intro w hw h0 K hK; cases h0; go_simp; exact hK _ _ (Le.refl _) (IsD.mk _ _ _)
    -- 2: 15 := Op.fieldAddr 250 t14 0
    · intro w hw h1 K hK; cases h1; go_simp; exact hK _ _ (Le.refl _) (IsD.mk _ _ _)
    -- 3: 16 := Op.load 248 t15
    · intro w hw h2 K hK; cases h2; have k0 : w.cell? ⟨Q, 0, none⟩ = some (.slice (some ⟨A, 0, none⟩) 4 4) := cell_block ((hle0.trans hw).heap HH4.out.hQ) 0; go_simp; exact hK _ _ (Le.refl _) (IsD.mk _ _ _)
    -- 4: 17 := Op.move t0
    · intro w hw  K hK; go_simp; exact hK _ _ (Le.refl _) (IsD.mk _ _ _)
    -- 5: 18 := Op.nilCheck t17
    · intro w hw h4 K hK; cases h4; go_simp; exact hK _ _ (Le.refl _) (IsD.mk _ _ _)
    -- 6: 19 := Op.fieldAddr 250 t18 1
    · intro w hw h5 K hK; cases h5; go_simp; exact hK _ _ (Le.refl _) (IsD.mk _ _ _)
    -- 7: 20 := Op.load 3 t19
    · intro w hw h6 K hK; cases h6; have k0 : w.cell? ⟨Q, 1, none⟩ = some (.int .i64 0) := cell_block ((hle0.trans hw).heap HH4.out.hQ) 1; go_simp; exact hK _ _ (Le.refl _) (IsD.mk _ _ _)
    -- 8: 21 := Op.load 158 t6
    · intro w hw  K hK; refine cast (if_pos (show Region.wanted _ _ = true from rfl)).symm ?_; refine wp_load_blk 158 (.tmp 6) rfl (cs := [.int .i64 0, .slice none 0 0]) _ rfl Tryz.underlying158 rfl (by kernel_rfl) ((hle0.trans hw).heap HZ4.out) ?_; exact hK _ _ (Le.refl _) (IsD.mk _ _ _)
    -- 9: 22 := Op.indexAddr 248 t16 t20
    · intro w hw h3 h7 K hK; cases h3; cases h7; go_simp; exact hK _ _ (Le.refl _) (IsD.mk _ _ _)
    · intro wz hz h0 h1 h2 h3 h4 h5 h6 h7 h8 h9; cases h0; cases h1; cases h2; cases h3; cases h4; cases h5; cases h6; cases h7; cases h8; cases h9; skip
      have hz2 := hle0.trans hz
      have HHZ := hide (HH4.out.le hz2)
      have HXZ := hide (hz2.heap HX4.out)
      have HYZ := hide (hz2.heap HY4.out)
      have HLZ := hide (HL4.out.trans hz2)
      go_wp2_with (refine wpl_store_in rfl 158 (.tmp 22) (.tmp 21) rfl [] (cs := [.int .i64 0, .slice none 0 0]) (old := [.int .i64 m, .slice A2 n2 c2]) (post := [.int .i64 0, .slice none 0 0, .int .i64 0, .slice none 0 0, .int .i64 0, .slice none 0 0]) rfl rfl (by kernel_rfl) (by simp [Value.oneCell']) HHZ.out.hA rfl ?_; intro w5 h5 hg5; have HH5 := hide (HHZ.out.row (ring' := ring0) hg5 h5); have HK5 := hide (HHZ.out.row_kx hg5); have HG5 := hide hg5; clear h5 hg5)
      refine (callPlace HH5.out.hQ (by omega) 1 1 (by omega) rfl).mono ?_
      rintro r w6 ⟨rfl, hb6⟩
      have HL6 := hide (Le.mk hb6)
      have HH6 := hide (HH5.out.le HL6.out)
      have HX6 := hide (HL6.out.heap (heap_grown HG5.out HXZ.out (fun e => by injection e with e; exact HN.out.1 e.symm)))
      have HY6 := hide (HL6.out.heap (heap_grown HG5.out HYZ.out (fun e => by injection e with e; exact HN.out.2.1 e.symm)))
      have HK6 := hide (((KX.of HLZ.out).trans HK5.out).le HL6.out)
      have HB6 := hide ((below_row (HLZ.out.out.mono HS.out) HG5.out HHZ.out.sA (Nat.le_trans HS.out HLZ.out.size)).trans (HL6.out.out.mono (Nat.le_trans HS.out (Nat.le_trans HLZ.out.size HG5.out.size))))
      have z1 : w6.cell? ⟨Q, 1, none⟩ = some (.int .i64 0) := cell_block HH6.out.hQ 1
      have z2 : w6.cell? ⟨Q, 2, none⟩ = some (.int .i64 1) := cell_block HH6.out.hQ 2
      have z3 := free_block HH6.out.hQ 1
      have z4 := free_block HH6.out.hQ 2
      clear hb6 HL6 HK5 HG5 HXZ HYZ HLZ HH5 HHZ
      go_upto_region 7 with fail
      have hQ7 := heap_set (i := 2) (.int .i64 0) (heap_set (i := 1) (.int .i64 1) HH6.out.hQ)
      have hS7 := (HH6.out.queue (f' := 1) (n' := 1) (grown_set _) (heap_set (i := 1) (.int .i64 1) HH6.out.hQ)).queue (f' := 1) (n' := 0) (grown_set _) hQ7
      have hk7 := (HK6.out.trans (HH6.out.queue_kx (grown_set (i := 1) (.int .i64 1)))).trans ((HH6.out.queue (f' := 1) (n' := 1) (grown_set _) (heap_set (i := 1) (.int .i64 1) HH6.out.hQ)).queue_kx (grown_set (i := 2) (.int .i64 0)))
      have hb7 := (HB6.out.setCell (p := ⟨Q, 1, none⟩) HH6.out.sQ (.int .i64 1)).setCell (p := ⟨Q, 2, none⟩) HH6.out.sQ (.int .i64 0)
      have hx7 := heap_far (i := 2) (.int .i64 0) (heap_far (i := 1) (.int .i64 1) HX6.out (blk_ne' HX6.out HH6.out.hQ (by decide))) (blk_ne' HX6.out HH6.out.hQ (by decide))
      have hy7 := heap_far (i := 2) (.int .i64 0) (heap_far (i := 1) (.int .i64 1) HY6.out (blk_ne' HY6.out HH6.out.hQ (by decide))) (blk_ne' HY6.out HH6.out.hQ (by decide))
      have HS7 := hide hS7
      have HF7 := hide (And.intro hk7 hb7)
      have HX7 := hide hx7
      have HY7 := hide hy7
      clear z1 z2 z3 z4 hQ7 hS7 hk7 hb7 hx7 hy7 HH6 HX6 HY6 HK6 HB6
      generalize World.setCell _ _ _ = w7 at *
      go_wp2_with (first
        | (refine wpl_load_blk rfl 158 (.tmp 4) rfl (cs := [.int .i64 m, .slice A2 n2 c2]) _ rfl Tryz.underlying158 rfl (by kernel_rfl) HY7.out ?_)
        | (refine wpl_store_blk rfl 158 (.tmp 2) (.tmp 35) (cs := [.int .i64 m, .slice A2 n2 c2]) (old := [.int .i64 0, .slice none 0 0]) rfl rfl rfl (by kernel_rfl) (by simp [Value.oneCell']) HX7.out rfl ?_; intro w8 h8 hg8; have H8 := hide h8; have HG8 := hide hg8; clear h8 hg8))
      have r0 : w8.cell? ⟨gx, 0, none⟩ = some (.int .i64 m) := cell_block H8.out 0
      have r1 : w8.cell? ⟨gx, 1, none⟩ = some (.slice A2 n2 c2) := cell_block H8.out 1
      exact bodyPost_ret (v := .tuple #[.agg #[.int .i64 m, .slice A2 n2 c2], .bool true]) (by simp [results, Tryz.results102, go_sem, r0, r1]) rfl ⟨rfl, HS7.out.box HG8.out HX7.out HN.out.1, HF7.out.1.trans (kx_box HG8.out HX7.out), below_row HF7.out.2 HG8.out (by rw [← HGX.out]; exact HS.out) (Nat.le_trans HS.out HF7.out.2.size)⟩
end Go.Proofs.YtkcpfhbfjpldhaaGreatDoor

/- The reference of layer 1, function by function. -/
namespace Go.Proofs.YtkcpfhbfjpldhaaGreatDoor
open Go.RowKit
set_option linter.unusedVariables false


/-- the pair that the reference gives -/
def cutV (c : List UInt8 × Int × List UInt8) : Value := .tuple #[.agg #[.string (str c.1), .int .i64 c.2.1], .string (str c.2.2)]

/-- a number taken, as the reference gives it -/
def numV (c : List UInt8 × Int × List UInt8) : Value := .tuple #[.agg #[.string (str c.1), .int .i64 c.2.1], .int .u64 (val c.2.2)]

theorem mayB_and (n : Int) : mayB n = (decide (1 ≤ n) && decide (n ≤ 8)) := rfl

end Go.Proofs.YtkcpfhbfjpldhaaGreatDoor

/- Layer 1: the document's example. -/
namespace Go.Proofs.YtkcpfhbfjpldhaaGreatDoor
open Go.RowKit
set_option linter.unusedVariables false

def RStep : Rd (Bool × Int) := fun _ p cs => cs = [.bool p.1, .int .i64 p.2] ∧ -9223372036854775808 ≤ p.2 ∧ p.2 ≤ 9223372036854775807
theorem keeps_step : Keeps RStep := fun _ _ _ _ h _ => h

end Go.Proofs.YtkcpfhbfjpldhaaGreatDoor

/- Requests as bytes, in plain lists. No program stands here. -/
namespace Go.Proofs.YtkcpfhbfjpldhaaGreatDoor
open Go.RowKit
set_option linter.unusedVariables false

structure Rq where
  kind : Int
  who : Int
  room : Int
  rights : Int
  track : Int
  layer : Int
  tid : Int
  ssrcs : List Nat

def fitB (x : Int) (m : Int) : Bool := decide (0 ≤ x) && decide (x < m)
def Rq.ok (q : Rq) : Bool := fitB q.kind 10 && fitB q.who 65536 && fitB q.room 256 && fitB q.rights 256 && fitB q.track 65536 && fitB q.layer 256 && fitB q.tid 256 && decide (q.ssrcs.length ≤ 255)
def Rq.head (id : Nat) (q : Rq) : List (Nat × Int) :=
  [(id, 8), (q.kind.toNat, 1), (q.who.toNat, 2), (q.room.toNat, 1), (q.rights.toNat, 1), (q.track.toNat, 2), (q.layer.toNat, 1), (q.tid.toNat, 1), (q.ssrcs.length, 1)]
def tailP (l : List Nat) : List (Nat × Int) := l.map fun s => (s, 4)
def Rq.bytes (id : Nat) (q : Rq) : List UInt8 := puts (q.head id ++ tailP q.ssrcs)
def Rq.put (id : Nat) (q : Rq) : List UInt8 := if q.ok then q.bytes id else []
def Rq.err (q : Rq) : Int := if q.ok then 0 else 1

theorem ok_parts {q : Rq} (h : q.ok = true) : (0 ≤ q.kind ∧ q.kind ≤ 9) ∧ (0 ≤ q.who ∧ q.who < 65536) ∧ (0 ≤ q.room ∧ q.room < 256) ∧ (0 ≤ q.rights ∧ q.rights < 256) ∧ (0 ≤ q.track ∧ q.track < 65536) ∧ (0 ≤ q.layer ∧ q.layer < 256) ∧ (0 ≤ q.tid ∧ q.tid < 256) ∧ q.ssrcs.length ≤ 255 := by
  simp only [Rq.ok, fitB, Bool.and_eq_true, decide_eq_true_eq] at h
  omega

theorem ok_mk {q : Rq} (h : (0 ≤ q.kind ∧ q.kind ≤ 9) ∧ (0 ≤ q.who ∧ q.who < 65536) ∧ (0 ≤ q.room ∧ q.room < 256) ∧ (0 ≤ q.rights ∧ q.rights < 256) ∧ (0 ≤ q.track ∧ q.track < 65536) ∧ (0 ≤ q.layer ∧ q.layer < 256) ∧ (0 ≤ q.tid ∧ q.tid < 256) ∧ q.ssrcs.length ≤ 255) : q.ok = true := by
  simp only [Rq.ok, fitB, Bool.and_eq_true, decide_eq_true_eq]
  omega
theorem tail_take (l : List Nat) (k : Nat) (h : k < l.length) : tailP (l.take (k + 1)) = tailP (l.take k) ++ [(l[k], 4)] := by
  rw [tailP, tailP, List.take_succ_eq_append_getElem h, List.map_append]; rfl
theorem tail_length (l : List Nat) : (tailP l).length = l.length := by simp [tailP]

/-- numbers taken one behind the other: what is left, and what went wrong -/
def stp (s : List UInt8 × Int) (n : Int) : List UInt8 × Int := ((cut s.1 s.2 n (mayB n)).1, (cut s.1 s.2 n (mayB n)).2.1)
def nm (s : List UInt8 × Int) (n : Int) : Nat := val (cut s.1 s.2 n (mayB n)).2.2
def stps (s : List UInt8 × Int) : Nat → List UInt8 × Int
  | 0 => s
  | k + 1 => stp (stps s k) 4
def q1 (l : List UInt8) := stp (l, 0) 8
def q2 (l : List UInt8) := stp (q1 l) 1
def q3 (l : List UInt8) := stp (q2 l) 2
def q4 (l : List UInt8) := stp (q3 l) 1
def q5 (l : List UInt8) := stp (q4 l) 1
def q6 (l : List UInt8) := stp (q5 l) 2
def q7 (l : List UInt8) := stp (q6 l) 1
def q8 (l : List UInt8) := stp (q7 l) 1
def q9 (l : List UInt8) := stp (q8 l) 1
theorem stp_len (s : List UInt8 × Int) (n : Int) : (stp s n).1.length ≤ s.1.length := cut_left _ _ _ _
theorem nm_lt (s : List UInt8 × Int) (n : Nat) (h : n ≤ 8) : nm s n < 256 ^ n := by
  unfold nm cut
  have h0 : 0 < 256 ^ n := Nat.pow_pos (by omega)
  repeat' split
  all_goals simp only [val, List.foldl_nil]
  all_goals try exact h0
  rename_i h1 h2 h3
  have := val_lt (s.1.take (n : Int).toNat)
  refine Nat.lt_of_lt_of_le this (Nat.pow_le_pow_right (by omega) ?_)
  simp; omega
/-- the request that is read, whatever went wrong -/
def rq (l : List UInt8) : Rq := { kind := nm (q1 l) 1, who := nm (q2 l) 2, room := nm (q3 l) 1, rights := nm (q4 l) 1, track := nm (q5 l) 2, layer := nm (q6 l) 1, tid := nm (q7 l) 1, ssrcs := (List.range (nm (q8 l) 1)).map fun k => nm (stps (q9 l) k) 4 }
def rqEnd (l : List UInt8) : List UInt8 × Int := stps (q9 l) (nm (q8 l) 1)
def rqErr (l : List UInt8) : Int := if (rqEnd l).2 = 0 then (if 9 < (rq l).kind then 11 else if 0 < (rqEnd l).1.length then 12 else 0) else (rqEnd l).2
def Rq.zero : Rq := ⟨0, 0, 0, 0, 0, 0, 0, []⟩
def prId (l : List UInt8) : Nat := if rqErr l = 0 then nm (l, 0) 8 else 0
def prRq (l : List UInt8) : Rq := if rqErr l = 0 then rq l else Rq.zero
end Go.Proofs.YtkcpfhbfjpldhaaGreatDoor
