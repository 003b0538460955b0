/- louverref07.Parse. -/
import Derived.Test.YtkbdbandeioibaaVp8Q
import Derived.Laws.Rows
namespace Go.Proofs.Ytkbdbandeioibaa
open Go.RowKit
set_option linter.unusedVariables false

set_option maxRecDepth 100000 in
set_option maxHeartbeats 8000000 in
theorem rparse_any (b : List UInt8) (w : World) (hn : b.length ≤ 1000) : Calls Try.prog 27 #[.string (str b)] w (Gives w (rpV b)) := by
  have hbad := rpV_bad b
  have hgood := rpV_good b
  obtain ⟨R, hR⟩ : ∃ R, R = rpV b := ⟨_, rfl⟩
  rw [← hR] at hbad hgood ⊢
  clear hR
  have hz := heap_alloc_new w (.cells Dsc.zero.rcs 53)
  have hl := (Le.refl w).alloc (.cells Dsc.zero.rcs 53)
  simp only [Dsc.zero, Dsc.rcs, Int.ofNat_zero] at hz hl
  have HZ := hide hz
  have HL := hide hl
  clear hz hl
  cases b with
  | nil =>
    have HB := hide (hbad (by decide))
    clear hbad hgood
    go_enter Try.func27, Try.ntmps27
    go_wp2_with (refine wpl_store_blk rfl 53 (.tmp 2) (.tmp 13) rfl rfl rfl (by kernel_rfl) (by simp [Value.oneCell']) (HZ.out) rfl ?_; intro wz hz2 hgz)
    exact rparse_ret rfl rfl rfl rfl rfl hz2 rfl ⟨congrArg Ending.returned HB.out.symm, (below_row HL.out.out hgz (Nat.le_refl _) HL.out.size)⟩
  | cons a t =>
    obtain ⟨c0, hc0e⟩ : ∃ c0 : Nat, c0 = a.toNat := ⟨_, rfl⟩
    have hc0 : c0 < 256 := by rw [hc0e]; exact a.toNat_lt
    have hp0 : ∀ h, ((a :: t)[0]'h).toNat = c0 := fun _ => hc0e.symm
    have hlone := lone_parse a t
    have hmore : bt a.toNat 128 = true → vpParse (a :: t) = (((rd1 (a :: t)).one (a :: t).length).two (a :: t).length).three := by
      intro h
      rw [vpParse, by1_cons, h]
      rfl
    rw [← hc0e] at hlone hmore
    have hrd : (rd1 (a :: t)) = ⟨(Dsc.head c0).has (by1 (t, 0)), 0, 0, tk (t, 0)⟩ := by rw [hc0e]; simp [rd1, rd0, by1_cons, tk_cons]
    have hl1 : (a :: t).length = t.length + 1 := rfl
    have hpos : 0 < (a :: t).length := by simp
    have hb0 : ¬ (a :: t) = [] := by simp
    have hb1 : ((a :: t) == ([] : List UInt8)) = false := rfl
    generalize hbd : a :: t = b at *
    have HBD := hide hbd
    clear hbd
    have HG := hide (And.intro hgood (And.intro hlone (And.intro hmore hrd)))
    have HB := hide hbad
    have HRG := hide hgood
    clear hgood hlone hmore hrd hbad hc0e
    have htm : (c0 : Int).tmod 8 = ((c0 % 8 : Nat) : Int) := rfl
    have hw8 : IntKind.i64.wrap ((c0 % 8 : Nat) : Int) = ((c0 % 8 : Nat) : Int) := IntWalk.i64_in _ (by omega)
    have hw8' : IntKind.i64.wrap ((c0 : Int) % 8) = (c0 : Int) % 8 := IntWalk.i64_in _ (by omega)
    go_enter Try.func27, Try.ntmps27
    go_upto_region 3 with fail
    generalize hw2 : World.alloc w _ = w2 at *
    clear hw2
    refine' wp_region_tail 15 14 14 Le (Is _ :: Is _ :: Is _ :: Is _ :: Is _ :: Is _ :: Is _ :: Is _ :: Is _ :: Is _ :: Is _ :: Is _ :: Is _ :: Is _ :: (fun v w => ∃ g : Nat, v = .pointer (some ⟨g, 0, none⟩) ∧ w2.heap.size ≤ g ∧ w.heap[g]? = some (.cells Dsc.zero.rcs 53 (0, 0))) :: []) ([] :: [0] :: [1] :: [] :: [3] :: [4] :: [] :: [6] :: [7] :: [] :: [9] :: [10] :: [11] :: [2, 5, 8, 12] :: [] :: []) (by kernel_rfl) (by kernel_rfl) (by rfl) (by kernel_rfl) (by kernel_rfl) Le.refl (fun _ _ _ h h' => h.trans h') ⟨St.is, St.is, St.is, St.is, St.is, St.is, St.is, St.is, St.is, St.is, St.is, St.is, St.is, St.is, fun v w w' h ⟨g, e1, e2, e3⟩ => ⟨g, e1, e2, h.heap e3⟩, trivial⟩ ?m3
    case m3 =>
      simp (maxSteps := 100000000) only [AllV, Obl2, Leans, factAt, allFacts, actOf, putAll, putRow, Act.put, List.setIfInBounds_toArray, List.set_cons_succ, List.set_cons_zero, List.getElem?_cons_zero, List.getElem?_cons_succ, List.take_succ_cons, List.take_zero, List.drop_succ_cons, List.drop_zero, List.cons_append, List.nil_append, List.length_cons, List.length_nil, Nat.reduceAdd]
      intro x0 x1 x2 x3 x4 x5 x6 x7 x8 x9 x10 x11 x12 x13 x14
      refine ⟨⟨?_, ?_, ?_, ?_, ?_, ?_, ?_, ?_, ?_, ?_, ?_, ?_, ?_, ?_, ?_, trivial⟩, ?_⟩
      -- 0: 14 := Op.move t0
      · intro w hw  K hK; go_simp; exact hK _ _ (Le.refl _) (Is.mk _ _)
      -- 1: 15 := Op.index 9 t14 (const (0:i64))
      · intro w hw h0 K hK; cases h0; go_simp; exact hK _ _ (Le.refl _) (Is.mk _ _)
      -- 2: 16 := Op.call { value (Operand.func 49), args := #[t15, const (128:i64)], argTypes := #[5, 3] }
      · intro w hw h1 K hK; cases h1; go_simp; refine (rbit_any c0 128 hc0 (by simp) w).mono ?_; rintro r w' ⟨rfl, rfl⟩; exact hK _ _ (Le.refl _) (Is.mk _ _)
      -- 3: 17 := Op.move t0
      · intro w hw  K hK; go_simp; exact hK _ _ (Le.refl _) (Is.mk _ _)
      -- 4: 18 := Op.index 9 t17 (const (0:i64))
      · intro w hw h3 K hK; cases h3; go_simp; exact hK _ _ (Le.refl _) (Is.mk _ _)
      -- 5: 19 := Op.call { value (Operand.func 49), args := #[t18, const (32:i64)], argTypes := #[5, 3] }
      · intro w hw h4 K hK; cases h4; go_simp; refine (rbit_any c0 32 hc0 (by simp) w).mono ?_; rintro r w' ⟨rfl, rfl⟩; exact hK _ _ (Le.refl _) (Is.mk _ _)
      -- 6: 20 := Op.move t0
      · intro w hw  K hK; go_simp; exact hK _ _ (Le.refl _) (Is.mk _ _)
      -- 7: 21 := Op.index 9 t20 (const (0:i64))
      · intro w hw h6 K hK; cases h6; go_simp; exact hK _ _ (Le.refl _) (Is.mk _ _)
      -- 8: 22 := Op.call { value (Operand.func 49), args := #[t21, const (16:i64)], argTypes := #[5, 3] }
      · intro w hw h7 K hK; cases h7; go_simp; refine (rbit_any c0 16 hc0 (by simp) w).mono ?_; rintro r w' ⟨rfl, rfl⟩; exact hK _ _ (Le.refl _) (Is.mk _ _)
      -- 9: 23 := Op.move t0
      · intro w hw  K hK; go_simp; exact hK _ _ (Le.refl _) (Is.mk _ _)
      -- 10: 24 := Op.index 9 t23 (const (0:i64))
      · intro w hw h9 K hK; cases h9; go_simp; exact hK _ _ (Le.refl _) (Is.mk _ _)
      -- 11: 25 := Op.binOp BinOp.rem 5 t24 (const (8:u8)) 5
      · intro w hw h10 K hK; cases h10; go_simp; exact hK _ _ (Le.refl _) (Is.mk _ _)
      -- 12: 26 := Op.convert 5 3 t25
      · intro w hw h11 K hK; cases h11; go_simp; exact hK _ _ (Le.refl _) (Is.mk _ _)
      -- 13: 27 := Op.build 53 #[(0, t16), (1, t19), (2, t22), (3, t26)]
      · intro w hw h2 h5 h8 h12 K hK; cases h2; cases h5; cases h8; cases h12; go_simp; exact hK _ _ (Le.refl _) (Is.mk _ _)
      -- 14: 7 := Op.alloc 53
      · intro w hw  K hK; go_simp; exact hK _ _ ((Le.refl _).alloc _) ⟨_, rfl, hw.size, heap_alloc_new _ _⟩
      · intro wz hz h0 h1 h2 h3 h4 h5 h6 h7 h8 h9 h10 h11 h12 h13 h14; cases h0; cases h1; cases h2; cases h3; cases h4; cases h5; cases h6; cases h7; cases h8; cases h9; cases h10; cases h11; cases h12; cases h13; obtain ⟨g, rfl, hgl, hg⟩ := h14; skip
        have hgz := hz.trans (Le.refl wz)
        have hws := HL.out.size
        have hw2s : w.heap.size < w2.heap.size := lt_of_heap HZ.out
        go_upto_region 4 with (refine wpl_store_blk rfl 53 (.tmp 7) (.tmp 27) rfl (old := Dsc.zero.rcs.toList) rfl rfl (by kernel_rfl) (by simp [Value.oneCell']) hg rfl ?_; intro w3 h3 hg3)
        have hst : RSt w w3 w.heap.size g (Dsc.head c0) :=
          ⟨below_row ((HL.out.drew.trans hz).out) hg3 (by omega) (HL.out.drew.trans hz).size, heap_grown hg3 (hz.heap HZ.out) (fun e => by have := Option.some.inj e; omega), h3, Nat.le_refl _, by omega⟩
        clear h3 hg3 hg hz hgz hgl hws hw2s
        have y0 := cell_block hst.h7 0
        have y1 := cell_block hst.h7 1
        have y2 := cell_block hst.h7 2
        have y3 := cell_block hst.h7 3
        have y4 := cell_block hst.h7 4
        have y5 := cell_block hst.h7 5
        have y6 := cell_block hst.h7 6
        have y7 := cell_block hst.h7 7
        have y8 := cell_block hst.h7 8
        have y9 := cell_block hst.h7 9
        have y10 := cell_block hst.h7 10
        have y11 := cell_block hst.h7 11
        have y12 := cell_block hst.h7 12
        have y13 := cell_block hst.h7 13
        simp only [Dsc.rcs, Dsc.head, Dsc.zero, List.getElem?_toArray, List.getElem?_cons_zero, List.getElem?_cons_succ] at y0 y1 y2 y3 y4 y5 y6 y7 y8 y9 y10 y11 y12 y13
        cases hb : bt c0 128
        · rw [hb] at y0
          have HBV := hide hb
          have hres : R = .tuple #[(Dsc.head c0).ref, .int .i64 1, .int .i64 0, .int .i64 0, .int .i64 0] := by
            rw [HG.out.1 _ t (HG.out.2.1 hb) rfl]
            rw [show (b.length : Int) - t.length = 1 by omega]
          rw [show Dsc.ref (Dsc.head c0) = .agg (Dsc.head c0).rcs from rfl] at hres
          have HRS := hide hres
          clear hres hb
          go_wp2_with (refine wpl_store_blk rfl 53 (.tmp 2) (.tmp 31) rfl rfl rfl (by kernel_rfl) (by simp [Value.oneCell']) (hst.h2) rfl ?_; intro wq hq2 hgq)
          exact rparse_ret rfl rfl rfl rfl rfl hq2 rfl ⟨congrArg Ending.returned (HRS.out.trans (by simp only [Dsc.rcs, HBV.out, Dsc.head, Dsc.zero]; rfl)).symm, below_row hst.le hgq (Nat.le_refl _) hst.le.size⟩
        · rw [hb] at y0
          have HMO := hide (HG.out.2.2.1 hb)
          clear hb
          have hE0 : (((rd1 b).one b.length).two b.length).three.s.2 ≠ 0 → vpE b ≠ 0 := by
            intro h
            rw [vpE, HMO.out]
            exact h
          have HE0 := hide hE0
          clear hE0
          cases t with
          | nil =>
            have hlt : (b.length : Int) < 2 := by have := hl1; simp at this; omega
            have hbad2 : (rd1 b).s.2 ≠ 0 := by rw [HG.out.2.2.2, tk_nil]; exact (by decide : (10 : Int) ≠ 0)
            have HSB := hide (HB.out (HE0.out (three_stays _ (two_stays _ _ (one_stays _ _ hbad2)))))
            go_wp2_with (refine wpl_store_blk rfl 53 (.tmp 2) (.tmp 35) rfl rfl rfl (by kernel_rfl) (by simp [Value.oneCell']) (hst.h2) rfl ?_; intro wq hq2 hgq)
            exact rparse_ret rfl rfl rfl rfl rfl hq2 rfl ⟨congrArg Ending.returned HSB.out.symm, below_row hst.le hgq (Nat.le_refl _) hst.le.size⟩
          | cons x1 t2 =>
            have hl2 : b.length = t2.length + 2 := by rw [hl1]; rfl
            obtain ⟨c1, hc1e⟩ : ∃ c1 : Nat, c1 = x1.toNat := ⟨_, rfl⟩
            have hc1 : c1 < 256 := by rw [hc1e]; exact x1.toNat_lt
            have hp1 : ∀ h, (b[1]'h).toNat = c1 := by
              intro h
              have := HBD.out
              subst this
              exact hc1e.symm
            have hr1 : rd1 b = ⟨(Dsc.head c0).has c1, 0, 0, (t2, 0)⟩ := by rw [HG.out.2.2.2, by1_cons, tk_cons, hc1e]
            have hdr : b.drop 2 = t2 := by
              have := HBD.out
              subst this
              rfl
            have hge : ¬ (b.length : Int) < 2 := by omega
            have hge1 : (1 : Int) < (b.length : Int) := by omega
            have HL2 := hide hl2
            have HR1 := hide hr1
            have HDR := hide hdr
            clear hl1 hl2 hr1 hdr hc1e
            have f4 : w3.frozen? ⟨g, 4, none⟩ = false := free_block hst.h7 4
            have f7 : w3.frozen? ⟨g, 7, none⟩ = false := free_block hst.h7 7
            have f9 : w3.frozen? ⟨g, 9, none⟩ = false := free_block hst.h7 9
            have f12 : w3.frozen? ⟨g, 12, none⟩ = false := free_block hst.h7 12
            have B128 : ∀ W, Calls Try.prog 49 #[.int .u8 (c1 : Nat), .int .i64 128] W fun e w' => e = .returned (.bool (bt c1 128)) ∧ w' = W := fun W => rbit_any c1 128 hc1 (by simp) W
            have B64 : ∀ W, Calls Try.prog 49 #[.int .u8 (c1 : Nat), .int .i64 64] W fun e w' => e = .returned (.bool (bt c1 64)) ∧ w' = W := fun W => rbit_any c1 64 hc1 (by simp) W
            have B32 : ∀ W, Calls Try.prog 49 #[.int .u8 (c1 : Nat), .int .i64 32] W fun e w' => e = .returned (.bool (bt c1 32)) ∧ w' = W := fun W => rbit_any c1 32 hc1 (by simp) W
            have B16 : ∀ W, Calls Try.prog 49 #[.int .u8 (c1 : Nat), .int .i64 16] W fun e w' => e = .returned (.bool (bt c1 16)) ∧ w' = W := fun W => rbit_any c1 16 hc1 (by simp) W
            go_wp2_with fail
            refine (B128 _).mono ?_
            rintro r w' ⟨rfl, rfl⟩
            go_wp2_with fail
            refine (B64 _).mono ?_
            rintro r w' ⟨rfl, rfl⟩
            go_wp2_with fail
            refine (B32 _).mono ?_
            rintro r w' ⟨rfl, rfl⟩
            go_wp2_with fail
            refine (B16 _).mono ?_
            rintro r w' ⟨rfl, rfl⟩
            go_upto_region 12 with fail
            have hst4 : RSt w _ w.heap.size g ((Dsc.head c0).has c1) := (((hst.put 4 (.bool (bt c1 128)) { Dsc.head c0 with hasPic := bt c1 128 } rfl).put 7 (.bool (bt c1 64)) { Dsc.head c0 with hasPic := bt c1 128, hasTl0 := bt c1 64 } rfl).put 9 (.bool (bt c1 32)) { Dsc.head c0 with hasPic := bt c1 128, hasTl0 := bt c1 64, hasTid := bt c1 32 } rfl).put 12 (.bool (bt c1 16)) ((Dsc.head c0).has c1) rfl
            generalize hw4 : World.setCell (World.setCell (World.setCell (World.setCell _ _ _) _ _) _ _) _ _ = w4 at *
            have hw1 : ((Dsc.head c0).has c1).wide = false := rfl
            clear hw4 hst B128 B64 B32 B16 f4 f7 f9 f12 htm hw8 hw8' y0 y1 y2 y3 y4 y5 y6 y7 y8 y9 y10 y11 y12 y13
            generalize (Dsc.head c0).has c1 = d1 at *
            have HP0 := hide hp0
            clear hp0 hp1 hge1 hb0 hb1
            have hy4 : w4.cell? ⟨g, 4, none⟩ = some (.bool d1.hasPic) := cell_block hst4.h7 4
            go_upto_if 53 with fail
            clear hy4
            go_cut [8, 9] (fun s8 s9 wx => ∃ (l : List UInt8) (k : Nat), ((rd1 b).one b.length).s = (l, 0) ∧ ((rd1 b).one b.length).tp = 0 ∧ k + l.length = b.length ∧ b.drop k = l ∧ s8 = .int .i64 (k : Nat) ∧ s9 = .int .i64 ((rd1 b).one b.length).pp ∧ RSt w wx w.heap.size g ((rd1 b).one b.length).d)
            case first =>
              have y5 := cell_block hst4.h7 5
              have y6 := cell_block hst4.h7 6
              have g5 : w4.frozen? ⟨g, 5, none⟩ = false := free_block hst4.h7 5
              have g6 : w4.frozen? ⟨g, 6, none⟩ = false := free_block hst4.h7 6
              simp only [Dsc.rcs, List.getElem?_toArray, List.getElem?_cons_zero, List.getElem?_cons_succ] at y5 y6
              cases hq : d1.hasPic
              · have ho : (rd1 b).one b.length = ⟨d1, 0, 0, (t2, 0)⟩ := by rw [HR1.out, Rd8.one]; simp [hq]
                have HO := hide ho
                clear ho
                go_wp2_with fail
                go_meet
                rw [HO.out]
                exact ⟨t2, 2, rfl, rfl, by have := HL2.out; omega, HDR.out, rfl, rfl, hst4⟩
              · cases t2 with
                | nil =>
                  have ho : ((rd1 b).one b.length).s.2 ≠ 0 := by rw [HR1.out, Rd8.one]; simp [hq, firstS, by1_nil, tk_nil, bt]
                  have hlt : (b.length : Int) < 3 := by have := HL2.out; simp at this; omega
                  have HSB := hide (HB.out (HE0.out (three_stays _ (two_stays _ _ ho))))
                  go_wp2_with (refine wpl_store_blk rfl 53 (.tmp 2) (.tmp 72) rfl rfl rfl (by kernel_rfl) (by simp [Value.oneCell']) (hst4.h2) rfl ?_; intro wq hq2 hgq)
                  exact rparse_ret rfl rfl rfl rfl rfl hq2 rfl ⟨congrArg Ending.returned HSB.out.symm, below_row hst4.le hgq (Nat.le_refl _) hst4.le.size⟩
                | cons y l =>
                  obtain ⟨c2, hc2e⟩ : ∃ c2 : Nat, c2 = y.toNat := ⟨_, rfl⟩
                  have hc2 : c2 < 256 := by rw [hc2e]; exact y.toNat_lt
                  have HC2E := hide hc2e
                  clear hc2e
                  have hp2 : ∀ h, (b[2]'h).toNat = c2 := by
                    intro h
                    have := HBD.out
                    subst this
                    exact HC2E.out.symm
                  have hge3 : ¬ (b.length : Int) < 3 := by have := HL2.out; simp at this; omega
                  have hge2 : (2 : Int) < (b.length : Int) := by omega
                  have hm128 : (c2 : Int).tmod 128 = ((c2 % 128 : Nat) : Int) := rfl
                  have hwm : IntKind.i64.wrap ((c2 : Int) % 128) = (c2 : Int) % 128 := IntWalk.i64_in _ (by omega)
                  cases hy : bt c2 128
                  · have hy2 : c2 < 128 := by
                      have h : ¬ c2 / 128 % 2 = 1 := by simpa [bt] using hy
                      omega
                    have h127 : ¬ (127 : Int) < (c2 : Int) := by omega
                    have ho : (rd1 b).one b.length = ⟨{ d1 with pic := c2 }, 2, 0, (l, 0)⟩ := by
                      rw [HC2E.out] at hy ⊢
                      rw [HR1.out, Rd8.one, if_pos hq]
                      simp only [Dsc.first, firstS, by1_cons, tk_cons, hy, Bool.false_eq_true, if_false, List.length_cons]
                      rw [← hw1, show (b.length : Int) - ((l.length + 1 : Nat) : Int) = 2 by have := HL2.out; simp at this; omega]
                    have HO := hide ho
                    clear ho hy
                    go_wp2_with fail
                    go_meet
                    rw [HO.out]
                    have h6 := hst4.put 6 (.int .i64 ((c2 : Int) % 128)) { d1 with pic := c2 } (by rw [show (c2 : Int) % 128 = c2 by omega]; rfl)
                    exact ⟨l, 3, rfl, rfl, by have := HL2.out; simp at this; omega, by have := HBD.out; subst this; rfl, rfl, rfl, h6⟩
                  · have hy2 : 128 ≤ c2 := by
                      have h : c2 / 128 % 2 = 1 := by simpa [bt] using hy
                      omega
                    have h127 : (127 : Int) < (c2 : Int) := by omega
                    cases l with
                    | nil =>
                      have ho : ((rd1 b).one b.length).s.2 ≠ 0 := by
                        rw [HC2E.out] at hy
                        rw [HR1.out, Rd8.one]; simp [hq, firstS, by1_cons, tk_cons, hy, tk_nil]
                      have hlt : (b.length : Int) < 4 := by have := HL2.out; simp at this; omega
                      clear hy
                      have HSB := hide (HB.out (HE0.out (three_stays _ (two_stays _ _ ho))))
                      go_wp2_with (refine wpl_store_blk rfl 53 (.tmp 2) (.tmp 72) rfl rfl rfl (by kernel_rfl) (by simp [Value.oneCell']) (hst4.h2) rfl ?_; intro wq hq2 hgq)
                      exact rparse_ret rfl rfl rfl rfl rfl hq2 rfl ⟨congrArg Ending.returned HSB.out.symm, below_row hst4.le hgq (Nat.le_refl _) hst4.le.size⟩
                    | cons z l2 =>
                      obtain ⟨c3, hc3e⟩ : ∃ c3 : Nat, c3 = z.toNat := ⟨_, rfl⟩
                      have hc3 : c3 < 256 := by rw [hc3e]; exact z.toNat_lt
                      have HC3E := hide hc3e
                      clear hc3e
                      have hp3 : ∀ h, (b[3]'h).toNat = c3 := by
                        intro h
                        have := HBD.out
                        subst this
                        exact HC3E.out.symm
                      have hge4 : ¬ (b.length : Int) < 4 := by have := HL2.out; simp at this; omega
                      have hgt3 : (3 : Int) < (b.length : Int) := by omega
                      have ho : (rd1 b).one b.length = ⟨{ d1 with wide := true, pic := (c2 % 128) * 256 + c3 }, 2, 0, (l2, 0)⟩ := by
                        rw [HC2E.out] at hy ⊢
                        rw [HC3E.out, HR1.out, Rd8.one, if_pos hq]
                        simp only [Dsc.first, firstS, by1_cons, tk_cons, hy, if_true, List.length_cons]
                        rw [show (b.length : Int) - ((l2.length + 1 + 1 : Nat) : Int) = 2 by have := HL2.out; simp at this; omega]
                      have HO := hide ho
                      have hwc3 : IntKind.i64.wrap (c3 : Int) = c3 := IntWalk.i64_in _ (by omega)
                      have hwm2 : IntKind.i64.wrap (256 * ((c2 : Int) % 128)) = 256 * ((c2 : Int) % 128) := IntWalk.i64_in _ (by omega)
                      have hwm3 : IntKind.i64.wrap (256 * ((c2 : Int) % 128) + c3) = 256 * ((c2 : Int) % 128) + c3 := IntWalk.i64_in _ (by omega)
                      clear ho hy
                      go_upto_region 23 with fail
                      have h6 := (hst4.put 6 (.int .i64 ((c2 : Int) % 128)) { d1 with pic := c2 % 128 } rfl).put 5 (.bool true) { d1 with wide := true, pic := c2 % 128 } rfl
                      generalize (w4.setCell ⟨g, 6, none⟩ (.int .i64 ((c2 : Int) % 128))).setCell ⟨g, 5, none⟩ (.bool true) = w5 at *
                      have h6d := h6.drew
                      have e6 : w5.drew.cell? ⟨g, 6, none⟩ = some (.int .i64 ((c2 : Int) % 128)) := cell_block h6d.h7 6
                      have k6 : w5.drew.frozen? ⟨g, 6, none⟩ = false := free_block h6d.h7 6
                      clear y5 y6 g5 g6
                      go_still_tail 9, (by kernel_rfl)
                      change wpList _ _ _ _ _ w5.drew
                      go_wp2_with fail
                      go_meet
                      rw [HO.out]
                      have h7 := h6d.put 6 (.int .i64 (256 * ((c2 : Int) % 128) + c3)) { d1 with wide := true, pic := (c2 % 128) * 256 + c3 } (by rw [show 256 * ((c2 : Int) % 128) + c3 = (((c2 % 128) * 256 + c3 : Nat) : Int) by omega]; rfl)
                      exact ⟨l2, 4, rfl, rfl, by have := HL2.out; simp at this; omega, by have := HBD.out; subst this; rfl, rfl, rfl, h7⟩
            case rest =>
              obtain ⟨l, k, ho1, htp, hk, hdk, rfl, rfl, hs5⟩ := hcut
              generalize wc = wb at *
              clear hst4 HR1 HDR HL2 hge hw1 hc1 HG
              generalize (rd1 b).one b.length = r2 at *
              obtain ⟨d2, pp2, tp2, s2⟩ := r2
              simp only at ho1 htp hs5
              subst ho1 htp
              have hy7 : wb.cell? ⟨g, 7, none⟩ = some (.bool d2.hasTl0) := cell_block hs5.h7 7
              have hwk0 : IntKind.i64.wrap ((k : Int) + 1) = (k : Int) + 1 := IntWalk.i64_in _ (by omega)
              go_upto_if 99 with fail
              clear hy7
              go_cut [8, 10] (fun s8 s10 wx => ∃ (l' : List UInt8) (k' : Nat), (Rd8.two b.length ⟨d2, pp2, 0, (l, 0)⟩).s = (l', 0) ∧ (Rd8.two b.length ⟨d2, pp2, 0, (l, 0)⟩).pp = pp2 ∧ k' + l'.length = b.length ∧ b.drop k' = l' ∧ s8 = .int .i64 (k' : Nat) ∧ s10 = .int .i64 (Rd8.two b.length ⟨d2, pp2, 0, (l, 0)⟩).tp ∧ RSt w wx w.heap.size g (Rd8.two b.length ⟨d2, pp2, 0, (l, 0)⟩).d)
              case first =>
                cases hq : d2.hasTl0
                · have ho : Rd8.two b.length ⟨d2, pp2, 0, (l, 0)⟩ = ⟨d2, pp2, 0, (l, 0)⟩ := by rw [Rd8.two]; simp [hq]
                  have HO := hide ho
                  have HK := hide hk
                  clear ho hk
                  go_wp2_with fail
                  go_meet
                  rw [HO.out]
                  exact ⟨l, k, rfl, rfl, HK.out, hdk, rfl, rfl, hs5⟩
                · cases l with
                  | nil =>
                    have ho : (Rd8.two b.length ⟨d2, pp2, 0, ([], 0)⟩).s.2 ≠ 0 := by rw [Rd8.two]; simp [hq, tk_nil]
                    have hkn : (b.length : Int) < (k : Int) + 1 := by simp at hk; omega
                    have HK := hide hk
                    clear hk
                    have HSB := hide (HB.out (HE0.out (three_stays _ ho)))
                    go_wp2_with (refine wpl_store_blk rfl 53 (.tmp 2) (.tmp 105) rfl rfl rfl (by kernel_rfl) (by simp [Value.oneCell']) (hs5.h2) rfl ?_; intro wq hq2 hgq)
                    exact rparse_ret rfl rfl rfl rfl rfl hq2 rfl ⟨congrArg Ending.returned HSB.out.symm, below_row hs5.le hgq (Nat.le_refl _) hs5.le.size⟩
                  | cons y l =>
                    obtain ⟨c4, c4e⟩ : ∃ c4 : Nat, c4 = y.toNat := ⟨_, rfl⟩
                    have hc4 : c4 < 256 := by rw [c4e]; exact y.toNat_lt
                    have hpk : ∀ h, (b[k]'h).toNat = c4 := by
                      intro h
                      have e : b[k]? = some y := by rw [← List.head?_drop, hdk]; rfl
                      rw [List.getElem?_eq_getElem h] at e
                      rw [c4e, Option.some.inj e]
                    have Hc4 := hide c4e
                    have hdk2 : b.drop (k + 1) = l := by rw [← List.drop_drop, hdk]; rfl
                    have hkl : k + 1 + l.length = b.length := by rw [← hk, List.length_cons]; omega
                    have HDK2 := hide hdk2
                    have HKL := hide hkl
                    have hkn : ¬ (b.length : Int) < (k : Int) + 1 := by omega
                    have hki : (k : Int) < (b.length : Int) := by omega
                    have hwk : IntKind.i64.wrap ((k : Int) + 1) = (k : Int) + 1 := IntWalk.i64_in _ (by omega)
                    have hwc : IntKind.i64.wrap (c4 : Int) = c4 := IntWalk.i64_in _ (by omega)
                    have HHK := hide hk
                    clear c4e hdk2 hkl hdk hk
                    have ho : Rd8.two b.length ⟨d2, pp2, 0, (y :: l, 0)⟩ = ⟨d2.second c4, pp2, (k : Nat), (l, 0)⟩ := by
                      rw [Rd8.two, if_pos hq, Hc4.out]
                      simp only [by1_cons, tk_cons, List.length_cons]
                      rw [show (b.length : Int) - ((l.length + 1 : Nat) : Int) = k by have := HKL.out; omega]
                    have HO := hide ho
                    have y8 := cell_block hs5.h7 8
                    have g8 : wb.frozen? ⟨g, 8, none⟩ = false := free_block hs5.h7 8
                    simp only [Dsc.rcs, List.getElem?_toArray, List.getElem?_cons_zero, List.getElem?_cons_succ] at y8
                    clear ho
                    go_wp2_with fail
                    go_meet
                    rw [HO.out]
                    exact ⟨l, k + 1, rfl, rfl, HKL.out, HDK2.out, rfl, rfl, hs5.put 8 _ _ rfl⟩
              case rest =>
                obtain ⟨l', k', ho1, hpp, hk', hdk', rfl, rfl, hs6⟩ := hcut
                generalize wc = we at *
                clear hs5 hk hdk hwk0
                generalize Rd8.two b.length ⟨d2, pp2, 0, (l, 0)⟩ = r3 at *
                obtain ⟨d3, pp3, tp3, s3⟩ := r3
                simp only at ho1 hpp hs6
                subst ho1 hpp
                generalize l' = l at *
                generalize k' = k at *
                have hk := hk'
                have hdk := hdk'
                clear hk' hdk'
                have hy9 : we.cell? ⟨g, 9, none⟩ = some (.bool d3.hasTid) := cell_block hs6.h7 9
                have hy12 : we.cell? ⟨g, 12, none⟩ = some (.bool d3.hasKey) := cell_block hs6.h7 12
                go_upto_region 31 with fail
                go_cut [119] (fun s wx => s = .bool (d3.hasTid || d3.hasKey) ∧ wx = we)
                case first =>
                  cases hti : d3.hasTid
                  · rw [hti] at hy9
                    have HTI := hide hti
                    clear hti
                    go_wp2_with fail
                    go_meet
                    exact ⟨by rw [HTI.out]; rfl, rfl⟩
                  · rw [hti] at hy9
                    have HTI := hide hti
                    clear hti
                    go_wp2_with fail
                    go_meet
                    exact ⟨by rw [HTI.out]; rfl, rfl⟩
                case rest =>
                  obtain ⟨rfl, hwc⟩ := hcut
                  rw [hwc]
                  clear hwc
                  go_upto_if 119 with fail
                  go_cut [8] (fun s8 wx => ∃ (l' : List UInt8) (k' : Nat), (Rd8.three ⟨d3, pp3, tp3, (l, 0)⟩).s = (l', 0) ∧ (Rd8.three ⟨d3, pp3, tp3, (l, 0)⟩).pp = pp3 ∧ (Rd8.three ⟨d3, pp3, tp3, (l, 0)⟩).tp = tp3 ∧ k' + l'.length = b.length ∧ s8 = .int .i64 (k' : Nat) ∧ RSt w wx w.heap.size g (Rd8.three ⟨d3, pp3, tp3, (l, 0)⟩).d)
                  case first =>
                    cases hq : (d3.hasTid || d3.hasKey)
                    · have ho : Rd8.three ⟨d3, pp3, tp3, (l, 0)⟩ = ⟨d3, pp3, tp3, (l, 0)⟩ := by simp only [Rd8.three, hq]; simp
                      have HO := hide ho
                      have HK := hide hk
                      clear ho hk hq
                      go_wp2_with fail
                      go_meet
                      rw [HO.out]
                      exact ⟨l, k, rfl, rfl, rfl, HK.out, rfl, hs6⟩
                    · cases l with
                      | nil =>
                        have ho : (Rd8.three ⟨d3, pp3, tp3, ([], 0)⟩).s.2 ≠ 0 := by simp only [Rd8.three, hq, if_true, tk_nil]; decide
                        have hkn : (b.length : Int) < (k : Int) + 1 := by simp at hk; omega
                        have hwk : IntKind.i64.wrap ((k : Int) + 1) = (k : Int) + 1 := IntWalk.i64_in _ (by simp at hk; omega)
                        have HK := hide hk
                        clear hk hq
                        have HSB := hide (HB.out (HE0.out ho))
                        go_wp2_with (refine wpl_store_blk rfl 53 (.tmp 2) (.tmp 125) rfl rfl rfl (by kernel_rfl) (by simp [Value.oneCell']) (hs6.h2) rfl ?_; intro wq hq2 hgq)
                        exact rparse_ret rfl rfl rfl rfl rfl hq2 rfl ⟨congrArg Ending.returned HSB.out.symm, below_row hs6.le hgq (Nat.le_refl _) hs6.le.size⟩
                      | cons y l =>
                        obtain ⟨c5, c5e⟩ : ∃ c5 : Nat, c5 = y.toNat := ⟨_, rfl⟩
                        have hc5 : c5 < 256 := by rw [c5e]; exact y.toNat_lt
                        have hpk : ∀ h, (b[k]'h).toNat = c5 := by
                          intro h
                          have e : b[k]? = some y := by rw [← List.head?_drop, hdk]; rfl
                          rw [List.getElem?_eq_getElem h] at e
                          rw [c5e, Option.some.inj e]
                        have Hc5 := hide c5e
                        have hdk2 : b.drop (k + 1) = l := by rw [← List.drop_drop, hdk]; rfl
                        have hkl : k + 1 + l.length = b.length := by rw [← hk, List.length_cons]; omega
                        have HDK2 := hide hdk2
                        have HKL := hide hkl
                        have hkn : ¬ (b.length : Int) < (k : Int) + 1 := by omega
                        have hki : (k : Int) < (b.length : Int) := by omega
                        have hwk : IntKind.i64.wrap ((k : Int) + 1) = (k : Int) + 1 := IntWalk.i64_in _ (by omega)
                        have hwc : IntKind.i64.wrap (c5 : Int) = c5 := IntWalk.i64_in _ (by omega)
                        have HHK := hide hk
                        clear c5e hdk2 hkl hdk hk
                        have ho : Rd8.three ⟨d3, pp3, tp3, (y :: l, 0)⟩ = ⟨d3.third c5, pp3, tp3, (l, 0)⟩ := by
                          simp only [Rd8.three, hq, if_true, by1_cons, tk_cons, Hc5.out]
                        have HO := hide ho
                        have HQ := hide hq
                        have B32 : ∀ W, Calls Try.prog 49 #[.int .u8 (c5 : Nat), .int .i64 32] W fun e w' => e = .returned (.bool (bt c5 32)) ∧ w' = W := fun W => rbit_any c5 32 hc5 (by simp) W
                        have hd64 : (c5 : Int).tdiv 64 = ((c5 / 64 : Nat) : Int) := rfl
                        have hm32 : (c5 : Int).tmod 32 = ((c5 % 32 : Nat) : Int) := rfl
                        have hwd : IntKind.i64.wrap ((c5 : Int) / 64) = (c5 : Int) / 64 := IntWalk.i64_in _ (by omega)
                        have hwm : IntKind.i64.wrap ((c5 : Int) % 32) = (c5 : Int) % 32 := IntWalk.i64_in _ (by omega)
                        have hk8 : IntKind.u8.wrap ((c5 : Int) / 64) = (c5 : Int) / 64 := by simp [IntKind.wrap, IntKind.signed, IntKind.bits]; omega
                        have y10 := cell_block hs6.h7 10
                        have y11 := cell_block hs6.h7 11
                        have y13 := cell_block hs6.h7 13
                        have g10 : we.frozen? ⟨g, 10, none⟩ = false := free_block hs6.h7 10
                        have g11 : we.frozen? ⟨g, 11, none⟩ = false := free_block hs6.h7 11
                        have g13 : we.frozen? ⟨g, 13, none⟩ = false := free_block hs6.h7 13
                        simp only [Dsc.rcs, List.getElem?_toArray, List.getElem?_cons_zero, List.getElem?_cons_succ] at y10 y11 y13
                        clear ho hq
                        cases hti : d3.hasTid
                        · cases hke : d3.hasKey
                          · have := HQ.out; rw [hti, hke] at this; cases this
                          · have HT3 := hide (show d3.third c5 = { d3 with key := c5 % 32 } by rw [third_eq, hti, hke]; rfl)
                            rw [hti] at hy9
                            rw [hke] at hy12
                            clear hti hke
                            go_wp2_with fail
                            go_meet
                            rw [HO.out, HT3.out]
                            exact ⟨l, k + 1, rfl, rfl, rfl, HKL.out, rfl, hs6.put 13 _ _ rfl⟩
                        · cases hke : d3.hasKey
                          · have HT3 := hide (show d3.third c5 = { d3 with tid := c5 / 64, sync := bt c5 32 } by rw [third_eq, hti, hke]; rfl)
                            rw [hti] at hy9
                            rw [hke] at hy12
                            clear hti hke
                            go_wp2_with fail
                            refine (B32 _).mono ?_
                            rintro r w' ⟨rfl, rfl⟩
                            go_wp2_with fail
                            go_meet
                            rw [HO.out, HT3.out]
                            exact ⟨l, k + 1, rfl, rfl, rfl, HKL.out, rfl, (hs6.put 10 (.int .i64 ((c5 : Int) / 64)) { d3 with tid := c5 / 64 } rfl).put 11 _ _ rfl⟩
                          · have HT3 := hide (show d3.third c5 = { d3 with tid := c5 / 64, sync := bt c5 32, key := c5 % 32 } by rw [third_eq, hti, hke]; rfl)
                            rw [hti] at hy9
                            rw [hke] at hy12
                            clear hti hke
                            go_wp2_with fail
                            refine (B32 _).mono ?_
                            rintro r w' ⟨rfl, rfl⟩
                            go_wp2_with fail
                            go_meet
                            rw [HO.out, HT3.out]
                            exact ⟨l, k + 1, rfl, rfl, rfl, HKL.out, rfl, ((hs6.put 10 (.int .i64 ((c5 : Int) / 64)) { d3 with tid := c5 / 64 } rfl).put 11 (.bool (bt c5 32)) { d3 with tid := c5 / 64, sync := bt c5 32 } rfl).put 13 _ _ rfl⟩
                  case rest =>
                    obtain ⟨l', k', ho1, hpp, htp, hk', rfl, hs7⟩ := hcut
                    generalize wc = wf at *
                    clear hs6 hk hdk hy9 hy12
                    have hres := HRG.out _ l' HMO.out ho1
                    generalize Rd8.three ⟨d3, pp3, tp3, (l, 0)⟩ = r4 at *
                    obtain ⟨d4, pp4, tp4, s4⟩ := r4
                    simp only at ho1 hpp htp hs7 hres
                    subst ho1 hpp htp
                    rw [show (b.length : Int) - l'.length = (k' : Nat) by omega] at hres
                    have HRS := hide hres
                    clear hres hk'
                    have y0 := cell_block hs7.h7 0
                    have y1 := cell_block hs7.h7 1
                    have y2 := cell_block hs7.h7 2
                    have y3 := cell_block hs7.h7 3
                    have y4 := cell_block hs7.h7 4
                    have y5 := cell_block hs7.h7 5
                    have y6 := cell_block hs7.h7 6
                    have y7 := cell_block hs7.h7 7
                    have y8 := cell_block hs7.h7 8
                    have y9 := cell_block hs7.h7 9
                    have y10 := cell_block hs7.h7 10
                    have y11 := cell_block hs7.h7 11
                    have y12 := cell_block hs7.h7 12
                    have y13 := cell_block hs7.h7 13
                    simp only [Dsc.rcs, List.getElem?_toArray, List.getElem?_cons_zero, List.getElem?_cons_succ] at y0 y1 y2 y3 y4 y5 y6 y7 y8 y9 y10 y11 y12 y13
                    go_wp2_with (refine wpl_store_blk rfl 53 (.tmp 2) (.tmp 149) rfl rfl rfl (by kernel_rfl) (by simp [Value.oneCell']) (hs7.h2) rfl ?_; intro wq hq2 hgq)
                    exact rparse_ret rfl rfl rfl rfl rfl hq2 rfl ⟨congrArg Ending.returned HRS.out.symm, below_row hs7.le hgq (Nat.le_refl _) hs7.le.size⟩
end Go.Proofs.Ytkbdbandeioibaa
