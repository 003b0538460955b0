/- Vp8Parses: the law's walk. -/
import Derived.Test.YtkbdbandeioibaaVp8RP
import Derived.Test.YtkbdbandeioibaaVp8Ignores
namespace Go.Proofs.Ytkbdbandeioibaa
open Go.RowKit
set_option linter.unusedVariables false

theorem refd_eq_self (more : Bool) (lone : Bool) (start : Bool) (part : Nat) (hasPic : Bool) (wide : Bool) (pic : Nat) (hasTl0 : Bool) (tl0 : Nat) (hasTid : Bool) (tid : Nat) (sync : Bool) (hasKey : Bool) (key : Nat) (w : World) : (Op.equalIn 10000 53 (.agg #[.bool more, .bool lone, .bool start, .int .i64 part, .bool hasPic, .bool wide, .int .i64 pic, .bool hasTl0, .int .i64 tl0, .bool hasTid, .int .i64 tid, .bool sync, .bool hasKey, .int .i64 key]) (.agg #[.bool more, .bool lone, .bool start, .int .i64 part, .bool hasPic, .bool wide, .int .i64 pic, .bool hasTl0, .int .i64 tl0, .bool hasTid, .int .i64 tid, .bool sync, .bool hasKey, .int .i64 key])).run Try.prog w = .ok true w := by
  have h := refd_eq ⟨more, lone, start, part, hasPic, wide, pic, hasTl0, tl0, hasTid, tid, sync, hasKey, key⟩ ⟨more, lone, start, part, hasPic, wide, pic, hasTl0, tl0, hasTid, tid, sync, hasKey, key⟩ w
  simpa [Dsc.ref] using h
theorem refd_neq_self (more : Bool) (lone : Bool) (start : Bool) (part : Nat) (hasPic : Bool) (wide : Bool) (pic : Nat) (hasTl0 : Bool) (tl0 : Nat) (hasTid : Bool) (tid : Nat) (sync : Bool) (hasKey : Bool) (key : Nat) (w : World) : (binOp .neq 53 (.agg #[.bool more, .bool lone, .bool start, .int .i64 part, .bool hasPic, .bool wide, .int .i64 pic, .bool hasTl0, .int .i64 tl0, .bool hasTid, .int .i64 tid, .bool sync, .bool hasKey, .int .i64 key]) (.agg #[.bool more, .bool lone, .bool start, .int .i64 part, .bool hasPic, .bool wide, .int .i64 pic, .bool hasTl0, .int .i64 tl0, .bool hasTid, .int .i64 tid, .bool sync, .bool hasKey, .int .i64 key])).run Try.prog w = .ok (.bool false) w := by
  rw [run_neq_struct, refd_eq_self]
  rfl

set_option maxRecDepth 100000 in
set_option maxHeartbeats 8000000 in
theorem vp8Parses_walk (w : World) (l : List UInt8) (A : Option Addr) (n cap : Nat) (hr : RSl 1 RU8 w l (.slice A n cap)) : Calls Try.prog 9 #[.slice A n cap] w (Gives w (.bool true)) := by
  have HR := hide hr
  obtain ⟨A', cap', hv, hcap, hi⟩ := hr
  injection hv with e1 e2 e3
  subst e1 e2 e3
  have HI := hide hi
  clear hi
  have hee := vpE_two l
  obtain ⟨hn0, hn1⟩ := vpN_range l
  have hOk := vpD_ok l
  have hwv : vpW l = (decide (vpE l = 0) && ((vpD l).begins && (decide (vpN l < l.length) && decide ((l[(vpN l).toNat]?.map (·.toNat % 2)) = some 0)))) := rfl
  go_enter Try.func9, Try.ntmps9
  go_wp2_with fail
  refine (awake07 _).mono ?_
  rintro r w1 ⟨rfl, hb1⟩
  have hl1 : Le w w1 := ⟨hb1⟩
  clear hb1
  by_cases hbig : 300 < l.length
  · go_wp2_with fail
    go_ret
    exact ⟨rfl, hl1.out⟩
  have hnb : ¬ (300 : Int) < (l.length : Int) := by omega
  have hp1 := parseX_any A cap l w1 (hl1.rsl keeps_u8 HR.out) (by omega)
  have hrp := fun W => rparse_any l W (by omega)
  have hwh := fun W (h : Le w W) => whole_any A cap l W (h.rsl keeps_u8 HR.out) (by omega) hOk.part
  have hof := fun W => of_any (vpD l) hOk W
  have hbe := fun W => begins_any (vpD l) hOk.part W
  have hbg : (vpD l).begins = ((vpD l).start && decide ((vpD l).part = 0)) := rfl
  have hpt := hOk.part
  rw [vpV] at hp1
  simp only [rpV] at hrp
  obtain ⟨k, hk⟩ := Int.eq_ofNat_of_zero_le hn0
  rw [hk] at hp1 hrp hwv hn1
  rw [Int.toNat_natCast] at hwv
  generalize vpW l = wv at *
  generalize vpE l = E at *
  generalize vpP l = pp at *
  generalize vpT l = tp at *
  generalize vpD l = d at *
  clear hOk hn0 hk
  generalize hbb : d.begins = bg at *
  clear hbb
  obtain ⟨more, lone, start, part, hasPic, wide, pic, hasTl0, tl0, hasTid, tid, sync, hasKey, key⟩ := d
  simp only [Dsc.val, Dsc.ref] at hp1 hrp hof hbe hbg hpt
  have HP1 := hide hp1
  have HRP := hide hrp
  have HWH := hide hwh
  have HOF := hide hof
  have HBE := hide hbe
  have HBG := hide hbg
  have HWV := hide hwv
  clear hp1 hrp hwh hof hbe hbg hwv
  go_wp2_with fail
  refine HP1.out.mono ?_
  rintro r w2 ⟨rfl, hb2⟩
  have hy := heap_alloc_new w2 (.cells (#[.bool more, .bool lone, .bool start, .int .u8 part, .bool hasPic, .bool wide, .int .u16 pic, .bool hasTl0, .int .u8 tl0, .bool hasTid, .int .u8 tid, .bool sync, .bool hasKey, .int .u8 key] : Array Value) 49)
  have hl3 := (hl1.trans (Le.mk hb2)).alloc (.cells (#[.bool more, .bool lone, .bool start, .int .u8 part, .bool hasPic, .bool wide, .int .u16 pic, .bool hasTl0, .int .u8 tl0, .bool hasTid, .int .u8 tid, .bool sync, .bool hasKey, .int .u8 key] : Array Value) 49)
  clear hb2 HP1
  have f1 := conv_le (hl3.rsl keeps_u8 HR.out) _ (Le.refl _)
  go_wp2_with fail
  generalize w2.alloc (.cells (#[.bool more, .bool lone, .bool start, .int .u8 part, .bool hasPic, .bool wide, .int .u16 pic, .bool hasTl0, .int .u8 tl0, .bool hasTid, .int .u8 tid, .bool sync, .bool hasKey, .int .u8 key] : Array Value) 49) = w3 at *
  generalize w2.heap.size = p4 at *
  refine (HRP.out w3).mono ?_
  rintro r w4 ⟨rfl, hb4⟩
  have hx := heap_alloc_new w4 (.cells (#[.bool more, .bool lone, .bool start, .int .i64 part, .bool hasPic, .bool wide, .int .i64 pic, .bool hasTl0, .int .i64 tl0, .bool hasTid, .int .i64 tid, .bool sync, .bool hasKey, .int .i64 key] : Array Value) 53)
  have hl35 : Le w3 (w4.alloc (.cells (#[.bool more, .bool lone, .bool start, .int .i64 part, .bool hasPic, .bool wide, .int .i64 pic, .bool hasTl0, .int .i64 tl0, .bool hasTid, .int .i64 tid, .bool sync, .bool hasKey, .int .i64 key] : Array Value) 53)) := (Le.mk hb4).alloc _
  clear hb4 HRP f1
  go_upto_region 8 with fail
  generalize w4.alloc (.cells (#[.bool more, .bool lone, .bool start, .int .i64 part, .bool hasPic, .bool wide, .int .i64 pic, .bool hasTl0, .int .i64 tl0, .bool hasTid, .int .i64 tid, .bool sync, .bool hasKey, .int .i64 key] : Array Value) 53) = w5 at *
  generalize w4.heap.size = p7 at *
  have HX0 := hide (box_cell hx 0 (.bool more) rfl)
  have HX1 := hide (box_cell hx 1 (.bool lone) rfl)
  have HX2 := hide (box_cell hx 2 (.bool start) rfl)
  have HX3 := hide (box_cell hx 3 (.int .i64 part) rfl)
  have HX4 := hide (box_cell hx 4 (.bool hasPic) rfl)
  have HX5 := hide (box_cell hx 5 (.bool wide) rfl)
  have HX6 := hide (box_cell hx 6 (.int .i64 pic) rfl)
  have HX7 := hide (box_cell hx 7 (.bool hasTl0) rfl)
  have HX8 := hide (box_cell hx 8 (.int .i64 tl0) rfl)
  have HX9 := hide (box_cell hx 9 (.bool hasTid) rfl)
  have HX10 := hide (box_cell hx 10 (.int .i64 tid) rfl)
  have HX11 := hide (box_cell hx 11 (.bool sync) rfl)
  have HX12 := hide (box_cell hx 12 (.bool hasKey) rfl)
  have HX13 := hide (box_cell hx 13 (.int .i64 key) rfl)
  have hy5 := hl35.heap hy
  have HY0 := hide (box_cell hy5 0 (.bool more) rfl)
  have HY1 := hide (box_cell hy5 1 (.bool lone) rfl)
  have HY2 := hide (box_cell hy5 2 (.bool start) rfl)
  have HY3 := hide (box_cell hy5 3 (.int .u8 part) rfl)
  have HY4 := hide (box_cell hy5 4 (.bool hasPic) rfl)
  have HY5 := hide (box_cell hy5 5 (.bool wide) rfl)
  have HY6 := hide (box_cell hy5 6 (.int .u16 pic) rfl)
  have HY7 := hide (box_cell hy5 7 (.bool hasTl0) rfl)
  have HY8 := hide (box_cell hy5 8 (.int .u8 tl0) rfl)
  have HY9 := hide (box_cell hy5 9 (.bool hasTid) rfl)
  have HY10 := hide (box_cell hy5 10 (.int .u8 tid) rfl)
  have HY11 := hide (box_cell hy5 11 (.bool sync) rfl)
  have HY12 := hide (box_cell hy5 12 (.bool hasKey) rfl)
  have HY13 := hide (box_cell hy5 13 (.int .u8 key) rfl)
  have HL5 := hide (hl3.trans hl35)
  have hl5d : Le w5 w5.drew := (Le.refl w5).drew
  have HQ1 := hide (fun W => refd_eq_self more lone start part hasPic wide pic hasTl0 tl0 hasTid tid sync hasKey key W)
  have HQ2 := hide (fun W => refd_neq_self more lone start part hasPic wide pic hasTl0 tl0 hasTid tid sync hasKey key W)
  have hkk : ((k : Int) != (k : Int)) = false := by simp
  have hEE : (E != E) = false := by simp
  clear hx hy hy5 hl3 hl35
  go_cut [47] (fun s wx => s = .bool false ∧ Le w5 wx)
  case first =>
    refine' wp_region_rows 14 34 Le (Is _ :: Is _ :: Is _ :: Is _ :: Is _ :: Is _ :: Is _ :: Is _ :: Is _ :: Is _ :: Is _ :: Is _ :: Is _ :: Is _ :: []) ([] :: [0] :: [] :: [1, 2] :: [3] :: [4] :: [4] :: [4, 5, 6] :: [4, 7] :: [8] :: [9] :: [9] :: [9, 10, 11] :: [9, 12] :: []) (by kernel_rfl) (by kernel_rfl) (by rfl) (by kernel_rfl) Le.refl (fun _ _ _ h h' => h.trans h') ⟨St.is, St.is, St.is, St.is, St.is, St.is, St.is, St.is, St.is, St.is, St.is, St.is, St.is, St.is, trivial⟩ ?m8
    case m8 =>
      simp (maxSteps := 100000000) only [AllV, Obl2, Leans, factAt, allFacts, actOf, putAll, putRow, List.set_cons_succ, List.set_cons_zero, List.getElem?_cons_zero, List.getElem?_cons_succ, List.take_succ_cons, List.take_zero, List.drop_succ_cons, List.drop_zero, List.cons_append, List.nil_append, List.length_cons, List.length_nil, Nat.reduceAdd]
      intro x0 x1 x2 x3 x4 x5 x6 x7 x8 x9 x10 x11 x12 x13
      refine ⟨⟨?_, ?_, ?_, ?_, ?_, ?_, ?_, ?_, ?_, ?_, ?_, ?_, ?_, ?_, trivial⟩, ?_⟩
      -- 0: 34 := Op.load 49 t4
      · intro w hw  K hK; have hle := hl5d.trans hw; have c0 := HY0.out w hle; have c1 := HY1.out w hle; have c2 := HY2.out w hle; have c3 := HY3.out w hle; have c4 := HY4.out w hle; have c5 := HY5.out w hle; have c6 := HY6.out w hle; have c7 := HY7.out w hle; have c8 := HY8.out w hle; have c9 := HY9.out w hle; have c10 := HY10.out w hle; have c11 := HY11.out w hle; have c12 := HY12.out w hle; have c13 := HY13.out w hle; go_simp; exact hK _ _ (Le.refl _) (Is.mk _ _)
      -- 1: 35 := Op.call { value (Operand.func 28), args := #[t34], argTypes := #[49] }
      · intro w hw h0 K hK; cases h0; go_simp; refine (HOF.out w).mono ?_; rintro r w' ⟨rfl, hb⟩; exact hK _ _ ⟨hb⟩ (Is.mk _ _)
      -- 2: 36 := Op.load 53 t7
      · intro w hw  K hK; have hle := hl5d.trans hw; have c0 := HX0.out w hle; have c1 := HX1.out w hle; have c2 := HX2.out w hle; have c3 := HX3.out w hle; have c4 := HX4.out w hle; have c5 := HX5.out w hle; have c6 := HX6.out w hle; have c7 := HX7.out w hle; have c8 := HX8.out w hle; have c9 := HX9.out w hle; have c10 := HX10.out w hle; have c11 := HX11.out w hle; have c12 := HX12.out w hle; have c13 := HX13.out w hle; go_simp; exact hK _ _ (Le.refl _) (Is.mk _ _)
      -- 3: 37 := Op.binOp BinOp.neq 53 t35 t36 53
      · intro w hw h1 h2 K hK; cases h1; cases h2; have hq1 := HQ1.out w; have hq2 := HQ2.out w; have hgu := refd_guard; go_simp; exact hK _ _ (Le.refl _) (Is.mk _ _)
      -- 4: 38 := Op.move t37
      · intro w hw h3 K hK; cases h3; go_simp; exact hK _ _ (Le.refl _) (Is.mk _ _)
      -- 5: 39 := Op.move t5   [guarded: some (4, false)]
      · intro w hw h4 K hK; cases h4; go_simp; exact hK _ _ (Le.refl _) (Is.mk _ _)
      -- 6: 40 := Op.move t8   [guarded: some (4, false)]
      · intro w hw h4 K hK; cases h4; go_simp; exact hK _ _ (Le.refl _) (Is.mk _ _)
      -- 7: 41 := Op.binOp BinOp.neq 3 t39 t40 3   [guarded: some (4, false)]
      · intro w hw h4 h5 h6 K hK; cases h4; cases h5; cases h6; go_simp; exact hK _ _ (Le.refl _) (Is.mk _ _)
      -- 8: 42 := Op.pick t38 (const (Value.bool true)) t41
      · intro w hw h4 h7 K hK; cases h4; cases h7; go_simp; exact hK _ _ (Le.refl _) (Is.mk _ _)
      -- 9: 43 := Op.move t42
      · intro w hw h8 K hK; cases h8; go_simp; exact hK _ _ (Le.refl _) (Is.mk _ _)
      -- 10: 44 := Op.move t6   [guarded: some (9, false)]
      · intro w hw h9 K hK; cases h9; go_simp; exact hK _ _ (Le.refl _) (Is.mk _ _)
      -- 11: 45 := Op.move t11   [guarded: some (9, false)]
      · intro w hw h9 K hK; cases h9; go_simp; exact hK _ _ (Le.refl _) (Is.mk _ _)
      -- 12: 46 := Op.binOp BinOp.neq 27 t44 t45 27   [guarded: some (9, false)]
      · intro w hw h9 h10 h11 K hK; cases h9; cases h10; cases h11; go_simp; exact hK _ _ (Le.refl _) (Is.mk _ _)
      -- 13: 47 := Op.pick t43 (const (Value.bool true)) t46
      · intro w hw h9 h12 K hK; cases h9; cases h12; go_simp; exact hK _ _ (Le.refl _) (Is.mk _ _)
      · intro wz hz h0 h1 h2 h3 h4 h5 h6 h7 h8 h9 h10 h11 h12 h13; cases h0; cases h1; cases h2; cases h3; cases h4; cases h5; cases h6; cases h7; cases h8; cases h9; cases h10; cases h11; cases h12; cases h13; skip
        go_wp2_with fail
        go_meet
        exact ⟨rfl, hl5d.trans hz⟩
  case rest =>
    obtain ⟨rfl, hlc⟩ := hcut
    generalize wc = wa at *
    have x2 := HX2.out wa hlc
    have x3 := HX3.out wa hlc
    have y0 := HY0.out wa hlc
    have y1 := HY1.out wa hlc
    have y2 := HY2.out wa hlc
    have y3 := HY3.out wa hlc
    have y4 := HY4.out wa hlc
    have y5 := HY5.out wa hlc
    have y6 := HY6.out wa hlc
    have y7 := HY7.out wa hlc
    have y8 := HY8.out wa hlc
    have y9 := HY9.out wa hlc
    have y10 := HY10.out wa hlc
    have y11 := HY11.out wa hlc
    have y12 := HY12.out wa hlc
    have y13 := HY13.out wa hlc
    clear hkk hl5d
    have hcs3 : (start = false ∧ bg = false) ∨ (start = true ∧ bg = true ∧ part = 0) ∨ (start = true ∧ bg = false ∧ ((part : Int) == 0) = false) := by
      have h := HBG.out
      cases start
      · exact .inl ⟨rfl, by rw [h]; rfl⟩
      · by_cases hp : part = 0
        · exact .inr (.inl ⟨rfl, by rw [h]; simp [hp], hp⟩)
        · exact .inr (.inr ⟨rfl, by rw [h]; simp [hp], by rw [beq_eq_false_iff_ne]; omega⟩)
    have HC3 := hide hcs3
    clear hcs3 HBG
    have HLC := hide (HL5.out.trans hlc)
    clear hlc
    go_upto_region 10 with fail
    go_cut [12] (fun s wx => s = .bool bg ∧ wx = wa)
    case first =>
      rcases HC3.out with ⟨rfl, rfl⟩ | ⟨rfl, rfl, rfl⟩ | ⟨rfl, rfl, hpI⟩
      · go_wp2_with fail
        go_meet
        exact ⟨rfl, rfl⟩
      · go_wp2_with fail
        go_meet
        exact ⟨rfl, rfl⟩
      · go_wp2_with fail
        go_meet
        exact ⟨rfl, rfl⟩
    case rest =>
      obtain ⟨rfl, hwc⟩ := hcut
      rw [hwc]
      clear hwc
      have hbb : (bg == bg) = true := by simp
      rcases hee with rfl | rfl
      · cases bg
        · have hw0 : wv = false := by rw [HWV.out]; simp
          subst hw0
          go_wp2_with fail
          refine (HBE.out wa).mono ?_
          rintro r w6 ⟨rfl, hb6⟩
          have hl6 := HLC.out.trans (Le.mk hb6)
          go_wp2_with fail
          refine (HWH.out w6 hl6).mono ?_
          rintro r w7 ⟨rfl, hb7⟩
          have HL7 := hide (hl6.trans (Le.mk hb7))
          clear hl6 hb6 hb7
          go_wp2_with fail
          go_ret
          exact ⟨rfl, HL7.out.out⟩
        · by_cases hk2 : k < l.length
          · obtain ⟨bb, oo, rfl, hi⟩ := HI.out (by rintro rfl; simp at hk2)
            obtain ⟨cs, _, hcm, hRm⟩ := hi k hk2
            have c0m := hcm 0 (by omega)
            rw [show cs = [.int .u8 (l[k]'hk2).toNat] from hRm] at c0m
            simp only [Nat.mul_one, Nat.add_zero, List.getElem?_cons_zero] at c0m
            have hwv2 : wv = decide ((l[k]'hk2).toNat % 2 = 0) := by
              have hlt : (k : Int) < (l.length : Int) := by omega
              rw [HWV.out]
              simp [hk2, hlt]
            have C0 := hide c0m
            clear hcm hRm hi c0m
            generalize (l[k]'hk2).toNat = y at *
            have hkI : (k : Int) < (l.length : Int) := by omega
            have tm1 : (y : Int).tmod 2 = (y : Int) % 2 := Int.tmod_eq_emod_of_nonneg (by omega)
            by_cases hy : y % 2 = 0
            · have h2 : (y : Int) % 2 = 0 := by omega
              have hw0 : wv = true := by rw [hwv2]; simp [hy]
              subst hw0
              clear hwv2 hy HWV
              go_wp2_with fail
              refine (HBE.out wa).mono ?_
              rintro r w6 ⟨rfl, hb6⟩
              have hl6 := HLC.out.trans (Le.mk hb6)
              go_wp2_with fail
              refine (HWH.out w6 hl6).mono ?_
              rintro r w7 ⟨rfl, hb7⟩
              have HL7 := hide (hl6.trans (Le.mk hb7))
              have c0 := HL7.out.cell C0.out
              clear hl6 hb6 hb7
              go_wp2_with fail
              go_ret
              exact ⟨rfl, HL7.out.out⟩
            · have h2 : (y : Int) % 2 = 1 := by omega
              have hw0 : wv = false := by rw [hwv2]; simp [hy]
              subst hw0
              clear hwv2 hy HWV
              go_wp2_with fail
              refine (HBE.out wa).mono ?_
              rintro r w6 ⟨rfl, hb6⟩
              have hl6 := HLC.out.trans (Le.mk hb6)
              go_wp2_with fail
              refine (HWH.out w6 hl6).mono ?_
              rintro r w7 ⟨rfl, hb7⟩
              have HL7 := hide (hl6.trans (Le.mk hb7))
              have c0 := HL7.out.cell C0.out
              clear hl6 hb6 hb7
              go_wp2_with fail
              go_ret
              exact ⟨rfl, HL7.out.out⟩
          · have hkI : ¬ (k : Int) < (l.length : Int) := by omega
            have hw0 : wv = false := by rw [HWV.out]; simp [hkI]
            subst hw0
            clear HWV
            go_wp2_with fail
            refine (HBE.out wa).mono ?_
            rintro r w6 ⟨rfl, hb6⟩
            have hl6 := HLC.out.trans (Le.mk hb6)
            go_wp2_with fail
            refine (HWH.out w6 hl6).mono ?_
            rintro r w7 ⟨rfl, hb7⟩
            have HL7 := hide (hl6.trans (Le.mk hb7))
            clear hl6 hb6 hb7
            go_wp2_with fail
            go_ret
            exact ⟨rfl, HL7.out.out⟩
      · have hw0 : wv = false := by rw [HWV.out]; rfl
        subst hw0
        clear HWV
        cases bg
        · go_wp2_with fail
          refine (HBE.out wa).mono ?_
          rintro r w6 ⟨rfl, hb6⟩
          have hl6 := HLC.out.trans (Le.mk hb6)
          go_wp2_with fail
          refine (HWH.out w6 hl6).mono ?_
          rintro r w7 ⟨rfl, hb7⟩
          have HL7 := hide (hl6.trans (Le.mk hb7))
          clear hl6 hb6 hb7
          go_wp2_with fail
          go_ret
          exact ⟨rfl, HL7.out.out⟩
        · go_wp2_with fail
          refine (HBE.out wa).mono ?_
          rintro r w6 ⟨rfl, hb6⟩
          have hl6 := HLC.out.trans (Le.mk hb6)
          go_wp2_with fail
          refine (HWH.out w6 hl6).mono ?_
          rintro r w7 ⟨rfl, hb7⟩
          have HL7 := hide (hl6.trans (Le.mk hb7))
          clear hl6 hb6 hb7
          go_wp2_with fail
          go_ret
          exact ⟨rfl, HL7.out.out⟩
end Go.Proofs.Ytkbdbandeioibaa
