/- Vp8Sizes: the law's walk. -/
import Derived.Test.YtkbdbandeioibaaLaw07
namespace Go.Proofs.Ytkbdbandeioibaa
open Go.RowKit
set_option linter.unusedVariables false

theorem puts_1 (x : Nat) : (putOne (x, 1)).length = 1 := by simp [putOne, mayB, be_length]
theorem puts_2 (x : Nat) : (putOne (x, 2)).length = 2 := by simp [putOne, mayB, be_length]
/-- how many bytes a descriptor has -/
def szN (d : Dsc) : Nat :=
  let n1 := if d.more then 2 else 1
  let n2 := if d.hasPic then n1 + 1 else n1
  let n3 := if d.wide then n2 + 1 else n2
  let n4 := if d.hasTl0 then n3 + 1 else n3
  if d.hasTid || d.hasKey then n4 + 1 else n4
theorem right_clean (d : Dsc) (h : d.right = true) : d = d.clean := by
  simp only [Dsc.right, Bool.and_eq_true, decide_eq_true_eq] at h
  exact h.1
theorem right_wide (d : Dsc) (h : d.right = true) : d.wide = true → d.hasPic = true := by
  have hc := right_clean d h
  obtain ⟨more, lone, start, part, hasPic, wide, pic, hasTl0, tl0, hasTid, tid, sync, hasKey, key⟩ := d
  intro hw
  simp only at hw ⊢
  subst hw
  cases hasPic
  · cases more <;> cases hasTl0 <;> cases hasTid <;> cases hasKey <;> simp [Dsc.clean, Dsc.zero] at hc
  · rfl
theorem ps4_len (d : Dsc) (h : d.right = true) : (puts d.ps4).length = szN d := by
  have hw := right_wide d h
  obtain ⟨more, lone, start, part, hasPic, wide, pic, hasTl0, tl0, hasTid, tid, sync, hasKey, key⟩ := d
  simp only at hw
  cases more <;> cases wide <;> cases hasPic <;> cases hasTl0 <;> cases hasTid <;> cases hasKey <;> first
    | (exfalso; exact absurd (hw rfl) (by decide))
    | simp [Dsc.ps4, Dsc.ps3, Dsc.ps2, Dsc.ps1, szN, puts, puts_1, puts_2]

set_option maxRecDepth 100000 in
set_option maxHeartbeats 4000000 in
theorem vp8Sizes_walk (w : World) (d : Dsc) (hd : d.Ok) : Calls Try.prog 14 #[d.val] w (Gives w (.bool true)) := by
  have hput := fun w => put_any8 d w hd
  have hbg := fun w => begins_any d hd.part w
  have hsz := ps4_len d
  have hF : vpF d = 0 → d.right = true := by
    intro h
    cases hr : d.right
    · rw [vpF, hr] at h; cases h
    · rfl
  have hB : d.right = true → vpB d = puts d.ps4 := by
    intro h
    rw [vpB, h]
    rfl
  have hF2 : vpF d = 0 ∨ vpF d = 1 := by
    rw [vpF]; cases d.right <;> simp
  have hlen : vpF d = 0 → (vpB d).length = szN d := fun h => by rw [hB (hF h)]; exact hsz (hF h)
  have hszn := hide (show szN d = _ from rfl)
  have hpt := hd.part
  clear hB hF hsz hd
  generalize vpB d = B at *
  generalize vpF d = E at *
  obtain ⟨more, lone, start, part, hasPic, wide, pic, hasTl0, tl0, hasTid, tid, sync, hasKey, key⟩ := d
  have hbg2 : (Dsc.mk more lone start part hasPic wide pic hasTl0 tl0 hasTid tid sync hasKey key).begins = (start && decide (part = 0)) := rfl
  rw [hbg2] at hbg
  generalize hbge : (start && decide (part = 0)) = bg at *
  have HBE := hide hbge
  clear hbge
  rw [Dsc.val] at *
  simp only [szN] at hlen
  simp only at *
  have HPUT := hide hput
  have HBG := hide hbg
  have HLEN := hide hlen
  clear hput hbg hlen hszn hbg2
  have hy := heap_alloc_new w (.cells (#[.bool more, .bool lone, .bool start, .int .u8 part, .bool hasPic, .bool wide, .int .u16 pic, .bool hasTl0, .int .u8 tl0, .bool hasTid, .int .u8 tid, .bool sync, .bool hasKey, .int .u8 key] : Array Value) 49)
  have HLW := hide ((Le.refl w).alloc (.cells (#[.bool more, .bool lone, .bool start, .int .u8 part, .bool hasPic, .bool wide, .int .u16 pic, .bool hasTl0, .int .u8 tl0, .bool hasTid, .int .u8 tid, .bool sync, .bool hasKey, .int .u8 key] : Array Value) 49))
  have HY0 := hide (box_cell hy 0 (.bool more) rfl)
  have HY1 := hide (box_cell hy 1 (.bool lone) rfl)
  have HY2 := hide (box_cell hy 2 (.bool start) rfl)
  have HY3 := hide (box_cell hy 3 (.int .u8 part) rfl)
  have HY4 := hide (box_cell hy 4 (.bool hasPic) rfl)
  have HY5 := hide (box_cell hy 5 (.bool wide) rfl)
  have HY6 := hide (box_cell hy 6 (.int .u16 pic) rfl)
  have HY7 := hide (box_cell hy 7 (.bool hasTl0) rfl)
  have HY8 := hide (box_cell hy 8 (.int .u8 tl0) rfl)
  have HY9 := hide (box_cell hy 9 (.bool hasTid) rfl)
  have HY10 := hide (box_cell hy 10 (.int .u8 tid) rfl)
  have HY11 := hide (box_cell hy 11 (.bool sync) rfl)
  have HY12 := hide (box_cell hy 12 (.bool hasKey) rfl)
  have HY13 := hide (box_cell hy 13 (.int .u8 key) rfl)
  clear hy
  go_enter Try.func14, Try.ntmps14
  go_wp2_with fail
  generalize w.alloc (.cells (#[.bool more, .bool lone, .bool start, .int .u8 part, .bool hasPic, .bool wide, .int .u16 pic, .bool hasTl0, .int .u8 tl0, .bool hasTid, .int .u8 tid, .bool sync, .bool hasKey, .int .u8 key] : Array Value) 49) = W at *
  generalize w.heap.size = p at *
  refine (awake07 _).mono ?_
  rintro r w1 ⟨rfl, hb1⟩
  have hl1 : Le W w1 := ⟨hb1⟩
  clear hb1
  have c0 := HY0.out w1 hl1
  have c1 := HY1.out w1 hl1
  have c2 := HY2.out w1 hl1
  have c3 := HY3.out w1 hl1
  have c4 := HY4.out w1 hl1
  have c5 := HY5.out w1 hl1
  have c6 := HY6.out w1 hl1
  have c7 := HY7.out w1 hl1
  have c8 := HY8.out w1 hl1
  have c9 := HY9.out w1 hl1
  have c10 := HY10.out w1 hl1
  have c11 := HY11.out w1 hl1
  have c12 := HY12.out w1 hl1
  have c13 := HY13.out w1 hl1
  go_wp2_with fail
  refine (HPUT.out _).mono ?_
  rintro r w2 ⟨v2, rfl, ho2, hb2⟩
  have hl2 : Le W w2 := hl1.trans ⟨hb2⟩
  obtain ⟨A2, cap2, rfl, hcap2, _⟩ := own_slice ho2
  clear hb2 hl1 ho2 c0 c1 c2 c3 c4 c5 c6 c7 c8 c9 c10 c11 c12 c13 HPUT
  rcases hF2 with rfl | rfl
  · have hlen := HLEN.out rfl
    have c0 := HY0.out w2 hl2
    have c4 := HY4.out w2 hl2
    have c5 := HY5.out w2 hl2
    have c7 := HY7.out w2 hl2
    have c9 := HY9.out w2 hl2
    have c12 := HY12.out w2 hl2
    generalize hn1 : (if more = true then 2 else 1 : Nat) = n1 at hlen
    generalize hn2 : (if hasPic = true then n1 + 1 else n1 : Nat) = n2 at hlen
    generalize hn3 : (if wide = true then n2 + 1 else n2 : Nat) = n3 at hlen
    generalize hn4 : (if hasTl0 = true then n3 + 1 else n3 : Nat) = n4 at hlen
    generalize hn5 : (if (hasTid || hasKey) = true then n4 + 1 else n4 : Nat) = n5 at hlen
    have hm1 : n1 ≤ 2 := by rw [← hn1]; split <;> omega
    have hm2 : n2 ≤ 3 := by rw [← hn2]; split <;> omega
    have hm3 : n3 ≤ 4 := by rw [← hn3]; split <;> omega
    have hm4 : n4 ≤ 5 := by rw [← hn4]; split <;> omega
    have HN1 := hide hn1; have HN2 := hide hn2; have HN3 := hide hn3; have HN4 := hide hn4; have HN5 := hide hn5
    clear hn1 hn2 hn3 hn4 hn5
    go_upto_if 18 with fail
    go_cut [6] (fun v wx => v = .int .i64 (n1 : Nat) ∧ wx = w2)
    case first =>
      cases more
      · go_wp2_with fail
        go_meet
        exact ⟨by rw [← HN1.out]; rfl, rfl⟩
      · go_wp2_with fail
        go_meet
        exact ⟨by rw [← HN1.out]; rfl, rfl⟩
    case rest =>
      obtain ⟨rfl, hwc⟩ := hcut
      rw [hwc]
      clear hwc
      go_upto_if 20 with fail
      go_cut [6] (fun v wx => v = .int .i64 (n2 : Nat) ∧ wx = w2)
      case first =>
        cases hasPic
        · go_wp2_with fail
          go_meet
          exact ⟨by rw [← HN2.out]; rfl, rfl⟩
        · go_wp2_with fail
          go_meet
          exact ⟨by rw [← HN2.out]; rfl, rfl⟩
      case rest =>
        obtain ⟨rfl, hwc⟩ := hcut
        rw [hwc]
        clear hwc
        go_upto_if 24 with fail
        go_cut [6] (fun v wx => v = .int .i64 (n3 : Nat) ∧ wx = w2)
        case first =>
          cases wide
          · go_wp2_with fail
            go_meet
            exact ⟨by rw [← HN3.out]; rfl, rfl⟩
          · go_wp2_with fail
            go_meet
            exact ⟨by rw [← HN3.out]; rfl, rfl⟩
        case rest =>
          obtain ⟨rfl, hwc⟩ := hcut
          rw [hwc]
          clear hwc
          go_upto_if 28 with fail
          go_cut [6] (fun v wx => v = .int .i64 (n4 : Nat) ∧ wx = w2)
          case first =>
            cases hasTl0
            · go_wp2_with fail
              go_meet
              exact ⟨by rw [← HN4.out]; rfl, rfl⟩
            · go_wp2_with fail
              go_meet
              exact ⟨by rw [← HN4.out]; rfl, rfl⟩
          case rest =>
            obtain ⟨rfl, hwc⟩ := hcut
            rw [hwc]
            clear hwc
            go_upto_region 16 with fail
            go_cut [36] (fun s wx => s = .bool (hasTid || hasKey) ∧ wx = w2)
            case first =>
              cases hasTid
              · go_wp2_with fail
                go_meet
                exact ⟨rfl, rfl⟩
              · go_wp2_with fail
                go_meet
                exact ⟨rfl, rfl⟩
            case rest =>
              obtain ⟨rfl, hwc⟩ := hcut
              rw [hwc]
              clear hwc
              generalize hTK : (hasTid || hasKey) = TK at *
              go_upto_if 36 with fail
              go_cut [6] (fun v wx => v = .int .i64 (n5 : Nat) ∧ wx = w2)
              case first =>
                cases TK
                · go_wp2_with fail
                  go_meet
                  exact ⟨by rw [← HN5.out]; rfl, rfl⟩
                · go_wp2_with fail
                  go_meet
                  exact ⟨by rw [← HN5.out]; rfl, rfl⟩
              case rest =>
                obtain ⟨rfl, hwc⟩ := hcut
                rw [hwc]
                clear hwc
                have hl2d := hl2.drew
                have HN := hide hlen
                clear c0 c4 c5 c7 c9 c12
                have hcs : (start = false ∧ bg = false) ∨ (start = true ∧ bg = true ∧ part = 0) ∨ (start = true ∧ bg = false ∧ ((part : Int) == 0) = false) := by
                  have h := HBE.out
                  cases start
                  · exact .inl ⟨rfl, by rw [← h]; rfl⟩
                  · by_cases hp : part = 0
                    · exact .inr (.inl ⟨rfl, by rw [← h]; simp [hp], hp⟩)
                    · exact .inr (.inr ⟨rfl, by rw [← h]; simp [hp], by rw [beq_eq_false_iff_ne]; omega⟩)
                clear HBE
                rcases hcs with ⟨rfl, rfl⟩ | ⟨rfl, rfl, rfl⟩ | ⟨rfl, rfl, hpI⟩
                all_goals
                  go_upto_region 18 with fail
                  refine' wp_region_rows 16 39 Le (Is _ :: Is _ :: Is _ :: Is _ :: Is _ :: Is _ :: Is _ :: Is _ :: Is _ :: Is _ :: Is _ :: Is _ :: Is _ :: Is _ :: Is _ :: Is _ :: Is _ :: []) ([] :: [0] :: [] :: [1, 2] :: [3] :: [4] :: [4, 5] :: [4] :: [4, 7] :: [4, 8] :: [9] :: [9, 10] :: [9, 11] :: [4, 9, 12] :: [4, 6, 13] :: [4, 14] :: [15] :: []) (by kernel_rfl) (by kernel_rfl) (by rfl) (by kernel_rfl) Le.refl (fun _ _ _ h h' => h.trans h') ⟨St.is, St.is, St.is, St.is, St.is, St.is, St.is, St.is, St.is, St.is, St.is, St.is, St.is, St.is, St.is, St.is, St.is, trivial⟩ ?m18
                  case m18 =>
                    simp (maxSteps := 100000000) only [AllV, Obl2, Leans, factAt, allFacts, actOf, putAll, putRow, Act.put, List.setIfInBounds_toArray, List.set_cons_succ, List.set_cons_zero, List.getElem?_cons_zero, List.getElem?_cons_succ, List.take_succ_cons, List.take_zero, List.drop_succ_cons, List.drop_zero, List.cons_append, List.nil_append, List.length_cons, List.length_nil, Nat.reduceAdd]
                    intro x0 x1 x2 x3 x4 x5 x6 x7 x8 x9 x10 x11 x12 x13 x14 x15 x16
                    refine ⟨⟨?_, ?_, ?_, ?_, ?_, ?_, ?_, ?_, ?_, ?_, ?_, ?_, ?_, ?_, ?_, ?_, ?_, trivial⟩, ?_⟩
                    -- 0: 39 := Op.move t4
                    · intro w hw  K hK; go_simp; exact hK _ _ (Le.refl _) (Is.mk _ _)
                    -- 1: 40 := Op.call { builtin len, args := #[t39], argTypes := #[26] }
                    · intro w hw h0 K hK; cases h0; go_simp; exact hK _ _ (Le.refl _) (Is.mk _ _)
                    -- 2: 41 := Op.move t6
                    · intro w hw  K hK; go_simp; exact hK _ _ (Le.refl _) (Is.mk _ _)
                    -- 3: 42 := Op.binOp BinOp.eql 3 t40 t41 3
                    · intro w hw h1 h2 K hK; cases h1; cases h2; go_simp; exact hK _ _ (Le.refl _) (Is.mk _ _)
                    -- 4: 43 := Op.move t42
                    · intro w hw h3 K hK; cases h3; go_simp; exact hK _ _ (Le.refl _) (Is.mk _ _)
                    -- 5: 44 := Op.load 49 t1   [guarded: some (4, true)]
                    · intro w hw h4 K hK; cases h4; have hle := hl2d.trans hw; have c0 := HY0.out w hle; have c1 := HY1.out w hle; have c2 := HY2.out w hle; have c3 := HY3.out w hle; have c4 := HY4.out w hle; have c5 := HY5.out w hle; have c6 := HY6.out w hle; have c7 := HY7.out w hle; have c8 := HY8.out w hle; have c9 := HY9.out w hle; have c10 := HY10.out w hle; have c11 := HY11.out w hle; have c12 := HY12.out w hle; have c13 := HY13.out w hle; go_simp; exact hK _ _ (Le.refl _) (Is.mk _ _)
                    -- 6: 45 := Op.call { value (Operand.func 29), args := #[t44], argTypes := #[49] }   [guarded: some (4, true)]
                    · intro w hw h4 h5 K hK; cases h4; cases h5; go_simp; refine (HBG.out w).mono ?_; rintro r w' ⟨rfl, hb⟩; exact hK _ _ ⟨hb⟩ (Is.mk _ _)
                    -- 7: 46 := Op.fieldAddr 49 t1 2   [guarded: some (4, true)]
                    · intro w hw h4 K hK; cases h4; go_simp; exact hK _ _ (Le.refl _) (Is.mk _ _)
                    -- 8: 47 := Op.load 4 t46   [guarded: some (4, true)]
                    · intro w hw h4 h7 K hK; cases h4; cases h7; have c2 := HY2.out w (hl2d.trans hw); go_simp; exact hK _ _ (Le.refl _) (Is.mk _ _)
                    -- 9: 48 := Op.move t47   [guarded: some (4, true)]
                    · intro w hw h4 h8 K hK; cases h4; cases h8; go_simp; exact hK _ _ (Le.refl _) (Is.mk _ _)
                    -- 10: 49 := Op.fieldAddr 49 t1 3   [guarded: some (9, true)]
                    · intro w hw h9 K hK; cases h9; go_simp; exact hK _ _ (Le.refl _) (Is.mk _ _)
                    -- 11: 50 := Op.load 5 t49   [guarded: some (9, true)]
                    · intro w hw h9 h10 K hK; cases h9; cases h10; have c3 := HY3.out w (hl2d.trans hw); go_simp; exact hK _ _ (Le.refl _) (Is.mk _ _)
                    -- 12: 51 := Op.binOp BinOp.eql 5 t50 (const (0:u8)) 5   [guarded: some (9, true)]
                    · intro w hw h9 h11 K hK; cases h9; cases h11; go_simp; exact hK _ _ (Le.refl _) (Is.mk _ _)
                    -- 13: 52 := Op.pick t48 t51 (const (Value.bool false))   [guarded: some (4, true)]
                    · intro w hw h4 h9 h12 K hK; cases h4; cases h9; cases h12; go_simp; exact hK _ _ (Le.refl _) (Is.mk _ _)
                    -- 14: 53 := Op.binOp BinOp.eql 4 t45 t52 4   [guarded: some (4, true)]
                    · intro w hw h4 h6 h13 K hK; cases h4; cases h6; cases h13; go_simp; exact hK _ _ (Le.refl _) (Is.mk _ _)
                    -- 15: 54 := Op.pick t43 t53 (const (Value.bool false))
                    · intro w hw h4 h14 K hK; cases h4; cases h14; go_simp; exact hK _ _ (Le.refl _) (Is.mk _ _)
                    -- 16: 2 := Op.assign t54
                    · intro w hw h15 K hK; cases h15; go_simp; exact hK _ _ (Le.refl _) (Is.mk _ _)
                    · intro wz hz h0 h1 h2 h3 h4 h5 h6 h7 h8 h9 h10 h11 h12 h13 h14 h15 h16; cases h0; cases h1; cases h2; cases h3; cases h4; cases h5; cases h6; cases h7; cases h8; cases h9; cases h10; cases h11; cases h12; cases h13; cases h14; cases h15; cases h16; skip
                      go_wp2_with fail
                      go_ret
                      exact ⟨rfl, (HLW.out.trans (hl2d.trans hz)).out⟩
  · go_wp2_with fail
    go_ret
    exact ⟨rfl, (HLW.out.trans hl2).out⟩
end Go.Proofs.Ytkbdbandeioibaa
