/- ReqBack: the law's walk. -/
import Derived.Test.YtlfomilalkkbeaaLaw19
import Derived.Test.YtlfomilalkkbeaaParL
import Derived.Test.YtlfomilalkkbeaaReqSame
import Derived.Test.YtlfomilalkkbeaaW
namespace Go.Proofs.Ytlfomilalkkbeaa
open Go.RowKit
set_option linter.unusedVariables false

theorem rq_zero {L : List UInt8} (h : rqErr L = 0) : prId L = nm (L, 0) 8 ∧ prRq L = rq L := by
  unfold prId prRq
  rw [if_pos h, if_pos h]
  exact ⟨rfl, rfl⟩

theorem rq_bad {L : List UInt8} (h : rqErr L = 10 ∨ rqErr L = 12) : prId L = 0 ∧ prRq L = ⟨0, 0, 0, 0, 0, 0, 0, []⟩ := by
  unfold prId prRq
  rw [if_neg (by omega), if_neg (by omega)]
  exact ⟨rfl, rfl⟩

set_option maxRecDepth 100000 in
set_option maxHeartbeats 4000000 in
theorem reqBack_walk (w : World) (id : Nat) (hid : (id : Int) < 18446744073709551616) (q : Rq) (A : Option Addr) (n cap : Nat) (hr : RSl 1 RU32 w q.ssrcs (.slice A n cap)) (at_ : Nat) (hat : at_ < 65536) (l : List UInt8) (Am : Option Addr) (m capm : Nat) (hm : RSl 1 RU8 w l (.slice Am m capm)) :
    Calls Try.prog 12 #[.int .u64 id, .agg #[.int .i64 q.kind, .int .i64 q.who, .int .i64 q.room, .int .i64 q.rights, .int .i64 q.track, .slice A n cap, .int .i64 q.layer, .int .i64 q.tid], .int .u16 at_, .slice Am m capm] w (Gives w (.bool true)) := by
  have HR := hide hr
  obtain ⟨A', cap', hv, hcap, _⟩ := hr
  injection hv with e1 e2 e3
  subst e1 e2 e3
  have HID := hide hid
  clear hid
  have HM := hide hm
  obtain ⟨A', cap', hv, hcapm, _⟩ := hm
  injection hv with e1 e2 e3
  subst e1 e2 e3
  have hq := heap_alloc_new w (.cells #[.int .i64 q.kind, .int .i64 q.who, .int .i64 q.room, .int .i64 q.rights, .int .i64 q.track, .slice A q.ssrcs.length cap, .int .i64 q.layer, .int .i64 q.tid] 56)
  have hwb : Le w (w.alloc (.cells #[.int .i64 q.kind, .int .i64 q.who, .int .i64 q.room, .int .i64 q.rights, .int .i64 q.track, .slice A q.ssrcs.length cap, .int .i64 q.layer, .int .i64 q.tid] 56)) := (Le.refl w).alloc _
  go_enter Try.func12, Try.ntmps12
  go_wp2_with fail
  generalize w.alloc (.cells #[.int .i64 q.kind, .int .i64 q.who, .int .i64 q.room, .int .i64 q.rights, .int .i64 q.track, .slice A q.ssrcs.length cap, .int .i64 q.layer, .int .i64 q.tid] 56) = wb at *
  generalize w.heap.size = p at *
  have q0 := box_cell hq 0 _ rfl
  have q1 := box_cell hq 1 _ rfl
  have q2 := box_cell hq 2 _ rfl
  have q3 := box_cell hq 3 _ rfl
  have q4 := box_cell hq 4 _ rfl
  have q5 := box_cell hq 5 _ rfl
  have q6 := box_cell hq 6 _ rfl
  have q7 := box_cell hq 7 _ rfl
  clear hq
  refine (awake19 _).mono ?_
  rintro r w1 ⟨rfl, hb1⟩
  have hl1 : Le wb w1 := ⟨hb1⟩
  clear hb1
  by_cases hbig : 300 < q.ssrcs.length
  · go_wp2_with fail
    go_ret
    exact ⟨rfl, (hwb.trans hl1).out⟩
  by_cases hbig2 : 60 < l.length
  · have hbn : ¬ (300 : Int) < (q.ssrcs.length : Int) := by omega
    go_wp2_with fail
    go_ret
    exact ⟨rfl, (hwb.trans hl1).out⟩
  have hs3 : ((q.ssrcs.length : Nat) : Int) ≤ 300 := by omega
  have HR1 := hide ((hwb.trans hl1).rsl keeps_u32 HR.out)
  cases hok : q.ok with
  | false =>
    have HOK := hide hok
    clear hok
    go_wp2_with fail
    refine (reqPut_bad id q A _ cap _ rfl HOK.out).mono ?_
    rintro r w2 ⟨v2, rfl, ho2, hb2⟩
    obtain ⟨A2, cap2, rfl, hcap2, _⟩ := own_slice ho2
    have hl2 : Le wb w2 := hl1.trans ⟨hb2⟩
    clear hb2 hl1 ho2
    go_wp2_with fail
    go_ret
    exact ⟨rfl, (hwb.trans hl2).out⟩
  | true =>
    have HOK := hide hok
    clear hok
    have hss : ∀ x ∈ q.ssrcs, (x : Int) < 4294967296 := by
      obtain ⟨A', c', hv, _, hi⟩ := HR.out
      intro x hx
      obtain ⟨k, hk, rfl⟩ := List.getElem_of_mem hx
      obtain ⟨b, off, _, hg⟩ := hi (by rintro e; rw [e] at hk; simp at hk)
      obtain ⟨cs, _, _, _, h⟩ := hg k hk
      exact h
    have HL1 := hide (bytes_len id q)
    have hp0 := parse_bytes id HID.out q HOK.out hss []
    have hpm := parse_bytes id HID.out q HOK.out hss l
    have he0 := hp0.err HOK.out
    have hem := hpm.err HOK.out
    rw [List.append_nil] at hp0 he0
    rw [if_pos rfl] at he0
    have hz := rq_zero he0
    rw [hp0.i, hp0.r] at hz
    have HZ := hide hz; have HE0 := hide he0; have HEM := hide hem
    have HK := hide (parse_cut id HID.out q HOK.out hss)
    clear hss hp0 hpm he0 hem hz
    obtain ⟨B1, hB1⟩ : ∃ B, q.bytes id = B := ⟨_, rfl⟩
    rw [hB1] at HL1 HZ HE0 HEM HK
    have HB1 := hide hB1
    clear hB1
    go_wp2_with fail
    refine (reqPut_ok id q A _ cap _ HID.out HR1.out HOK.out).mono ?_
    rw [HB1.out]
    rintro r w2 ⟨v2, rfl, ho2, hb2⟩
    have hl2 : Le w1 w2 := ⟨hb2⟩
    have hR2 := rsl_of_own ho2
    obtain ⟨A2, cap2, rfl, hcap2, _⟩ := own_slice ho2
    have hw2 := hwb.trans (hl1.trans hl2)
    have hB1 : 18 ≤ B1.length := by rw [HL1.out]; omega
    have hB2 : B1.length ≤ 1218 := by rw [HL1.out]; omega
    obtain ⟨b2, off2, rfl⟩ := rsl_addr hR2 (by omega)
    have HO2 := hide (own_base ho2 (hwb.trans hl1).size)
    have HR2 := hide hR2
    have hlb2 := hl1.trans hl2
    have HW2 := hide hw2
    clear hb2 ho2 hl1 hR2 hl2 hw2
    go_wp2_with fail
    have hps := reqParse_any B1 _ _ _ w2 HR2.out (by omega)
    rw [HZ.out.1, HZ.out.2, HE0.out] at hps
    refine hps.mono ?_
    clear hps
    rintro r w3 ⟨Ay, capy, rfl, hry, hb3⟩
    have hl3 : Le w2 w3 := ⟨hb3⟩
    have hy := heap_alloc_new w3 (.cells #[.int .i64 q.kind, .int .i64 q.who, .int .i64 q.room, .int .i64 q.rights, .int .i64 q.track, .slice Ay q.ssrcs.length capy, .int .i64 q.layer, .int .i64 q.tid] 56)
    have hl4 : Le w2 (w3.alloc (.cells #[.int .i64 q.kind, .int .i64 q.who, .int .i64 q.room, .int .i64 q.rights, .int .i64 q.track, .slice Ay q.ssrcs.length capy, .int .i64 q.layer, .int .i64 q.tid] 56)) := hl3.alloc _
    have hry4 := RSl.alloc keeps_u32 hry (.cells #[.int .i64 q.kind, .int .i64 q.who, .int .i64 q.room, .int .i64 q.rights, .int .i64 q.track, .slice Ay q.ssrcs.length capy, .int .i64 q.layer, .int .i64 q.tid] 56)
    clear hb3 hry hl3
    obtain ⟨k, hk⟩ : ∃ k, k = at_ % B1.length := ⟨_, rfl⟩
    have hkl : k < B1.length := by rw [hk]; exact Nat.mod_lt _ (by omega)
    have hmod : (at_ : Int) % (B1.length : Int) = (k : Int) := by rw [hk]; simp
    have hk0 : (0 : Int) ≤ (k : Int) := by omega
    have hk1 : (k : Int) ≤ (B1.length : Int) := by omega
    have hk2 : (k : Int) ≤ (cap2 : Int) := by omega
    clear hk
    go_wp2_with fail
    generalize w3.alloc (.cells #[.int .i64 q.kind, .int .i64 q.who, .int .i64 q.room, .int .i64 q.rights, .int .i64 q.track, .slice Ay q.ssrcs.length capy, .int .i64 q.layer, .int .i64 q.tid] 56) = w4 at *
    generalize w3.heap.size = py at *
    have hps := reqParse_any (B1.take k) _ _ _ w4 (rsl_take (hl4.rsl keeps_u8 HR2.out) (by omega)) (by simp; omega)
    rw [(rq_bad (.inl (HK.out k hkl))).1, (rq_bad (.inl (HK.out k hkl))).2, HK.out k hkl] at hps
    refine hps.mono ?_
    clear hps
    rintro r w5 ⟨Az, capz, rfl, _, hb5⟩
    have hl5 : Le w4 (w5.alloc (.cells #[.int .i64 0, .int .i64 0, .int .i64 0, .int .i64 0, .int .i64 0, .slice Az 0 capz, .int .i64 0, .int .i64 0] 56)) := (Le.mk hb5).alloc _
    clear hb5 hmod hk0 hk1 hk2
    go_wp2_with fail
    generalize w5.alloc (.cells #[.int .i64 0, .int .i64 0, .int .i64 0, .int .i64 0, .int .i64 0, .slice Az 0 capz, .int .i64 0, .int .i64 0] 56) = w6 at *
    generalize w5.heap.size = pz at *
    have hl5 : Le w4 w6.drew := hl5.drew
    have hlq := hlb2.trans (hl4.trans hl5)
    have HLY := hide hl5; have HRY := hide hry4
    have HLQ := hide (HW2.out.trans (hl4.trans hl5))
    have HL26 := hide (hl4.trans hl5)
    have y0 := box_cell hy 0 _ rfl
    have y1 := box_cell hy 1 _ rfl
    have y2 := box_cell hy 2 _ rfl
    have y3 := box_cell hy 3 _ rfl
    have y4 := box_cell hy 4 _ rfl
    have y5 := box_cell hy 5 _ rfl
    have y6 := box_cell hy 6 _ rfl
    have y7 := box_cell hy 7 _ rfl
    have hid0 : ((id : Int) != (id : Int)) = false := by simp
    clear hy hry4 hl4 hlb2
    refine' wp_region_facts Le [Is _, Is _, Is _, Is _, Is _, Is _, Is _, Is _, Is _, Is _, Is _, Is _, Is _, Is _, Is _, Is _, Is _, Is _, Is _] [[], [], [0, 1], [2], [3], [3, 4], [3, 5], [6], [7], [7, 8], [7], [7, 10], [7, 9, 11], [7, 12], [7, 13], [14], [15], [15, 16], [15, 17]] (by kernel_rfl) (by kernel_rfl) rfl Le.refl (fun _ _ _ h h' => h.trans h') ⟨St.is, St.is, St.is, St.is, St.is, St.is, St.is, St.is, St.is, St.is, St.is, St.is, St.is, St.is, St.is, St.is, St.is, St.is, St.is, trivial⟩ ?m13
    case m13 =>
      simp (maxSteps := 100000000) only [AllV, Obl, Leans, factAt, allFacts, putAll, Act.put, List.setIfInBounds_toArray, List.set_cons_succ, List.set_cons_zero, List.getElem?_cons_zero, List.getElem?_cons_succ]
      intro x0 x1 x2 x3 x4 x5 x6 x7 x8 x9 x10 x11 x12 x13 x14 x15 x16 x17 x18
      refine ⟨⟨?_, ?_, ?_, ?_, ?_, ?_, ?_, ?_, ?_, ?_, ?_, ?_, ?_, ?_, ?_, ?_, ?_, ?_, ?_, trivial⟩, ?_⟩
      -- 0: 65 := Op.move t12
      · intro w hw  K hK; go_simp; exact hK _ _ (Le.refl _) rfl
      -- 1: 66 := Op.move t0
      · intro w hw  K hK; go_simp; exact hK _ _ (Le.refl _) rfl
      -- 2: 67 := Op.binOp BinOp.neq 26 t65 t66 26
      · intro w hw h0 h1 K hK; cases h0; cases h1; go_simp; exact hK _ _ (Le.refl _) rfl
      -- 3: 68 := Op.move t67
      · intro w hw h2 K hK; cases h2; go_simp; exact hK _ _ (Le.refl _) rfl
      -- 4: 69 := Op.move t14   [guarded: some (3, false)]
      · intro w hw h3 K hK; cases h3; go_simp; exact hK _ _ (Le.refl _) rfl
      -- 5: 70 := Op.binOp BinOp.neq 36 t69 (const (0:i64)) 36   [guarded: some (3, false)]
      · intro w hw h3 h4 K hK; cases h3; cases h4; go_simp; exact hK _ _ (Le.refl _) rfl
      -- 6: 71 := Op.pick t68 (const (Value.bool true)) t70
      · intro w hw h3 h5 K hK; cases h3; cases h5; go_simp; exact hK _ _ (Le.refl _) rfl
      -- 7: 72 := Op.move t71
      · intro w hw h6 K hK; cases h6; go_simp; exact hK _ _ (Le.refl _) rfl
      -- 8: 73 := Op.load 56 t13   [guarded: some (7, false)]
      · intro w hw h7 K hK; cases h7; have hle := hl5.trans hw; go_simp; exact hK _ _ (Le.refl _) rfl
      -- 9: 74 := Op.call { value (Operand.func 28), args := #[t73], argTypes := #[56] }   [guarded: some (7, false)]
      · intro w hw h7 h8 K hK; cases h7; cases h8; go_simp; have hof := of_any q Ay q.ssrcs.length capy w; simp only [rqV] at hof; refine hof.mono ?_; rintro r w' ⟨rfl, hb⟩; exact hK _ _ ⟨hb⟩ rfl
      -- 10: 75 := Op.load 56 t5   [guarded: some (7, false)]
      · intro w hw h7 K hK; cases h7; have hle := hlq.trans hw; go_simp; exact hK _ _ (Le.refl _) rfl
      -- 11: 76 := Op.call { value (Operand.func 28), args := #[t75], argTypes := #[56] }   [guarded: some (7, false)]
      · intro w hw h7 h10 K hK; cases h7; cases h10; go_simp; have hof := of_any q A q.ssrcs.length cap w; simp only [rqV] at hof; refine hof.mono ?_; rintro r w' ⟨rfl, hb⟩; exact hK _ _ ⟨hb⟩ rfl
      -- 12: 77 := Op.call { value (Operand.func 31), args := #[t74, t76], argTypes := #[61, 61] }   [guarded: some (7, false)]
      · intro w hw h7 h9 h11 K hK; cases h7; cases h9; cases h11; go_simp; have hsm := same_any q q Ay _ capy A _ cap w ((HLY.out.trans hw).rsl keeps_u32 HRY.out) ((HLQ.out.trans hw).rsl keeps_u32 HR.out) (by omega); simp only [rqV, same_refl] at hsm; refine hsm.mono ?_; rintro r w' ⟨rfl, hb⟩; exact hK _ _ ⟨hb⟩ rfl
      -- 13: 78 := Op.unOp UnOp.not 4 t77   [guarded: some (7, false)]
      · intro w hw h7 h12 K hK; cases h7; cases h12; go_simp; exact hK _ _ (Le.refl _) rfl
      -- 14: 79 := Op.pick t72 (const (Value.bool true)) t78
      · intro w hw h7 h13 K hK; cases h7; cases h13; go_simp; exact hK _ _ (Le.refl _) rfl
      -- 15: 80 := Op.move t79
      · intro w hw h14 K hK; cases h14; go_simp; exact hK _ _ (Le.refl _) rfl
      -- 16: 81 := Op.move t17   [guarded: some (15, false)]
      · intro w hw h15 K hK; cases h15; go_simp; exact hK _ _ (Le.refl _) rfl
      -- 17: 82 := Op.binOp BinOp.neq 36 t81 (const (10:i64)) 36   [guarded: some (15, false)]
      · intro w hw h15 h16 K hK; cases h15; cases h16; go_simp; exact hK _ _ (Le.refl _) rfl
      -- 18: 83 := Op.pick t80 (const (Value.bool true)) t82
      · intro w hw h15 h17 K hK; cases h15; cases h17; go_simp; exact hK _ _ (Le.refl _) rfl
      · intro wz hz h0 h1 h2 h3 h4 h5 h6 h7 h8 h9 h10 h11 h12 h13 h14 h15 h16 h17 h18; cases h0; cases h1; cases h2; cases h3; cases h4; cases h5; cases h6; cases h7; cases h8; cases h9; cases h10; cases h11; cases h12; cases h13; cases h14; cases h15; cases h16; cases h17; cases h18; skip
        clear hl5 hlq q0 q1 q2 q3 q4 q5 q6 q7 y0 y1 y2 y3 y4 y5 y6 y7 hid0
        have hlw := HLQ.out.trans hz
        have hr7 := (HL26.out.trans hz).rsl keeps_u8 HR2.out
        have ho7 := (HL26.out.trans hz).own HO2.out
        have HM7 := hide (hlw.rsl keeps_u8 HM.out)
        clear hz HLY HRY HLQ HL26
        by_cases hl0 : l.length = 0
        · have hl0' : ¬ (0 : Int) < (l.length : Int) := by omega
          have HL0 := hide hl0
          clear hl0
          go_wp2_with fail
          go_ret
          exact ⟨rfl, hlw.out⟩
        have hl0' : (0 : Int) < (l.length : Int) := by omega
        have hc7 := cells_of_rsl HM7.out
        go_wp2_with (first | (at_builtin; go_must (refine wpl_app rfl sl8 (.tmp 87) (.tmp 88) rfl ho7 rfl rfl hc7 (by simp [u8s]) u8s_one (by omega) (by omega) hlw.size ?_); intro v8 w8 ho8 hg8 hat8))
        have hlw8 : Le w w8 := ⟨below_grown hlw.out ho7 hg8 (Nat.le_refl _) hlw.size⟩
        rw [← u8s_append] at ho8
        have hr8 := rsl_of_own ho8
        obtain ⟨A8, cap8, rfl, hcap8, _⟩ := own_slice ho8
        clear ho8 hg8 hat8 hr7 ho7
        go_wp2_with fail
        have hne : l ≠ [] := by rintro rfl; exact hl0 rfl
        have he := HEM.out
        rw [if_neg hne] at he
        have hps := reqParse_any (B1 ++ l) A8 (B1.length + l.length) cap8 w8 hr8 (by rw [List.length_append]; omega)
        rw [(rq_bad (.inr he)).1, (rq_bad (.inr he)).2, he] at hps
        refine hps.mono ?_
        clear hps
        rintro r w9 ⟨A9, cap9, rfl, _, hb9⟩
        have hl9 := (hlw8.trans ⟨hb9⟩).alloc (.cells #[.int .i64 0, .int .i64 0, .int .i64 0, .int .i64 0, .int .i64 0, .slice A9 0 cap9, .int .i64 0, .int .i64 0] 56)
        clear hb9 he hr8
        go_wp2_with fail
        go_ret
        exact ⟨rfl, hl9.out⟩
end Go.Proofs.Ytlfomilalkkbeaa
