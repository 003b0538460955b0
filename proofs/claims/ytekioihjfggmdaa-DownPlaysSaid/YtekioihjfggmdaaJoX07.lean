/- Texts of one claim, laid together: Ref14c -/
import Derived.Test.YtekioihjfggmdaaJoX04
/- louverref14.Take: good ones that are not sent. -/
namespace Go.Proofs.Ytekioihjfggmdaa
open Go.RowKit
set_option linter.unusedVariables false

set_option maxRecDepth 100000 in
set_option maxHeartbeats 8000000 in
theorem r14leave (ss : Nat) (src layer tid : Int) (ms0 : Ms) (st : St) (c1 c2 c3 c4 c5 : Nat) (p : Pk) (Kl : Kp) (K : Option Addr) (ck : Nat) (A5 A6 : Option Addr) (cc5 c6 : Nat) (f l : Int) (x : Wnt) (d0 d1 d2 d4 d5 d7 d9 d11 d12 : Bool) (d3 d6 d8 d10 d13 : Nat) (N pp tp E er : Int) (o0 : List UInt8) (on1 : Bool) (bg wh on2 : Bool) (s2 l2 t2 : Int) (hN : 0 ≤ N) (hbg : Hd (bg = (d2 && decide (d3 = 0)))) (hwh : Hd (wh = (bg && (decide (N < p.payload.length) && decide ((p.payload[N.toNat]?.map (·.toNat % 2)) = some 0))))) (hpl : p.payload.length ≤ 1000) (hq : IntKind.i64.wrap (p.seq : Int) = p.seq) (hq2 : IntKind.i64.wrap (p.time : Int) = p.time) (w : World) (hk : Hd (RSl 2 REn w Kl (.slice K Kl.length ck)))
    (HPA : Hd (∀ W, Calls Try.prog 28 #[.string (str p.payload)] W (Gives W (.tuple #[.agg #[.bool d0, .bool d1, .bool d2, .int .i64 d3, .bool d4, .bool d5, .int .i64 d6, .bool d7, .int .i64 d8, .bool d9, .int .i64 d10, .bool d11, .bool d12, .int .i64 d13], .int .i64 N, .int .i64 pp, .int .i64 tp, .int .i64 0]))))
    (HPU : Hd (∀ W, Le w W → Calls Try.prog 29 #[.agg #[.bool p.mark, .int .u8 p.type, .int .u16 p.seq, .int .u32 p.time, .int .u32 p.ssrc, .slice A5 p.csrc.length cc5, .slice A6 p.exts.length c6, .string (str p.payload), .int .i64 p.pad]] W (Gives W (.tuple #[.string (str o0), .int .i64 0])))) (HTK : Hd (∀ W, Calls Try.prog 32 #[.agg #[.bool on1, .int .i64 src, .int .i64 layer, .int .i64 tid], .agg #[.int .i64 f, .int .i64 l, .bool bg, .bool wh, .bool d9, .int .i64 d10, .bool d11], .agg #[.int .i64 x.src, .int .i64 x.layer, .int .i64 x.tid]] W (Gives W (.tuple #[.agg #[.bool on2, .int .i64 s2, .int .i64 l2, .int .i64 t2], .int .i64 0])))) (ask : Bool) (HAS : Hd (∀ W, Calls Try.prog 31 #[.agg #[.bool on2, .int .i64 s2, .int .i64 l2, .int .i64 t2], .agg #[.int .i64 x.src, .int .i64 x.layer, .int .i64 x.tid]] W (Gives W (.bool ask)))) (hb : IntKind.i64.wrap ((c2 : Int) + 1) = (c2 : Int) + 1) :
    Calls Try.prog 14 #[rdV (Dn.mk ss (Ch.mk on1 src layer tid) ms0 st c1 c2 c3 c4 c5) (.slice K Kl.length ck), P06 p (.slice A5 p.csrc.length cc5) (.slice A6 p.exts.length c6), .int .i64 f, .int .i64 l, x.val, .bool false] w (TakeQ (Dn.mk ss (Ch.mk on1 src layer tid) ms0 st c1 c2 c3 c4 c5) p Kl (.slice K Kl.length ck) w (Dn.mk ss (Ch.mk on2 s2 l2 t2) ms0 st c1 (c2 + 1) c3 c4 c5, none, ask)) := by
  obtain ⟨R, hR⟩ : ∃ R, R = TakeQ (Dn.mk ss (Ch.mk on1 src layer tid) ms0 st c1 c2 c3 c4 c5) p Kl (.slice K Kl.length ck) w (Dn.mk ss (Ch.mk on2 s2 l2 t2) ms0 st c1 (c2 + 1) c3 c4 c5, none, ask) := ⟨_, rfl⟩
  rw [← hR]
  have HR := hide hR
  clear hR
  simp only [rdV, P06, Wnt.val]
  obtain ⟨w1, hw1⟩ : ∃ w1, w1 = ((((w.alloc (.cells #[.int .u32 ss, .int .i64 st.room, .bool on1, .int .i64 src, .int .i64 layer, .int .i64 tid, .bool ms0.on, .int .i64 ms0.high, .int .i64 ms0.since, .int .i64 ms0.off.seq, .int .i64 ms0.off.time, .int .i64 ms0.off.pic, .int .i64 ms0.off.tl0, .int .i64 ms0.out.seq, .int .i64 ms0.out.time, .int .i64 ms0.out.pic, .int .i64 ms0.out.tl0, .slice K Kl.length ck, .int .i64 c1, .int .i64 c2, .int .i64 c3, .int .i64 c4, .int .i64 c5] 38)).alloc (.cells #[.bool p.mark, .int .u8 p.type, .int .u16 p.seq, .int .u32 p.time, .int .u32 p.ssrc, .slice A5 p.csrc.length cc5, .slice A6 p.exts.length c6, .string (str p.payload), .int .i64 p.pad] 57)).alloc (.cells #[.int .i64 x.src, .int .i64 x.layer, .int .i64 x.tid] 59)).alloc (.cells #[.int .u32 0, .int .i64 0, .bool false, .int .i64 0, .int .i64 0, .int .i64 0, .bool false, .int .i64 0, .int .i64 0, .int .i64 0, .int .i64 0, .int .i64 0, .int .i64 0, .int .i64 0, .int .i64 0, .int .i64 0, .int .i64 0, .slice none 0 0, .int .i64 0, .int .i64 0, .int .i64 0, .int .i64 0, .int .i64 0] 38)) := ⟨_, rfl⟩
  have LE := hide (show Le w w1 from by rw [hw1]; exact (((((Le.refl w).alloc _).alloc _).alloc _).alloc _))
  have H6 := hide (show w1.heap[w.heap.size]? = some (.cells #[.int .u32 ss, .int .i64 st.room, .bool on1, .int .i64 src, .int .i64 layer, .int .i64 tid, .bool ms0.on, .int .i64 ms0.high, .int .i64 ms0.since, .int .i64 ms0.off.seq, .int .i64 ms0.off.time, .int .i64 ms0.off.pic, .int .i64 ms0.off.tl0, .int .i64 ms0.out.seq, .int .i64 ms0.out.time, .int .i64 ms0.out.pic, .int .i64 ms0.out.tl0, .slice K Kl.length ck, .int .i64 c1, .int .i64 c2, .int .i64 c3, .int .i64 c4, .int .i64 c5] 38 (0, 0)) from by rw [hw1]; exact heap_alloc (heap_alloc (heap_alloc (heap_alloc_new w _))))
  have H7 := hide (show w1.heap[w.heap.size + 1]? = some (.cells #[.bool p.mark, .int .u8 p.type, .int .u16 p.seq, .int .u32 p.time, .int .u32 p.ssrc, .slice A5 p.csrc.length cc5, .slice A6 p.exts.length c6, .string (str p.payload), .int .i64 p.pad] 57 (0, 0)) from by rw [hw1]; exact heap_alloc (heap_alloc (heap_at (by simp))))
  have H10 := hide (show w1.heap[w.heap.size + 1 + 1]? = some (.cells #[.int .i64 x.src, .int .i64 x.layer, .int .i64 x.tid] 59 (0, 0)) from by rw [hw1]; exact heap_alloc (heap_at (by simp)))
  have H12 := hide (show w1.heap[w.heap.size + 1 + 1 + 1]? = some (.cells #[.int .u32 0, .int .i64 0, .bool false, .int .i64 0, .int .i64 0, .int .i64 0, .bool false, .int .i64 0, .int .i64 0, .int .i64 0, .int .i64 0, .int .i64 0, .int .i64 0, .int .i64 0, .int .i64 0, .int .i64 0, .int .i64 0, .slice none 0 0, .int .i64 0, .int .i64 0, .int .i64 0, .int .i64 0, .int .i64 0] 38 (0, 0)) from by rw [hw1]; exact heap_at (by simp))
  go_enter Try.func14, Try.ntmps14
  go_upto_region 1 with fail
  rw [← hw1]
  clear hw1
  have kc1 := box_cell H7.out 7 (.string (str p.payload)) rfl w1 (Le.refl _)
  go_wp2_with fail
  refine (HPA.out _).mono ?_
  rintro e w2 ⟨rfl, hb⟩
  have H6_1 := hide (((Le.mk hb)).heap H6.out)
  have H7_1 := hide (((Le.mk hb)).heap H7.out)
  have H10_1 := hide (((Le.mk hb)).heap H10.out)
  have H12_1 := hide (((Le.mk hb)).heap H12.out)
  have LE_1 := hide (Le.trans LE.out (Le.mk hb))
  have hs2 := lt_of_heap H12_1.out
  clear kc1 H6 H7 H10 H12 LE hb
  go_wp2_with (first | (refine wpl_load_blk rfl 57 (.tmp 7) rfl (cs := [.bool p.mark, .int .u8 p.type, .int .u16 p.seq, .int .u32 p.time, .int .u32 p.ssrc, .slice A5 p.csrc.length cc5, .slice A6 p.exts.length c6, .string (str p.payload), .int .i64 p.pad]) _ rfl Try.underlying57 rfl (by kernel_rfl) (heap_alloc H7_1.out) ?_))
  have H6_2 := hide (show (World.alloc w2 (.cells #[.bool d0, .bool d1, .bool d2, .int .i64 d3, .bool d4, .bool d5, .int .i64 d6, .bool d7, .int .i64 d8, .bool d9, .int .i64 d10, .bool d11, .bool d12, .int .i64 d13] 99)).heap[w.heap.size]? = some (.cells #[.int .u32 ss, .int .i64 st.room, .bool on1, .int .i64 src, .int .i64 layer, .int .i64 tid, .bool ms0.on, .int .i64 ms0.high, .int .i64 ms0.since, .int .i64 ms0.off.seq, .int .i64 ms0.off.time, .int .i64 ms0.off.pic, .int .i64 ms0.off.tl0, .int .i64 ms0.out.seq, .int .i64 ms0.out.time, .int .i64 ms0.out.pic, .int .i64 ms0.out.tl0, .slice K Kl.length ck, .int .i64 c1, .int .i64 c2, .int .i64 c3, .int .i64 c4, .int .i64 c5] 38 (0, 0)) from heap_alloc H6_1.out)
  have H7_2 := hide (show (World.alloc w2 (.cells #[.bool d0, .bool d1, .bool d2, .int .i64 d3, .bool d4, .bool d5, .int .i64 d6, .bool d7, .int .i64 d8, .bool d9, .int .i64 d10, .bool d11, .bool d12, .int .i64 d13] 99)).heap[w.heap.size + 1]? = some (.cells #[.bool p.mark, .int .u8 p.type, .int .u16 p.seq, .int .u32 p.time, .int .u32 p.ssrc, .slice A5 p.csrc.length cc5, .slice A6 p.exts.length c6, .string (str p.payload), .int .i64 p.pad] 57 (0, 0)) from heap_alloc H7_1.out)
  have H10_2 := hide (show (World.alloc w2 (.cells #[.bool d0, .bool d1, .bool d2, .int .i64 d3, .bool d4, .bool d5, .int .i64 d6, .bool d7, .int .i64 d8, .bool d9, .int .i64 d10, .bool d11, .bool d12, .int .i64 d13] 99)).heap[w.heap.size + 1 + 1]? = some (.cells #[.int .i64 x.src, .int .i64 x.layer, .int .i64 x.tid] 59 (0, 0)) from heap_alloc H10_1.out)
  have H12_2 := hide (show (World.alloc w2 (.cells #[.bool d0, .bool d1, .bool d2, .int .i64 d3, .bool d4, .bool d5, .int .i64 d6, .bool d7, .int .i64 d8, .bool d9, .int .i64 d10, .bool d11, .bool d12, .int .i64 d13] 99)).heap[w.heap.size + 1 + 1 + 1]? = some (.cells #[.int .u32 0, .int .i64 0, .bool false, .int .i64 0, .int .i64 0, .int .i64 0, .bool false, .int .i64 0, .int .i64 0, .int .i64 0, .int .i64 0, .int .i64 0, .int .i64 0, .int .i64 0, .int .i64 0, .int .i64 0, .int .i64 0, .slice none 0 0, .int .i64 0, .int .i64 0, .int .i64 0, .int .i64 0, .int .i64 0] 38 (0, 0)) from heap_alloc H12_1.out)
  have H16_2 := hide (show (World.alloc w2 (.cells #[.bool d0, .bool d1, .bool d2, .int .i64 d3, .bool d4, .bool d5, .int .i64 d6, .bool d7, .int .i64 d8, .bool d9, .int .i64 d10, .bool d11, .bool d12, .int .i64 d13] 99)).heap[w2.heap.size]? = some (.cells #[.bool d0, .bool d1, .bool d2, .int .i64 d3, .bool d4, .bool d5, .int .i64 d6, .bool d7, .int .i64 d8, .bool d9, .int .i64 d10, .bool d11, .bool d12, .int .i64 d13] 99 (0, 0)) from heap_alloc_new _ _)
  have LE_2 := hide (show Le w (World.alloc w2 (.cells #[.bool d0, .bool d1, .bool d2, .int .i64 d3, .bool d4, .bool d5, .int .i64 d6, .bool d7, .int .i64 d8, .bool d9, .int .i64 d10, .bool d11, .bool d12, .int .i64 d13] 99)) from LE_1.out.alloc _)
  clear H6_1 H7_1 H10_1 H12_1 LE_1
  generalize (World.alloc w2 (.cells #[.bool d0, .bool d1, .bool d2, .int .i64 d3, .bool d4, .bool d5, .int .i64 d6, .bool d7, .int .i64 d8, .bool d9, .int .i64 d10, .bool d11, .bool d12, .int .i64 d13] 99)) = w3 at *
  have hs3 := lt_of_heap H16_2.out
  refine (HPU.out _ LE_2.out).mono ?_
  rintro e w4 ⟨rfl, hb⟩
  have H6_3 := hide (((Le.mk hb)).heap H6_2.out)
  have H7_3 := hide (((Le.mk hb)).heap H7_2.out)
  have H10_3 := hide (((Le.mk hb)).heap H10_2.out)
  have H12_3 := hide (((Le.mk hb)).heap H12_2.out)
  have H16_3 := hide (((Le.mk hb)).heap H16_2.out)
  have LE_3 := hide (Le.trans LE_2.out (Le.mk hb))
  have hs4 := lt_of_heap H16_3.out
  clear H6_2 H7_2 H10_2 H12_2 H16_2 LE_2 hb
  have kc5 := box_cell H16_3.out 2 (.bool d2) rfl w4 (Le.refl _)
  have kc6 := box_cell H16_3.out 3 (.int .i64 d3) rfl w4 (Le.refl _)
  have kc7 := box_cell H7_3.out 7 (.string (str p.payload)) rfl w4 (Le.refl _)
  go_upto_region 12 with fail
  go_cut [23] (fun v wx => v = .bool bg ∧ wx = w4)
  case first =>
    cases d2
    · go_wp2_with fail
      go_meet
      exact ⟨by rw [hbg.out]; rfl, rfl⟩
    · go_wp2_with fail
      go_meet
      exact ⟨by rw [hbg.out, beq_nat0]; rfl, rfl⟩
  obtain ⟨rfl, hwc⟩ := hcut
  rw [hwc]
  clear hwc
  go_upto_region 13 with fail
  go_cut [24] (fun v wx => v = .bool wh ∧ wx = w4)
  case first =>
    cases bg
    · have hwh2 := hide (show wh = false by rw [hwh.out]; rfl)
      go_wp2_with fail
      go_meet
      exact ⟨by rw [hwh2.out], rfl⟩
    · obtain ⟨n, rfl⟩ := Int.eq_ofNat_of_zero_le hN
      by_cases hlt : n < p.payload.length
      · have hI : (n : Int) < (p.payload.length : Int) := by omega
        have h0I : (0 : Int) ≤ (n : Int) := by omega
        have hg : p.payload[n]? = some p.payload[n] := List.getElem?_eq_getElem hlt
        have hwh2 := hide (show wh = decide (p.payload[n].toNat % 2 = 0) by rw [hwh.out]; simp [hlt])
        have htm : (p.payload[n].toNat : Int).tmod 2 = ((p.payload[n].toNat % 2 : Nat) : Int) := rfl
        have hmw : IntKind.u8.wrap ((p.payload[n].toNat % 2 : Nat) : Int) = ((p.payload[n].toNat % 2 : Nat) : Int) := by simp [IntKind.wrap, IntKind.signed, IntKind.bits]; omega
        clear hg
        generalize p.payload[n].toNat % 2 = md at *
        go_wp2_with fail
        go_meet
        exact ⟨by rw [hwh2.out, beq_nat0], rfl⟩
      · have hI : ¬ (n : Int) < (p.payload.length : Int) := by omega
        have hwh2 := hide (show wh = false by rw [hwh.out]; simp [hlt])
        go_wp2_with fail
        go_meet
        exact ⟨by rw [hwh2.out], rfl⟩
  obtain ⟨rfl, hwc⟩ := hcut
  rw [hwc]
  clear hwc
  have kc8 := box_cell H16_3.out 9 (.bool d9) rfl w4 (Le.refl _)
  have kc9 := box_cell H16_3.out 10 (.int .i64 d10) rfl w4 (Le.refl _)
  have kc10 := box_cell H16_3.out 11 (.bool d11) rfl w4 (Le.refl _)
  go_wp2_with (first | (refine wpl_load_in rfl 29 (.tmp 129) rfl [.int .u32 ss, .int .i64 st.room] [.bool on1, .int .i64 src, .int .i64 layer, .int .i64 tid] [.bool ms0.on, .int .i64 ms0.high, .int .i64 ms0.since, .int .i64 ms0.off.seq, .int .i64 ms0.off.time, .int .i64 ms0.off.pic, .int .i64 ms0.off.tl0, .int .i64 ms0.out.seq, .int .i64 ms0.out.time, .int .i64 ms0.out.pic, .int .i64 ms0.out.tl0, .slice K Kl.length ck, .int .i64 c1, .int .i64 c2, .int .i64 c3, .int .i64 c4, .int .i64 c5] _ rfl Try.underlying29 rfl (by kernel_rfl) H6_3.out ?_) | (refine wpl_load_blk rfl 59 (.tmp 10) rfl (cs := [.int .i64 x.src, .int .i64 x.layer, .int .i64 x.tid]) _ rfl Try.underlying59 rfl (by kernel_rfl) H10_3.out ?_))
  refine (HTK.out _).mono ?_
  rintro e w6 ⟨rfl, hb⟩
  have H6_4 := hide (((Le.mk hb)).heap H6_3.out)
  have H7_4 := hide (((Le.mk hb)).heap H7_3.out)
  have H10_4 := hide (((Le.mk hb)).heap H10_3.out)
  have H12_4 := hide (((Le.mk hb)).heap H12_3.out)
  have H16_4 := hide (((Le.mk hb)).heap H16_3.out)
  have LE_4 := hide (Le.trans LE_3.out (Le.mk hb))
  have hs11 := lt_of_heap H16_4.out
  clear kc5 kc6 kc7 kc8 kc9 kc10 H6_3 H7_3 H10_3 H12_3 H16_3 LE_3 hb
  go_upto_region 15 with fail
  have H6_5 := hide (show (World.alloc w6 (.cells #[.bool on2, .int .i64 s2, .int .i64 l2, .int .i64 t2] 29)).heap[w.heap.size]? = some (.cells #[.int .u32 ss, .int .i64 st.room, .bool on1, .int .i64 src, .int .i64 layer, .int .i64 tid, .bool ms0.on, .int .i64 ms0.high, .int .i64 ms0.since, .int .i64 ms0.off.seq, .int .i64 ms0.off.time, .int .i64 ms0.off.pic, .int .i64 ms0.off.tl0, .int .i64 ms0.out.seq, .int .i64 ms0.out.time, .int .i64 ms0.out.pic, .int .i64 ms0.out.tl0, .slice K Kl.length ck, .int .i64 c1, .int .i64 c2, .int .i64 c3, .int .i64 c4, .int .i64 c5] 38 (0, 0)) from heap_alloc H6_4.out)
  have H7_5 := hide (show (World.alloc w6 (.cells #[.bool on2, .int .i64 s2, .int .i64 l2, .int .i64 t2] 29)).heap[w.heap.size + 1]? = some (.cells #[.bool p.mark, .int .u8 p.type, .int .u16 p.seq, .int .u32 p.time, .int .u32 p.ssrc, .slice A5 p.csrc.length cc5, .slice A6 p.exts.length c6, .string (str p.payload), .int .i64 p.pad] 57 (0, 0)) from heap_alloc H7_4.out)
  have H10_5 := hide (show (World.alloc w6 (.cells #[.bool on2, .int .i64 s2, .int .i64 l2, .int .i64 t2] 29)).heap[w.heap.size + 1 + 1]? = some (.cells #[.int .i64 x.src, .int .i64 x.layer, .int .i64 x.tid] 59 (0, 0)) from heap_alloc H10_4.out)
  have H12_5 := hide (show (World.alloc w6 (.cells #[.bool on2, .int .i64 s2, .int .i64 l2, .int .i64 t2] 29)).heap[w.heap.size + 1 + 1 + 1]? = some (.cells #[.int .u32 0, .int .i64 0, .bool false, .int .i64 0, .int .i64 0, .int .i64 0, .bool false, .int .i64 0, .int .i64 0, .int .i64 0, .int .i64 0, .int .i64 0, .int .i64 0, .int .i64 0, .int .i64 0, .int .i64 0, .int .i64 0, .slice none 0 0, .int .i64 0, .int .i64 0, .int .i64 0, .int .i64 0, .int .i64 0] 38 (0, 0)) from heap_alloc H12_4.out)
  have H16_5 := hide (show (World.alloc w6 (.cells #[.bool on2, .int .i64 s2, .int .i64 l2, .int .i64 t2] 29)).heap[w2.heap.size]? = some (.cells #[.bool d0, .bool d1, .bool d2, .int .i64 d3, .bool d4, .bool d5, .int .i64 d6, .bool d7, .int .i64 d8, .bool d9, .int .i64 d10, .bool d11, .bool d12, .int .i64 d13] 99 (0, 0)) from heap_alloc H16_4.out)
  have H25_5 := hide (show (World.alloc w6 (.cells #[.bool on2, .int .i64 s2, .int .i64 l2, .int .i64 t2] 29)).heap[w6.heap.size]? = some (.cells #[.bool on2, .int .i64 s2, .int .i64 l2, .int .i64 t2] 29 (0, 0)) from heap_alloc_new _ _)
  have LE_5 := hide (show Le w (World.alloc w6 (.cells #[.bool on2, .int .i64 s2, .int .i64 l2, .int .i64 t2] 29)) from LE_4.out.alloc _)
  clear H6_4 H7_4 H10_4 H12_4 H16_4 LE_4
  generalize (World.alloc w6 (.cells #[.bool on2, .int .i64 s2, .int .i64 l2, .int .i64 t2] 29)) = w7 at *
  have hs12 := lt_of_heap H25_5.out
  go_wp2_with (first | (refine wpl_load_blk rfl 29 (.tmp 25) rfl (cs := [.bool on2, .int .i64 s2, .int .i64 l2, .int .i64 t2]) _ rfl Try.underlying29 rfl (by kernel_rfl) H25_5.out ?_) | (refine wpl_store_in rfl 29 (.tmp 147) (.tmp 146) rfl [.int .u32 ss, .int .i64 st.room] (cs := [.bool on2, .int .i64 s2, .int .i64 l2, .int .i64 t2]) (old := [.bool on1, .int .i64 src, .int .i64 layer, .int .i64 tid]) (post := [.bool ms0.on, .int .i64 ms0.high, .int .i64 ms0.since, .int .i64 ms0.off.seq, .int .i64 ms0.off.time, .int .i64 ms0.off.pic, .int .i64 ms0.off.tl0, .int .i64 ms0.out.seq, .int .i64 ms0.out.time, .int .i64 ms0.out.pic, .int .i64 ms0.out.tl0, .slice K Kl.length ck, .int .i64 c1, .int .i64 c2, .int .i64 c3, .int .i64 c4, .int .i64 c5]) rfl rfl (by kernel_rfl) (by simp [Value.oneCell']) H6_5.out rfl ?_; intro w8 hn hg; have H7_6 := hide (heap_grown hg H7_5.out (by simp <;> omega)); have H10_6 := hide (heap_grown hg H10_5.out (by simp <;> omega)); have H12_6 := hide (heap_grown hg H12_5.out (by simp <;> omega)); have H16_6 := hide (heap_grown hg H16_5.out (by simp <;> omega)); have H25_6 := hide (heap_grown hg H25_5.out (by simp <;> omega)); have H6_6 := hide hn; have LE_6 := hide (Le.mk (below_row LE_5.out.out hg (by omega) LE_5.out.size)); clear H7_5 H10_5 H12_5 H16_5 H25_5 H6_5 LE_5 hn hg) | (refine wpl_load_blk rfl 29 (.tmp 25) rfl (cs := [.bool on2, .int .i64 s2, .int .i64 l2, .int .i64 t2]) _ rfl Try.underlying29 rfl (by kernel_rfl) H25_6.out ?_) | (refine wpl_load_blk rfl 59 (.tmp 10) rfl (cs := [.int .i64 x.src, .int .i64 x.layer, .int .i64 x.tid]) _ rfl Try.underlying59 rfl (by kernel_rfl) H10_6.out ?_))
  refine (HAS.out _).mono ?_
  rintro e w9 ⟨rfl, hb⟩
  have H6_7 := hide (((Le.mk hb)).heap H6_6.out)
  have H7_7 := hide (((Le.mk hb)).heap H7_6.out)
  have H12_7 := hide (((Le.mk hb)).heap H12_6.out)
  have H16_7 := hide (((Le.mk hb)).heap H16_6.out)
  have H25_7 := hide (((Le.mk hb)).heap H25_6.out)
  have LE_7 := hide (Le.trans LE_6.out (Le.mk hb))
  have hs13 := lt_of_heap H25_7.out
  clear H6_6 H7_6 H10_6 H12_6 H16_6 H25_6 LE_6 hb
  have kc14 := box_cell H7_7.out 2 (.int .u16 p.seq) rfl w9 (Le.refl _)
  have kc15 := box_cell H7_7.out 3 (.int .u32 p.time) rfl w9 (Le.refl _)
  have kc16 := box_cell H16_7.out 6 (.int .i64 d6) rfl w9 (Le.refl _)
  have kc17 := box_cell H16_7.out 8 (.int .i64 d8) rfl w9 (Le.refl _)
  go_upto_region 18 with fail
  have H6_8 := hide (show (World.alloc w9 (.cells #[.int .i64 p.seq, .int .i64 p.time, .int .i64 d6, .int .i64 d8] 31)).heap[w.heap.size]? = some (.cells #[.int .u32 ss, .int .i64 st.room, .bool on2, .int .i64 s2, .int .i64 l2, .int .i64 t2, .bool ms0.on, .int .i64 ms0.high, .int .i64 ms0.since, .int .i64 ms0.off.seq, .int .i64 ms0.off.time, .int .i64 ms0.off.pic, .int .i64 ms0.off.tl0, .int .i64 ms0.out.seq, .int .i64 ms0.out.time, .int .i64 ms0.out.pic, .int .i64 ms0.out.tl0, .slice K Kl.length ck, .int .i64 c1, .int .i64 c2, .int .i64 c3, .int .i64 c4, .int .i64 c5] 38 (0, 0)) from heap_alloc H6_7.out)
  have H12_8 := hide (show (World.alloc w9 (.cells #[.int .i64 p.seq, .int .i64 p.time, .int .i64 d6, .int .i64 d8] 31)).heap[w.heap.size + 1 + 1 + 1]? = some (.cells #[.int .u32 0, .int .i64 0, .bool false, .int .i64 0, .int .i64 0, .int .i64 0, .bool false, .int .i64 0, .int .i64 0, .int .i64 0, .int .i64 0, .int .i64 0, .int .i64 0, .int .i64 0, .int .i64 0, .int .i64 0, .int .i64 0, .slice none 0 0, .int .i64 0, .int .i64 0, .int .i64 0, .int .i64 0, .int .i64 0] 38 (0, 0)) from heap_alloc H12_7.out)
  have H28_8 := hide (show (World.alloc w9 (.cells #[.int .i64 p.seq, .int .i64 p.time, .int .i64 d6, .int .i64 d8] 31)).heap[w9.heap.size]? = some (.cells #[.int .i64 p.seq, .int .i64 p.time, .int .i64 d6, .int .i64 d8] 31 (0, 0)) from heap_alloc_new _ _)
  have LE_8 := hide (show Le w (World.alloc w9 (.cells #[.int .i64 p.seq, .int .i64 p.time, .int .i64 d6, .int .i64 d8] 31)) from LE_7.out.alloc _)
  clear kc14 kc15 kc16 kc17 H6_7 H7_7 H12_7 H16_7 H25_7 LE_7
  generalize (World.alloc w9 (.cells #[.int .i64 p.seq, .int .i64 p.time, .int .i64 d6, .int .i64 d8] 31)) = w10 at *
  have hs18 := lt_of_heap H28_8.out
  have kc19 := box_cell H6_8.out 19 (.int .i64 c2) rfl w10 (Le.refl _)
  go_wp2_with (first | (refine wpl_store_1 rfl 3 (.tmp 170) (.tmp 168) rfl [.int .u32 ss, .int .i64 st.room, .bool on2, .int .i64 s2, .int .i64 l2, .int .i64 t2, .bool ms0.on, .int .i64 ms0.high, .int .i64 ms0.since, .int .i64 ms0.off.seq, .int .i64 ms0.off.time, .int .i64 ms0.off.pic, .int .i64 ms0.off.tl0, .int .i64 ms0.out.seq, .int .i64 ms0.out.time, .int .i64 ms0.out.pic, .int .i64 ms0.out.tl0, .slice K Kl.length ck, .int .i64 c1] (v := .int .i64 ((c2 : Int) + 1)) (old := .int .i64 c2) (post := [.int .i64 c3, .int .i64 c4, .int .i64 c5]) rfl rfl (by kernel_rfl) rfl H6_8.out ?_; intro w11 hn hg; have H12_9 := hide (heap_grown hg H12_8.out (by simp <;> omega)); have H6_9 := hide hn; have LE_9 := hide (Le.mk (below_row LE_8.out.out hg (by omega) LE_8.out.size)); clear kc19 H12_8 H28_8 H6_8 LE_8 hn hg) | (refine wpl_load_blk rfl 38 (.tmp 6) rfl (cs := [.int .u32 ss, .int .i64 st.room, .bool on2, .int .i64 s2, .int .i64 l2, .int .i64 t2, .bool ms0.on, .int .i64 ms0.high, .int .i64 ms0.since, .int .i64 ms0.off.seq, .int .i64 ms0.off.time, .int .i64 ms0.off.pic, .int .i64 ms0.off.tl0, .int .i64 ms0.out.seq, .int .i64 ms0.out.time, .int .i64 ms0.out.pic, .int .i64 ms0.out.tl0, .slice K Kl.length ck, .int .i64 c1, .int .i64 ((c2 : Int) + 1), .int .i64 c3, .int .i64 c4, .int .i64 c5]) _ rfl Try.underlying38 rfl (by kernel_rfl) H6_9.out ?_) | (refine wpl_store_blk rfl 38 (.tmp 12) (.tmp 171) (cs := [.int .u32 ss, .int .i64 st.room, .bool on2, .int .i64 s2, .int .i64 l2, .int .i64 t2, .bool ms0.on, .int .i64 ms0.high, .int .i64 ms0.since, .int .i64 ms0.off.seq, .int .i64 ms0.off.time, .int .i64 ms0.off.pic, .int .i64 ms0.off.tl0, .int .i64 ms0.out.seq, .int .i64 ms0.out.time, .int .i64 ms0.out.pic, .int .i64 ms0.out.tl0, .slice K Kl.length ck, .int .i64 c1, .int .i64 ((c2 : Int) + 1), .int .i64 c3, .int .i64 c4, .int .i64 c5]) rfl rfl rfl (by kernel_rfl) (by simp [Value.oneCell']) H12_9.out rfl ?_; intro w12 hn hg; have H12_10 := hide hn; have LE_10 := hide (Le.mk (below_row LE_9.out.out hg (by omega) LE_9.out.size)); clear H6_9 H12_9 LE_9 hn hg))
  refine ret_cttt Try.results14 (InCell.mk' rfl H12_10.out Try.underlying38 rfl (by kernel_rfl)) rfl rfl rfl ?_
  rw [HR.out]
  exact ⟨.slice K Kl.length ck, Kl, rfl, LE_10.out.rsl keeps_en hk.out, .inl ⟨rfl, rfl, rfl, rfl⟩, LE_10.out.out⟩

set_option maxRecDepth 100000 in
set_option maxHeartbeats 8000000 in
theorem r14drop (ss : Nat) (src layer tid : Int) (ms0 : Ms) (st : St) (c1 c2 c3 c4 c5 : Nat) (p : Pk) (Kl : Kp) (K : Option Addr) (ck : Nat) (A5 A6 : Option Addr) (cc5 c6 : Nat) (f l : Int) (x : Wnt) (d0 d1 d2 d4 d5 d7 d9 d11 d12 : Bool) (d3 d6 d8 d10 d13 : Nat) (N pp tp E er : Int) (o0 : List UInt8) (on1 : Bool) (bg wh on2 : Bool) (s2 l2 t2 : Int) (hN : 0 ≤ N) (hbg : Hd (bg = (d2 && decide (d3 = 0)))) (hwh : Hd (wh = (bg && (decide (N < p.payload.length) && decide ((p.payload[N.toNat]?.map (·.toNat % 2)) = some 0))))) (hpl : p.payload.length ≤ 1000) (hq : IntKind.i64.wrap (p.seq : Int) = p.seq) (hq2 : IntKind.i64.wrap (p.time : Int) = p.time) (w : World) (hk : Hd (RSl 2 REn w Kl (.slice K Kl.length ck)))
    (HPA : Hd (∀ W, Calls Try.prog 28 #[.string (str p.payload)] W (Gives W (.tuple #[.agg #[.bool d0, .bool d1, .bool d2, .int .i64 d3, .bool d4, .bool d5, .int .i64 d6, .bool d7, .int .i64 d8, .bool d9, .int .i64 d10, .bool d11, .bool d12, .int .i64 d13], .int .i64 N, .int .i64 pp, .int .i64 tp, .int .i64 0]))))
    (HPU : Hd (∀ W, Le w W → Calls Try.prog 29 #[.agg #[.bool p.mark, .int .u8 p.type, .int .u16 p.seq, .int .u32 p.time, .int .u32 p.ssrc, .slice A5 p.csrc.length cc5, .slice A6 p.exts.length c6, .string (str p.payload), .int .i64 p.pad]] W (Gives W (.tuple #[.string (str o0), .int .i64 0])))) (HTK : Hd (∀ W, Calls Try.prog 32 #[.agg #[.bool on1, .int .i64 src, .int .i64 layer, .int .i64 tid], .agg #[.int .i64 f, .int .i64 l, .bool bg, .bool wh, .bool d9, .int .i64 d10, .bool d11], .agg #[.int .i64 x.src, .int .i64 x.layer, .int .i64 x.tid]] W (Gives W (.tuple #[.agg #[.bool on2, .int .i64 s2, .int .i64 l2, .int .i64 t2], .int .i64 2])))) (ask : Bool) (HAS : Hd (∀ W, Calls Try.prog 31 #[.agg #[.bool on2, .int .i64 s2, .int .i64 l2, .int .i64 t2], .agg #[.int .i64 x.src, .int .i64 x.layer, .int .i64 x.tid]] W (Gives W (.bool ask)))) (ms : Ms) (HDR : Hd (∀ W, Calls Try.prog 30 #[.agg #[.bool ms0.on, .int .i64 ms0.high, .int .i64 ms0.since, .int .i64 ms0.off.seq, .int .i64 ms0.off.time, .int .i64 ms0.off.pic, .int .i64 ms0.off.tl0, .int .i64 ms0.out.seq, .int .i64 ms0.out.time, .int .i64 ms0.out.pic, .int .i64 ms0.out.tl0], .agg #[.int .i64 p.seq, .int .i64 p.time, .int .i64 d6, .int .i64 d8], .bool bg] W (Gives W (.agg #[.bool ms.on, .int .i64 ms.high, .int .i64 ms.since, .int .i64 ms.off.seq, .int .i64 ms.off.time, .int .i64 ms.off.pic, .int .i64 ms.off.tl0, .int .i64 ms.out.seq, .int .i64 ms.out.time, .int .i64 ms.out.pic, .int .i64 ms.out.tl0])))) (hb : IntKind.i64.wrap ((c3 : Int) + 1) = (c3 : Int) + 1) :
    Calls Try.prog 14 #[rdV (Dn.mk ss (Ch.mk on1 src layer tid) ms0 st c1 c2 c3 c4 c5) (.slice K Kl.length ck), P06 p (.slice A5 p.csrc.length cc5) (.slice A6 p.exts.length c6), .int .i64 f, .int .i64 l, x.val, .bool false] w (TakeQ (Dn.mk ss (Ch.mk on1 src layer tid) ms0 st c1 c2 c3 c4 c5) p Kl (.slice K Kl.length ck) w (Dn.mk ss (Ch.mk on2 s2 l2 t2) ms st c1 c2 (c3 + 1) c4 c5, none, ask)) := by
  obtain ⟨R, hR⟩ : ∃ R, R = TakeQ (Dn.mk ss (Ch.mk on1 src layer tid) ms0 st c1 c2 c3 c4 c5) p Kl (.slice K Kl.length ck) w (Dn.mk ss (Ch.mk on2 s2 l2 t2) ms st c1 c2 (c3 + 1) c4 c5, none, ask) := ⟨_, rfl⟩
  rw [← hR]
  have HR := hide hR
  clear hR
  simp only [rdV, P06, Wnt.val]
  obtain ⟨w1, hw1⟩ : ∃ w1, w1 = ((((w.alloc (.cells #[.int .u32 ss, .int .i64 st.room, .bool on1, .int .i64 src, .int .i64 layer, .int .i64 tid, .bool ms0.on, .int .i64 ms0.high, .int .i64 ms0.since, .int .i64 ms0.off.seq, .int .i64 ms0.off.time, .int .i64 ms0.off.pic, .int .i64 ms0.off.tl0, .int .i64 ms0.out.seq, .int .i64 ms0.out.time, .int .i64 ms0.out.pic, .int .i64 ms0.out.tl0, .slice K Kl.length ck, .int .i64 c1, .int .i64 c2, .int .i64 c3, .int .i64 c4, .int .i64 c5] 38)).alloc (.cells #[.bool p.mark, .int .u8 p.type, .int .u16 p.seq, .int .u32 p.time, .int .u32 p.ssrc, .slice A5 p.csrc.length cc5, .slice A6 p.exts.length c6, .string (str p.payload), .int .i64 p.pad] 57)).alloc (.cells #[.int .i64 x.src, .int .i64 x.layer, .int .i64 x.tid] 59)).alloc (.cells #[.int .u32 0, .int .i64 0, .bool false, .int .i64 0, .int .i64 0, .int .i64 0, .bool false, .int .i64 0, .int .i64 0, .int .i64 0, .int .i64 0, .int .i64 0, .int .i64 0, .int .i64 0, .int .i64 0, .int .i64 0, .int .i64 0, .slice none 0 0, .int .i64 0, .int .i64 0, .int .i64 0, .int .i64 0, .int .i64 0] 38)) := ⟨_, rfl⟩
  have LE := hide (show Le w w1 from by rw [hw1]; exact (((((Le.refl w).alloc _).alloc _).alloc _).alloc _))
  have H6 := hide (show w1.heap[w.heap.size]? = some (.cells #[.int .u32 ss, .int .i64 st.room, .bool on1, .int .i64 src, .int .i64 layer, .int .i64 tid, .bool ms0.on, .int .i64 ms0.high, .int .i64 ms0.since, .int .i64 ms0.off.seq, .int .i64 ms0.off.time, .int .i64 ms0.off.pic, .int .i64 ms0.off.tl0, .int .i64 ms0.out.seq, .int .i64 ms0.out.time, .int .i64 ms0.out.pic, .int .i64 ms0.out.tl0, .slice K Kl.length ck, .int .i64 c1, .int .i64 c2, .int .i64 c3, .int .i64 c4, .int .i64 c5] 38 (0, 0)) from by rw [hw1]; exact heap_alloc (heap_alloc (heap_alloc (heap_alloc_new w _))))
  have H7 := hide (show w1.heap[w.heap.size + 1]? = some (.cells #[.bool p.mark, .int .u8 p.type, .int .u16 p.seq, .int .u32 p.time, .int .u32 p.ssrc, .slice A5 p.csrc.length cc5, .slice A6 p.exts.length c6, .string (str p.payload), .int .i64 p.pad] 57 (0, 0)) from by rw [hw1]; exact heap_alloc (heap_alloc (heap_at (by simp))))
  have H10 := hide (show w1.heap[w.heap.size + 1 + 1]? = some (.cells #[.int .i64 x.src, .int .i64 x.layer, .int .i64 x.tid] 59 (0, 0)) from by rw [hw1]; exact heap_alloc (heap_at (by simp)))
  have H12 := hide (show w1.heap[w.heap.size + 1 + 1 + 1]? = some (.cells #[.int .u32 0, .int .i64 0, .bool false, .int .i64 0, .int .i64 0, .int .i64 0, .bool false, .int .i64 0, .int .i64 0, .int .i64 0, .int .i64 0, .int .i64 0, .int .i64 0, .int .i64 0, .int .i64 0, .int .i64 0, .int .i64 0, .slice none 0 0, .int .i64 0, .int .i64 0, .int .i64 0, .int .i64 0, .int .i64 0] 38 (0, 0)) from by rw [hw1]; exact heap_at (by simp))
  go_enter Try.func14, Try.ntmps14
  go_upto_region 1 with fail
  rw [← hw1]
  clear hw1
  have kc1 := box_cell H7.out 7 (.string (str p.payload)) rfl w1 (Le.refl _)
  go_wp2_with fail
  refine (HPA.out _).mono ?_
  rintro e w2 ⟨rfl, hb⟩
  have H6_1 := hide (((Le.mk hb)).heap H6.out)
  have H7_1 := hide (((Le.mk hb)).heap H7.out)
  have H10_1 := hide (((Le.mk hb)).heap H10.out)
  have H12_1 := hide (((Le.mk hb)).heap H12.out)
  have LE_1 := hide (Le.trans LE.out (Le.mk hb))
  have hs2 := lt_of_heap H12_1.out
  clear kc1 H6 H7 H10 H12 LE hb
  go_wp2_with (first | (refine wpl_load_blk rfl 57 (.tmp 7) rfl (cs := [.bool p.mark, .int .u8 p.type, .int .u16 p.seq, .int .u32 p.time, .int .u32 p.ssrc, .slice A5 p.csrc.length cc5, .slice A6 p.exts.length c6, .string (str p.payload), .int .i64 p.pad]) _ rfl Try.underlying57 rfl (by kernel_rfl) (heap_alloc H7_1.out) ?_))
  have H6_2 := hide (show (World.alloc w2 (.cells #[.bool d0, .bool d1, .bool d2, .int .i64 d3, .bool d4, .bool d5, .int .i64 d6, .bool d7, .int .i64 d8, .bool d9, .int .i64 d10, .bool d11, .bool d12, .int .i64 d13] 99)).heap[w.heap.size]? = some (.cells #[.int .u32 ss, .int .i64 st.room, .bool on1, .int .i64 src, .int .i64 layer, .int .i64 tid, .bool ms0.on, .int .i64 ms0.high, .int .i64 ms0.since, .int .i64 ms0.off.seq, .int .i64 ms0.off.time, .int .i64 ms0.off.pic, .int .i64 ms0.off.tl0, .int .i64 ms0.out.seq, .int .i64 ms0.out.time, .int .i64 ms0.out.pic, .int .i64 ms0.out.tl0, .slice K Kl.length ck, .int .i64 c1, .int .i64 c2, .int .i64 c3, .int .i64 c4, .int .i64 c5] 38 (0, 0)) from heap_alloc H6_1.out)
  have H7_2 := hide (show (World.alloc w2 (.cells #[.bool d0, .bool d1, .bool d2, .int .i64 d3, .bool d4, .bool d5, .int .i64 d6, .bool d7, .int .i64 d8, .bool d9, .int .i64 d10, .bool d11, .bool d12, .int .i64 d13] 99)).heap[w.heap.size + 1]? = some (.cells #[.bool p.mark, .int .u8 p.type, .int .u16 p.seq, .int .u32 p.time, .int .u32 p.ssrc, .slice A5 p.csrc.length cc5, .slice A6 p.exts.length c6, .string (str p.payload), .int .i64 p.pad] 57 (0, 0)) from heap_alloc H7_1.out)
  have H10_2 := hide (show (World.alloc w2 (.cells #[.bool d0, .bool d1, .bool d2, .int .i64 d3, .bool d4, .bool d5, .int .i64 d6, .bool d7, .int .i64 d8, .bool d9, .int .i64 d10, .bool d11, .bool d12, .int .i64 d13] 99)).heap[w.heap.size + 1 + 1]? = some (.cells #[.int .i64 x.src, .int .i64 x.layer, .int .i64 x.tid] 59 (0, 0)) from heap_alloc H10_1.out)
  have H12_2 := hide (show (World.alloc w2 (.cells #[.bool d0, .bool d1, .bool d2, .int .i64 d3, .bool d4, .bool d5, .int .i64 d6, .bool d7, .int .i64 d8, .bool d9, .int .i64 d10, .bool d11, .bool d12, .int .i64 d13] 99)).heap[w.heap.size + 1 + 1 + 1]? = some (.cells #[.int .u32 0, .int .i64 0, .bool false, .int .i64 0, .int .i64 0, .int .i64 0, .bool false, .int .i64 0, .int .i64 0, .int .i64 0, .int .i64 0, .int .i64 0, .int .i64 0, .int .i64 0, .int .i64 0, .int .i64 0, .int .i64 0, .slice none 0 0, .int .i64 0, .int .i64 0, .int .i64 0, .int .i64 0, .int .i64 0] 38 (0, 0)) from heap_alloc H12_1.out)
  have H16_2 := hide (show (World.alloc w2 (.cells #[.bool d0, .bool d1, .bool d2, .int .i64 d3, .bool d4, .bool d5, .int .i64 d6, .bool d7, .int .i64 d8, .bool d9, .int .i64 d10, .bool d11, .bool d12, .int .i64 d13] 99)).heap[w2.heap.size]? = some (.cells #[.bool d0, .bool d1, .bool d2, .int .i64 d3, .bool d4, .bool d5, .int .i64 d6, .bool d7, .int .i64 d8, .bool d9, .int .i64 d10, .bool d11, .bool d12, .int .i64 d13] 99 (0, 0)) from heap_alloc_new _ _)
  have LE_2 := hide (show Le w (World.alloc w2 (.cells #[.bool d0, .bool d1, .bool d2, .int .i64 d3, .bool d4, .bool d5, .int .i64 d6, .bool d7, .int .i64 d8, .bool d9, .int .i64 d10, .bool d11, .bool d12, .int .i64 d13] 99)) from LE_1.out.alloc _)
  clear H6_1 H7_1 H10_1 H12_1 LE_1
  generalize (World.alloc w2 (.cells #[.bool d0, .bool d1, .bool d2, .int .i64 d3, .bool d4, .bool d5, .int .i64 d6, .bool d7, .int .i64 d8, .bool d9, .int .i64 d10, .bool d11, .bool d12, .int .i64 d13] 99)) = w3 at *
  have hs3 := lt_of_heap H16_2.out
  refine (HPU.out _ LE_2.out).mono ?_
  rintro e w4 ⟨rfl, hb⟩
  have H6_3 := hide (((Le.mk hb)).heap H6_2.out)
  have H7_3 := hide (((Le.mk hb)).heap H7_2.out)
  have H10_3 := hide (((Le.mk hb)).heap H10_2.out)
  have H12_3 := hide (((Le.mk hb)).heap H12_2.out)
  have H16_3 := hide (((Le.mk hb)).heap H16_2.out)
  have LE_3 := hide (Le.trans LE_2.out (Le.mk hb))
  have hs4 := lt_of_heap H16_3.out
  clear H6_2 H7_2 H10_2 H12_2 H16_2 LE_2 hb
  have kc5 := box_cell H16_3.out 2 (.bool d2) rfl w4 (Le.refl _)
  have kc6 := box_cell H16_3.out 3 (.int .i64 d3) rfl w4 (Le.refl _)
  have kc7 := box_cell H7_3.out 7 (.string (str p.payload)) rfl w4 (Le.refl _)
  go_upto_region 12 with fail
  go_cut [23] (fun v wx => v = .bool bg ∧ wx = w4)
  case first =>
    cases d2
    · go_wp2_with fail
      go_meet
      exact ⟨by rw [hbg.out]; rfl, rfl⟩
    · go_wp2_with fail
      go_meet
      exact ⟨by rw [hbg.out, beq_nat0]; rfl, rfl⟩
  obtain ⟨rfl, hwc⟩ := hcut
  rw [hwc]
  clear hwc
  go_upto_region 13 with fail
  go_cut [24] (fun v wx => v = .bool wh ∧ wx = w4)
  case first =>
    cases bg
    · have hwh2 := hide (show wh = false by rw [hwh.out]; rfl)
      go_wp2_with fail
      go_meet
      exact ⟨by rw [hwh2.out], rfl⟩
    · obtain ⟨n, rfl⟩ := Int.eq_ofNat_of_zero_le hN
      by_cases hlt : n < p.payload.length
      · have hI : (n : Int) < (p.payload.length : Int) := by omega
        have h0I : (0 : Int) ≤ (n : Int) := by omega
        have hg : p.payload[n]? = some p.payload[n] := List.getElem?_eq_getElem hlt
        have hwh2 := hide (show wh = decide (p.payload[n].toNat % 2 = 0) by rw [hwh.out]; simp [hlt])
        have htm : (p.payload[n].toNat : Int).tmod 2 = ((p.payload[n].toNat % 2 : Nat) : Int) := rfl
        have hmw : IntKind.u8.wrap ((p.payload[n].toNat % 2 : Nat) : Int) = ((p.payload[n].toNat % 2 : Nat) : Int) := by simp [IntKind.wrap, IntKind.signed, IntKind.bits]; omega
        clear hg
        generalize p.payload[n].toNat % 2 = md at *
        go_wp2_with fail
        go_meet
        exact ⟨by rw [hwh2.out, beq_nat0], rfl⟩
      · have hI : ¬ (n : Int) < (p.payload.length : Int) := by omega
        have hwh2 := hide (show wh = false by rw [hwh.out]; simp [hlt])
        go_wp2_with fail
        go_meet
        exact ⟨by rw [hwh2.out], rfl⟩
  obtain ⟨rfl, hwc⟩ := hcut
  rw [hwc]
  clear hwc
  have kc8 := box_cell H16_3.out 9 (.bool d9) rfl w4 (Le.refl _)
  have kc9 := box_cell H16_3.out 10 (.int .i64 d10) rfl w4 (Le.refl _)
  have kc10 := box_cell H16_3.out 11 (.bool d11) rfl w4 (Le.refl _)
  go_wp2_with (first | (refine wpl_load_in rfl 29 (.tmp 129) rfl [.int .u32 ss, .int .i64 st.room] [.bool on1, .int .i64 src, .int .i64 layer, .int .i64 tid] [.bool ms0.on, .int .i64 ms0.high, .int .i64 ms0.since, .int .i64 ms0.off.seq, .int .i64 ms0.off.time, .int .i64 ms0.off.pic, .int .i64 ms0.off.tl0, .int .i64 ms0.out.seq, .int .i64 ms0.out.time, .int .i64 ms0.out.pic, .int .i64 ms0.out.tl0, .slice K Kl.length ck, .int .i64 c1, .int .i64 c2, .int .i64 c3, .int .i64 c4, .int .i64 c5] _ rfl Try.underlying29 rfl (by kernel_rfl) H6_3.out ?_) | (refine wpl_load_blk rfl 59 (.tmp 10) rfl (cs := [.int .i64 x.src, .int .i64 x.layer, .int .i64 x.tid]) _ rfl Try.underlying59 rfl (by kernel_rfl) H10_3.out ?_))
  refine (HTK.out _).mono ?_
  rintro e w6 ⟨rfl, hb⟩
  have H6_4 := hide (((Le.mk hb)).heap H6_3.out)
  have H7_4 := hide (((Le.mk hb)).heap H7_3.out)
  have H10_4 := hide (((Le.mk hb)).heap H10_3.out)
  have H12_4 := hide (((Le.mk hb)).heap H12_3.out)
  have H16_4 := hide (((Le.mk hb)).heap H16_3.out)
  have LE_4 := hide (Le.trans LE_3.out (Le.mk hb))
  have hs11 := lt_of_heap H16_4.out
  clear kc5 kc6 kc7 kc8 kc9 kc10 H6_3 H7_3 H10_3 H12_3 H16_3 LE_3 hb
  go_upto_region 15 with fail
  have H6_5 := hide (show (World.alloc w6 (.cells #[.bool on2, .int .i64 s2, .int .i64 l2, .int .i64 t2] 29)).heap[w.heap.size]? = some (.cells #[.int .u32 ss, .int .i64 st.room, .bool on1, .int .i64 src, .int .i64 layer, .int .i64 tid, .bool ms0.on, .int .i64 ms0.high, .int .i64 ms0.since, .int .i64 ms0.off.seq, .int .i64 ms0.off.time, .int .i64 ms0.off.pic, .int .i64 ms0.off.tl0, .int .i64 ms0.out.seq, .int .i64 ms0.out.time, .int .i64 ms0.out.pic, .int .i64 ms0.out.tl0, .slice K Kl.length ck, .int .i64 c1, .int .i64 c2, .int .i64 c3, .int .i64 c4, .int .i64 c5] 38 (0, 0)) from heap_alloc H6_4.out)
  have H7_5 := hide (show (World.alloc w6 (.cells #[.bool on2, .int .i64 s2, .int .i64 l2, .int .i64 t2] 29)).heap[w.heap.size + 1]? = some (.cells #[.bool p.mark, .int .u8 p.type, .int .u16 p.seq, .int .u32 p.time, .int .u32 p.ssrc, .slice A5 p.csrc.length cc5, .slice A6 p.exts.length c6, .string (str p.payload), .int .i64 p.pad] 57 (0, 0)) from heap_alloc H7_4.out)
  have H10_5 := hide (show (World.alloc w6 (.cells #[.bool on2, .int .i64 s2, .int .i64 l2, .int .i64 t2] 29)).heap[w.heap.size + 1 + 1]? = some (.cells #[.int .i64 x.src, .int .i64 x.layer, .int .i64 x.tid] 59 (0, 0)) from heap_alloc H10_4.out)
  have H12_5 := hide (show (World.alloc w6 (.cells #[.bool on2, .int .i64 s2, .int .i64 l2, .int .i64 t2] 29)).heap[w.heap.size + 1 + 1 + 1]? = some (.cells #[.int .u32 0, .int .i64 0, .bool false, .int .i64 0, .int .i64 0, .int .i64 0, .bool false, .int .i64 0, .int .i64 0, .int .i64 0, .int .i64 0, .int .i64 0, .int .i64 0, .int .i64 0, .int .i64 0, .int .i64 0, .int .i64 0, .slice none 0 0, .int .i64 0, .int .i64 0, .int .i64 0, .int .i64 0, .int .i64 0] 38 (0, 0)) from heap_alloc H12_4.out)
  have H16_5 := hide (show (World.alloc w6 (.cells #[.bool on2, .int .i64 s2, .int .i64 l2, .int .i64 t2] 29)).heap[w2.heap.size]? = some (.cells #[.bool d0, .bool d1, .bool d2, .int .i64 d3, .bool d4, .bool d5, .int .i64 d6, .bool d7, .int .i64 d8, .bool d9, .int .i64 d10, .bool d11, .bool d12, .int .i64 d13] 99 (0, 0)) from heap_alloc H16_4.out)
  have H25_5 := hide (show (World.alloc w6 (.cells #[.bool on2, .int .i64 s2, .int .i64 l2, .int .i64 t2] 29)).heap[w6.heap.size]? = some (.cells #[.bool on2, .int .i64 s2, .int .i64 l2, .int .i64 t2] 29 (0, 0)) from heap_alloc_new _ _)
  have LE_5 := hide (show Le w (World.alloc w6 (.cells #[.bool on2, .int .i64 s2, .int .i64 l2, .int .i64 t2] 29)) from LE_4.out.alloc _)
  clear H6_4 H7_4 H10_4 H12_4 H16_4 LE_4
  generalize (World.alloc w6 (.cells #[.bool on2, .int .i64 s2, .int .i64 l2, .int .i64 t2] 29)) = w7 at *
  have hs12 := lt_of_heap H25_5.out
  go_wp2_with (first | (refine wpl_load_blk rfl 29 (.tmp 25) rfl (cs := [.bool on2, .int .i64 s2, .int .i64 l2, .int .i64 t2]) _ rfl Try.underlying29 rfl (by kernel_rfl) H25_5.out ?_) | (refine wpl_store_in rfl 29 (.tmp 147) (.tmp 146) rfl [.int .u32 ss, .int .i64 st.room] (cs := [.bool on2, .int .i64 s2, .int .i64 l2, .int .i64 t2]) (old := [.bool on1, .int .i64 src, .int .i64 layer, .int .i64 tid]) (post := [.bool ms0.on, .int .i64 ms0.high, .int .i64 ms0.since, .int .i64 ms0.off.seq, .int .i64 ms0.off.time, .int .i64 ms0.off.pic, .int .i64 ms0.off.tl0, .int .i64 ms0.out.seq, .int .i64 ms0.out.time, .int .i64 ms0.out.pic, .int .i64 ms0.out.tl0, .slice K Kl.length ck, .int .i64 c1, .int .i64 c2, .int .i64 c3, .int .i64 c4, .int .i64 c5]) rfl rfl (by kernel_rfl) (by simp [Value.oneCell']) H6_5.out rfl ?_; intro w8 hn hg; have H7_6 := hide (heap_grown hg H7_5.out (by simp <;> omega)); have H10_6 := hide (heap_grown hg H10_5.out (by simp <;> omega)); have H12_6 := hide (heap_grown hg H12_5.out (by simp <;> omega)); have H16_6 := hide (heap_grown hg H16_5.out (by simp <;> omega)); have H25_6 := hide (heap_grown hg H25_5.out (by simp <;> omega)); have H6_6 := hide hn; have LE_6 := hide (Le.mk (below_row LE_5.out.out hg (by omega) LE_5.out.size)); clear H7_5 H10_5 H12_5 H16_5 H25_5 H6_5 LE_5 hn hg) | (refine wpl_load_blk rfl 29 (.tmp 25) rfl (cs := [.bool on2, .int .i64 s2, .int .i64 l2, .int .i64 t2]) _ rfl Try.underlying29 rfl (by kernel_rfl) H25_6.out ?_) | (refine wpl_load_blk rfl 59 (.tmp 10) rfl (cs := [.int .i64 x.src, .int .i64 x.layer, .int .i64 x.tid]) _ rfl Try.underlying59 rfl (by kernel_rfl) H10_6.out ?_))
  refine (HAS.out _).mono ?_
  rintro e w9 ⟨rfl, hb⟩
  have H6_7 := hide (((Le.mk hb)).heap H6_6.out)
  have H7_7 := hide (((Le.mk hb)).heap H7_6.out)
  have H12_7 := hide (((Le.mk hb)).heap H12_6.out)
  have H16_7 := hide (((Le.mk hb)).heap H16_6.out)
  have H25_7 := hide (((Le.mk hb)).heap H25_6.out)
  have LE_7 := hide (Le.trans LE_6.out (Le.mk hb))
  have hs13 := lt_of_heap H25_7.out
  clear H6_6 H7_6 H10_6 H12_6 H16_6 H25_6 LE_6 hb
  have kc14 := box_cell H7_7.out 2 (.int .u16 p.seq) rfl w9 (Le.refl _)
  have kc15 := box_cell H7_7.out 3 (.int .u32 p.time) rfl w9 (Le.refl _)
  have kc16 := box_cell H16_7.out 6 (.int .i64 d6) rfl w9 (Le.refl _)
  have kc17 := box_cell H16_7.out 8 (.int .i64 d8) rfl w9 (Le.refl _)
  go_upto_region 18 with fail
  have H6_8 := hide (show (World.alloc w9 (.cells #[.int .i64 p.seq, .int .i64 p.time, .int .i64 d6, .int .i64 d8] 31)).heap[w.heap.size]? = some (.cells #[.int .u32 ss, .int .i64 st.room, .bool on2, .int .i64 s2, .int .i64 l2, .int .i64 t2, .bool ms0.on, .int .i64 ms0.high, .int .i64 ms0.since, .int .i64 ms0.off.seq, .int .i64 ms0.off.time, .int .i64 ms0.off.pic, .int .i64 ms0.off.tl0, .int .i64 ms0.out.seq, .int .i64 ms0.out.time, .int .i64 ms0.out.pic, .int .i64 ms0.out.tl0, .slice K Kl.length ck, .int .i64 c1, .int .i64 c2, .int .i64 c3, .int .i64 c4, .int .i64 c5] 38 (0, 0)) from heap_alloc H6_7.out)
  have H12_8 := hide (show (World.alloc w9 (.cells #[.int .i64 p.seq, .int .i64 p.time, .int .i64 d6, .int .i64 d8] 31)).heap[w.heap.size + 1 + 1 + 1]? = some (.cells #[.int .u32 0, .int .i64 0, .bool false, .int .i64 0, .int .i64 0, .int .i64 0, .bool false, .int .i64 0, .int .i64 0, .int .i64 0, .int .i64 0, .int .i64 0, .int .i64 0, .int .i64 0, .int .i64 0, .int .i64 0, .int .i64 0, .slice none 0 0, .int .i64 0, .int .i64 0, .int .i64 0, .int .i64 0, .int .i64 0] 38 (0, 0)) from heap_alloc H12_7.out)
  have H28_8 := hide (show (World.alloc w9 (.cells #[.int .i64 p.seq, .int .i64 p.time, .int .i64 d6, .int .i64 d8] 31)).heap[w9.heap.size]? = some (.cells #[.int .i64 p.seq, .int .i64 p.time, .int .i64 d6, .int .i64 d8] 31 (0, 0)) from heap_alloc_new _ _)
  have LE_8 := hide (show Le w (World.alloc w9 (.cells #[.int .i64 p.seq, .int .i64 p.time, .int .i64 d6, .int .i64 d8] 31)) from LE_7.out.alloc _)
  clear kc14 kc15 kc16 kc17 H6_7 H7_7 H12_7 H16_7 H25_7 LE_7
  generalize (World.alloc w9 (.cells #[.int .i64 p.seq, .int .i64 p.time, .int .i64 d6, .int .i64 d8] 31)) = w10 at *
  have hs18 := lt_of_heap H28_8.out
  go_wp2_with (first | (refine wpl_load_in rfl 33 (.tmp 175) rfl [.int .u32 ss, .int .i64 st.room, .bool on2, .int .i64 s2, .int .i64 l2, .int .i64 t2] [.bool ms0.on, .int .i64 ms0.high, .int .i64 ms0.since, .int .i64 ms0.off.seq, .int .i64 ms0.off.time, .int .i64 ms0.off.pic, .int .i64 ms0.off.tl0, .int .i64 ms0.out.seq, .int .i64 ms0.out.time, .int .i64 ms0.out.pic, .int .i64 ms0.out.tl0] [.slice K Kl.length ck, .int .i64 c1, .int .i64 c2, .int .i64 c3, .int .i64 c4, .int .i64 c5] _ rfl Try.underlying33 rfl (by kernel_rfl) H6_8.out ?_) | (refine wpl_load_blk rfl 31 (.tmp 28) rfl (cs := [.int .i64 p.seq, .int .i64 p.time, .int .i64 d6, .int .i64 d8]) _ rfl Try.underlying31 rfl (by kernel_rfl) H28_8.out ?_))
  refine (HDR.out _).mono ?_
  rintro e w11 ⟨rfl, hb⟩
  have H6_9 := hide (((Le.mk hb)).heap H6_8.out)
  have H12_9 := hide (((Le.mk hb)).heap H12_8.out)
  have H28_9 := hide (((Le.mk hb)).heap H28_8.out)
  have LE_9 := hide (Le.trans LE_8.out (Le.mk hb))
  have hs19 := lt_of_heap H28_9.out
  clear H6_8 H12_8 H28_8 LE_8 hb
  go_wp2_with (first | (refine wpl_store_in rfl 33 (.tmp 180) (.tmp 179) rfl [.int .u32 ss, .int .i64 st.room, .bool on2, .int .i64 s2, .int .i64 l2, .int .i64 t2] (cs := [.bool ms.on, .int .i64 ms.high, .int .i64 ms.since, .int .i64 ms.off.seq, .int .i64 ms.off.time, .int .i64 ms.off.pic, .int .i64 ms.off.tl0, .int .i64 ms.out.seq, .int .i64 ms.out.time, .int .i64 ms.out.pic, .int .i64 ms.out.tl0]) (old := [.bool ms0.on, .int .i64 ms0.high, .int .i64 ms0.since, .int .i64 ms0.off.seq, .int .i64 ms0.off.time, .int .i64 ms0.off.pic, .int .i64 ms0.off.tl0, .int .i64 ms0.out.seq, .int .i64 ms0.out.time, .int .i64 ms0.out.pic, .int .i64 ms0.out.tl0]) (post := [.slice K Kl.length ck, .int .i64 c1, .int .i64 c2, .int .i64 c3, .int .i64 c4, .int .i64 c5]) rfl rfl (by kernel_rfl) (by simp [Value.oneCell']) H6_9.out rfl ?_; intro w12 hn hg; have H12_10 := hide (heap_grown hg H12_9.out (by simp <;> omega)); have H6_10 := hide hn; have LE_10 := hide (Le.mk (below_row LE_9.out.out hg (by omega) LE_9.out.size)); clear H12_9 H28_9 H6_9 LE_9 hn hg; have kc20 := box_cell H6_10.out 20 (.int .i64 c3) rfl w12 (Le.refl _)) | (refine wpl_store_1 rfl 3 (.tmp 186) (.tmp 184) rfl [.int .u32 ss, .int .i64 st.room, .bool on2, .int .i64 s2, .int .i64 l2, .int .i64 t2, .bool ms.on, .int .i64 ms.high, .int .i64 ms.since, .int .i64 ms.off.seq, .int .i64 ms.off.time, .int .i64 ms.off.pic, .int .i64 ms.off.tl0, .int .i64 ms.out.seq, .int .i64 ms.out.time, .int .i64 ms.out.pic, .int .i64 ms.out.tl0, .slice K Kl.length ck, .int .i64 c1, .int .i64 c2] (v := .int .i64 ((c3 : Int) + 1)) (old := .int .i64 c3) (post := [.int .i64 c4, .int .i64 c5]) rfl rfl (by kernel_rfl) rfl H6_10.out ?_; intro w13 hn hg; have H12_11 := hide (heap_grown hg H12_10.out (by simp <;> omega)); have H6_11 := hide hn; have LE_11 := hide (Le.mk (below_row LE_10.out.out hg (by omega) LE_10.out.size)); clear kc20 H12_10 H6_10 LE_10 hn hg) | (refine wpl_load_blk rfl 38 (.tmp 6) rfl (cs := [.int .u32 ss, .int .i64 st.room, .bool on2, .int .i64 s2, .int .i64 l2, .int .i64 t2, .bool ms.on, .int .i64 ms.high, .int .i64 ms.since, .int .i64 ms.off.seq, .int .i64 ms.off.time, .int .i64 ms.off.pic, .int .i64 ms.off.tl0, .int .i64 ms.out.seq, .int .i64 ms.out.time, .int .i64 ms.out.pic, .int .i64 ms.out.tl0, .slice K Kl.length ck, .int .i64 c1, .int .i64 c2, .int .i64 ((c3 : Int) + 1), .int .i64 c4, .int .i64 c5]) _ rfl Try.underlying38 rfl (by kernel_rfl) H6_11.out ?_) | (refine wpl_store_blk rfl 38 (.tmp 12) (.tmp 187) (cs := [.int .u32 ss, .int .i64 st.room, .bool on2, .int .i64 s2, .int .i64 l2, .int .i64 t2, .bool ms.on, .int .i64 ms.high, .int .i64 ms.since, .int .i64 ms.off.seq, .int .i64 ms.off.time, .int .i64 ms.off.pic, .int .i64 ms.off.tl0, .int .i64 ms.out.seq, .int .i64 ms.out.time, .int .i64 ms.out.pic, .int .i64 ms.out.tl0, .slice K Kl.length ck, .int .i64 c1, .int .i64 c2, .int .i64 ((c3 : Int) + 1), .int .i64 c4, .int .i64 c5]) rfl rfl rfl (by kernel_rfl) (by simp [Value.oneCell']) H12_11.out rfl ?_; intro w14 hn hg; have H12_12 := hide hn; have LE_12 := hide (Le.mk (below_row LE_11.out.out hg (by omega) LE_11.out.size)); clear H6_11 H12_11 LE_11 hn hg))
  refine ret_cttt Try.results14 (InCell.mk' rfl H12_12.out Try.underlying38 rfl (by kernel_rfl)) rfl rfl rfl ?_
  rw [HR.out]
  exact ⟨.slice K Kl.length ck, Kl, rfl, LE_12.out.rsl keeps_en hk.out, .inl ⟨rfl, rfl, rfl, rfl⟩, LE_12.out.out⟩

set_option maxRecDepth 100000 in
set_option maxHeartbeats 8000000 in
theorem r14late (ss : Nat) (src layer tid : Int) (ms0 : Ms) (st : St) (c1 c2 c3 c4 c5 : Nat) (p : Pk) (Kl : Kp) (K : Option Addr) (ck : Nat) (A5 A6 : Option Addr) (cc5 c6 : Nat) (f l : Int) (x : Wnt) (d0 d1 d2 d4 d5 d7 d9 d11 d12 : Bool) (d3 d6 d8 d10 d13 : Nat) (N pp tp E er : Int) (o0 : List UInt8) (on1 : Bool) (bg wh on2 : Bool) (s2 l2 t2 : Int) (hN : 0 ≤ N) (hbg : Hd (bg = (d2 && decide (d3 = 0)))) (hwh : Hd (wh = (bg && (decide (N < p.payload.length) && decide ((p.payload[N.toNat]?.map (·.toNat % 2)) = some 0))))) (hpl : p.payload.length ≤ 1000) (hq : IntKind.i64.wrap (p.seq : Int) = p.seq) (hq2 : IntKind.i64.wrap (p.time : Int) = p.time) (w : World) (hk : Hd (RSl 2 REn w Kl (.slice K Kl.length ck)))
    (HPA : Hd (∀ W, Calls Try.prog 28 #[.string (str p.payload)] W (Gives W (.tuple #[.agg #[.bool d0, .bool d1, .bool d2, .int .i64 d3, .bool d4, .bool d5, .int .i64 d6, .bool d7, .int .i64 d8, .bool d9, .int .i64 d10, .bool d11, .bool d12, .int .i64 d13], .int .i64 N, .int .i64 pp, .int .i64 tp, .int .i64 0]))))
    (HPU : Hd (∀ W, Le w W → Calls Try.prog 29 #[.agg #[.bool p.mark, .int .u8 p.type, .int .u16 p.seq, .int .u32 p.time, .int .u32 p.ssrc, .slice A5 p.csrc.length cc5, .slice A6 p.exts.length c6, .string (str p.payload), .int .i64 p.pad]] W (Gives W (.tuple #[.string (str o0), .int .i64 0])))) (HTK : Hd (∀ W, Calls Try.prog 32 #[.agg #[.bool on1, .int .i64 src, .int .i64 layer, .int .i64 tid], .agg #[.int .i64 f, .int .i64 l, .bool bg, .bool wh, .bool d9, .int .i64 d10, .bool d11], .agg #[.int .i64 x.src, .int .i64 x.layer, .int .i64 x.tid]] W (Gives W (.tuple #[.agg #[.bool on2, .int .i64 s2, .int .i64 l2, .int .i64 t2], .int .i64 1])))) (ask : Bool) (HAS : Hd (∀ W, Calls Try.prog 31 #[.agg #[.bool on2, .int .i64 s2, .int .i64 l2, .int .i64 t2], .agg #[.int .i64 x.src, .int .i64 x.layer, .int .i64 x.tid]] W (Gives W (.bool ask)))) (ms : Ms) (n : Nm) (HSE : Hd (∀ W, Calls Try.prog 35 #[.agg #[.bool ms0.on, .int .i64 ms0.high, .int .i64 ms0.since, .int .i64 ms0.off.seq, .int .i64 ms0.off.time, .int .i64 ms0.off.pic, .int .i64 ms0.off.tl0, .int .i64 ms0.out.seq, .int .i64 ms0.out.time, .int .i64 ms0.out.pic, .int .i64 ms0.out.tl0], .agg #[.int .i64 p.seq, .int .i64 p.time, .int .i64 d6, .int .i64 d8]] W (Gives W (.tuple #[.agg #[.bool ms.on, .int .i64 ms.high, .int .i64 ms.since, .int .i64 ms.off.seq, .int .i64 ms.off.time, .int .i64 ms.off.pic, .int .i64 ms.off.tl0, .int .i64 ms.out.seq, .int .i64 ms.out.time, .int .i64 ms.out.pic, .int .i64 ms.out.tl0], .agg #[.int .i64 n.seq, .int .i64 n.time, .int .i64 n.pic, .int .i64 n.tl0], .bool false])))) (hb : IntKind.i64.wrap ((c4 : Int) + 1) = (c4 : Int) + 1) :
    Calls Try.prog 14 #[rdV (Dn.mk ss (Ch.mk on1 src layer tid) ms0 st c1 c2 c3 c4 c5) (.slice K Kl.length ck), P06 p (.slice A5 p.csrc.length cc5) (.slice A6 p.exts.length c6), .int .i64 f, .int .i64 l, x.val, .bool false] w (TakeQ (Dn.mk ss (Ch.mk on1 src layer tid) ms0 st c1 c2 c3 c4 c5) p Kl (.slice K Kl.length ck) w (Dn.mk ss (Ch.mk on2 s2 l2 t2) ms st c1 c2 c3 (c4 + 1) c5, none, ask)) := by
  obtain ⟨R, hR⟩ : ∃ R, R = TakeQ (Dn.mk ss (Ch.mk on1 src layer tid) ms0 st c1 c2 c3 c4 c5) p Kl (.slice K Kl.length ck) w (Dn.mk ss (Ch.mk on2 s2 l2 t2) ms st c1 c2 c3 (c4 + 1) c5, none, ask) := ⟨_, rfl⟩
  rw [← hR]
  have HR := hide hR
  clear hR
  simp only [rdV, P06, Wnt.val]
  obtain ⟨w1, hw1⟩ : ∃ w1, w1 = ((((w.alloc (.cells #[.int .u32 ss, .int .i64 st.room, .bool on1, .int .i64 src, .int .i64 layer, .int .i64 tid, .bool ms0.on, .int .i64 ms0.high, .int .i64 ms0.since, .int .i64 ms0.off.seq, .int .i64 ms0.off.time, .int .i64 ms0.off.pic, .int .i64 ms0.off.tl0, .int .i64 ms0.out.seq, .int .i64 ms0.out.time, .int .i64 ms0.out.pic, .int .i64 ms0.out.tl0, .slice K Kl.length ck, .int .i64 c1, .int .i64 c2, .int .i64 c3, .int .i64 c4, .int .i64 c5] 38)).alloc (.cells #[.bool p.mark, .int .u8 p.type, .int .u16 p.seq, .int .u32 p.time, .int .u32 p.ssrc, .slice A5 p.csrc.length cc5, .slice A6 p.exts.length c6, .string (str p.payload), .int .i64 p.pad] 57)).alloc (.cells #[.int .i64 x.src, .int .i64 x.layer, .int .i64 x.tid] 59)).alloc (.cells #[.int .u32 0, .int .i64 0, .bool false, .int .i64 0, .int .i64 0, .int .i64 0, .bool false, .int .i64 0, .int .i64 0, .int .i64 0, .int .i64 0, .int .i64 0, .int .i64 0, .int .i64 0, .int .i64 0, .int .i64 0, .int .i64 0, .slice none 0 0, .int .i64 0, .int .i64 0, .int .i64 0, .int .i64 0, .int .i64 0] 38)) := ⟨_, rfl⟩
  have LE := hide (show Le w w1 from by rw [hw1]; exact (((((Le.refl w).alloc _).alloc _).alloc _).alloc _))
  have H6 := hide (show w1.heap[w.heap.size]? = some (.cells #[.int .u32 ss, .int .i64 st.room, .bool on1, .int .i64 src, .int .i64 layer, .int .i64 tid, .bool ms0.on, .int .i64 ms0.high, .int .i64 ms0.since, .int .i64 ms0.off.seq, .int .i64 ms0.off.time, .int .i64 ms0.off.pic, .int .i64 ms0.off.tl0, .int .i64 ms0.out.seq, .int .i64 ms0.out.time, .int .i64 ms0.out.pic, .int .i64 ms0.out.tl0, .slice K Kl.length ck, .int .i64 c1, .int .i64 c2, .int .i64 c3, .int .i64 c4, .int .i64 c5] 38 (0, 0)) from by rw [hw1]; exact heap_alloc (heap_alloc (heap_alloc (heap_alloc_new w _))))
  have H7 := hide (show w1.heap[w.heap.size + 1]? = some (.cells #[.bool p.mark, .int .u8 p.type, .int .u16 p.seq, .int .u32 p.time, .int .u32 p.ssrc, .slice A5 p.csrc.length cc5, .slice A6 p.exts.length c6, .string (str p.payload), .int .i64 p.pad] 57 (0, 0)) from by rw [hw1]; exact heap_alloc (heap_alloc (heap_at (by simp))))
  have H10 := hide (show w1.heap[w.heap.size + 1 + 1]? = some (.cells #[.int .i64 x.src, .int .i64 x.layer, .int .i64 x.tid] 59 (0, 0)) from by rw [hw1]; exact heap_alloc (heap_at (by simp)))
  have H12 := hide (show w1.heap[w.heap.size + 1 + 1 + 1]? = some (.cells #[.int .u32 0, .int .i64 0, .bool false, .int .i64 0, .int .i64 0, .int .i64 0, .bool false, .int .i64 0, .int .i64 0, .int .i64 0, .int .i64 0, .int .i64 0, .int .i64 0, .int .i64 0, .int .i64 0, .int .i64 0, .int .i64 0, .slice none 0 0, .int .i64 0, .int .i64 0, .int .i64 0, .int .i64 0, .int .i64 0] 38 (0, 0)) from by rw [hw1]; exact heap_at (by simp))
  go_enter Try.func14, Try.ntmps14
  go_upto_region 1 with fail
  rw [← hw1]
  clear hw1
  have kc1 := box_cell H7.out 7 (.string (str p.payload)) rfl w1 (Le.refl _)
  go_wp2_with fail
  refine (HPA.out _).mono ?_
  rintro e w2 ⟨rfl, hb⟩
  have H6_1 := hide (((Le.mk hb)).heap H6.out)
  have H7_1 := hide (((Le.mk hb)).heap H7.out)
  have H10_1 := hide (((Le.mk hb)).heap H10.out)
  have H12_1 := hide (((Le.mk hb)).heap H12.out)
  have LE_1 := hide (Le.trans LE.out (Le.mk hb))
  have hs2 := lt_of_heap H12_1.out
  clear kc1 H6 H7 H10 H12 LE hb
  go_wp2_with (first | (refine wpl_load_blk rfl 57 (.tmp 7) rfl (cs := [.bool p.mark, .int .u8 p.type, .int .u16 p.seq, .int .u32 p.time, .int .u32 p.ssrc, .slice A5 p.csrc.length cc5, .slice A6 p.exts.length c6, .string (str p.payload), .int .i64 p.pad]) _ rfl Try.underlying57 rfl (by kernel_rfl) (heap_alloc H7_1.out) ?_))
  have H6_2 := hide (show (World.alloc w2 (.cells #[.bool d0, .bool d1, .bool d2, .int .i64 d3, .bool d4, .bool d5, .int .i64 d6, .bool d7, .int .i64 d8, .bool d9, .int .i64 d10, .bool d11, .bool d12, .int .i64 d13] 99)).heap[w.heap.size]? = some (.cells #[.int .u32 ss, .int .i64 st.room, .bool on1, .int .i64 src, .int .i64 layer, .int .i64 tid, .bool ms0.on, .int .i64 ms0.high, .int .i64 ms0.since, .int .i64 ms0.off.seq, .int .i64 ms0.off.time, .int .i64 ms0.off.pic, .int .i64 ms0.off.tl0, .int .i64 ms0.out.seq, .int .i64 ms0.out.time, .int .i64 ms0.out.pic, .int .i64 ms0.out.tl0, .slice K Kl.length ck, .int .i64 c1, .int .i64 c2, .int .i64 c3, .int .i64 c4, .int .i64 c5] 38 (0, 0)) from heap_alloc H6_1.out)
  have H7_2 := hide (show (World.alloc w2 (.cells #[.bool d0, .bool d1, .bool d2, .int .i64 d3, .bool d4, .bool d5, .int .i64 d6, .bool d7, .int .i64 d8, .bool d9, .int .i64 d10, .bool d11, .bool d12, .int .i64 d13] 99)).heap[w.heap.size + 1]? = some (.cells #[.bool p.mark, .int .u8 p.type, .int .u16 p.seq, .int .u32 p.time, .int .u32 p.ssrc, .slice A5 p.csrc.length cc5, .slice A6 p.exts.length c6, .string (str p.payload), .int .i64 p.pad] 57 (0, 0)) from heap_alloc H7_1.out)
  have H10_2 := hide (show (World.alloc w2 (.cells #[.bool d0, .bool d1, .bool d2, .int .i64 d3, .bool d4, .bool d5, .int .i64 d6, .bool d7, .int .i64 d8, .bool d9, .int .i64 d10, .bool d11, .bool d12, .int .i64 d13] 99)).heap[w.heap.size + 1 + 1]? = some (.cells #[.int .i64 x.src, .int .i64 x.layer, .int .i64 x.tid] 59 (0, 0)) from heap_alloc H10_1.out)
  have H12_2 := hide (show (World.alloc w2 (.cells #[.bool d0, .bool d1, .bool d2, .int .i64 d3, .bool d4, .bool d5, .int .i64 d6, .bool d7, .int .i64 d8, .bool d9, .int .i64 d10, .bool d11, .bool d12, .int .i64 d13] 99)).heap[w.heap.size + 1 + 1 + 1]? = some (.cells #[.int .u32 0, .int .i64 0, .bool false, .int .i64 0, .int .i64 0, .int .i64 0, .bool false, .int .i64 0, .int .i64 0, .int .i64 0, .int .i64 0, .int .i64 0, .int .i64 0, .int .i64 0, .int .i64 0, .int .i64 0, .int .i64 0, .slice none 0 0, .int .i64 0, .int .i64 0, .int .i64 0, .int .i64 0, .int .i64 0] 38 (0, 0)) from heap_alloc H12_1.out)
  have H16_2 := hide (show (World.alloc w2 (.cells #[.bool d0, .bool d1, .bool d2, .int .i64 d3, .bool d4, .bool d5, .int .i64 d6, .bool d7, .int .i64 d8, .bool d9, .int .i64 d10, .bool d11, .bool d12, .int .i64 d13] 99)).heap[w2.heap.size]? = some (.cells #[.bool d0, .bool d1, .bool d2, .int .i64 d3, .bool d4, .bool d5, .int .i64 d6, .bool d7, .int .i64 d8, .bool d9, .int .i64 d10, .bool d11, .bool d12, .int .i64 d13] 99 (0, 0)) from heap_alloc_new _ _)
  have LE_2 := hide (show Le w (World.alloc w2 (.cells #[.bool d0, .bool d1, .bool d2, .int .i64 d3, .bool d4, .bool d5, .int .i64 d6, .bool d7, .int .i64 d8, .bool d9, .int .i64 d10, .bool d11, .bool d12, .int .i64 d13] 99)) from LE_1.out.alloc _)
  clear H6_1 H7_1 H10_1 H12_1 LE_1
  generalize (World.alloc w2 (.cells #[.bool d0, .bool d1, .bool d2, .int .i64 d3, .bool d4, .bool d5, .int .i64 d6, .bool d7, .int .i64 d8, .bool d9, .int .i64 d10, .bool d11, .bool d12, .int .i64 d13] 99)) = w3 at *
  have hs3 := lt_of_heap H16_2.out
  refine (HPU.out _ LE_2.out).mono ?_
  rintro e w4 ⟨rfl, hb⟩
  have H6_3 := hide (((Le.mk hb)).heap H6_2.out)
  have H7_3 := hide (((Le.mk hb)).heap H7_2.out)
  have H10_3 := hide (((Le.mk hb)).heap H10_2.out)
  have H12_3 := hide (((Le.mk hb)).heap H12_2.out)
  have H16_3 := hide (((Le.mk hb)).heap H16_2.out)
  have LE_3 := hide (Le.trans LE_2.out (Le.mk hb))
  have hs4 := lt_of_heap H16_3.out
  clear H6_2 H7_2 H10_2 H12_2 H16_2 LE_2 hb
  have kc5 := box_cell H16_3.out 2 (.bool d2) rfl w4 (Le.refl _)
  have kc6 := box_cell H16_3.out 3 (.int .i64 d3) rfl w4 (Le.refl _)
  have kc7 := box_cell H7_3.out 7 (.string (str p.payload)) rfl w4 (Le.refl _)
  go_upto_region 12 with fail
  go_cut [23] (fun v wx => v = .bool bg ∧ wx = w4)
  case first =>
    cases d2
    · go_wp2_with fail
      go_meet
      exact ⟨by rw [hbg.out]; rfl, rfl⟩
    · go_wp2_with fail
      go_meet
      exact ⟨by rw [hbg.out, beq_nat0]; rfl, rfl⟩
  obtain ⟨rfl, hwc⟩ := hcut
  rw [hwc]
  clear hwc
  go_upto_region 13 with fail
  go_cut [24] (fun v wx => v = .bool wh ∧ wx = w4)
  case first =>
    cases bg
    · have hwh2 := hide (show wh = false by rw [hwh.out]; rfl)
      go_wp2_with fail
      go_meet
      exact ⟨by rw [hwh2.out], rfl⟩
    · obtain ⟨n, rfl⟩ := Int.eq_ofNat_of_zero_le hN
      by_cases hlt : n < p.payload.length
      · have hI : (n : Int) < (p.payload.length : Int) := by omega
        have h0I : (0 : Int) ≤ (n : Int) := by omega
        have hg : p.payload[n]? = some p.payload[n] := List.getElem?_eq_getElem hlt
        have hwh2 := hide (show wh = decide (p.payload[n].toNat % 2 = 0) by rw [hwh.out]; simp [hlt])
        have htm : (p.payload[n].toNat : Int).tmod 2 = ((p.payload[n].toNat % 2 : Nat) : Int) := rfl
        have hmw : IntKind.u8.wrap ((p.payload[n].toNat % 2 : Nat) : Int) = ((p.payload[n].toNat % 2 : Nat) : Int) := by simp [IntKind.wrap, IntKind.signed, IntKind.bits]; omega
        clear hg
        generalize p.payload[n].toNat % 2 = md at *
        go_wp2_with fail
        go_meet
        exact ⟨by rw [hwh2.out, beq_nat0], rfl⟩
      · have hI : ¬ (n : Int) < (p.payload.length : Int) := by omega
        have hwh2 := hide (show wh = false by rw [hwh.out]; simp [hlt])
        go_wp2_with fail
        go_meet
        exact ⟨by rw [hwh2.out], rfl⟩
  obtain ⟨rfl, hwc⟩ := hcut
  rw [hwc]
  clear hwc
  have kc8 := box_cell H16_3.out 9 (.bool d9) rfl w4 (Le.refl _)
  have kc9 := box_cell H16_3.out 10 (.int .i64 d10) rfl w4 (Le.refl _)
  have kc10 := box_cell H16_3.out 11 (.bool d11) rfl w4 (Le.refl _)
  go_wp2_with (first | (refine wpl_load_in rfl 29 (.tmp 129) rfl [.int .u32 ss, .int .i64 st.room] [.bool on1, .int .i64 src, .int .i64 layer, .int .i64 tid] [.bool ms0.on, .int .i64 ms0.high, .int .i64 ms0.since, .int .i64 ms0.off.seq, .int .i64 ms0.off.time, .int .i64 ms0.off.pic, .int .i64 ms0.off.tl0, .int .i64 ms0.out.seq, .int .i64 ms0.out.time, .int .i64 ms0.out.pic, .int .i64 ms0.out.tl0, .slice K Kl.length ck, .int .i64 c1, .int .i64 c2, .int .i64 c3, .int .i64 c4, .int .i64 c5] _ rfl Try.underlying29 rfl (by kernel_rfl) H6_3.out ?_) | (refine wpl_load_blk rfl 59 (.tmp 10) rfl (cs := [.int .i64 x.src, .int .i64 x.layer, .int .i64 x.tid]) _ rfl Try.underlying59 rfl (by kernel_rfl) H10_3.out ?_))
  refine (HTK.out _).mono ?_
  rintro e w6 ⟨rfl, hb⟩
  have H6_4 := hide (((Le.mk hb)).heap H6_3.out)
  have H7_4 := hide (((Le.mk hb)).heap H7_3.out)
  have H10_4 := hide (((Le.mk hb)).heap H10_3.out)
  have H12_4 := hide (((Le.mk hb)).heap H12_3.out)
  have H16_4 := hide (((Le.mk hb)).heap H16_3.out)
  have LE_4 := hide (Le.trans LE_3.out (Le.mk hb))
  have hs11 := lt_of_heap H16_4.out
  clear kc5 kc6 kc7 kc8 kc9 kc10 H6_3 H7_3 H10_3 H12_3 H16_3 LE_3 hb
  go_upto_region 15 with fail
  have H6_5 := hide (show (World.alloc w6 (.cells #[.bool on2, .int .i64 s2, .int .i64 l2, .int .i64 t2] 29)).heap[w.heap.size]? = some (.cells #[.int .u32 ss, .int .i64 st.room, .bool on1, .int .i64 src, .int .i64 layer, .int .i64 tid, .bool ms0.on, .int .i64 ms0.high, .int .i64 ms0.since, .int .i64 ms0.off.seq, .int .i64 ms0.off.time, .int .i64 ms0.off.pic, .int .i64 ms0.off.tl0, .int .i64 ms0.out.seq, .int .i64 ms0.out.time, .int .i64 ms0.out.pic, .int .i64 ms0.out.tl0, .slice K Kl.length ck, .int .i64 c1, .int .i64 c2, .int .i64 c3, .int .i64 c4, .int .i64 c5] 38 (0, 0)) from heap_alloc H6_4.out)
  have H7_5 := hide (show (World.alloc w6 (.cells #[.bool on2, .int .i64 s2, .int .i64 l2, .int .i64 t2] 29)).heap[w.heap.size + 1]? = some (.cells #[.bool p.mark, .int .u8 p.type, .int .u16 p.seq, .int .u32 p.time, .int .u32 p.ssrc, .slice A5 p.csrc.length cc5, .slice A6 p.exts.length c6, .string (str p.payload), .int .i64 p.pad] 57 (0, 0)) from heap_alloc H7_4.out)
  have H10_5 := hide (show (World.alloc w6 (.cells #[.bool on2, .int .i64 s2, .int .i64 l2, .int .i64 t2] 29)).heap[w.heap.size + 1 + 1]? = some (.cells #[.int .i64 x.src, .int .i64 x.layer, .int .i64 x.tid] 59 (0, 0)) from heap_alloc H10_4.out)
  have H12_5 := hide (show (World.alloc w6 (.cells #[.bool on2, .int .i64 s2, .int .i64 l2, .int .i64 t2] 29)).heap[w.heap.size + 1 + 1 + 1]? = some (.cells #[.int .u32 0, .int .i64 0, .bool false, .int .i64 0, .int .i64 0, .int .i64 0, .bool false, .int .i64 0, .int .i64 0, .int .i64 0, .int .i64 0, .int .i64 0, .int .i64 0, .int .i64 0, .int .i64 0, .int .i64 0, .int .i64 0, .slice none 0 0, .int .i64 0, .int .i64 0, .int .i64 0, .int .i64 0, .int .i64 0] 38 (0, 0)) from heap_alloc H12_4.out)
  have H16_5 := hide (show (World.alloc w6 (.cells #[.bool on2, .int .i64 s2, .int .i64 l2, .int .i64 t2] 29)).heap[w2.heap.size]? = some (.cells #[.bool d0, .bool d1, .bool d2, .int .i64 d3, .bool d4, .bool d5, .int .i64 d6, .bool d7, .int .i64 d8, .bool d9, .int .i64 d10, .bool d11, .bool d12, .int .i64 d13] 99 (0, 0)) from heap_alloc H16_4.out)
  have H25_5 := hide (show (World.alloc w6 (.cells #[.bool on2, .int .i64 s2, .int .i64 l2, .int .i64 t2] 29)).heap[w6.heap.size]? = some (.cells #[.bool on2, .int .i64 s2, .int .i64 l2, .int .i64 t2] 29 (0, 0)) from heap_alloc_new _ _)
  have LE_5 := hide (show Le w (World.alloc w6 (.cells #[.bool on2, .int .i64 s2, .int .i64 l2, .int .i64 t2] 29)) from LE_4.out.alloc _)
  clear H6_4 H7_4 H10_4 H12_4 H16_4 LE_4
  generalize (World.alloc w6 (.cells #[.bool on2, .int .i64 s2, .int .i64 l2, .int .i64 t2] 29)) = w7 at *
  have hs12 := lt_of_heap H25_5.out
  go_wp2_with (first | (refine wpl_load_blk rfl 29 (.tmp 25) rfl (cs := [.bool on2, .int .i64 s2, .int .i64 l2, .int .i64 t2]) _ rfl Try.underlying29 rfl (by kernel_rfl) H25_5.out ?_) | (refine wpl_store_in rfl 29 (.tmp 147) (.tmp 146) rfl [.int .u32 ss, .int .i64 st.room] (cs := [.bool on2, .int .i64 s2, .int .i64 l2, .int .i64 t2]) (old := [.bool on1, .int .i64 src, .int .i64 layer, .int .i64 tid]) (post := [.bool ms0.on, .int .i64 ms0.high, .int .i64 ms0.since, .int .i64 ms0.off.seq, .int .i64 ms0.off.time, .int .i64 ms0.off.pic, .int .i64 ms0.off.tl0, .int .i64 ms0.out.seq, .int .i64 ms0.out.time, .int .i64 ms0.out.pic, .int .i64 ms0.out.tl0, .slice K Kl.length ck, .int .i64 c1, .int .i64 c2, .int .i64 c3, .int .i64 c4, .int .i64 c5]) rfl rfl (by kernel_rfl) (by simp [Value.oneCell']) H6_5.out rfl ?_; intro w8 hn hg; have H7_6 := hide (heap_grown hg H7_5.out (by simp <;> omega)); have H10_6 := hide (heap_grown hg H10_5.out (by simp <;> omega)); have H12_6 := hide (heap_grown hg H12_5.out (by simp <;> omega)); have H16_6 := hide (heap_grown hg H16_5.out (by simp <;> omega)); have H25_6 := hide (heap_grown hg H25_5.out (by simp <;> omega)); have H6_6 := hide hn; have LE_6 := hide (Le.mk (below_row LE_5.out.out hg (by omega) LE_5.out.size)); clear H7_5 H10_5 H12_5 H16_5 H25_5 H6_5 LE_5 hn hg) | (refine wpl_load_blk rfl 29 (.tmp 25) rfl (cs := [.bool on2, .int .i64 s2, .int .i64 l2, .int .i64 t2]) _ rfl Try.underlying29 rfl (by kernel_rfl) H25_6.out ?_) | (refine wpl_load_blk rfl 59 (.tmp 10) rfl (cs := [.int .i64 x.src, .int .i64 x.layer, .int .i64 x.tid]) _ rfl Try.underlying59 rfl (by kernel_rfl) H10_6.out ?_))
  refine (HAS.out _).mono ?_
  rintro e w9 ⟨rfl, hb⟩
  have H6_7 := hide (((Le.mk hb)).heap H6_6.out)
  have H7_7 := hide (((Le.mk hb)).heap H7_6.out)
  have H12_7 := hide (((Le.mk hb)).heap H12_6.out)
  have H16_7 := hide (((Le.mk hb)).heap H16_6.out)
  have H25_7 := hide (((Le.mk hb)).heap H25_6.out)
  have LE_7 := hide (Le.trans LE_6.out (Le.mk hb))
  have hs13 := lt_of_heap H25_7.out
  clear H6_6 H7_6 H10_6 H12_6 H16_6 H25_6 LE_6 hb
  have kc14 := box_cell H7_7.out 2 (.int .u16 p.seq) rfl w9 (Le.refl _)
  have kc15 := box_cell H7_7.out 3 (.int .u32 p.time) rfl w9 (Le.refl _)
  have kc16 := box_cell H16_7.out 6 (.int .i64 d6) rfl w9 (Le.refl _)
  have kc17 := box_cell H16_7.out 8 (.int .i64 d8) rfl w9 (Le.refl _)
  go_upto_region 18 with fail
  have H6_8 := hide (show (World.alloc w9 (.cells #[.int .i64 p.seq, .int .i64 p.time, .int .i64 d6, .int .i64 d8] 31)).heap[w.heap.size]? = some (.cells #[.int .u32 ss, .int .i64 st.room, .bool on2, .int .i64 s2, .int .i64 l2, .int .i64 t2, .bool ms0.on, .int .i64 ms0.high, .int .i64 ms0.since, .int .i64 ms0.off.seq, .int .i64 ms0.off.time, .int .i64 ms0.off.pic, .int .i64 ms0.off.tl0, .int .i64 ms0.out.seq, .int .i64 ms0.out.time, .int .i64 ms0.out.pic, .int .i64 ms0.out.tl0, .slice K Kl.length ck, .int .i64 c1, .int .i64 c2, .int .i64 c3, .int .i64 c4, .int .i64 c5] 38 (0, 0)) from heap_alloc H6_7.out)
  have H12_8 := hide (show (World.alloc w9 (.cells #[.int .i64 p.seq, .int .i64 p.time, .int .i64 d6, .int .i64 d8] 31)).heap[w.heap.size + 1 + 1 + 1]? = some (.cells #[.int .u32 0, .int .i64 0, .bool false, .int .i64 0, .int .i64 0, .int .i64 0, .bool false, .int .i64 0, .int .i64 0, .int .i64 0, .int .i64 0, .int .i64 0, .int .i64 0, .int .i64 0, .int .i64 0, .int .i64 0, .int .i64 0, .slice none 0 0, .int .i64 0, .int .i64 0, .int .i64 0, .int .i64 0, .int .i64 0] 38 (0, 0)) from heap_alloc H12_7.out)
  have H28_8 := hide (show (World.alloc w9 (.cells #[.int .i64 p.seq, .int .i64 p.time, .int .i64 d6, .int .i64 d8] 31)).heap[w9.heap.size]? = some (.cells #[.int .i64 p.seq, .int .i64 p.time, .int .i64 d6, .int .i64 d8] 31 (0, 0)) from heap_alloc_new _ _)
  have LE_8 := hide (show Le w (World.alloc w9 (.cells #[.int .i64 p.seq, .int .i64 p.time, .int .i64 d6, .int .i64 d8] 31)) from LE_7.out.alloc _)
  clear kc14 kc15 kc16 kc17 H6_7 H7_7 H12_7 H16_7 H25_7 LE_7
  generalize (World.alloc w9 (.cells #[.int .i64 p.seq, .int .i64 p.time, .int .i64 d6, .int .i64 d8] 31)) = w10 at *
  have hs18 := lt_of_heap H28_8.out
  go_wp2_with (first | (refine wpl_load_in rfl 33 (.tmp 213) rfl [.int .u32 ss, .int .i64 st.room, .bool on2, .int .i64 s2, .int .i64 l2, .int .i64 t2] [.bool ms0.on, .int .i64 ms0.high, .int .i64 ms0.since, .int .i64 ms0.off.seq, .int .i64 ms0.off.time, .int .i64 ms0.off.pic, .int .i64 ms0.off.tl0, .int .i64 ms0.out.seq, .int .i64 ms0.out.time, .int .i64 ms0.out.pic, .int .i64 ms0.out.tl0] [.slice K Kl.length ck, .int .i64 c1, .int .i64 c2, .int .i64 c3, .int .i64 c4, .int .i64 c5] _ rfl Try.underlying33 rfl (by kernel_rfl) H6_8.out ?_) | (refine wpl_load_blk rfl 31 (.tmp 28) rfl (cs := [.int .i64 p.seq, .int .i64 p.time, .int .i64 d6, .int .i64 d8]) _ rfl Try.underlying31 rfl (by kernel_rfl) H28_8.out ?_))
  refine (HSE.out _).mono ?_
  rintro e w11 ⟨rfl, hb⟩
  have H6_9 := hide (((Le.mk hb)).heap H6_8.out)
  have H12_9 := hide (((Le.mk hb)).heap H12_8.out)
  have H28_9 := hide (((Le.mk hb)).heap H28_8.out)
  have LE_9 := hide (Le.trans LE_8.out (Le.mk hb))
  have hs19 := lt_of_heap H28_9.out
  clear H6_8 H12_8 H28_8 LE_8 hb
  go_upto_region 32 with fail
  have H6_10 := hide (show (World.alloc (World.alloc w11 (.cells #[.bool ms.on, .int .i64 ms.high, .int .i64 ms.since, .int .i64 ms.off.seq, .int .i64 ms.off.time, .int .i64 ms.off.pic, .int .i64 ms.off.tl0, .int .i64 ms.out.seq, .int .i64 ms.out.time, .int .i64 ms.out.pic, .int .i64 ms.out.tl0] 33)) (.cells #[.int .i64 n.seq, .int .i64 n.time, .int .i64 n.pic, .int .i64 n.tl0] 31)).heap[w.heap.size]? = some (.cells #[.int .u32 ss, .int .i64 st.room, .bool on2, .int .i64 s2, .int .i64 l2, .int .i64 t2, .bool ms0.on, .int .i64 ms0.high, .int .i64 ms0.since, .int .i64 ms0.off.seq, .int .i64 ms0.off.time, .int .i64 ms0.off.pic, .int .i64 ms0.off.tl0, .int .i64 ms0.out.seq, .int .i64 ms0.out.time, .int .i64 ms0.out.pic, .int .i64 ms0.out.tl0, .slice K Kl.length ck, .int .i64 c1, .int .i64 c2, .int .i64 c3, .int .i64 c4, .int .i64 c5] 38 (0, 0)) from (heap_alloc (heap_alloc H6_9.out)))
  have H12_10 := hide (show (World.alloc (World.alloc w11 (.cells #[.bool ms.on, .int .i64 ms.high, .int .i64 ms.since, .int .i64 ms.off.seq, .int .i64 ms.off.time, .int .i64 ms.off.pic, .int .i64 ms.off.tl0, .int .i64 ms.out.seq, .int .i64 ms.out.time, .int .i64 ms.out.pic, .int .i64 ms.out.tl0] 33)) (.cells #[.int .i64 n.seq, .int .i64 n.time, .int .i64 n.pic, .int .i64 n.tl0] 31)).heap[w.heap.size + 1 + 1 + 1]? = some (.cells #[.int .u32 0, .int .i64 0, .bool false, .int .i64 0, .int .i64 0, .int .i64 0, .bool false, .int .i64 0, .int .i64 0, .int .i64 0, .int .i64 0, .int .i64 0, .int .i64 0, .int .i64 0, .int .i64 0, .int .i64 0, .int .i64 0, .slice none 0 0, .int .i64 0, .int .i64 0, .int .i64 0, .int .i64 0, .int .i64 0] 38 (0, 0)) from (heap_alloc (heap_alloc H12_9.out)))
  have H34_10 := hide (show (World.alloc (World.alloc w11 (.cells #[.bool ms.on, .int .i64 ms.high, .int .i64 ms.since, .int .i64 ms.off.seq, .int .i64 ms.off.time, .int .i64 ms.off.pic, .int .i64 ms.off.tl0, .int .i64 ms.out.seq, .int .i64 ms.out.time, .int .i64 ms.out.pic, .int .i64 ms.out.tl0] 33)) (.cells #[.int .i64 n.seq, .int .i64 n.time, .int .i64 n.pic, .int .i64 n.tl0] 31)).heap[w11.heap.size]? = some (.cells #[.bool ms.on, .int .i64 ms.high, .int .i64 ms.since, .int .i64 ms.off.seq, .int .i64 ms.off.time, .int .i64 ms.off.pic, .int .i64 ms.off.tl0, .int .i64 ms.out.seq, .int .i64 ms.out.time, .int .i64 ms.out.pic, .int .i64 ms.out.tl0] 33 (0, 0)) from (heap_alloc (heap_alloc_new _ _)))
  have H35_10 := hide (show (World.alloc (World.alloc w11 (.cells #[.bool ms.on, .int .i64 ms.high, .int .i64 ms.since, .int .i64 ms.off.seq, .int .i64 ms.off.time, .int .i64 ms.off.pic, .int .i64 ms.off.tl0, .int .i64 ms.out.seq, .int .i64 ms.out.time, .int .i64 ms.out.pic, .int .i64 ms.out.tl0] 33)) (.cells #[.int .i64 n.seq, .int .i64 n.time, .int .i64 n.pic, .int .i64 n.tl0] 31)).heap[w11.heap.size + 1]? = some (.cells #[.int .i64 n.seq, .int .i64 n.time, .int .i64 n.pic, .int .i64 n.tl0] 31 (0, 0)) from (heap_at (by simp)))
  have LE_10 := hide (show Le w (World.alloc (World.alloc w11 (.cells #[.bool ms.on, .int .i64 ms.high, .int .i64 ms.since, .int .i64 ms.off.seq, .int .i64 ms.off.time, .int .i64 ms.off.pic, .int .i64 ms.off.tl0, .int .i64 ms.out.seq, .int .i64 ms.out.time, .int .i64 ms.out.pic, .int .i64 ms.out.tl0] 33)) (.cells #[.int .i64 n.seq, .int .i64 n.time, .int .i64 n.pic, .int .i64 n.tl0] 31)) from ((LE_9.out.alloc _).alloc _))
  clear H6_9 H12_9 H28_9 LE_9
  generalize (World.alloc (World.alloc w11 (.cells #[.bool ms.on, .int .i64 ms.high, .int .i64 ms.since, .int .i64 ms.off.seq, .int .i64 ms.off.time, .int .i64 ms.off.pic, .int .i64 ms.off.tl0, .int .i64 ms.out.seq, .int .i64 ms.out.time, .int .i64 ms.out.pic, .int .i64 ms.out.tl0] 33)) (.cells #[.int .i64 n.seq, .int .i64 n.time, .int .i64 n.pic, .int .i64 n.tl0] 31)) = w13 at *
  have hs20 := lt_of_heap H35_10.out
  go_wp2_with (first | (refine wpl_load_blk rfl 33 (.tmp 34) rfl (cs := [.bool ms.on, .int .i64 ms.high, .int .i64 ms.since, .int .i64 ms.off.seq, .int .i64 ms.off.time, .int .i64 ms.off.pic, .int .i64 ms.off.tl0, .int .i64 ms.out.seq, .int .i64 ms.out.time, .int .i64 ms.out.pic, .int .i64 ms.out.tl0]) _ rfl Try.underlying33 rfl (by kernel_rfl) H34_10.out ?_) | (refine wpl_store_in rfl 33 (.tmp 221) (.tmp 220) rfl [.int .u32 ss, .int .i64 st.room, .bool on2, .int .i64 s2, .int .i64 l2, .int .i64 t2] (cs := [.bool ms.on, .int .i64 ms.high, .int .i64 ms.since, .int .i64 ms.off.seq, .int .i64 ms.off.time, .int .i64 ms.off.pic, .int .i64 ms.off.tl0, .int .i64 ms.out.seq, .int .i64 ms.out.time, .int .i64 ms.out.pic, .int .i64 ms.out.tl0]) (old := [.bool ms0.on, .int .i64 ms0.high, .int .i64 ms0.since, .int .i64 ms0.off.seq, .int .i64 ms0.off.time, .int .i64 ms0.off.pic, .int .i64 ms0.off.tl0, .int .i64 ms0.out.seq, .int .i64 ms0.out.time, .int .i64 ms0.out.pic, .int .i64 ms0.out.tl0]) (post := [.slice K Kl.length ck, .int .i64 c1, .int .i64 c2, .int .i64 c3, .int .i64 c4, .int .i64 c5]) rfl rfl (by kernel_rfl) (by simp [Value.oneCell']) H6_10.out rfl ?_; intro w14 hn hg; have H12_11 := hide (heap_grown hg H12_10.out (by simp <;> omega)); have H6_11 := hide hn; have LE_11 := hide (Le.mk (below_row LE_10.out.out hg (by omega) LE_10.out.size)); clear H12_10 H34_10 H35_10 H6_10 LE_10 hn hg; have kc21 := box_cell H6_11.out 21 (.int .i64 c4) rfl w14 (Le.refl _)) | (refine wpl_store_1 rfl 3 (.tmp 229) (.tmp 227) rfl [.int .u32 ss, .int .i64 st.room, .bool on2, .int .i64 s2, .int .i64 l2, .int .i64 t2, .bool ms.on, .int .i64 ms.high, .int .i64 ms.since, .int .i64 ms.off.seq, .int .i64 ms.off.time, .int .i64 ms.off.pic, .int .i64 ms.off.tl0, .int .i64 ms.out.seq, .int .i64 ms.out.time, .int .i64 ms.out.pic, .int .i64 ms.out.tl0, .slice K Kl.length ck, .int .i64 c1, .int .i64 c2, .int .i64 c3] (v := .int .i64 ((c4 : Int) + 1)) (old := .int .i64 c4) (post := [.int .i64 c5]) rfl rfl (by kernel_rfl) rfl H6_11.out ?_; intro w15 hn hg; have H12_12 := hide (heap_grown hg H12_11.out (by simp <;> omega)); have H6_12 := hide hn; have LE_12 := hide (Le.mk (below_row LE_11.out.out hg (by omega) LE_11.out.size)); clear kc21 H12_11 H6_11 LE_11 hn hg) | (refine wpl_load_blk rfl 38 (.tmp 6) rfl (cs := [.int .u32 ss, .int .i64 st.room, .bool on2, .int .i64 s2, .int .i64 l2, .int .i64 t2, .bool ms.on, .int .i64 ms.high, .int .i64 ms.since, .int .i64 ms.off.seq, .int .i64 ms.off.time, .int .i64 ms.off.pic, .int .i64 ms.off.tl0, .int .i64 ms.out.seq, .int .i64 ms.out.time, .int .i64 ms.out.pic, .int .i64 ms.out.tl0, .slice K Kl.length ck, .int .i64 c1, .int .i64 c2, .int .i64 c3, .int .i64 ((c4 : Int) + 1), .int .i64 c5]) _ rfl Try.underlying38 rfl (by kernel_rfl) H6_12.out ?_) | (refine wpl_store_blk rfl 38 (.tmp 12) (.tmp 230) (cs := [.int .u32 ss, .int .i64 st.room, .bool on2, .int .i64 s2, .int .i64 l2, .int .i64 t2, .bool ms.on, .int .i64 ms.high, .int .i64 ms.since, .int .i64 ms.off.seq, .int .i64 ms.off.time, .int .i64 ms.off.pic, .int .i64 ms.off.tl0, .int .i64 ms.out.seq, .int .i64 ms.out.time, .int .i64 ms.out.pic, .int .i64 ms.out.tl0, .slice K Kl.length ck, .int .i64 c1, .int .i64 c2, .int .i64 c3, .int .i64 ((c4 : Int) + 1), .int .i64 c5]) rfl rfl rfl (by kernel_rfl) (by simp [Value.oneCell']) H12_12.out rfl ?_; intro w16 hn hg; have H12_13 := hide hn; have LE_13 := hide (Le.mk (below_row LE_12.out.out hg (by omega) LE_12.out.size)); clear H6_12 H12_12 LE_12 hn hg))
  refine ret_cttt Try.results14 (InCell.mk' rfl H12_13.out Try.underlying38 rfl (by kernel_rfl)) rfl rfl rfl ?_
  rw [HR.out]
  exact ⟨.slice K Kl.length ck, Kl, rfl, LE_13.out.rsl keeps_en hk.out, .inl ⟨rfl, rfl, rfl, rfl⟩, LE_13.out.out⟩
end Go.Proofs.Ytekioihjfggmdaa
