/- Texts of one claim, laid together: Ref14e Ref14f -/
import Derived.Test.YtekioihjfggmdaaJoX04
import Derived.Test.YtekioihjfggmdaaJoX05
import Derived.Test.YtekioihjfggmdaaJoX06
import Derived.Test.YtekioihjfggmdaaJoX07
/- louverref14.Take: good ones that are sent. -/
namespace Go.Proofs.Ytekioihjfggmdaa
open Go.RowKit
set_option linter.unusedVariables false

set_option maxRecDepth 100000 in
set_option maxHeartbeats 8000000 in
theorem r14switch (ss : Nat) (src layer tid : Int) (ms0 : Ms) (st : St) (c1 c2 c3 c4 c5 : Nat) (p : Pk) (Kl : Kp) (K : Option Addr) (ck : Nat) (A5 A6 : Option Addr) (cc5 c6 : Nat) (f l : Int) (x : Wnt) (d0 d1 d2 d4 d5 d7 d9 d11 d12 : Bool) (d3 d6 d8 d10 d13 : Nat) (N pp tp E er : Int) (o0 : List UInt8) (on1 : Bool) (bg wh on2 : Bool) (s2 l2 t2 : Int) (hN : 0 ≤ N) (hbg : Hd (bg = (d2 && decide (d3 = 0)))) (hwh : Hd (wh = (bg && (decide (N < p.payload.length) && decide ((p.payload[N.toNat]?.map (·.toNat % 2)) = some 0))))) (hpl : p.payload.length ≤ 1000) (hq : IntKind.i64.wrap (p.seq : Int) = p.seq) (hq2 : IntKind.i64.wrap (p.time : Int) = p.time) (w : World) (hk : Hd (RSl 2 REn w Kl (.slice K Kl.length ck)))
    (HPA : Hd (∀ W, Calls Try.prog 28 #[.string (str p.payload)] W (Gives W (.tuple #[.agg #[.bool d0, .bool d1, .bool d2, .int .i64 d3, .bool d4, .bool d5, .int .i64 d6, .bool d7, .int .i64 d8, .bool d9, .int .i64 d10, .bool d11, .bool d12, .int .i64 d13], .int .i64 N, .int .i64 pp, .int .i64 tp, .int .i64 0]))))
    (HPU : Hd (∀ W, Le w W → Calls Try.prog 29 #[.agg #[.bool p.mark, .int .u8 p.type, .int .u16 p.seq, .int .u32 p.time, .int .u32 p.ssrc, .slice A5 p.csrc.length cc5, .slice A6 p.exts.length c6, .string (str p.payload), .int .i64 p.pad]] W (Gives W (.tuple #[.string (str o0), .int .i64 0])))) (HTK : Hd (∀ W, Calls Try.prog 32 #[.agg #[.bool on1, .int .i64 src, .int .i64 layer, .int .i64 tid], .agg #[.int .i64 f, .int .i64 l, .bool bg, .bool wh, .bool d9, .int .i64 d10, .bool d11], .agg #[.int .i64 x.src, .int .i64 x.layer, .int .i64 x.tid]] W (Gives W (.tuple #[.agg #[.bool on2, .int .i64 s2, .int .i64 l2, .int .i64 t2], .int .i64 3])))) (ask : Bool) (HAS : Hd (∀ W, Calls Try.prog 31 #[.agg #[.bool on2, .int .i64 s2, .int .i64 l2, .int .i64 t2], .agg #[.int .i64 x.src, .int .i64 x.layer, .int .i64 x.tid]] W (Gives W (.bool ask)))) (ms : Ms) (n : Nm) (o1 : List UInt8) (KA : Kp) (HSW : Hd (∀ W, Calls Try.prog 33 #[.agg #[.bool ms0.on, .int .i64 ms0.high, .int .i64 ms0.since, .int .i64 ms0.off.seq, .int .i64 ms0.off.time, .int .i64 ms0.off.pic, .int .i64 ms0.off.tl0, .int .i64 ms0.out.seq, .int .i64 ms0.out.time, .int .i64 ms0.out.pic, .int .i64 ms0.out.tl0], .agg #[.int .i64 p.seq, .int .i64 p.time, .int .i64 d6, .int .i64 d8], .int .i64 3000] W (Gives W (.tuple #[.agg #[.bool ms.on, .int .i64 ms.high, .int .i64 ms.since, .int .i64 ms.off.seq, .int .i64 ms.off.time, .int .i64 ms.off.pic, .int .i64 ms.off.tl0, .int .i64 ms.out.seq, .int .i64 ms.out.time, .int .i64 ms.out.pic, .int .i64 ms.out.tl0], .agg #[.int .i64 n.seq, .int .i64 n.time, .int .i64 n.pic, .int .i64 n.tl0]])))) (HSN : Hd (∀ W, Le w W → Calls Try.prog 34 #[.agg #[.int .u32 ss, .int .i64 st.room, .bool on2, .int .i64 s2, .int .i64 l2, .int .i64 t2, .bool ms.on, .int .i64 ms.high, .int .i64 ms.since, .int .i64 ms.off.seq, .int .i64 ms.off.time, .int .i64 ms.off.pic, .int .i64 ms.off.tl0, .int .i64 ms.out.seq, .int .i64 ms.out.time, .int .i64 ms.out.pic, .int .i64 ms.out.tl0, .slice K Kl.length ck, .int .i64 c1, .int .i64 c2, .int .i64 c3, .int .i64 c4, .int .i64 c5], .agg #[.bool p.mark, .int .u8 p.type, .int .u16 p.seq, .int .u32 p.time, .int .u32 p.ssrc, .slice A5 p.csrc.length cc5, .slice A6 p.exts.length c6, .string (str p.payload), .int .i64 p.pad], .agg #[.int .i64 n.seq, .int .i64 n.time, .int .i64 n.pic, .int .i64 n.tl0]] W (fun e w' => ∃ b off ck', e = .returned (.tuple #[.agg #[.int .u32 ss, .int .i64 st.room, .bool on2, .int .i64 s2, .int .i64 l2, .int .i64 t2, .bool ms.on, .int .i64 ms.high, .int .i64 ms.since, .int .i64 ms.off.seq, .int .i64 ms.off.time, .int .i64 ms.off.pic, .int .i64 ms.off.tl0, .int .i64 ms.out.seq, .int .i64 ms.out.time, .int .i64 ms.out.pic, .int .i64 ms.out.tl0, .slice (some ⟨b, off, none⟩) KA.length ck', .int .i64 ((c1 : Int) + 1), .int .i64 c2, .int .i64 c3, .int .i64 c4, .int .i64 c5], .string (str o1), .bool true]) ∧ RSl 2 REn w' KA (.slice (some ⟨b, off, none⟩) KA.length ck') ∧ W.heap.size ≤ b ∧ Below W.heap.size W w'))) (hn : n.Ok) (ho1 : Hd (o1 = (p.renum n ss).out)) (hKA : Hd (KA = kAdd Kl st.room n.seq o1)) :
    Calls Try.prog 14 #[rdV (Dn.mk ss (Ch.mk on1 src layer tid) ms0 st c1 c2 c3 c4 c5) (.slice K Kl.length ck), P06 p (.slice A5 p.csrc.length cc5) (.slice A6 p.exts.length c6), .int .i64 f, .int .i64 l, x.val, .bool false] w (TakeQ (Dn.mk ss (Ch.mk on1 src layer tid) ms0 st c1 c2 c3 c4 c5) p Kl (.slice K Kl.length ck) w (((Dn.mk ss (Ch.mk on2 s2 l2 t2) ms st c1 c2 c3 c4 c5).send p n).1, some o1, ask)) := by
  obtain ⟨R, hR⟩ : ∃ R, R = TakeQ (Dn.mk ss (Ch.mk on1 src layer tid) ms0 st c1 c2 c3 c4 c5) p Kl (.slice K Kl.length ck) w (((Dn.mk ss (Ch.mk on2 s2 l2 t2) ms st c1 c2 c3 c4 c5).send p n).1, some o1, ask) := ⟨_, rfl⟩
  rw [← hR]
  have HR := hide hR
  clear hR
  simp only [rdV, P06, Wnt.val]
  obtain ⟨w1, hw1⟩ : ∃ w1, w1 = ((((w.alloc (.cells #[.int .u32 ss, .int .i64 st.room, .bool on1, .int .i64 src, .int .i64 layer, .int .i64 tid, .bool ms0.on, .int .i64 ms0.high, .int .i64 ms0.since, .int .i64 ms0.off.seq, .int .i64 ms0.off.time, .int .i64 ms0.off.pic, .int .i64 ms0.off.tl0, .int .i64 ms0.out.seq, .int .i64 ms0.out.time, .int .i64 ms0.out.pic, .int .i64 ms0.out.tl0, .slice K Kl.length ck, .int .i64 c1, .int .i64 c2, .int .i64 c3, .int .i64 c4, .int .i64 c5] 38)).alloc (.cells #[.bool p.mark, .int .u8 p.type, .int .u16 p.seq, .int .u32 p.time, .int .u32 p.ssrc, .slice A5 p.csrc.length cc5, .slice A6 p.exts.length c6, .string (str p.payload), .int .i64 p.pad] 57)).alloc (.cells #[.int .i64 x.src, .int .i64 x.layer, .int .i64 x.tid] 59)).alloc (.cells #[.int .u32 0, .int .i64 0, .bool false, .int .i64 0, .int .i64 0, .int .i64 0, .bool false, .int .i64 0, .int .i64 0, .int .i64 0, .int .i64 0, .int .i64 0, .int .i64 0, .int .i64 0, .int .i64 0, .int .i64 0, .int .i64 0, .slice none 0 0, .int .i64 0, .int .i64 0, .int .i64 0, .int .i64 0, .int .i64 0] 38)) := ⟨_, rfl⟩
  have LE := hide (show Le w w1 from by rw [hw1]; exact (((((Le.refl w).alloc _).alloc _).alloc _).alloc _))
  have H6 := hide (show w1.heap[w.heap.size]? = some (.cells #[.int .u32 ss, .int .i64 st.room, .bool on1, .int .i64 src, .int .i64 layer, .int .i64 tid, .bool ms0.on, .int .i64 ms0.high, .int .i64 ms0.since, .int .i64 ms0.off.seq, .int .i64 ms0.off.time, .int .i64 ms0.off.pic, .int .i64 ms0.off.tl0, .int .i64 ms0.out.seq, .int .i64 ms0.out.time, .int .i64 ms0.out.pic, .int .i64 ms0.out.tl0, .slice K Kl.length ck, .int .i64 c1, .int .i64 c2, .int .i64 c3, .int .i64 c4, .int .i64 c5] 38 (0, 0)) from by rw [hw1]; exact heap_alloc (heap_alloc (heap_alloc (heap_alloc_new w _))))
  have H7 := hide (show w1.heap[w.heap.size + 1]? = some (.cells #[.bool p.mark, .int .u8 p.type, .int .u16 p.seq, .int .u32 p.time, .int .u32 p.ssrc, .slice A5 p.csrc.length cc5, .slice A6 p.exts.length c6, .string (str p.payload), .int .i64 p.pad] 57 (0, 0)) from by rw [hw1]; exact heap_alloc (heap_alloc (heap_at (by simp))))
  have H10 := hide (show w1.heap[w.heap.size + 1 + 1]? = some (.cells #[.int .i64 x.src, .int .i64 x.layer, .int .i64 x.tid] 59 (0, 0)) from by rw [hw1]; exact heap_alloc (heap_at (by simp)))
  have H12 := hide (show w1.heap[w.heap.size + 1 + 1 + 1]? = some (.cells #[.int .u32 0, .int .i64 0, .bool false, .int .i64 0, .int .i64 0, .int .i64 0, .bool false, .int .i64 0, .int .i64 0, .int .i64 0, .int .i64 0, .int .i64 0, .int .i64 0, .int .i64 0, .int .i64 0, .int .i64 0, .int .i64 0, .slice none 0 0, .int .i64 0, .int .i64 0, .int .i64 0, .int .i64 0, .int .i64 0] 38 (0, 0)) from by rw [hw1]; exact heap_at (by simp))
  go_enter Try.func14, Try.ntmps14
  go_upto_region 1 with fail
  rw [← hw1]
  clear hw1
  have kc1 := box_cell H7.out 7 (.string (str p.payload)) rfl w1 (Le.refl _)
  go_wp2_with fail
  refine (HPA.out _).mono ?_
  rintro e w2 ⟨rfl, hb⟩
  have H6_1 := hide (((Le.mk hb)).heap H6.out)
  have H7_1 := hide (((Le.mk hb)).heap H7.out)
  have H10_1 := hide (((Le.mk hb)).heap H10.out)
  have H12_1 := hide (((Le.mk hb)).heap H12.out)
  have LE_1 := hide (Le.trans LE.out (Le.mk hb))
  have hs2 := lt_of_heap H12_1.out
  clear kc1 H6 H7 H10 H12 LE hb
  go_wp2_with (first | (refine wpl_load_blk rfl 57 (.tmp 7) rfl (cs := [.bool p.mark, .int .u8 p.type, .int .u16 p.seq, .int .u32 p.time, .int .u32 p.ssrc, .slice A5 p.csrc.length cc5, .slice A6 p.exts.length c6, .string (str p.payload), .int .i64 p.pad]) _ rfl Try.underlying57 rfl (by kernel_rfl) (heap_alloc H7_1.out) ?_))
  have H6_2 := hide (show (World.alloc w2 (.cells #[.bool d0, .bool d1, .bool d2, .int .i64 d3, .bool d4, .bool d5, .int .i64 d6, .bool d7, .int .i64 d8, .bool d9, .int .i64 d10, .bool d11, .bool d12, .int .i64 d13] 99)).heap[w.heap.size]? = some (.cells #[.int .u32 ss, .int .i64 st.room, .bool on1, .int .i64 src, .int .i64 layer, .int .i64 tid, .bool ms0.on, .int .i64 ms0.high, .int .i64 ms0.since, .int .i64 ms0.off.seq, .int .i64 ms0.off.time, .int .i64 ms0.off.pic, .int .i64 ms0.off.tl0, .int .i64 ms0.out.seq, .int .i64 ms0.out.time, .int .i64 ms0.out.pic, .int .i64 ms0.out.tl0, .slice K Kl.length ck, .int .i64 c1, .int .i64 c2, .int .i64 c3, .int .i64 c4, .int .i64 c5] 38 (0, 0)) from heap_alloc H6_1.out)
  have H7_2 := hide (show (World.alloc w2 (.cells #[.bool d0, .bool d1, .bool d2, .int .i64 d3, .bool d4, .bool d5, .int .i64 d6, .bool d7, .int .i64 d8, .bool d9, .int .i64 d10, .bool d11, .bool d12, .int .i64 d13] 99)).heap[w.heap.size + 1]? = some (.cells #[.bool p.mark, .int .u8 p.type, .int .u16 p.seq, .int .u32 p.time, .int .u32 p.ssrc, .slice A5 p.csrc.length cc5, .slice A6 p.exts.length c6, .string (str p.payload), .int .i64 p.pad] 57 (0, 0)) from heap_alloc H7_1.out)
  have H10_2 := hide (show (World.alloc w2 (.cells #[.bool d0, .bool d1, .bool d2, .int .i64 d3, .bool d4, .bool d5, .int .i64 d6, .bool d7, .int .i64 d8, .bool d9, .int .i64 d10, .bool d11, .bool d12, .int .i64 d13] 99)).heap[w.heap.size + 1 + 1]? = some (.cells #[.int .i64 x.src, .int .i64 x.layer, .int .i64 x.tid] 59 (0, 0)) from heap_alloc H10_1.out)
  have H12_2 := hide (show (World.alloc w2 (.cells #[.bool d0, .bool d1, .bool d2, .int .i64 d3, .bool d4, .bool d5, .int .i64 d6, .bool d7, .int .i64 d8, .bool d9, .int .i64 d10, .bool d11, .bool d12, .int .i64 d13] 99)).heap[w.heap.size + 1 + 1 + 1]? = some (.cells #[.int .u32 0, .int .i64 0, .bool false, .int .i64 0, .int .i64 0, .int .i64 0, .bool false, .int .i64 0, .int .i64 0, .int .i64 0, .int .i64 0, .int .i64 0, .int .i64 0, .int .i64 0, .int .i64 0, .int .i64 0, .int .i64 0, .slice none 0 0, .int .i64 0, .int .i64 0, .int .i64 0, .int .i64 0, .int .i64 0] 38 (0, 0)) from heap_alloc H12_1.out)
  have H16_2 := hide (show (World.alloc w2 (.cells #[.bool d0, .bool d1, .bool d2, .int .i64 d3, .bool d4, .bool d5, .int .i64 d6, .bool d7, .int .i64 d8, .bool d9, .int .i64 d10, .bool d11, .bool d12, .int .i64 d13] 99)).heap[w2.heap.size]? = some (.cells #[.bool d0, .bool d1, .bool d2, .int .i64 d3, .bool d4, .bool d5, .int .i64 d6, .bool d7, .int .i64 d8, .bool d9, .int .i64 d10, .bool d11, .bool d12, .int .i64 d13] 99 (0, 0)) from heap_alloc_new _ _)
  have LE_2 := hide (show Le w (World.alloc w2 (.cells #[.bool d0, .bool d1, .bool d2, .int .i64 d3, .bool d4, .bool d5, .int .i64 d6, .bool d7, .int .i64 d8, .bool d9, .int .i64 d10, .bool d11, .bool d12, .int .i64 d13] 99)) from LE_1.out.alloc _)
  clear H6_1 H7_1 H10_1 H12_1 LE_1
  generalize (World.alloc w2 (.cells #[.bool d0, .bool d1, .bool d2, .int .i64 d3, .bool d4, .bool d5, .int .i64 d6, .bool d7, .int .i64 d8, .bool d9, .int .i64 d10, .bool d11, .bool d12, .int .i64 d13] 99)) = w3 at *
  have hs3 := lt_of_heap H16_2.out
  refine (HPU.out _ LE_2.out).mono ?_
  rintro e w4 ⟨rfl, hb⟩
  have H6_3 := hide (((Le.mk hb)).heap H6_2.out)
  have H7_3 := hide (((Le.mk hb)).heap H7_2.out)
  have H10_3 := hide (((Le.mk hb)).heap H10_2.out)
  have H12_3 := hide (((Le.mk hb)).heap H12_2.out)
  have H16_3 := hide (((Le.mk hb)).heap H16_2.out)
  have LE_3 := hide (Le.trans LE_2.out (Le.mk hb))
  have hs4 := lt_of_heap H16_3.out
  clear H6_2 H7_2 H10_2 H12_2 H16_2 LE_2 hb
  have kc5 := box_cell H16_3.out 2 (.bool d2) rfl w4 (Le.refl _)
  have kc6 := box_cell H16_3.out 3 (.int .i64 d3) rfl w4 (Le.refl _)
  have kc7 := box_cell H7_3.out 7 (.string (str p.payload)) rfl w4 (Le.refl _)
  go_upto_region 12 with fail
  go_cut [23] (fun v wx => v = .bool bg ∧ wx = w4)
  case first =>
    cases d2
    · go_wp2_with fail
      go_meet
      exact ⟨by rw [hbg.out]; rfl, rfl⟩
    · go_wp2_with fail
      go_meet
      exact ⟨by rw [hbg.out, beq_nat0]; rfl, rfl⟩
  obtain ⟨rfl, hwc⟩ := hcut
  rw [hwc]
  clear hwc
  go_upto_region 13 with fail
  go_cut [24] (fun v wx => v = .bool wh ∧ wx = w4)
  case first =>
    cases bg
    · have hwh2 := hide (show wh = false by rw [hwh.out]; rfl)
      go_wp2_with fail
      go_meet
      exact ⟨by rw [hwh2.out], rfl⟩
    · obtain ⟨n, rfl⟩ := Int.eq_ofNat_of_zero_le hN
      by_cases hlt : n < p.payload.length
      · have hI : (n : Int) < (p.payload.length : Int) := by omega
        have h0I : (0 : Int) ≤ (n : Int) := by omega
        have hg : p.payload[n]? = some p.payload[n] := List.getElem?_eq_getElem hlt
        have hwh2 := hide (show wh = decide (p.payload[n].toNat % 2 = 0) by rw [hwh.out]; simp [hlt])
        have htm : (p.payload[n].toNat : Int).tmod 2 = ((p.payload[n].toNat % 2 : Nat) : Int) := rfl
        have hmw : IntKind.u8.wrap ((p.payload[n].toNat % 2 : Nat) : Int) = ((p.payload[n].toNat % 2 : Nat) : Int) := by simp [IntKind.wrap, IntKind.signed, IntKind.bits]; omega
        clear hg
        generalize p.payload[n].toNat % 2 = md at *
        go_wp2_with fail
        go_meet
        exact ⟨by rw [hwh2.out, beq_nat0], rfl⟩
      · have hI : ¬ (n : Int) < (p.payload.length : Int) := by omega
        have hwh2 := hide (show wh = false by rw [hwh.out]; simp [hlt])
        go_wp2_with fail
        go_meet
        exact ⟨by rw [hwh2.out], rfl⟩
  obtain ⟨rfl, hwc⟩ := hcut
  rw [hwc]
  clear hwc
  have kc8 := box_cell H16_3.out 9 (.bool d9) rfl w4 (Le.refl _)
  have kc9 := box_cell H16_3.out 10 (.int .i64 d10) rfl w4 (Le.refl _)
  have kc10 := box_cell H16_3.out 11 (.bool d11) rfl w4 (Le.refl _)
  go_wp2_with (first | (refine wpl_load_in rfl 29 (.tmp 129) rfl [.int .u32 ss, .int .i64 st.room] [.bool on1, .int .i64 src, .int .i64 layer, .int .i64 tid] [.bool ms0.on, .int .i64 ms0.high, .int .i64 ms0.since, .int .i64 ms0.off.seq, .int .i64 ms0.off.time, .int .i64 ms0.off.pic, .int .i64 ms0.off.tl0, .int .i64 ms0.out.seq, .int .i64 ms0.out.time, .int .i64 ms0.out.pic, .int .i64 ms0.out.tl0, .slice K Kl.length ck, .int .i64 c1, .int .i64 c2, .int .i64 c3, .int .i64 c4, .int .i64 c5] _ rfl Try.underlying29 rfl (by kernel_rfl) H6_3.out ?_) | (refine wpl_load_blk rfl 59 (.tmp 10) rfl (cs := [.int .i64 x.src, .int .i64 x.layer, .int .i64 x.tid]) _ rfl Try.underlying59 rfl (by kernel_rfl) H10_3.out ?_))
  refine (HTK.out _).mono ?_
  rintro e w6 ⟨rfl, hb⟩
  have H6_4 := hide (((Le.mk hb)).heap H6_3.out)
  have H7_4 := hide (((Le.mk hb)).heap H7_3.out)
  have H10_4 := hide (((Le.mk hb)).heap H10_3.out)
  have H12_4 := hide (((Le.mk hb)).heap H12_3.out)
  have H16_4 := hide (((Le.mk hb)).heap H16_3.out)
  have LE_4 := hide (Le.trans LE_3.out (Le.mk hb))
  have hs11 := lt_of_heap H16_4.out
  clear kc5 kc6 kc7 kc8 kc9 kc10 H6_3 H7_3 H10_3 H12_3 H16_3 LE_3 hb
  go_upto_region 15 with fail
  have H6_5 := hide (show (World.alloc w6 (.cells #[.bool on2, .int .i64 s2, .int .i64 l2, .int .i64 t2] 29)).heap[w.heap.size]? = some (.cells #[.int .u32 ss, .int .i64 st.room, .bool on1, .int .i64 src, .int .i64 layer, .int .i64 tid, .bool ms0.on, .int .i64 ms0.high, .int .i64 ms0.since, .int .i64 ms0.off.seq, .int .i64 ms0.off.time, .int .i64 ms0.off.pic, .int .i64 ms0.off.tl0, .int .i64 ms0.out.seq, .int .i64 ms0.out.time, .int .i64 ms0.out.pic, .int .i64 ms0.out.tl0, .slice K Kl.length ck, .int .i64 c1, .int .i64 c2, .int .i64 c3, .int .i64 c4, .int .i64 c5] 38 (0, 0)) from heap_alloc H6_4.out)
  have H7_5 := hide (show (World.alloc w6 (.cells #[.bool on2, .int .i64 s2, .int .i64 l2, .int .i64 t2] 29)).heap[w.heap.size + 1]? = some (.cells #[.bool p.mark, .int .u8 p.type, .int .u16 p.seq, .int .u32 p.time, .int .u32 p.ssrc, .slice A5 p.csrc.length cc5, .slice A6 p.exts.length c6, .string (str p.payload), .int .i64 p.pad] 57 (0, 0)) from heap_alloc H7_4.out)
  have H10_5 := hide (show (World.alloc w6 (.cells #[.bool on2, .int .i64 s2, .int .i64 l2, .int .i64 t2] 29)).heap[w.heap.size + 1 + 1]? = some (.cells #[.int .i64 x.src, .int .i64 x.layer, .int .i64 x.tid] 59 (0, 0)) from heap_alloc H10_4.out)
  have H12_5 := hide (show (World.alloc w6 (.cells #[.bool on2, .int .i64 s2, .int .i64 l2, .int .i64 t2] 29)).heap[w.heap.size + 1 + 1 + 1]? = some (.cells #[.int .u32 0, .int .i64 0, .bool false, .int .i64 0, .int .i64 0, .int .i64 0, .bool false, .int .i64 0, .int .i64 0, .int .i64 0, .int .i64 0, .int .i64 0, .int .i64 0, .int .i64 0, .int .i64 0, .int .i64 0, .int .i64 0, .slice none 0 0, .int .i64 0, .int .i64 0, .int .i64 0, .int .i64 0, .int .i64 0] 38 (0, 0)) from heap_alloc H12_4.out)
  have H16_5 := hide (show (World.alloc w6 (.cells #[.bool on2, .int .i64 s2, .int .i64 l2, .int .i64 t2] 29)).heap[w2.heap.size]? = some (.cells #[.bool d0, .bool d1, .bool d2, .int .i64 d3, .bool d4, .bool d5, .int .i64 d6, .bool d7, .int .i64 d8, .bool d9, .int .i64 d10, .bool d11, .bool d12, .int .i64 d13] 99 (0, 0)) from heap_alloc H16_4.out)
  have H25_5 := hide (show (World.alloc w6 (.cells #[.bool on2, .int .i64 s2, .int .i64 l2, .int .i64 t2] 29)).heap[w6.heap.size]? = some (.cells #[.bool on2, .int .i64 s2, .int .i64 l2, .int .i64 t2] 29 (0, 0)) from heap_alloc_new _ _)
  have LE_5 := hide (show Le w (World.alloc w6 (.cells #[.bool on2, .int .i64 s2, .int .i64 l2, .int .i64 t2] 29)) from LE_4.out.alloc _)
  clear H6_4 H7_4 H10_4 H12_4 H16_4 LE_4
  generalize (World.alloc w6 (.cells #[.bool on2, .int .i64 s2, .int .i64 l2, .int .i64 t2] 29)) = w7 at *
  have hs12 := lt_of_heap H25_5.out
  go_wp2_with (first | (refine wpl_load_blk rfl 29 (.tmp 25) rfl (cs := [.bool on2, .int .i64 s2, .int .i64 l2, .int .i64 t2]) _ rfl Try.underlying29 rfl (by kernel_rfl) H25_5.out ?_) | (refine wpl_store_in rfl 29 (.tmp 147) (.tmp 146) rfl [.int .u32 ss, .int .i64 st.room] (cs := [.bool on2, .int .i64 s2, .int .i64 l2, .int .i64 t2]) (old := [.bool on1, .int .i64 src, .int .i64 layer, .int .i64 tid]) (post := [.bool ms0.on, .int .i64 ms0.high, .int .i64 ms0.since, .int .i64 ms0.off.seq, .int .i64 ms0.off.time, .int .i64 ms0.off.pic, .int .i64 ms0.off.tl0, .int .i64 ms0.out.seq, .int .i64 ms0.out.time, .int .i64 ms0.out.pic, .int .i64 ms0.out.tl0, .slice K Kl.length ck, .int .i64 c1, .int .i64 c2, .int .i64 c3, .int .i64 c4, .int .i64 c5]) rfl rfl (by kernel_rfl) (by simp [Value.oneCell']) H6_5.out rfl ?_; intro w8 hn hg; have H7_6 := hide (heap_grown hg H7_5.out (by simp <;> omega)); have H10_6 := hide (heap_grown hg H10_5.out (by simp <;> omega)); have H12_6 := hide (heap_grown hg H12_5.out (by simp <;> omega)); have H16_6 := hide (heap_grown hg H16_5.out (by simp <;> omega)); have H25_6 := hide (heap_grown hg H25_5.out (by simp <;> omega)); have H6_6 := hide hn; have LE_6 := hide (Le.mk (below_row LE_5.out.out hg (by omega) LE_5.out.size)); clear H7_5 H10_5 H12_5 H16_5 H25_5 H6_5 LE_5 hn hg) | (refine wpl_load_blk rfl 29 (.tmp 25) rfl (cs := [.bool on2, .int .i64 s2, .int .i64 l2, .int .i64 t2]) _ rfl Try.underlying29 rfl (by kernel_rfl) H25_6.out ?_) | (refine wpl_load_blk rfl 59 (.tmp 10) rfl (cs := [.int .i64 x.src, .int .i64 x.layer, .int .i64 x.tid]) _ rfl Try.underlying59 rfl (by kernel_rfl) H10_6.out ?_))
  refine (HAS.out _).mono ?_
  rintro e w9 ⟨rfl, hb⟩
  have H6_7 := hide (((Le.mk hb)).heap H6_6.out)
  have H7_7 := hide (((Le.mk hb)).heap H7_6.out)
  have H12_7 := hide (((Le.mk hb)).heap H12_6.out)
  have H16_7 := hide (((Le.mk hb)).heap H16_6.out)
  have H25_7 := hide (((Le.mk hb)).heap H25_6.out)
  have LE_7 := hide (Le.trans LE_6.out (Le.mk hb))
  have hs13 := lt_of_heap H25_7.out
  clear H6_6 H7_6 H10_6 H12_6 H16_6 H25_6 LE_6 hb
  have kc14 := box_cell H7_7.out 2 (.int .u16 p.seq) rfl w9 (Le.refl _)
  have kc15 := box_cell H7_7.out 3 (.int .u32 p.time) rfl w9 (Le.refl _)
  have kc16 := box_cell H16_7.out 6 (.int .i64 d6) rfl w9 (Le.refl _)
  have kc17 := box_cell H16_7.out 8 (.int .i64 d8) rfl w9 (Le.refl _)
  go_upto_region 18 with fail
  have H6_8 := hide (show (World.alloc w9 (.cells #[.int .i64 p.seq, .int .i64 p.time, .int .i64 d6, .int .i64 d8] 31)).heap[w.heap.size]? = some (.cells #[.int .u32 ss, .int .i64 st.room, .bool on2, .int .i64 s2, .int .i64 l2, .int .i64 t2, .bool ms0.on, .int .i64 ms0.high, .int .i64 ms0.since, .int .i64 ms0.off.seq, .int .i64 ms0.off.time, .int .i64 ms0.off.pic, .int .i64 ms0.off.tl0, .int .i64 ms0.out.seq, .int .i64 ms0.out.time, .int .i64 ms0.out.pic, .int .i64 ms0.out.tl0, .slice K Kl.length ck, .int .i64 c1, .int .i64 c2, .int .i64 c3, .int .i64 c4, .int .i64 c5] 38 (0, 0)) from heap_alloc H6_7.out)
  have H7_8 := hide (show (World.alloc w9 (.cells #[.int .i64 p.seq, .int .i64 p.time, .int .i64 d6, .int .i64 d8] 31)).heap[w.heap.size + 1]? = some (.cells #[.bool p.mark, .int .u8 p.type, .int .u16 p.seq, .int .u32 p.time, .int .u32 p.ssrc, .slice A5 p.csrc.length cc5, .slice A6 p.exts.length c6, .string (str p.payload), .int .i64 p.pad] 57 (0, 0)) from heap_alloc H7_7.out)
  have H12_8 := hide (show (World.alloc w9 (.cells #[.int .i64 p.seq, .int .i64 p.time, .int .i64 d6, .int .i64 d8] 31)).heap[w.heap.size + 1 + 1 + 1]? = some (.cells #[.int .u32 0, .int .i64 0, .bool false, .int .i64 0, .int .i64 0, .int .i64 0, .bool false, .int .i64 0, .int .i64 0, .int .i64 0, .int .i64 0, .int .i64 0, .int .i64 0, .int .i64 0, .int .i64 0, .int .i64 0, .int .i64 0, .slice none 0 0, .int .i64 0, .int .i64 0, .int .i64 0, .int .i64 0, .int .i64 0] 38 (0, 0)) from heap_alloc H12_7.out)
  have H28_8 := hide (show (World.alloc w9 (.cells #[.int .i64 p.seq, .int .i64 p.time, .int .i64 d6, .int .i64 d8] 31)).heap[w9.heap.size]? = some (.cells #[.int .i64 p.seq, .int .i64 p.time, .int .i64 d6, .int .i64 d8] 31 (0, 0)) from heap_alloc_new _ _)
  have LE_8 := hide (show Le w (World.alloc w9 (.cells #[.int .i64 p.seq, .int .i64 p.time, .int .i64 d6, .int .i64 d8] 31)) from LE_7.out.alloc _)
  clear kc14 kc15 kc16 kc17 H6_7 H7_7 H12_7 H16_7 H25_7 LE_7
  generalize (World.alloc w9 (.cells #[.int .i64 p.seq, .int .i64 p.time, .int .i64 d6, .int .i64 d8] 31)) = w10 at *
  have hs18 := lt_of_heap H28_8.out
  go_wp2_with (first | (refine wpl_load_in rfl 33 (.tmp 192) rfl [.int .u32 ss, .int .i64 st.room, .bool on2, .int .i64 s2, .int .i64 l2, .int .i64 t2] [.bool ms0.on, .int .i64 ms0.high, .int .i64 ms0.since, .int .i64 ms0.off.seq, .int .i64 ms0.off.time, .int .i64 ms0.off.pic, .int .i64 ms0.off.tl0, .int .i64 ms0.out.seq, .int .i64 ms0.out.time, .int .i64 ms0.out.pic, .int .i64 ms0.out.tl0] [.slice K Kl.length ck, .int .i64 c1, .int .i64 c2, .int .i64 c3, .int .i64 c4, .int .i64 c5] _ rfl Try.underlying33 rfl (by kernel_rfl) H6_8.out ?_) | (refine wpl_load_blk rfl 31 (.tmp 28) rfl (cs := [.int .i64 p.seq, .int .i64 p.time, .int .i64 d6, .int .i64 d8]) _ rfl Try.underlying31 rfl (by kernel_rfl) H28_8.out ?_))
  refine (HSW.out _).mono ?_
  rintro e w11 ⟨rfl, hb⟩
  have H6_9 := hide (((Le.mk hb)).heap H6_8.out)
  have H7_9 := hide (((Le.mk hb)).heap H7_8.out)
  have H12_9 := hide (((Le.mk hb)).heap H12_8.out)
  have H28_9 := hide (((Le.mk hb)).heap H28_8.out)
  have LE_9 := hide (Le.trans LE_8.out (Le.mk hb))
  have hs19 := lt_of_heap H28_9.out
  clear H6_8 H7_8 H12_8 H28_8 LE_8 hb
  go_upto_region 28 with fail
  have H6_10 := hide (show (World.alloc (World.alloc w11 (.cells #[.bool ms.on, .int .i64 ms.high, .int .i64 ms.since, .int .i64 ms.off.seq, .int .i64 ms.off.time, .int .i64 ms.off.pic, .int .i64 ms.off.tl0, .int .i64 ms.out.seq, .int .i64 ms.out.time, .int .i64 ms.out.pic, .int .i64 ms.out.tl0] 33)) (.cells #[.int .i64 n.seq, .int .i64 n.time, .int .i64 n.pic, .int .i64 n.tl0] 31)).heap[w.heap.size]? = some (.cells #[.int .u32 ss, .int .i64 st.room, .bool on2, .int .i64 s2, .int .i64 l2, .int .i64 t2, .bool ms0.on, .int .i64 ms0.high, .int .i64 ms0.since, .int .i64 ms0.off.seq, .int .i64 ms0.off.time, .int .i64 ms0.off.pic, .int .i64 ms0.off.tl0, .int .i64 ms0.out.seq, .int .i64 ms0.out.time, .int .i64 ms0.out.pic, .int .i64 ms0.out.tl0, .slice K Kl.length ck, .int .i64 c1, .int .i64 c2, .int .i64 c3, .int .i64 c4, .int .i64 c5] 38 (0, 0)) from (heap_alloc (heap_alloc H6_9.out)))
  have H7_10 := hide (show (World.alloc (World.alloc w11 (.cells #[.bool ms.on, .int .i64 ms.high, .int .i64 ms.since, .int .i64 ms.off.seq, .int .i64 ms.off.time, .int .i64 ms.off.pic, .int .i64 ms.off.tl0, .int .i64 ms.out.seq, .int .i64 ms.out.time, .int .i64 ms.out.pic, .int .i64 ms.out.tl0] 33)) (.cells #[.int .i64 n.seq, .int .i64 n.time, .int .i64 n.pic, .int .i64 n.tl0] 31)).heap[w.heap.size + 1]? = some (.cells #[.bool p.mark, .int .u8 p.type, .int .u16 p.seq, .int .u32 p.time, .int .u32 p.ssrc, .slice A5 p.csrc.length cc5, .slice A6 p.exts.length c6, .string (str p.payload), .int .i64 p.pad] 57 (0, 0)) from (heap_alloc (heap_alloc H7_9.out)))
  have H12_10 := hide (show (World.alloc (World.alloc w11 (.cells #[.bool ms.on, .int .i64 ms.high, .int .i64 ms.since, .int .i64 ms.off.seq, .int .i64 ms.off.time, .int .i64 ms.off.pic, .int .i64 ms.off.tl0, .int .i64 ms.out.seq, .int .i64 ms.out.time, .int .i64 ms.out.pic, .int .i64 ms.out.tl0] 33)) (.cells #[.int .i64 n.seq, .int .i64 n.time, .int .i64 n.pic, .int .i64 n.tl0] 31)).heap[w.heap.size + 1 + 1 + 1]? = some (.cells #[.int .u32 0, .int .i64 0, .bool false, .int .i64 0, .int .i64 0, .int .i64 0, .bool false, .int .i64 0, .int .i64 0, .int .i64 0, .int .i64 0, .int .i64 0, .int .i64 0, .int .i64 0, .int .i64 0, .int .i64 0, .int .i64 0, .slice none 0 0, .int .i64 0, .int .i64 0, .int .i64 0, .int .i64 0, .int .i64 0] 38 (0, 0)) from (heap_alloc (heap_alloc H12_9.out)))
  have H29_10 := hide (show (World.alloc (World.alloc w11 (.cells #[.bool ms.on, .int .i64 ms.high, .int .i64 ms.since, .int .i64 ms.off.seq, .int .i64 ms.off.time, .int .i64 ms.off.pic, .int .i64 ms.off.tl0, .int .i64 ms.out.seq, .int .i64 ms.out.time, .int .i64 ms.out.pic, .int .i64 ms.out.tl0] 33)) (.cells #[.int .i64 n.seq, .int .i64 n.time, .int .i64 n.pic, .int .i64 n.tl0] 31)).heap[w11.heap.size]? = some (.cells #[.bool ms.on, .int .i64 ms.high, .int .i64 ms.since, .int .i64 ms.off.seq, .int .i64 ms.off.time, .int .i64 ms.off.pic, .int .i64 ms.off.tl0, .int .i64 ms.out.seq, .int .i64 ms.out.time, .int .i64 ms.out.pic, .int .i64 ms.out.tl0] 33 (0, 0)) from (heap_alloc (heap_alloc_new _ _)))
  have H30_10 := hide (show (World.alloc (World.alloc w11 (.cells #[.bool ms.on, .int .i64 ms.high, .int .i64 ms.since, .int .i64 ms.off.seq, .int .i64 ms.off.time, .int .i64 ms.off.pic, .int .i64 ms.off.tl0, .int .i64 ms.out.seq, .int .i64 ms.out.time, .int .i64 ms.out.pic, .int .i64 ms.out.tl0] 33)) (.cells #[.int .i64 n.seq, .int .i64 n.time, .int .i64 n.pic, .int .i64 n.tl0] 31)).heap[w11.heap.size + 1]? = some (.cells #[.int .i64 n.seq, .int .i64 n.time, .int .i64 n.pic, .int .i64 n.tl0] 31 (0, 0)) from (heap_at (by simp)))
  have LE_10 := hide (show Le w (World.alloc (World.alloc w11 (.cells #[.bool ms.on, .int .i64 ms.high, .int .i64 ms.since, .int .i64 ms.off.seq, .int .i64 ms.off.time, .int .i64 ms.off.pic, .int .i64 ms.off.tl0, .int .i64 ms.out.seq, .int .i64 ms.out.time, .int .i64 ms.out.pic, .int .i64 ms.out.tl0] 33)) (.cells #[.int .i64 n.seq, .int .i64 n.time, .int .i64 n.pic, .int .i64 n.tl0] 31)) from ((LE_9.out.alloc _).alloc _))
  clear H6_9 H7_9 H12_9 H28_9 LE_9
  generalize (World.alloc (World.alloc w11 (.cells #[.bool ms.on, .int .i64 ms.high, .int .i64 ms.since, .int .i64 ms.off.seq, .int .i64 ms.off.time, .int .i64 ms.off.pic, .int .i64 ms.off.tl0, .int .i64 ms.out.seq, .int .i64 ms.out.time, .int .i64 ms.out.pic, .int .i64 ms.out.tl0] 33)) (.cells #[.int .i64 n.seq, .int .i64 n.time, .int .i64 n.pic, .int .i64 n.tl0] 31)) = w13 at *
  have hs20 := lt_of_heap H30_10.out
  go_wp2_with (first | (refine wpl_load_blk rfl 33 (.tmp 29) rfl (cs := [.bool ms.on, .int .i64 ms.high, .int .i64 ms.since, .int .i64 ms.off.seq, .int .i64 ms.off.time, .int .i64 ms.off.pic, .int .i64 ms.off.tl0, .int .i64 ms.out.seq, .int .i64 ms.out.time, .int .i64 ms.out.pic, .int .i64 ms.out.tl0]) _ rfl Try.underlying33 rfl (by kernel_rfl) H29_10.out ?_) | (refine wpl_store_in rfl 33 (.tmp 199) (.tmp 198) rfl [.int .u32 ss, .int .i64 st.room, .bool on2, .int .i64 s2, .int .i64 l2, .int .i64 t2] (cs := [.bool ms.on, .int .i64 ms.high, .int .i64 ms.since, .int .i64 ms.off.seq, .int .i64 ms.off.time, .int .i64 ms.off.pic, .int .i64 ms.off.tl0, .int .i64 ms.out.seq, .int .i64 ms.out.time, .int .i64 ms.out.pic, .int .i64 ms.out.tl0]) (old := [.bool ms0.on, .int .i64 ms0.high, .int .i64 ms0.since, .int .i64 ms0.off.seq, .int .i64 ms0.off.time, .int .i64 ms0.off.pic, .int .i64 ms0.off.tl0, .int .i64 ms0.out.seq, .int .i64 ms0.out.time, .int .i64 ms0.out.pic, .int .i64 ms0.out.tl0]) (post := [.slice K Kl.length ck, .int .i64 c1, .int .i64 c2, .int .i64 c3, .int .i64 c4, .int .i64 c5]) rfl rfl (by kernel_rfl) (by simp [Value.oneCell']) H6_10.out rfl ?_; intro w14 hn hg; have H7_11 := hide (heap_grown hg H7_10.out (by simp <;> omega)); have H12_11 := hide (heap_grown hg H12_10.out (by simp <;> omega)); have H30_11 := hide (heap_grown hg H30_10.out (by simp <;> omega)); have H6_11 := hide hn; have LE_11 := hide (Le.mk (below_row LE_10.out.out hg (by omega) LE_10.out.size)); clear H7_10 H12_10 H29_10 H30_10 H6_10 LE_10 hn hg) | (refine wpl_load_blk rfl 38 (.tmp 6) rfl (cs := [.int .u32 ss, .int .i64 st.room, .bool on2, .int .i64 s2, .int .i64 l2, .int .i64 t2, .bool ms.on, .int .i64 ms.high, .int .i64 ms.since, .int .i64 ms.off.seq, .int .i64 ms.off.time, .int .i64 ms.off.pic, .int .i64 ms.off.tl0, .int .i64 ms.out.seq, .int .i64 ms.out.time, .int .i64 ms.out.pic, .int .i64 ms.out.tl0, .slice K Kl.length ck, .int .i64 c1, .int .i64 c2, .int .i64 c3, .int .i64 c4, .int .i64 c5]) _ rfl Try.underlying38 rfl (by kernel_rfl) H6_11.out ?_) | (refine wpl_load_blk rfl 57 (.tmp 7) rfl (cs := [.bool p.mark, .int .u8 p.type, .int .u16 p.seq, .int .u32 p.time, .int .u32 p.ssrc, .slice A5 p.csrc.length cc5, .slice A6 p.exts.length c6, .string (str p.payload), .int .i64 p.pad]) _ rfl Try.underlying57 rfl (by kernel_rfl) H7_11.out ?_) | (refine wpl_load_blk rfl 31 (.tmp 30) rfl (cs := [.int .i64 n.seq, .int .i64 n.time, .int .i64 n.pic, .int .i64 n.tl0]) _ rfl Try.underlying31 rfl (by kernel_rfl) H30_11.out ?_))
  have hs12 := lt_of_heap H12_11.out
  have hs6 := lt_of_heap H6_11.out
  have hszw := LE_11.out.size
  refine (HSN.out _ LE_11.out).mono ?_
  rintro e w15 ⟨kb, ko, ck2, rfl, hk2, hkb, hb⟩
  have HK2 := hide hk2
  have HKB := hide hkb
  clear hk2 hkb HSN
  have H12_12 := hide (((Le.mk hb)).heap H12_11.out)
  have H30_12 := hide (((Le.mk hb)).heap H30_11.out)
  have LE_12 := hide (Le.trans LE_11.out (Le.mk hb))
  have hs21 := lt_of_heap H30_12.out
  clear H6_11 H7_11 H12_11 H30_11 LE_11 hb
  go_upto_region 30 with (first | (refine wpl_store_blk rfl 38 (.tmp 31) (.tmp 205) (cs := [.int .u32 ss, .int .i64 st.room, .bool on2, .int .i64 s2, .int .i64 l2, .int .i64 t2, .bool ms.on, .int .i64 ms.high, .int .i64 ms.since, .int .i64 ms.off.seq, .int .i64 ms.off.time, .int .i64 ms.off.pic, .int .i64 ms.off.tl0, .int .i64 ms.out.seq, .int .i64 ms.out.time, .int .i64 ms.out.pic, .int .i64 ms.out.tl0, .slice (some ⟨kb, ko, none⟩) KA.length ck2, .int .i64 ((c1 : Int) + 1), .int .i64 c2, .int .i64 c3, .int .i64 c4, .int .i64 c5]) rfl rfl rfl (by kernel_rfl) (by simp [Value.oneCell']) (heap_alloc_new _ _) rfl ?_; intro w16 hn hg; have hbx := ((Le.refl w15).alloc _).boxed hg (Nat.le_refl _); have H12_13 := hide ((hbx).heap H12_12.out); have HK2_13 := hide (hbx.rsl keeps_en HK2.out); have LE_13 := hide (Le.trans LE_12.out hbx); have H31_13 := hide (hn); have hs22 := lt_of_heap H31_13.out; clear H12_12 H30_12 HK2 LE_12; clear hn hg hbx))
  go_wp2_with (first | (refine wpl_load_blk rfl 38 (.tmp 31) rfl (cs := [.int .u32 ss, .int .i64 st.room, .bool on2, .int .i64 s2, .int .i64 l2, .int .i64 t2, .bool ms.on, .int .i64 ms.high, .int .i64 ms.since, .int .i64 ms.off.seq, .int .i64 ms.off.time, .int .i64 ms.off.pic, .int .i64 ms.off.tl0, .int .i64 ms.out.seq, .int .i64 ms.out.time, .int .i64 ms.out.pic, .int .i64 ms.out.tl0, .slice (some ⟨kb, ko, none⟩) KA.length ck2, .int .i64 ((c1 : Int) + 1), .int .i64 c2, .int .i64 c3, .int .i64 c4, .int .i64 c5]) _ rfl Try.underlying38 rfl (by kernel_rfl) H31_13.out ?_) | (refine wpl_store_blk rfl 38 (.tmp 12) (.tmp 208) (cs := [.int .u32 ss, .int .i64 st.room, .bool on2, .int .i64 s2, .int .i64 l2, .int .i64 t2, .bool ms.on, .int .i64 ms.high, .int .i64 ms.since, .int .i64 ms.off.seq, .int .i64 ms.off.time, .int .i64 ms.off.pic, .int .i64 ms.off.tl0, .int .i64 ms.out.seq, .int .i64 ms.out.time, .int .i64 ms.out.pic, .int .i64 ms.out.tl0, .slice (some ⟨kb, ko, none⟩) KA.length ck2, .int .i64 ((c1 : Int) + 1), .int .i64 c2, .int .i64 c3, .int .i64 c4, .int .i64 c5]) rfl rfl rfl (by kernel_rfl) (by simp [Value.oneCell']) H12_13.out rfl ?_; intro w17 hn hg; have HK2_14 := hide (RSl.off (fun _ _ _ _ h => h) HK2_13.out hg (fun b off e => by injection e with e; injection e with e _ _; have := HKB.out; omega)); have H12_14 := hide hn; have LE_14 := hide (Le.mk (below_row LE_13.out.out hg (by omega) LE_13.out.size)); clear H31_13 HK2_13 H12_13 LE_13 hn hg))
  refine ret_cttt Try.results14 (InCell.mk' rfl H12_14.out Try.underlying38 rfl (by kernel_rfl)) rfl rfl rfl ?_
  rw [HR.out]
  exact ⟨.slice (some ⟨kb, ko, none⟩) KA.length ck2, KA, rfl, HK2_14.out, .inr ⟨n, hn, by rw [ho1.out], by rw [ho1.out]; rfl, by rw [hKA.out, ho1.out], kb, ko, ck2, rfl, by have := HKB.out; omega⟩, LE_14.out.out⟩

set_option maxRecDepth 100000 in
set_option maxHeartbeats 8000000 in
theorem r14send (ss : Nat) (src layer tid : Int) (ms0 : Ms) (st : St) (c1 c2 c3 c4 c5 : Nat) (p : Pk) (Kl : Kp) (K : Option Addr) (ck : Nat) (A5 A6 : Option Addr) (cc5 c6 : Nat) (f l : Int) (x : Wnt) (d0 d1 d2 d4 d5 d7 d9 d11 d12 : Bool) (d3 d6 d8 d10 d13 : Nat) (N pp tp E er : Int) (o0 : List UInt8) (on1 : Bool) (bg wh on2 : Bool) (s2 l2 t2 : Int) (hN : 0 ≤ N) (hbg : Hd (bg = (d2 && decide (d3 = 0)))) (hwh : Hd (wh = (bg && (decide (N < p.payload.length) && decide ((p.payload[N.toNat]?.map (·.toNat % 2)) = some 0))))) (hpl : p.payload.length ≤ 1000) (hq : IntKind.i64.wrap (p.seq : Int) = p.seq) (hq2 : IntKind.i64.wrap (p.time : Int) = p.time) (w : World) (hk : Hd (RSl 2 REn w Kl (.slice K Kl.length ck)))
    (HPA : Hd (∀ W, Calls Try.prog 28 #[.string (str p.payload)] W (Gives W (.tuple #[.agg #[.bool d0, .bool d1, .bool d2, .int .i64 d3, .bool d4, .bool d5, .int .i64 d6, .bool d7, .int .i64 d8, .bool d9, .int .i64 d10, .bool d11, .bool d12, .int .i64 d13], .int .i64 N, .int .i64 pp, .int .i64 tp, .int .i64 0]))))
    (HPU : Hd (∀ W, Le w W → Calls Try.prog 29 #[.agg #[.bool p.mark, .int .u8 p.type, .int .u16 p.seq, .int .u32 p.time, .int .u32 p.ssrc, .slice A5 p.csrc.length cc5, .slice A6 p.exts.length c6, .string (str p.payload), .int .i64 p.pad]] W (Gives W (.tuple #[.string (str o0), .int .i64 0])))) (HTK : Hd (∀ W, Calls Try.prog 32 #[.agg #[.bool on1, .int .i64 src, .int .i64 layer, .int .i64 tid], .agg #[.int .i64 f, .int .i64 l, .bool bg, .bool wh, .bool d9, .int .i64 d10, .bool d11], .agg #[.int .i64 x.src, .int .i64 x.layer, .int .i64 x.tid]] W (Gives W (.tuple #[.agg #[.bool on2, .int .i64 s2, .int .i64 l2, .int .i64 t2], .int .i64 1])))) (ask : Bool) (HAS : Hd (∀ W, Calls Try.prog 31 #[.agg #[.bool on2, .int .i64 s2, .int .i64 l2, .int .i64 t2], .agg #[.int .i64 x.src, .int .i64 x.layer, .int .i64 x.tid]] W (Gives W (.bool ask)))) (ms : Ms) (n : Nm) (o1 : List UInt8) (KA : Kp) (HSE : Hd (∀ W, Calls Try.prog 35 #[.agg #[.bool ms0.on, .int .i64 ms0.high, .int .i64 ms0.since, .int .i64 ms0.off.seq, .int .i64 ms0.off.time, .int .i64 ms0.off.pic, .int .i64 ms0.off.tl0, .int .i64 ms0.out.seq, .int .i64 ms0.out.time, .int .i64 ms0.out.pic, .int .i64 ms0.out.tl0], .agg #[.int .i64 p.seq, .int .i64 p.time, .int .i64 d6, .int .i64 d8]] W (Gives W (.tuple #[.agg #[.bool ms.on, .int .i64 ms.high, .int .i64 ms.since, .int .i64 ms.off.seq, .int .i64 ms.off.time, .int .i64 ms.off.pic, .int .i64 ms.off.tl0, .int .i64 ms.out.seq, .int .i64 ms.out.time, .int .i64 ms.out.pic, .int .i64 ms.out.tl0], .agg #[.int .i64 n.seq, .int .i64 n.time, .int .i64 n.pic, .int .i64 n.tl0], .bool true])))) (HSN : Hd (∀ W, Le w W → Calls Try.prog 34 #[.agg #[.int .u32 ss, .int .i64 st.room, .bool on2, .int .i64 s2, .int .i64 l2, .int .i64 t2, .bool ms.on, .int .i64 ms.high, .int .i64 ms.since, .int .i64 ms.off.seq, .int .i64 ms.off.time, .int .i64 ms.off.pic, .int .i64 ms.off.tl0, .int .i64 ms.out.seq, .int .i64 ms.out.time, .int .i64 ms.out.pic, .int .i64 ms.out.tl0, .slice K Kl.length ck, .int .i64 c1, .int .i64 c2, .int .i64 c3, .int .i64 c4, .int .i64 c5], .agg #[.bool p.mark, .int .u8 p.type, .int .u16 p.seq, .int .u32 p.time, .int .u32 p.ssrc, .slice A5 p.csrc.length cc5, .slice A6 p.exts.length c6, .string (str p.payload), .int .i64 p.pad], .agg #[.int .i64 n.seq, .int .i64 n.time, .int .i64 n.pic, .int .i64 n.tl0]] W (fun e w' => ∃ b off ck', e = .returned (.tuple #[.agg #[.int .u32 ss, .int .i64 st.room, .bool on2, .int .i64 s2, .int .i64 l2, .int .i64 t2, .bool ms.on, .int .i64 ms.high, .int .i64 ms.since, .int .i64 ms.off.seq, .int .i64 ms.off.time, .int .i64 ms.off.pic, .int .i64 ms.off.tl0, .int .i64 ms.out.seq, .int .i64 ms.out.time, .int .i64 ms.out.pic, .int .i64 ms.out.tl0, .slice (some ⟨b, off, none⟩) KA.length ck', .int .i64 ((c1 : Int) + 1), .int .i64 c2, .int .i64 c3, .int .i64 c4, .int .i64 c5], .string (str o1), .bool true]) ∧ RSl 2 REn w' KA (.slice (some ⟨b, off, none⟩) KA.length ck') ∧ W.heap.size ≤ b ∧ Below W.heap.size W w'))) (hn : n.Ok) (ho1 : Hd (o1 = (p.renum n ss).out)) (hKA : Hd (KA = kAdd Kl st.room n.seq o1)) :
    Calls Try.prog 14 #[rdV (Dn.mk ss (Ch.mk on1 src layer tid) ms0 st c1 c2 c3 c4 c5) (.slice K Kl.length ck), P06 p (.slice A5 p.csrc.length cc5) (.slice A6 p.exts.length c6), .int .i64 f, .int .i64 l, x.val, .bool false] w (TakeQ (Dn.mk ss (Ch.mk on1 src layer tid) ms0 st c1 c2 c3 c4 c5) p Kl (.slice K Kl.length ck) w (((Dn.mk ss (Ch.mk on2 s2 l2 t2) ms st c1 c2 c3 c4 c5).send p n).1, some o1, ask)) := by
  obtain ⟨R, hR⟩ : ∃ R, R = TakeQ (Dn.mk ss (Ch.mk on1 src layer tid) ms0 st c1 c2 c3 c4 c5) p Kl (.slice K Kl.length ck) w (((Dn.mk ss (Ch.mk on2 s2 l2 t2) ms st c1 c2 c3 c4 c5).send p n).1, some o1, ask) := ⟨_, rfl⟩
  rw [← hR]
  have HR := hide hR
  clear hR
  simp only [rdV, P06, Wnt.val]
  obtain ⟨w1, hw1⟩ : ∃ w1, w1 = ((((w.alloc (.cells #[.int .u32 ss, .int .i64 st.room, .bool on1, .int .i64 src, .int .i64 layer, .int .i64 tid, .bool ms0.on, .int .i64 ms0.high, .int .i64 ms0.since, .int .i64 ms0.off.seq, .int .i64 ms0.off.time, .int .i64 ms0.off.pic, .int .i64 ms0.off.tl0, .int .i64 ms0.out.seq, .int .i64 ms0.out.time, .int .i64 ms0.out.pic, .int .i64 ms0.out.tl0, .slice K Kl.length ck, .int .i64 c1, .int .i64 c2, .int .i64 c3, .int .i64 c4, .int .i64 c5] 38)).alloc (.cells #[.bool p.mark, .int .u8 p.type, .int .u16 p.seq, .int .u32 p.time, .int .u32 p.ssrc, .slice A5 p.csrc.length cc5, .slice A6 p.exts.length c6, .string (str p.payload), .int .i64 p.pad] 57)).alloc (.cells #[.int .i64 x.src, .int .i64 x.layer, .int .i64 x.tid] 59)).alloc (.cells #[.int .u32 0, .int .i64 0, .bool false, .int .i64 0, .int .i64 0, .int .i64 0, .bool false, .int .i64 0, .int .i64 0, .int .i64 0, .int .i64 0, .int .i64 0, .int .i64 0, .int .i64 0, .int .i64 0, .int .i64 0, .int .i64 0, .slice none 0 0, .int .i64 0, .int .i64 0, .int .i64 0, .int .i64 0, .int .i64 0] 38)) := ⟨_, rfl⟩
  have LE := hide (show Le w w1 from by rw [hw1]; exact (((((Le.refl w).alloc _).alloc _).alloc _).alloc _))
  have H6 := hide (show w1.heap[w.heap.size]? = some (.cells #[.int .u32 ss, .int .i64 st.room, .bool on1, .int .i64 src, .int .i64 layer, .int .i64 tid, .bool ms0.on, .int .i64 ms0.high, .int .i64 ms0.since, .int .i64 ms0.off.seq, .int .i64 ms0.off.time, .int .i64 ms0.off.pic, .int .i64 ms0.off.tl0, .int .i64 ms0.out.seq, .int .i64 ms0.out.time, .int .i64 ms0.out.pic, .int .i64 ms0.out.tl0, .slice K Kl.length ck, .int .i64 c1, .int .i64 c2, .int .i64 c3, .int .i64 c4, .int .i64 c5] 38 (0, 0)) from by rw [hw1]; exact heap_alloc (heap_alloc (heap_alloc (heap_alloc_new w _))))
  have H7 := hide (show w1.heap[w.heap.size + 1]? = some (.cells #[.bool p.mark, .int .u8 p.type, .int .u16 p.seq, .int .u32 p.time, .int .u32 p.ssrc, .slice A5 p.csrc.length cc5, .slice A6 p.exts.length c6, .string (str p.payload), .int .i64 p.pad] 57 (0, 0)) from by rw [hw1]; exact heap_alloc (heap_alloc (heap_at (by simp))))
  have H10 := hide (show w1.heap[w.heap.size + 1 + 1]? = some (.cells #[.int .i64 x.src, .int .i64 x.layer, .int .i64 x.tid] 59 (0, 0)) from by rw [hw1]; exact heap_alloc (heap_at (by simp)))
  have H12 := hide (show w1.heap[w.heap.size + 1 + 1 + 1]? = some (.cells #[.int .u32 0, .int .i64 0, .bool false, .int .i64 0, .int .i64 0, .int .i64 0, .bool false, .int .i64 0, .int .i64 0, .int .i64 0, .int .i64 0, .int .i64 0, .int .i64 0, .int .i64 0, .int .i64 0, .int .i64 0, .int .i64 0, .slice none 0 0, .int .i64 0, .int .i64 0, .int .i64 0, .int .i64 0, .int .i64 0] 38 (0, 0)) from by rw [hw1]; exact heap_at (by simp))
  go_enter Try.func14, Try.ntmps14
  go_upto_region 1 with fail
  rw [← hw1]
  clear hw1
  have kc1 := box_cell H7.out 7 (.string (str p.payload)) rfl w1 (Le.refl _)
  go_wp2_with fail
  refine (HPA.out _).mono ?_
  rintro e w2 ⟨rfl, hb⟩
  have H6_1 := hide (((Le.mk hb)).heap H6.out)
  have H7_1 := hide (((Le.mk hb)).heap H7.out)
  have H10_1 := hide (((Le.mk hb)).heap H10.out)
  have H12_1 := hide (((Le.mk hb)).heap H12.out)
  have LE_1 := hide (Le.trans LE.out (Le.mk hb))
  have hs2 := lt_of_heap H12_1.out
  clear kc1 H6 H7 H10 H12 LE hb
  go_wp2_with (first | (refine wpl_load_blk rfl 57 (.tmp 7) rfl (cs := [.bool p.mark, .int .u8 p.type, .int .u16 p.seq, .int .u32 p.time, .int .u32 p.ssrc, .slice A5 p.csrc.length cc5, .slice A6 p.exts.length c6, .string (str p.payload), .int .i64 p.pad]) _ rfl Try.underlying57 rfl (by kernel_rfl) (heap_alloc H7_1.out) ?_))
  have H6_2 := hide (show (World.alloc w2 (.cells #[.bool d0, .bool d1, .bool d2, .int .i64 d3, .bool d4, .bool d5, .int .i64 d6, .bool d7, .int .i64 d8, .bool d9, .int .i64 d10, .bool d11, .bool d12, .int .i64 d13] 99)).heap[w.heap.size]? = some (.cells #[.int .u32 ss, .int .i64 st.room, .bool on1, .int .i64 src, .int .i64 layer, .int .i64 tid, .bool ms0.on, .int .i64 ms0.high, .int .i64 ms0.since, .int .i64 ms0.off.seq, .int .i64 ms0.off.time, .int .i64 ms0.off.pic, .int .i64 ms0.off.tl0, .int .i64 ms0.out.seq, .int .i64 ms0.out.time, .int .i64 ms0.out.pic, .int .i64 ms0.out.tl0, .slice K Kl.length ck, .int .i64 c1, .int .i64 c2, .int .i64 c3, .int .i64 c4, .int .i64 c5] 38 (0, 0)) from heap_alloc H6_1.out)
  have H7_2 := hide (show (World.alloc w2 (.cells #[.bool d0, .bool d1, .bool d2, .int .i64 d3, .bool d4, .bool d5, .int .i64 d6, .bool d7, .int .i64 d8, .bool d9, .int .i64 d10, .bool d11, .bool d12, .int .i64 d13] 99)).heap[w.heap.size + 1]? = some (.cells #[.bool p.mark, .int .u8 p.type, .int .u16 p.seq, .int .u32 p.time, .int .u32 p.ssrc, .slice A5 p.csrc.length cc5, .slice A6 p.exts.length c6, .string (str p.payload), .int .i64 p.pad] 57 (0, 0)) from heap_alloc H7_1.out)
  have H10_2 := hide (show (World.alloc w2 (.cells #[.bool d0, .bool d1, .bool d2, .int .i64 d3, .bool d4, .bool d5, .int .i64 d6, .bool d7, .int .i64 d8, .bool d9, .int .i64 d10, .bool d11, .bool d12, .int .i64 d13] 99)).heap[w.heap.size + 1 + 1]? = some (.cells #[.int .i64 x.src, .int .i64 x.layer, .int .i64 x.tid] 59 (0, 0)) from heap_alloc H10_1.out)
  have H12_2 := hide (show (World.alloc w2 (.cells #[.bool d0, .bool d1, .bool d2, .int .i64 d3, .bool d4, .bool d5, .int .i64 d6, .bool d7, .int .i64 d8, .bool d9, .int .i64 d10, .bool d11, .bool d12, .int .i64 d13] 99)).heap[w.heap.size + 1 + 1 + 1]? = some (.cells #[.int .u32 0, .int .i64 0, .bool false, .int .i64 0, .int .i64 0, .int .i64 0, .bool false, .int .i64 0, .int .i64 0, .int .i64 0, .int .i64 0, .int .i64 0, .int .i64 0, .int .i64 0, .int .i64 0, .int .i64 0, .int .i64 0, .slice none 0 0, .int .i64 0, .int .i64 0, .int .i64 0, .int .i64 0, .int .i64 0] 38 (0, 0)) from heap_alloc H12_1.out)
  have H16_2 := hide (show (World.alloc w2 (.cells #[.bool d0, .bool d1, .bool d2, .int .i64 d3, .bool d4, .bool d5, .int .i64 d6, .bool d7, .int .i64 d8, .bool d9, .int .i64 d10, .bool d11, .bool d12, .int .i64 d13] 99)).heap[w2.heap.size]? = some (.cells #[.bool d0, .bool d1, .bool d2, .int .i64 d3, .bool d4, .bool d5, .int .i64 d6, .bool d7, .int .i64 d8, .bool d9, .int .i64 d10, .bool d11, .bool d12, .int .i64 d13] 99 (0, 0)) from heap_alloc_new _ _)
  have LE_2 := hide (show Le w (World.alloc w2 (.cells #[.bool d0, .bool d1, .bool d2, .int .i64 d3, .bool d4, .bool d5, .int .i64 d6, .bool d7, .int .i64 d8, .bool d9, .int .i64 d10, .bool d11, .bool d12, .int .i64 d13] 99)) from LE_1.out.alloc _)
  clear H6_1 H7_1 H10_1 H12_1 LE_1
  generalize (World.alloc w2 (.cells #[.bool d0, .bool d1, .bool d2, .int .i64 d3, .bool d4, .bool d5, .int .i64 d6, .bool d7, .int .i64 d8, .bool d9, .int .i64 d10, .bool d11, .bool d12, .int .i64 d13] 99)) = w3 at *
  have hs3 := lt_of_heap H16_2.out
  refine (HPU.out _ LE_2.out).mono ?_
  rintro e w4 ⟨rfl, hb⟩
  have H6_3 := hide (((Le.mk hb)).heap H6_2.out)
  have H7_3 := hide (((Le.mk hb)).heap H7_2.out)
  have H10_3 := hide (((Le.mk hb)).heap H10_2.out)
  have H12_3 := hide (((Le.mk hb)).heap H12_2.out)
  have H16_3 := hide (((Le.mk hb)).heap H16_2.out)
  have LE_3 := hide (Le.trans LE_2.out (Le.mk hb))
  have hs4 := lt_of_heap H16_3.out
  clear H6_2 H7_2 H10_2 H12_2 H16_2 LE_2 hb
  have kc5 := box_cell H16_3.out 2 (.bool d2) rfl w4 (Le.refl _)
  have kc6 := box_cell H16_3.out 3 (.int .i64 d3) rfl w4 (Le.refl _)
  have kc7 := box_cell H7_3.out 7 (.string (str p.payload)) rfl w4 (Le.refl _)
  go_upto_region 12 with fail
  go_cut [23] (fun v wx => v = .bool bg ∧ wx = w4)
  case first =>
    cases d2
    · go_wp2_with fail
      go_meet
      exact ⟨by rw [hbg.out]; rfl, rfl⟩
    · go_wp2_with fail
      go_meet
      exact ⟨by rw [hbg.out, beq_nat0]; rfl, rfl⟩
  obtain ⟨rfl, hwc⟩ := hcut
  rw [hwc]
  clear hwc
  go_upto_region 13 with fail
  go_cut [24] (fun v wx => v = .bool wh ∧ wx = w4)
  case first =>
    cases bg
    · have hwh2 := hide (show wh = false by rw [hwh.out]; rfl)
      go_wp2_with fail
      go_meet
      exact ⟨by rw [hwh2.out], rfl⟩
    · obtain ⟨n, rfl⟩ := Int.eq_ofNat_of_zero_le hN
      by_cases hlt : n < p.payload.length
      · have hI : (n : Int) < (p.payload.length : Int) := by omega
        have h0I : (0 : Int) ≤ (n : Int) := by omega
        have hg : p.payload[n]? = some p.payload[n] := List.getElem?_eq_getElem hlt
        have hwh2 := hide (show wh = decide (p.payload[n].toNat % 2 = 0) by rw [hwh.out]; simp [hlt])
        have htm : (p.payload[n].toNat : Int).tmod 2 = ((p.payload[n].toNat % 2 : Nat) : Int) := rfl
        have hmw : IntKind.u8.wrap ((p.payload[n].toNat % 2 : Nat) : Int) = ((p.payload[n].toNat % 2 : Nat) : Int) := by simp [IntKind.wrap, IntKind.signed, IntKind.bits]; omega
        clear hg
        generalize p.payload[n].toNat % 2 = md at *
        go_wp2_with fail
        go_meet
        exact ⟨by rw [hwh2.out, beq_nat0], rfl⟩
      · have hI : ¬ (n : Int) < (p.payload.length : Int) := by omega
        have hwh2 := hide (show wh = false by rw [hwh.out]; simp [hlt])
        go_wp2_with fail
        go_meet
        exact ⟨by rw [hwh2.out], rfl⟩
  obtain ⟨rfl, hwc⟩ := hcut
  rw [hwc]
  clear hwc
  have kc8 := box_cell H16_3.out 9 (.bool d9) rfl w4 (Le.refl _)
  have kc9 := box_cell H16_3.out 10 (.int .i64 d10) rfl w4 (Le.refl _)
  have kc10 := box_cell H16_3.out 11 (.bool d11) rfl w4 (Le.refl _)
  go_wp2_with (first | (refine wpl_load_in rfl 29 (.tmp 129) rfl [.int .u32 ss, .int .i64 st.room] [.bool on1, .int .i64 src, .int .i64 layer, .int .i64 tid] [.bool ms0.on, .int .i64 ms0.high, .int .i64 ms0.since, .int .i64 ms0.off.seq, .int .i64 ms0.off.time, .int .i64 ms0.off.pic, .int .i64 ms0.off.tl0, .int .i64 ms0.out.seq, .int .i64 ms0.out.time, .int .i64 ms0.out.pic, .int .i64 ms0.out.tl0, .slice K Kl.length ck, .int .i64 c1, .int .i64 c2, .int .i64 c3, .int .i64 c4, .int .i64 c5] _ rfl Try.underlying29 rfl (by kernel_rfl) H6_3.out ?_) | (refine wpl_load_blk rfl 59 (.tmp 10) rfl (cs := [.int .i64 x.src, .int .i64 x.layer, .int .i64 x.tid]) _ rfl Try.underlying59 rfl (by kernel_rfl) H10_3.out ?_))
  refine (HTK.out _).mono ?_
  rintro e w6 ⟨rfl, hb⟩
  have H6_4 := hide (((Le.mk hb)).heap H6_3.out)
  have H7_4 := hide (((Le.mk hb)).heap H7_3.out)
  have H10_4 := hide (((Le.mk hb)).heap H10_3.out)
  have H12_4 := hide (((Le.mk hb)).heap H12_3.out)
  have H16_4 := hide (((Le.mk hb)).heap H16_3.out)
  have LE_4 := hide (Le.trans LE_3.out (Le.mk hb))
  have hs11 := lt_of_heap H16_4.out
  clear kc5 kc6 kc7 kc8 kc9 kc10 H6_3 H7_3 H10_3 H12_3 H16_3 LE_3 hb
  go_upto_region 15 with fail
  have H6_5 := hide (show (World.alloc w6 (.cells #[.bool on2, .int .i64 s2, .int .i64 l2, .int .i64 t2] 29)).heap[w.heap.size]? = some (.cells #[.int .u32 ss, .int .i64 st.room, .bool on1, .int .i64 src, .int .i64 layer, .int .i64 tid, .bool ms0.on, .int .i64 ms0.high, .int .i64 ms0.since, .int .i64 ms0.off.seq, .int .i64 ms0.off.time, .int .i64 ms0.off.pic, .int .i64 ms0.off.tl0, .int .i64 ms0.out.seq, .int .i64 ms0.out.time, .int .i64 ms0.out.pic, .int .i64 ms0.out.tl0, .slice K Kl.length ck, .int .i64 c1, .int .i64 c2, .int .i64 c3, .int .i64 c4, .int .i64 c5] 38 (0, 0)) from heap_alloc H6_4.out)
  have H7_5 := hide (show (World.alloc w6 (.cells #[.bool on2, .int .i64 s2, .int .i64 l2, .int .i64 t2] 29)).heap[w.heap.size + 1]? = some (.cells #[.bool p.mark, .int .u8 p.type, .int .u16 p.seq, .int .u32 p.time, .int .u32 p.ssrc, .slice A5 p.csrc.length cc5, .slice A6 p.exts.length c6, .string (str p.payload), .int .i64 p.pad] 57 (0, 0)) from heap_alloc H7_4.out)
  have H10_5 := hide (show (World.alloc w6 (.cells #[.bool on2, .int .i64 s2, .int .i64 l2, .int .i64 t2] 29)).heap[w.heap.size + 1 + 1]? = some (.cells #[.int .i64 x.src, .int .i64 x.layer, .int .i64 x.tid] 59 (0, 0)) from heap_alloc H10_4.out)
  have H12_5 := hide (show (World.alloc w6 (.cells #[.bool on2, .int .i64 s2, .int .i64 l2, .int .i64 t2] 29)).heap[w.heap.size + 1 + 1 + 1]? = some (.cells #[.int .u32 0, .int .i64 0, .bool false, .int .i64 0, .int .i64 0, .int .i64 0, .bool false, .int .i64 0, .int .i64 0, .int .i64 0, .int .i64 0, .int .i64 0, .int .i64 0, .int .i64 0, .int .i64 0, .int .i64 0, .int .i64 0, .slice none 0 0, .int .i64 0, .int .i64 0, .int .i64 0, .int .i64 0, .int .i64 0] 38 (0, 0)) from heap_alloc H12_4.out)
  have H16_5 := hide (show (World.alloc w6 (.cells #[.bool on2, .int .i64 s2, .int .i64 l2, .int .i64 t2] 29)).heap[w2.heap.size]? = some (.cells #[.bool d0, .bool d1, .bool d2, .int .i64 d3, .bool d4, .bool d5, .int .i64 d6, .bool d7, .int .i64 d8, .bool d9, .int .i64 d10, .bool d11, .bool d12, .int .i64 d13] 99 (0, 0)) from heap_alloc H16_4.out)
  have H25_5 := hide (show (World.alloc w6 (.cells #[.bool on2, .int .i64 s2, .int .i64 l2, .int .i64 t2] 29)).heap[w6.heap.size]? = some (.cells #[.bool on2, .int .i64 s2, .int .i64 l2, .int .i64 t2] 29 (0, 0)) from heap_alloc_new _ _)
  have LE_5 := hide (show Le w (World.alloc w6 (.cells #[.bool on2, .int .i64 s2, .int .i64 l2, .int .i64 t2] 29)) from LE_4.out.alloc _)
  clear H6_4 H7_4 H10_4 H12_4 H16_4 LE_4
  generalize (World.alloc w6 (.cells #[.bool on2, .int .i64 s2, .int .i64 l2, .int .i64 t2] 29)) = w7 at *
  have hs12 := lt_of_heap H25_5.out
  go_wp2_with (first | (refine wpl_load_blk rfl 29 (.tmp 25) rfl (cs := [.bool on2, .int .i64 s2, .int .i64 l2, .int .i64 t2]) _ rfl Try.underlying29 rfl (by kernel_rfl) H25_5.out ?_) | (refine wpl_store_in rfl 29 (.tmp 147) (.tmp 146) rfl [.int .u32 ss, .int .i64 st.room] (cs := [.bool on2, .int .i64 s2, .int .i64 l2, .int .i64 t2]) (old := [.bool on1, .int .i64 src, .int .i64 layer, .int .i64 tid]) (post := [.bool ms0.on, .int .i64 ms0.high, .int .i64 ms0.since, .int .i64 ms0.off.seq, .int .i64 ms0.off.time, .int .i64 ms0.off.pic, .int .i64 ms0.off.tl0, .int .i64 ms0.out.seq, .int .i64 ms0.out.time, .int .i64 ms0.out.pic, .int .i64 ms0.out.tl0, .slice K Kl.length ck, .int .i64 c1, .int .i64 c2, .int .i64 c3, .int .i64 c4, .int .i64 c5]) rfl rfl (by kernel_rfl) (by simp [Value.oneCell']) H6_5.out rfl ?_; intro w8 hn hg; have H7_6 := hide (heap_grown hg H7_5.out (by simp <;> omega)); have H10_6 := hide (heap_grown hg H10_5.out (by simp <;> omega)); have H12_6 := hide (heap_grown hg H12_5.out (by simp <;> omega)); have H16_6 := hide (heap_grown hg H16_5.out (by simp <;> omega)); have H25_6 := hide (heap_grown hg H25_5.out (by simp <;> omega)); have H6_6 := hide hn; have LE_6 := hide (Le.mk (below_row LE_5.out.out hg (by omega) LE_5.out.size)); clear H7_5 H10_5 H12_5 H16_5 H25_5 H6_5 LE_5 hn hg) | (refine wpl_load_blk rfl 29 (.tmp 25) rfl (cs := [.bool on2, .int .i64 s2, .int .i64 l2, .int .i64 t2]) _ rfl Try.underlying29 rfl (by kernel_rfl) H25_6.out ?_) | (refine wpl_load_blk rfl 59 (.tmp 10) rfl (cs := [.int .i64 x.src, .int .i64 x.layer, .int .i64 x.tid]) _ rfl Try.underlying59 rfl (by kernel_rfl) H10_6.out ?_))
  refine (HAS.out _).mono ?_
  rintro e w9 ⟨rfl, hb⟩
  have H6_7 := hide (((Le.mk hb)).heap H6_6.out)
  have H7_7 := hide (((Le.mk hb)).heap H7_6.out)
  have H12_7 := hide (((Le.mk hb)).heap H12_6.out)
  have H16_7 := hide (((Le.mk hb)).heap H16_6.out)
  have H25_7 := hide (((Le.mk hb)).heap H25_6.out)
  have LE_7 := hide (Le.trans LE_6.out (Le.mk hb))
  have hs13 := lt_of_heap H25_7.out
  clear H6_6 H7_6 H10_6 H12_6 H16_6 H25_6 LE_6 hb
  have kc14 := box_cell H7_7.out 2 (.int .u16 p.seq) rfl w9 (Le.refl _)
  have kc15 := box_cell H7_7.out 3 (.int .u32 p.time) rfl w9 (Le.refl _)
  have kc16 := box_cell H16_7.out 6 (.int .i64 d6) rfl w9 (Le.refl _)
  have kc17 := box_cell H16_7.out 8 (.int .i64 d8) rfl w9 (Le.refl _)
  go_upto_region 18 with fail
  have H6_8 := hide (show (World.alloc w9 (.cells #[.int .i64 p.seq, .int .i64 p.time, .int .i64 d6, .int .i64 d8] 31)).heap[w.heap.size]? = some (.cells #[.int .u32 ss, .int .i64 st.room, .bool on2, .int .i64 s2, .int .i64 l2, .int .i64 t2, .bool ms0.on, .int .i64 ms0.high, .int .i64 ms0.since, .int .i64 ms0.off.seq, .int .i64 ms0.off.time, .int .i64 ms0.off.pic, .int .i64 ms0.off.tl0, .int .i64 ms0.out.seq, .int .i64 ms0.out.time, .int .i64 ms0.out.pic, .int .i64 ms0.out.tl0, .slice K Kl.length ck, .int .i64 c1, .int .i64 c2, .int .i64 c3, .int .i64 c4, .int .i64 c5] 38 (0, 0)) from heap_alloc H6_7.out)
  have H7_8 := hide (show (World.alloc w9 (.cells #[.int .i64 p.seq, .int .i64 p.time, .int .i64 d6, .int .i64 d8] 31)).heap[w.heap.size + 1]? = some (.cells #[.bool p.mark, .int .u8 p.type, .int .u16 p.seq, .int .u32 p.time, .int .u32 p.ssrc, .slice A5 p.csrc.length cc5, .slice A6 p.exts.length c6, .string (str p.payload), .int .i64 p.pad] 57 (0, 0)) from heap_alloc H7_7.out)
  have H12_8 := hide (show (World.alloc w9 (.cells #[.int .i64 p.seq, .int .i64 p.time, .int .i64 d6, .int .i64 d8] 31)).heap[w.heap.size + 1 + 1 + 1]? = some (.cells #[.int .u32 0, .int .i64 0, .bool false, .int .i64 0, .int .i64 0, .int .i64 0, .bool false, .int .i64 0, .int .i64 0, .int .i64 0, .int .i64 0, .int .i64 0, .int .i64 0, .int .i64 0, .int .i64 0, .int .i64 0, .int .i64 0, .slice none 0 0, .int .i64 0, .int .i64 0, .int .i64 0, .int .i64 0, .int .i64 0] 38 (0, 0)) from heap_alloc H12_7.out)
  have H28_8 := hide (show (World.alloc w9 (.cells #[.int .i64 p.seq, .int .i64 p.time, .int .i64 d6, .int .i64 d8] 31)).heap[w9.heap.size]? = some (.cells #[.int .i64 p.seq, .int .i64 p.time, .int .i64 d6, .int .i64 d8] 31 (0, 0)) from heap_alloc_new _ _)
  have LE_8 := hide (show Le w (World.alloc w9 (.cells #[.int .i64 p.seq, .int .i64 p.time, .int .i64 d6, .int .i64 d8] 31)) from LE_7.out.alloc _)
  clear kc14 kc15 kc16 kc17 H6_7 H7_7 H12_7 H16_7 H25_7 LE_7
  generalize (World.alloc w9 (.cells #[.int .i64 p.seq, .int .i64 p.time, .int .i64 d6, .int .i64 d8] 31)) = w10 at *
  have hs18 := lt_of_heap H28_8.out
  go_wp2_with (first | (refine wpl_load_in rfl 33 (.tmp 213) rfl [.int .u32 ss, .int .i64 st.room, .bool on2, .int .i64 s2, .int .i64 l2, .int .i64 t2] [.bool ms0.on, .int .i64 ms0.high, .int .i64 ms0.since, .int .i64 ms0.off.seq, .int .i64 ms0.off.time, .int .i64 ms0.off.pic, .int .i64 ms0.off.tl0, .int .i64 ms0.out.seq, .int .i64 ms0.out.time, .int .i64 ms0.out.pic, .int .i64 ms0.out.tl0] [.slice K Kl.length ck, .int .i64 c1, .int .i64 c2, .int .i64 c3, .int .i64 c4, .int .i64 c5] _ rfl Try.underlying33 rfl (by kernel_rfl) H6_8.out ?_) | (refine wpl_load_blk rfl 31 (.tmp 28) rfl (cs := [.int .i64 p.seq, .int .i64 p.time, .int .i64 d6, .int .i64 d8]) _ rfl Try.underlying31 rfl (by kernel_rfl) H28_8.out ?_))
  refine (HSE.out _).mono ?_
  rintro e w11 ⟨rfl, hb⟩
  have H6_9 := hide (((Le.mk hb)).heap H6_8.out)
  have H7_9 := hide (((Le.mk hb)).heap H7_8.out)
  have H12_9 := hide (((Le.mk hb)).heap H12_8.out)
  have H28_9 := hide (((Le.mk hb)).heap H28_8.out)
  have LE_9 := hide (Le.trans LE_8.out (Le.mk hb))
  have hs19 := lt_of_heap H28_9.out
  clear H6_8 H7_8 H12_8 H28_8 LE_8 hb
  go_upto_region 32 with fail
  have H6_10 := hide (show (World.alloc (World.alloc w11 (.cells #[.bool ms.on, .int .i64 ms.high, .int .i64 ms.since, .int .i64 ms.off.seq, .int .i64 ms.off.time, .int .i64 ms.off.pic, .int .i64 ms.off.tl0, .int .i64 ms.out.seq, .int .i64 ms.out.time, .int .i64 ms.out.pic, .int .i64 ms.out.tl0] 33)) (.cells #[.int .i64 n.seq, .int .i64 n.time, .int .i64 n.pic, .int .i64 n.tl0] 31)).heap[w.heap.size]? = some (.cells #[.int .u32 ss, .int .i64 st.room, .bool on2, .int .i64 s2, .int .i64 l2, .int .i64 t2, .bool ms0.on, .int .i64 ms0.high, .int .i64 ms0.since, .int .i64 ms0.off.seq, .int .i64 ms0.off.time, .int .i64 ms0.off.pic, .int .i64 ms0.off.tl0, .int .i64 ms0.out.seq, .int .i64 ms0.out.time, .int .i64 ms0.out.pic, .int .i64 ms0.out.tl0, .slice K Kl.length ck, .int .i64 c1, .int .i64 c2, .int .i64 c3, .int .i64 c4, .int .i64 c5] 38 (0, 0)) from (heap_alloc (heap_alloc H6_9.out)))
  have H7_10 := hide (show (World.alloc (World.alloc w11 (.cells #[.bool ms.on, .int .i64 ms.high, .int .i64 ms.since, .int .i64 ms.off.seq, .int .i64 ms.off.time, .int .i64 ms.off.pic, .int .i64 ms.off.tl0, .int .i64 ms.out.seq, .int .i64 ms.out.time, .int .i64 ms.out.pic, .int .i64 ms.out.tl0] 33)) (.cells #[.int .i64 n.seq, .int .i64 n.time, .int .i64 n.pic, .int .i64 n.tl0] 31)).heap[w.heap.size + 1]? = some (.cells #[.bool p.mark, .int .u8 p.type, .int .u16 p.seq, .int .u32 p.time, .int .u32 p.ssrc, .slice A5 p.csrc.length cc5, .slice A6 p.exts.length c6, .string (str p.payload), .int .i64 p.pad] 57 (0, 0)) from (heap_alloc (heap_alloc H7_9.out)))
  have H12_10 := hide (show (World.alloc (World.alloc w11 (.cells #[.bool ms.on, .int .i64 ms.high, .int .i64 ms.since, .int .i64 ms.off.seq, .int .i64 ms.off.time, .int .i64 ms.off.pic, .int .i64 ms.off.tl0, .int .i64 ms.out.seq, .int .i64 ms.out.time, .int .i64 ms.out.pic, .int .i64 ms.out.tl0] 33)) (.cells #[.int .i64 n.seq, .int .i64 n.time, .int .i64 n.pic, .int .i64 n.tl0] 31)).heap[w.heap.size + 1 + 1 + 1]? = some (.cells #[.int .u32 0, .int .i64 0, .bool false, .int .i64 0, .int .i64 0, .int .i64 0, .bool false, .int .i64 0, .int .i64 0, .int .i64 0, .int .i64 0, .int .i64 0, .int .i64 0, .int .i64 0, .int .i64 0, .int .i64 0, .int .i64 0, .slice none 0 0, .int .i64 0, .int .i64 0, .int .i64 0, .int .i64 0, .int .i64 0] 38 (0, 0)) from (heap_alloc (heap_alloc H12_9.out)))
  have H34_10 := hide (show (World.alloc (World.alloc w11 (.cells #[.bool ms.on, .int .i64 ms.high, .int .i64 ms.since, .int .i64 ms.off.seq, .int .i64 ms.off.time, .int .i64 ms.off.pic, .int .i64 ms.off.tl0, .int .i64 ms.out.seq, .int .i64 ms.out.time, .int .i64 ms.out.pic, .int .i64 ms.out.tl0] 33)) (.cells #[.int .i64 n.seq, .int .i64 n.time, .int .i64 n.pic, .int .i64 n.tl0] 31)).heap[w11.heap.size]? = some (.cells #[.bool ms.on, .int .i64 ms.high, .int .i64 ms.since, .int .i64 ms.off.seq, .int .i64 ms.off.time, .int .i64 ms.off.pic, .int .i64 ms.off.tl0, .int .i64 ms.out.seq, .int .i64 ms.out.time, .int .i64 ms.out.pic, .int .i64 ms.out.tl0] 33 (0, 0)) from (heap_alloc (heap_alloc_new _ _)))
  have H35_10 := hide (show (World.alloc (World.alloc w11 (.cells #[.bool ms.on, .int .i64 ms.high, .int .i64 ms.since, .int .i64 ms.off.seq, .int .i64 ms.off.time, .int .i64 ms.off.pic, .int .i64 ms.off.tl0, .int .i64 ms.out.seq, .int .i64 ms.out.time, .int .i64 ms.out.pic, .int .i64 ms.out.tl0] 33)) (.cells #[.int .i64 n.seq, .int .i64 n.time, .int .i64 n.pic, .int .i64 n.tl0] 31)).heap[w11.heap.size + 1]? = some (.cells #[.int .i64 n.seq, .int .i64 n.time, .int .i64 n.pic, .int .i64 n.tl0] 31 (0, 0)) from (heap_at (by simp)))
  have LE_10 := hide (show Le w (World.alloc (World.alloc w11 (.cells #[.bool ms.on, .int .i64 ms.high, .int .i64 ms.since, .int .i64 ms.off.seq, .int .i64 ms.off.time, .int .i64 ms.off.pic, .int .i64 ms.off.tl0, .int .i64 ms.out.seq, .int .i64 ms.out.time, .int .i64 ms.out.pic, .int .i64 ms.out.tl0] 33)) (.cells #[.int .i64 n.seq, .int .i64 n.time, .int .i64 n.pic, .int .i64 n.tl0] 31)) from ((LE_9.out.alloc _).alloc _))
  clear H6_9 H7_9 H12_9 H28_9 LE_9
  generalize (World.alloc (World.alloc w11 (.cells #[.bool ms.on, .int .i64 ms.high, .int .i64 ms.since, .int .i64 ms.off.seq, .int .i64 ms.off.time, .int .i64 ms.off.pic, .int .i64 ms.off.tl0, .int .i64 ms.out.seq, .int .i64 ms.out.time, .int .i64 ms.out.pic, .int .i64 ms.out.tl0] 33)) (.cells #[.int .i64 n.seq, .int .i64 n.time, .int .i64 n.pic, .int .i64 n.tl0] 31)) = w13 at *
  have hs20 := lt_of_heap H35_10.out
  go_wp2_with (first | (refine wpl_load_blk rfl 33 (.tmp 34) rfl (cs := [.bool ms.on, .int .i64 ms.high, .int .i64 ms.since, .int .i64 ms.off.seq, .int .i64 ms.off.time, .int .i64 ms.off.pic, .int .i64 ms.off.tl0, .int .i64 ms.out.seq, .int .i64 ms.out.time, .int .i64 ms.out.pic, .int .i64 ms.out.tl0]) _ rfl Try.underlying33 rfl (by kernel_rfl) H34_10.out ?_) | (refine wpl_store_in rfl 33 (.tmp 221) (.tmp 220) rfl [.int .u32 ss, .int .i64 st.room, .bool on2, .int .i64 s2, .int .i64 l2, .int .i64 t2] (cs := [.bool ms.on, .int .i64 ms.high, .int .i64 ms.since, .int .i64 ms.off.seq, .int .i64 ms.off.time, .int .i64 ms.off.pic, .int .i64 ms.off.tl0, .int .i64 ms.out.seq, .int .i64 ms.out.time, .int .i64 ms.out.pic, .int .i64 ms.out.tl0]) (old := [.bool ms0.on, .int .i64 ms0.high, .int .i64 ms0.since, .int .i64 ms0.off.seq, .int .i64 ms0.off.time, .int .i64 ms0.off.pic, .int .i64 ms0.off.tl0, .int .i64 ms0.out.seq, .int .i64 ms0.out.time, .int .i64 ms0.out.pic, .int .i64 ms0.out.tl0]) (post := [.slice K Kl.length ck, .int .i64 c1, .int .i64 c2, .int .i64 c3, .int .i64 c4, .int .i64 c5]) rfl rfl (by kernel_rfl) (by simp [Value.oneCell']) H6_10.out rfl ?_; intro w14 hn hg; have H7_11 := hide (heap_grown hg H7_10.out (by simp <;> omega)); have H12_11 := hide (heap_grown hg H12_10.out (by simp <;> omega)); have H35_11 := hide (heap_grown hg H35_10.out (by simp <;> omega)); have H6_11 := hide hn; have LE_11 := hide (Le.mk (below_row LE_10.out.out hg (by omega) LE_10.out.size)); clear H7_10 H12_10 H34_10 H35_10 H6_10 LE_10 hn hg) | (refine wpl_load_blk rfl 38 (.tmp 6) rfl (cs := [.int .u32 ss, .int .i64 st.room, .bool on2, .int .i64 s2, .int .i64 l2, .int .i64 t2, .bool ms.on, .int .i64 ms.high, .int .i64 ms.since, .int .i64 ms.off.seq, .int .i64 ms.off.time, .int .i64 ms.off.pic, .int .i64 ms.off.tl0, .int .i64 ms.out.seq, .int .i64 ms.out.time, .int .i64 ms.out.pic, .int .i64 ms.out.tl0, .slice K Kl.length ck, .int .i64 c1, .int .i64 c2, .int .i64 c3, .int .i64 c4, .int .i64 c5]) _ rfl Try.underlying38 rfl (by kernel_rfl) H6_11.out ?_) | (refine wpl_load_blk rfl 57 (.tmp 7) rfl (cs := [.bool p.mark, .int .u8 p.type, .int .u16 p.seq, .int .u32 p.time, .int .u32 p.ssrc, .slice A5 p.csrc.length cc5, .slice A6 p.exts.length c6, .string (str p.payload), .int .i64 p.pad]) _ rfl Try.underlying57 rfl (by kernel_rfl) H7_11.out ?_) | (refine wpl_load_blk rfl 31 (.tmp 35) rfl (cs := [.int .i64 n.seq, .int .i64 n.time, .int .i64 n.pic, .int .i64 n.tl0]) _ rfl Try.underlying31 rfl (by kernel_rfl) H35_11.out ?_))
  have hs12 := lt_of_heap H12_11.out
  have hs6 := lt_of_heap H6_11.out
  have hszw := LE_11.out.size
  refine (HSN.out _ LE_11.out).mono ?_
  rintro e w15 ⟨kb, ko, ck2, rfl, hk2, hkb, hb⟩
  have HK2 := hide hk2
  have HKB := hide hkb
  clear hk2 hkb HSN
  have H6_12 := hide (((Le.mk hb)).heap H6_11.out)
  have H12_12 := hide (((Le.mk hb)).heap H12_11.out)
  have H35_12 := hide (((Le.mk hb)).heap H35_11.out)
  have LE_12 := hide (Le.trans LE_11.out (Le.mk hb))
  have hs21 := lt_of_heap H35_12.out
  clear H6_11 H7_11 H12_11 H35_11 LE_11 hb
  go_wp2_with (first | (refine wpl_store_blk rfl 38 (.tmp 6) (.tmp 237) (cs := [.int .u32 ss, .int .i64 st.room, .bool on2, .int .i64 s2, .int .i64 l2, .int .i64 t2, .bool ms.on, .int .i64 ms.high, .int .i64 ms.since, .int .i64 ms.off.seq, .int .i64 ms.off.time, .int .i64 ms.off.pic, .int .i64 ms.off.tl0, .int .i64 ms.out.seq, .int .i64 ms.out.time, .int .i64 ms.out.pic, .int .i64 ms.out.tl0, .slice (some ⟨kb, ko, none⟩) KA.length ck2, .int .i64 ((c1 : Int) + 1), .int .i64 c2, .int .i64 c3, .int .i64 c4, .int .i64 c5]) rfl rfl rfl (by kernel_rfl) (by simp [Value.oneCell']) H6_12.out rfl ?_; intro w16 hn hg; have H12_13 := hide (heap_grown hg H12_12.out (by simp <;> omega)); have HK2_13 := hide (RSl.off (fun _ _ _ _ h => h) HK2.out hg (fun b off e => by injection e with e; injection e with e _ _; have := HKB.out; omega)); have H6_13 := hide hn; have LE_13 := hide (Le.mk (below_row LE_12.out.out hg (by omega) LE_12.out.size)); clear H12_12 H35_12 HK2 H6_12 LE_12 hn hg) | (refine wpl_load_blk rfl 38 (.tmp 6) rfl (cs := [.int .u32 ss, .int .i64 st.room, .bool on2, .int .i64 s2, .int .i64 l2, .int .i64 t2, .bool ms.on, .int .i64 ms.high, .int .i64 ms.since, .int .i64 ms.off.seq, .int .i64 ms.off.time, .int .i64 ms.off.pic, .int .i64 ms.off.tl0, .int .i64 ms.out.seq, .int .i64 ms.out.time, .int .i64 ms.out.pic, .int .i64 ms.out.tl0, .slice (some ⟨kb, ko, none⟩) KA.length ck2, .int .i64 ((c1 : Int) + 1), .int .i64 c2, .int .i64 c3, .int .i64 c4, .int .i64 c5]) _ rfl Try.underlying38 rfl (by kernel_rfl) H6_13.out ?_) | (refine wpl_store_blk rfl 38 (.tmp 12) (.tmp 240) (cs := [.int .u32 ss, .int .i64 st.room, .bool on2, .int .i64 s2, .int .i64 l2, .int .i64 t2, .bool ms.on, .int .i64 ms.high, .int .i64 ms.since, .int .i64 ms.off.seq, .int .i64 ms.off.time, .int .i64 ms.off.pic, .int .i64 ms.off.tl0, .int .i64 ms.out.seq, .int .i64 ms.out.time, .int .i64 ms.out.pic, .int .i64 ms.out.tl0, .slice (some ⟨kb, ko, none⟩) KA.length ck2, .int .i64 ((c1 : Int) + 1), .int .i64 c2, .int .i64 c3, .int .i64 c4, .int .i64 c5]) rfl rfl rfl (by kernel_rfl) (by simp [Value.oneCell']) H12_13.out rfl ?_; intro w17 hn hg; have HK2_14 := hide (RSl.off (fun _ _ _ _ h => h) HK2_13.out hg (fun b off e => by injection e with e; injection e with e _ _; have := HKB.out; omega)); have H12_14 := hide hn; have LE_14 := hide (Le.mk (below_row LE_13.out.out hg (by omega) LE_13.out.size)); clear H6_13 HK2_13 H12_13 LE_13 hn hg))
  refine ret_cttt Try.results14 (InCell.mk' rfl H12_14.out Try.underlying38 rfl (by kernel_rfl)) rfl rfl rfl ?_
  rw [HR.out]
  exact ⟨.slice (some ⟨kb, ko, none⟩) KA.length ck2, KA, rfl, HK2_14.out, .inr ⟨n, hn, by rw [ho1.out], by rw [ho1.out]; rfl, by rw [hKA.out, ho1.out], kb, ko, ck2, rfl, by have := HKB.out; omega⟩, LE_14.out.out⟩
end Go.Proofs.Ytekioihjfggmdaa

/- louverref14.Take: any packet. -/
namespace Go.Proofs.Ytekioihjfggmdaa
open Go.RowKit
set_option linter.unusedVariables false

theorem up_one (n : Nat) (h : n ≤ 1000000) : IntKind.i64.wrap ((n : Int) + 1) = (n : Int) + 1 := IntWalk.i64_in _ (by omega)
theorem beq_no {a b : Int} (h : ¬ b = a) : (a == b) = false := by rw [beq_eq_false_iff_ne]; exact fun e => h e.symm

set_option maxRecDepth 100000 in
set_option maxHeartbeats 2000000 in
theorem r14take_any (d : Dn) (i : Nat) (hok : d.Ok i) (hi : i ≤ 1000) (hroom : 0 < d.st.room ∧ d.st.room ≤ 100000) (p : Pk) (hp : p.Ok) (hpl : p.payload.length ≤ 1000) (Kl : Kp) (hkl : Kl.length ≤ 10000) (v5 v6 kv : Value) (f l : Int) (x : Wnt) (mu : Bool) (w : World)
    (h5 : RSl 1 (RNat .u32) w p.csrc v5) (h6 : RSl 2 RI w p.exts v6) (hk : RSl 2 REn w Kl kv) :
    Calls Try.prog 14 #[rdV d kv, P06 p v5 v6, .int .i64 f, .int .i64 l, x.val, .bool mu] w (TakeQ d p Kl kv w (d.take p f l x mu)) := by
  obtain ⟨A5, c5, rfl, _, _⟩ := id h5
  obtain ⟨A6, c6, rfl, _, _⟩ := id h6
  obtain ⟨K, ck, rfl, _, _⟩ := id hk
  have hcnt := hok.cnt
  cases mu
  case true => exact r14take_mute d p Kl K ck A5 A6 c5 c6 f l x (up_one _ (by omega)) w (hide hk)
  have HPA := fun W => rparse_any p.payload W hpl
  have HPU := fun W (hW : Le w W) => rput06_any p hp _ _ W (hW.rsl (keeps_rnat _) h5) (hW.rsl keeps_ri h6)
  simp only [P06] at HPU
  have HAK := fun (s : Ch) W => r12asks_any s x W
  simp only [Ch.val, Wnt.val] at HAK
  have hnm : p.nm.Ok := Pk.nm_ok hp
  have hms := hok.nums (by omega)
  have hbd := hok.bd
  have hss := hok.ssrc
  have hq : IntKind.i64.wrap (p.seq : Int) = p.seq := IntWalk.i64_in _ (by have := hp.seq; omega)
  have hq2 : IntKind.i64.wrap (p.time : Int) = p.time := IntWalk.i64_in _ (by have := hp.time; omega)
  have hN := (vpN_range p.payload).1
  show Calls _ _ _ w (TakeQ d p Kl (.slice K Kl.length ck) w ((d.take1 p f l x).1, (d.take1 p f l x).2, (d.take1 p f l x).1.pick.asks x))
  obtain ⟨ss, ⟨on, src, layer, tid⟩, ms0, st, c1, c2, c3, c4, c5'⟩ := d
  dsimp only at hcnt hms hbd hroom hss
  by_cases hbad : vpE p.payload ≠ 0 ∨ p.err ≠ 0
  · rw [Dn.take1, if_pos hbad]
    have HDR := fun W => r13drop_any ms0 hms ⟨p.seq, 0, 0, 0⟩ hp.seq false W
    simp only [Ms.rv, Nm.rv] at HDR
    have HDR := hide HDR
    have hb := up_one c5' (by omega)
    by_cases hE : vpE p.payload = 0
    · have her : (p.err != 0) = true := by
        rcases hbad with h | h
        · exact absurd hE h
        · simpa using h
      simp only [rpV, Dsc.ref, hE] at HPA
      cases on
      · have e : (Ch.mk false src layer tid).is f l = false := rfl
        simp only [e]
        exact r14bad1_off ss src layer tid ms0 st c1 c2 c3 c4 c5' p Kl K ck A5 A6 c5 c6 f l x _ _ _ _ _ _ _ _ _ _ _ _ _ _ _ _ _ 0 _ _ hb her w (hide hk) (hide HPA) (hide HPU) _ (hide (fun W => HAK ⟨false, src, layer, tid⟩ W))
      · by_cases h1 : f = src
        · by_cases h2 : l = layer
          · subst h1 h2
            have e : (Ch.mk true f l tid).is f l = true := by simp [Ch.is]
            simp only [e]
            exact r14bad1_is ss f l tid ms0 st c1 c2 c3 c4 c5' p Kl K ck A5 A6 c5 c6 f l x _ _ _ _ _ _ _ _ _ _ _ _ _ _ _ _ _ 0 _ _ hb her w (hide hk) (hide HPA) (hide HPU) _ (hide (fun W => HAK ⟨true, f, l, tid⟩ W)) (ms0.drop ⟨p.seq, 0, 0, 0⟩ false) HDR hq
          · subst h1
            have e : (Ch.mk true f layer tid).is f l = false := by simp [Ch.is, h2]
            simp only [e]
            exact r14bad1_layer ss f layer tid ms0 st c1 c2 c3 c4 c5' p Kl K ck A5 A6 c5 c6 f l x _ _ _ _ _ _ _ _ _ _ _ _ _ _ _ _ _ 0 _ _ hb her (beq_no h2) w (hide hk) (hide HPA) (hide HPU) _ (hide (fun W => HAK ⟨true, f, layer, tid⟩ W))
        · have e : (Ch.mk true src layer tid).is f l = false := by simp [Ch.is, h1]
          simp only [e]
          exact r14bad1_src ss src layer tid ms0 st c1 c2 c3 c4 c5' p Kl K ck A5 A6 c5 c6 f l x _ _ _ _ _ _ _ _ _ _ _ _ _ _ _ _ _ 0 _ _ hb her (beq_no h1) w (hide hk) (hide HPA) (hide HPU) _ (hide (fun W => HAK ⟨true, src, layer, tid⟩ W))
    · have hE2 : vpE p.payload = 10 := by have := vpE_two p.payload; omega
      simp only [rpV, Dsc.ref, hE2] at HPA
      cases on
      · have e : (Ch.mk false src layer tid).is f l = false := rfl
        simp only [e]
        exact r14bad0_off ss src layer tid ms0 st c1 c2 c3 c4 c5' p Kl K ck A5 A6 c5 c6 f l x _ _ _ _ _ _ _ _ _ _ _ _ _ _ _ _ _ 0 _ _ hb w (hide hk) (hide HPA) (hide HPU) _ (hide (fun W => HAK ⟨false, src, layer, tid⟩ W))
      · by_cases h1 : f = src
        · by_cases h2 : l = layer
          · subst h1 h2
            have e : (Ch.mk true f l tid).is f l = true := by simp [Ch.is]
            simp only [e]
            exact r14bad0_is ss f l tid ms0 st c1 c2 c3 c4 c5' p Kl K ck A5 A6 c5 c6 f l x _ _ _ _ _ _ _ _ _ _ _ _ _ _ _ _ _ 0 _ _ hb w (hide hk) (hide HPA) (hide HPU) _ (hide (fun W => HAK ⟨true, f, l, tid⟩ W)) (ms0.drop ⟨p.seq, 0, 0, 0⟩ false) HDR hq
          · subst h1
            have e : (Ch.mk true f layer tid).is f l = false := by simp [Ch.is, h2]
            simp only [e]
            exact r14bad0_layer ss f layer tid ms0 st c1 c2 c3 c4 c5' p Kl K ck A5 A6 c5 c6 f l x _ _ _ _ _ _ _ _ _ _ _ _ _ _ _ _ _ 0 _ _ hb (beq_no h2) w (hide hk) (hide HPA) (hide HPU) _ (hide (fun W => HAK ⟨true, f, layer, tid⟩ W))
        · have e : (Ch.mk true src layer tid).is f l = false := by simp [Ch.is, h1]
          simp only [e]
          exact r14bad0_src ss src layer tid ms0 st c1 c2 c3 c4 c5' p Kl K ck A5 A6 c5 c6 f l x _ _ _ _ _ _ _ _ _ _ _ _ _ _ _ _ _ 0 _ _ hb (beq_no h1) w (hide hk) (hide HPA) (hide HPU) _ (hide (fun W => HAK ⟨true, src, layer, tid⟩ W))
  · rw [Dn.take1, if_neg hbad]
    obtain ⟨hE, her⟩ : vpE p.payload = 0 ∧ p.err = 0 := by
      constructor
      · exact Classical.byContradiction fun h => hbad (.inl h)
      · exact Classical.byContradiction fun h => hbad (.inr h)
    simp only [rpV, Dsc.ref, hE] at HPA
    simp only [her] at HPU
    have HTK := fun W => r12take_any ⟨on, src, layer, tid⟩ (p.inn f l) x W
    have hwh : Hd (vpW p.payload = ((vpD p.payload).begins && (decide (vpN p.payload < p.payload.length) && decide ((p.payload[(vpN p.payload).toNat]?.map (·.toNat % 2)) = some 0)))) := hide (by rw [vpW, hE]; rfl)
    have hbg : Hd ((vpD p.payload).begins = ((vpD p.payload).start && decide ((vpD p.payload).part = 0))) := hide rfl
    have h4 : ((Ch.mk on src layer tid).take (p.inn f l) x).2 = 0 ∨ ((Ch.mk on src layer tid).take (p.inn f l) x).2 = 1 ∨ ((Ch.mk on src layer tid).take (p.inn f l) x).2 = 2 ∨ ((Ch.mk on src layer tid).take (p.inn f l) x).2 = 3 := by
      unfold Ch.take
      split
      · dsimp only
        split <;> simp
      · split <;> simp
    simp only [Dn.setPick] at *
    generalize hr : (Ch.mk on src layer tid).take (p.inn f l) x = r at *
    clear hr
    obtain ⟨⟨on2, s2, l2, t2⟩, what⟩ := r
    dsimp only at h4 HTK ⊢
    have HSN := fun (ms : Ms) (n : Nm) (hn : n.Ok) (W : World) (hW : Le w W) => rsend14_any ⟨ss, ⟨on2, s2, l2, t2⟩, ms, st, c1, c2, c3, c4, c5'⟩ p hp n hn hss (by dsimp only; omega) hroom hpl Kl hkl _ _ _ W (hW.rsl (keeps_rnat _) h5) (hW.rsl keeps_ri h6) (hW.rsl keeps_en hk)
    rcases h4 with rfl | rfl | rfl | rfl
    · exact r14leave ss src layer tid ms0 st c1 c2 c3 c4 c5' p Kl K ck A5 A6 c5 c6 f l x _ _ _ _ _ _ _ _ _ _ _ _ _ _ (vpN p.payload) _ _ 0 0 _ on (vpD p.payload).begins (vpW p.payload) on2 s2 l2 t2 hN hbg hwh hpl hq hq2 w (hide hk) (hide HPA) (hide HPU) (hide HTK) _ (hide (fun W => HAK ⟨on2, s2, l2, t2⟩ W)) (up_one _ (by omega))
    · have hsb := hbd.send hnm
      have HSE := fun W => r13send_any ms0 hms p.nm hnm W
      simp only [Dn.does, if_neg (show ¬ (1 : Int) = 0 by decide), if_neg (show ¬ (1 : Int) = 2 by decide), if_neg (show ¬ (1 : Int) = 3 by decide)]
      generalize ms0.send p.nm = r at *
      obtain ⟨ms, n, is⟩ := r
      dsimp only at HSE hsb ⊢
      cases is
      · exact r14late ss src layer tid ms0 st c1 c2 c3 c4 c5' p Kl K ck A5 A6 c5 c6 f l x _ _ _ _ _ _ _ _ _ _ _ _ _ _ (vpN p.payload) _ _ 0 0 _ on (vpD p.payload).begins (vpW p.payload) on2 s2 l2 t2 hN hbg hwh hpl hq hq2 w (hide hk) (hide HPA) (hide HPU) (hide HTK) _ (hide (fun W => HAK ⟨on2, s2, l2, t2⟩ W)) ms n (hide HSE) (up_one _ (by omega))
      · exact r14send ss src layer tid ms0 st c1 c2 c3 c4 c5' p Kl K ck A5 A6 c5 c6 f l x _ _ _ _ _ _ _ _ _ _ _ _ _ _ (vpN p.payload) _ _ 0 0 _ on (vpD p.payload).begins (vpW p.payload) on2 s2 l2 t2 hN hbg hwh hpl hq hq2 w (hide hk) (hide HPA) (hide HPU) (hide HTK) _ (hide (fun W => HAK ⟨on2, s2, l2, t2⟩ W)) ms n _ _ (hide HSE) (hide (fun W hW => HSN ms n hsb.2 W hW)) hsb.2 (hide rfl) (hide rfl)
    · exact r14drop ss src layer tid ms0 st c1 c2 c3 c4 c5' p Kl K ck A5 A6 c5 c6 f l x _ _ _ _ _ _ _ _ _ _ _ _ _ _ (vpN p.payload) _ _ 0 0 _ on (vpD p.payload).begins (vpW p.payload) on2 s2 l2 t2 hN hbg hwh hpl hq hq2 w (hide hk) (hide HPA) (hide HPU) (hide HTK) _ (hide (fun W => HAK ⟨on2, s2, l2, t2⟩ W)) (ms0.drop p.nm (vpD p.payload).begins) (hide (fun W => r13drop_any ms0 hms p.nm hp.seq (vpD p.payload).begins W)) (up_one _ (by omega))
    · have hsb := hbd.switch hnm 3000
      have HSW := fun W => r13switch_any ms0 hms p.nm hnm W
      simp only [Dn.does, if_neg (show ¬ (3 : Int) = 0 by decide), if_neg (show ¬ (3 : Int) = 2 by decide), if_pos]
      generalize ms0.switch p.nm 3000 = r at *
      obtain ⟨ms, n⟩ := r
      dsimp only at HSW hsb ⊢
      exact r14switch ss src layer tid ms0 st c1 c2 c3 c4 c5' p Kl K ck A5 A6 c5 c6 f l x _ _ _ _ _ _ _ _ _ _ _ _ _ _ (vpN p.payload) _ _ 0 0 _ on (vpD p.payload).begins (vpW p.payload) on2 s2 l2 t2 hN hbg hwh hpl hq hq2 w (hide hk) (hide HPA) (hide HPU) (hide HTK) _ (hide (fun W => HAK ⟨on2, s2, l2, t2⟩ W)) ms n _ _ (hide HSW) (hide (fun W hW => HSN ms n hsb.2 W hW)) hsb.2 (hide rfl) (hide rfl)
end Go.Proofs.Ytekioihjfggmdaa
