/- Texts of one claim, laid together: Ref14a -/
import Derived.Test.YtekioihjfggmdaaJoX04
/- louverref14.Take: bad packets. -/
namespace Go.Proofs.Ytekioihjfggmdaa
open Go.RowKit
set_option linter.unusedVariables false

set_option maxRecDepth 100000 in
set_option maxHeartbeats 8000000 in
theorem r14bad0_is (ss : Nat) (src layer tid : Int) (ms0 : Ms) (st : St) (c1 c2 c3 c4 c5 : Nat) (p : Pk) (Kl : Kp) (K : Option Addr) (ck : Nat) (A5 A6 : Option Addr) (cc5 c6 : Nat) (f l : Int) (x : Wnt) (d0 d1 d2 d4 d5 d7 d9 d11 d12 : Bool) (d3 d6 d8 d10 d13 : Nat) (N pp tp E er : Int) (o0 : List UInt8) (hb : IntKind.i64.wrap ((c5 : Int) + 1) = (c5 : Int) + 1) (w : World) (hk : Hd (RSl 2 REn w Kl (.slice K Kl.length ck)))
    (HPA : Hd (∀ W, Calls Try.prog 28 #[.string (str p.payload)] W (Gives W (.tuple #[.agg #[.bool d0, .bool d1, .bool d2, .int .i64 d3, .bool d4, .bool d5, .int .i64 d6, .bool d7, .int .i64 d8, .bool d9, .int .i64 d10, .bool d11, .bool d12, .int .i64 d13], .int .i64 N, .int .i64 pp, .int .i64 tp, .int .i64 10]))))
    (HPU : Hd (∀ W, Le w W → Calls Try.prog 29 #[.agg #[.bool p.mark, .int .u8 p.type, .int .u16 p.seq, .int .u32 p.time, .int .u32 p.ssrc, .slice A5 p.csrc.length cc5, .slice A6 p.exts.length c6, .string (str p.payload), .int .i64 p.pad]] W (Gives W (.tuple #[.string (str o0), .int .i64 er])))) (ask : Bool) (HAS : Hd (∀ W, Calls Try.prog 31 #[.agg #[.bool true, .int .i64 src, .int .i64 layer, .int .i64 tid], .agg #[.int .i64 x.src, .int .i64 x.layer, .int .i64 x.tid]] W (Gives W (.bool ask)))) (ms : Ms) (HDR : Hd (∀ W, Calls Try.prog 30 #[.agg #[.bool ms0.on, .int .i64 ms0.high, .int .i64 ms0.since, .int .i64 ms0.off.seq, .int .i64 ms0.off.time, .int .i64 ms0.off.pic, .int .i64 ms0.off.tl0, .int .i64 ms0.out.seq, .int .i64 ms0.out.time, .int .i64 ms0.out.pic, .int .i64 ms0.out.tl0], .agg #[.int .i64 p.seq, .int .i64 0, .int .i64 0, .int .i64 0], .bool false] W (Gives W (.agg #[.bool ms.on, .int .i64 ms.high, .int .i64 ms.since, .int .i64 ms.off.seq, .int .i64 ms.off.time, .int .i64 ms.off.pic, .int .i64 ms.off.tl0, .int .i64 ms.out.seq, .int .i64 ms.out.time, .int .i64 ms.out.pic, .int .i64 ms.out.tl0])))) (hq : IntKind.i64.wrap (p.seq : Int) = p.seq) :
    Calls Try.prog 14 #[rdV (Dn.mk ss (Ch.mk true src layer tid) ms0 st c1 c2 c3 c4 c5) (.slice K Kl.length ck), P06 p (.slice A5 p.csrc.length cc5) (.slice A6 p.exts.length c6), .int .i64 src, .int .i64 layer, x.val, .bool false] w (TakeQ (Dn.mk ss (Ch.mk true src layer tid) ms0 st c1 c2 c3 c4 c5) p Kl (.slice K Kl.length ck) w (Dn.mk ss (Ch.mk true src layer tid) ms st c1 c2 c3 c4 (c5 + 1), none, ask)) := by
  obtain ⟨R, hR⟩ : ∃ R, R = TakeQ (Dn.mk ss (Ch.mk true src layer tid) ms0 st c1 c2 c3 c4 c5) p Kl (.slice K Kl.length ck) w (Dn.mk ss (Ch.mk true src layer tid) ms st c1 c2 c3 c4 (c5 + 1), none, ask) := ⟨_, rfl⟩
  rw [← hR]
  have HR := hide hR
  clear hR
  simp only [rdV, P06, Wnt.val]
  obtain ⟨w1, hw1⟩ : ∃ w1, w1 = ((((w.alloc (.cells #[.int .u32 ss, .int .i64 st.room, .bool true, .int .i64 src, .int .i64 layer, .int .i64 tid, .bool ms0.on, .int .i64 ms0.high, .int .i64 ms0.since, .int .i64 ms0.off.seq, .int .i64 ms0.off.time, .int .i64 ms0.off.pic, .int .i64 ms0.off.tl0, .int .i64 ms0.out.seq, .int .i64 ms0.out.time, .int .i64 ms0.out.pic, .int .i64 ms0.out.tl0, .slice K Kl.length ck, .int .i64 c1, .int .i64 c2, .int .i64 c3, .int .i64 c4, .int .i64 c5] 38)).alloc (.cells #[.bool p.mark, .int .u8 p.type, .int .u16 p.seq, .int .u32 p.time, .int .u32 p.ssrc, .slice A5 p.csrc.length cc5, .slice A6 p.exts.length c6, .string (str p.payload), .int .i64 p.pad] 57)).alloc (.cells #[.int .i64 x.src, .int .i64 x.layer, .int .i64 x.tid] 59)).alloc (.cells #[.int .u32 0, .int .i64 0, .bool false, .int .i64 0, .int .i64 0, .int .i64 0, .bool false, .int .i64 0, .int .i64 0, .int .i64 0, .int .i64 0, .int .i64 0, .int .i64 0, .int .i64 0, .int .i64 0, .int .i64 0, .int .i64 0, .slice none 0 0, .int .i64 0, .int .i64 0, .int .i64 0, .int .i64 0, .int .i64 0] 38)) := ⟨_, rfl⟩
  have LE := hide (show Le w w1 from by rw [hw1]; exact (((((Le.refl w).alloc _).alloc _).alloc _).alloc _))
  have H6 := hide (show w1.heap[w.heap.size]? = some (.cells #[.int .u32 ss, .int .i64 st.room, .bool true, .int .i64 src, .int .i64 layer, .int .i64 tid, .bool ms0.on, .int .i64 ms0.high, .int .i64 ms0.since, .int .i64 ms0.off.seq, .int .i64 ms0.off.time, .int .i64 ms0.off.pic, .int .i64 ms0.off.tl0, .int .i64 ms0.out.seq, .int .i64 ms0.out.time, .int .i64 ms0.out.pic, .int .i64 ms0.out.tl0, .slice K Kl.length ck, .int .i64 c1, .int .i64 c2, .int .i64 c3, .int .i64 c4, .int .i64 c5] 38 (0, 0)) from by rw [hw1]; exact heap_alloc (heap_alloc (heap_alloc (heap_alloc_new w _))))
  have H7 := hide (show w1.heap[w.heap.size + 1]? = some (.cells #[.bool p.mark, .int .u8 p.type, .int .u16 p.seq, .int .u32 p.time, .int .u32 p.ssrc, .slice A5 p.csrc.length cc5, .slice A6 p.exts.length c6, .string (str p.payload), .int .i64 p.pad] 57 (0, 0)) from by rw [hw1]; exact heap_alloc (heap_alloc (heap_at (by simp))))
  have H10 := hide (show w1.heap[w.heap.size + 1 + 1]? = some (.cells #[.int .i64 x.src, .int .i64 x.layer, .int .i64 x.tid] 59 (0, 0)) from by rw [hw1]; exact heap_alloc (heap_at (by simp)))
  have H12 := hide (show w1.heap[w.heap.size + 1 + 1 + 1]? = some (.cells #[.int .u32 0, .int .i64 0, .bool false, .int .i64 0, .int .i64 0, .int .i64 0, .bool false, .int .i64 0, .int .i64 0, .int .i64 0, .int .i64 0, .int .i64 0, .int .i64 0, .int .i64 0, .int .i64 0, .int .i64 0, .int .i64 0, .slice none 0 0, .int .i64 0, .int .i64 0, .int .i64 0, .int .i64 0, .int .i64 0] 38 (0, 0)) from by rw [hw1]; exact heap_at (by simp))
  go_enter Try.func14, Try.ntmps14
  go_upto_region 1 with fail
  rw [← hw1]
  clear hw1
  have kc1 := box_cell H7.out 7 (.string (str p.payload)) rfl w1 (Le.refl _)
  go_wp2_with fail
  refine (HPA.out _).mono ?_
  rintro e w2 ⟨rfl, hb⟩
  have H6_1 := hide (((Le.mk hb)).heap H6.out)
  have H7_1 := hide (((Le.mk hb)).heap H7.out)
  have H10_1 := hide (((Le.mk hb)).heap H10.out)
  have H12_1 := hide (((Le.mk hb)).heap H12.out)
  have LE_1 := hide (Le.trans LE.out (Le.mk hb))
  have hs2 := lt_of_heap H12_1.out
  clear kc1 H6 H7 H10 H12 LE hb
  go_wp2_with (first | (refine wpl_load_blk rfl 57 (.tmp 7) rfl (cs := [.bool p.mark, .int .u8 p.type, .int .u16 p.seq, .int .u32 p.time, .int .u32 p.ssrc, .slice A5 p.csrc.length cc5, .slice A6 p.exts.length c6, .string (str p.payload), .int .i64 p.pad]) _ rfl Try.underlying57 rfl (by kernel_rfl) (heap_alloc H7_1.out) ?_))
  have H6_2 := hide (show (World.alloc w2 (.cells #[.bool d0, .bool d1, .bool d2, .int .i64 d3, .bool d4, .bool d5, .int .i64 d6, .bool d7, .int .i64 d8, .bool d9, .int .i64 d10, .bool d11, .bool d12, .int .i64 d13] 99)).heap[w.heap.size]? = some (.cells #[.int .u32 ss, .int .i64 st.room, .bool true, .int .i64 src, .int .i64 layer, .int .i64 tid, .bool ms0.on, .int .i64 ms0.high, .int .i64 ms0.since, .int .i64 ms0.off.seq, .int .i64 ms0.off.time, .int .i64 ms0.off.pic, .int .i64 ms0.off.tl0, .int .i64 ms0.out.seq, .int .i64 ms0.out.time, .int .i64 ms0.out.pic, .int .i64 ms0.out.tl0, .slice K Kl.length ck, .int .i64 c1, .int .i64 c2, .int .i64 c3, .int .i64 c4, .int .i64 c5] 38 (0, 0)) from heap_alloc H6_1.out)
  have H7_2 := hide (show (World.alloc w2 (.cells #[.bool d0, .bool d1, .bool d2, .int .i64 d3, .bool d4, .bool d5, .int .i64 d6, .bool d7, .int .i64 d8, .bool d9, .int .i64 d10, .bool d11, .bool d12, .int .i64 d13] 99)).heap[w.heap.size + 1]? = some (.cells #[.bool p.mark, .int .u8 p.type, .int .u16 p.seq, .int .u32 p.time, .int .u32 p.ssrc, .slice A5 p.csrc.length cc5, .slice A6 p.exts.length c6, .string (str p.payload), .int .i64 p.pad] 57 (0, 0)) from heap_alloc H7_1.out)
  have H10_2 := hide (show (World.alloc w2 (.cells #[.bool d0, .bool d1, .bool d2, .int .i64 d3, .bool d4, .bool d5, .int .i64 d6, .bool d7, .int .i64 d8, .bool d9, .int .i64 d10, .bool d11, .bool d12, .int .i64 d13] 99)).heap[w.heap.size + 1 + 1]? = some (.cells #[.int .i64 x.src, .int .i64 x.layer, .int .i64 x.tid] 59 (0, 0)) from heap_alloc H10_1.out)
  have H12_2 := hide (show (World.alloc w2 (.cells #[.bool d0, .bool d1, .bool d2, .int .i64 d3, .bool d4, .bool d5, .int .i64 d6, .bool d7, .int .i64 d8, .bool d9, .int .i64 d10, .bool d11, .bool d12, .int .i64 d13] 99)).heap[w.heap.size + 1 + 1 + 1]? = some (.cells #[.int .u32 0, .int .i64 0, .bool false, .int .i64 0, .int .i64 0, .int .i64 0, .bool false, .int .i64 0, .int .i64 0, .int .i64 0, .int .i64 0, .int .i64 0, .int .i64 0, .int .i64 0, .int .i64 0, .int .i64 0, .int .i64 0, .slice none 0 0, .int .i64 0, .int .i64 0, .int .i64 0, .int .i64 0, .int .i64 0] 38 (0, 0)) from heap_alloc H12_1.out)
  have H16_2 := hide (show (World.alloc w2 (.cells #[.bool d0, .bool d1, .bool d2, .int .i64 d3, .bool d4, .bool d5, .int .i64 d6, .bool d7, .int .i64 d8, .bool d9, .int .i64 d10, .bool d11, .bool d12, .int .i64 d13] 99)).heap[w2.heap.size]? = some (.cells #[.bool d0, .bool d1, .bool d2, .int .i64 d3, .bool d4, .bool d5, .int .i64 d6, .bool d7, .int .i64 d8, .bool d9, .int .i64 d10, .bool d11, .bool d12, .int .i64 d13] 99 (0, 0)) from heap_alloc_new _ _)
  have LE_2 := hide (show Le w (World.alloc w2 (.cells #[.bool d0, .bool d1, .bool d2, .int .i64 d3, .bool d4, .bool d5, .int .i64 d6, .bool d7, .int .i64 d8, .bool d9, .int .i64 d10, .bool d11, .bool d12, .int .i64 d13] 99)) from LE_1.out.alloc _)
  clear H6_1 H7_1 H10_1 H12_1 LE_1
  generalize (World.alloc w2 (.cells #[.bool d0, .bool d1, .bool d2, .int .i64 d3, .bool d4, .bool d5, .int .i64 d6, .bool d7, .int .i64 d8, .bool d9, .int .i64 d10, .bool d11, .bool d12, .int .i64 d13] 99)) = w3 at *
  have hs3 := lt_of_heap H16_2.out
  refine (HPU.out _ LE_2.out).mono ?_
  rintro e w4 ⟨rfl, hb⟩
  have H6_3 := hide (((Le.mk hb)).heap H6_2.out)
  have H7_3 := hide (((Le.mk hb)).heap H7_2.out)
  have H10_3 := hide (((Le.mk hb)).heap H10_2.out)
  have H12_3 := hide (((Le.mk hb)).heap H12_2.out)
  have H16_3 := hide (((Le.mk hb)).heap H16_2.out)
  have LE_3 := hide (Le.trans LE_2.out (Le.mk hb))
  have hs4 := lt_of_heap H16_3.out
  clear H6_2 H7_2 H10_2 H12_2 H16_2 LE_2 hb
  have kc5 := box_cell H6_3.out 2 (.bool true) rfl w4 (Le.refl _)
  have kc6 := box_cell H6_3.out 3 (.int .i64 src) rfl w4 (Le.refl _)
  have kc7 := box_cell H6_3.out 4 (.int .i64 layer) rfl w4 (Le.refl _)
  have kc8 := box_cell H7_3.out 2 (.int .u16 p.seq) rfl w4 (Le.refl _)
  go_wp2_with (first | (refine wpl_load_in rfl 33 (.tmp 86) rfl [.int .u32 ss, .int .i64 st.room, .bool true, .int .i64 src, .int .i64 layer, .int .i64 tid] [.bool ms0.on, .int .i64 ms0.high, .int .i64 ms0.since, .int .i64 ms0.off.seq, .int .i64 ms0.off.time, .int .i64 ms0.off.pic, .int .i64 ms0.off.tl0, .int .i64 ms0.out.seq, .int .i64 ms0.out.time, .int .i64 ms0.out.pic, .int .i64 ms0.out.tl0] [.slice K Kl.length ck, .int .i64 c1, .int .i64 c2, .int .i64 c3, .int .i64 c4, .int .i64 c5] _ rfl Try.underlying33 rfl (by kernel_rfl) H6_3.out ?_))
  refine (HDR.out _).mono ?_
  rintro e w5 ⟨rfl, hb⟩
  have H6_4 := hide (((Le.mk hb)).heap H6_3.out)
  have H10_4 := hide (((Le.mk hb)).heap H10_3.out)
  have H12_4 := hide (((Le.mk hb)).heap H12_3.out)
  have H16_4 := hide (((Le.mk hb)).heap H16_3.out)
  have LE_4 := hide (Le.trans LE_3.out (Le.mk hb))
  have hs9 := lt_of_heap H16_4.out
  clear kc5 kc6 kc7 kc8 H6_3 H7_3 H10_3 H12_3 H16_3 LE_3 hb
  have kc10 := box_cell H6_4.out 22 (.int .i64 c5) rfl w5 (Le.refl _)
  go_upto_region 11 with (first | (refine wpl_store_in rfl 33 (.tmp 93) (.tmp 92) rfl [.int .u32 ss, .int .i64 st.room, .bool true, .int .i64 src, .int .i64 layer, .int .i64 tid] (cs := [.bool ms.on, .int .i64 ms.high, .int .i64 ms.since, .int .i64 ms.off.seq, .int .i64 ms.off.time, .int .i64 ms.off.pic, .int .i64 ms.off.tl0, .int .i64 ms.out.seq, .int .i64 ms.out.time, .int .i64 ms.out.pic, .int .i64 ms.out.tl0]) (old := [.bool ms0.on, .int .i64 ms0.high, .int .i64 ms0.since, .int .i64 ms0.off.seq, .int .i64 ms0.off.time, .int .i64 ms0.off.pic, .int .i64 ms0.off.tl0, .int .i64 ms0.out.seq, .int .i64 ms0.out.time, .int .i64 ms0.out.pic, .int .i64 ms0.out.tl0]) (post := [.slice K Kl.length ck, .int .i64 c1, .int .i64 c2, .int .i64 c3, .int .i64 c4, .int .i64 c5]) rfl rfl (by kernel_rfl) (by simp [Value.oneCell']) H6_4.out rfl ?_; intro w6 hn hg; have H10_5 := hide (heap_grown hg H10_4.out (by simp <;> omega)); have H12_5 := hide (heap_grown hg H12_4.out (by simp <;> omega)); have H6_5 := hide hn; have LE_5 := hide (Le.mk (below_row LE_4.out.out hg (by omega) LE_4.out.size)); clear kc10 H10_4 H12_4 H16_4 H6_4 LE_4 hn hg; have kc11 := box_cell H6_5.out 22 (.int .i64 c5) rfl w6 (Le.refl _)) | (refine wpl_store_1 rfl 3 (.tmp 99) (.tmp 97) rfl [.int .u32 ss, .int .i64 st.room, .bool true, .int .i64 src, .int .i64 layer, .int .i64 tid, .bool ms.on, .int .i64 ms.high, .int .i64 ms.since, .int .i64 ms.off.seq, .int .i64 ms.off.time, .int .i64 ms.off.pic, .int .i64 ms.off.tl0, .int .i64 ms.out.seq, .int .i64 ms.out.time, .int .i64 ms.out.pic, .int .i64 ms.out.tl0, .slice K Kl.length ck, .int .i64 c1, .int .i64 c2, .int .i64 c3, .int .i64 c4] (v := .int .i64 ((c5 : Int) + 1)) (old := .int .i64 c5) (post := []) rfl rfl (by kernel_rfl) rfl H6_5.out ?_; intro w7 hn hg; have H10_6 := hide (heap_grown hg H10_5.out (by simp <;> omega)); have H12_6 := hide (heap_grown hg H12_5.out (by simp <;> omega)); have H6_6 := hide hn; have LE_6 := hide (Le.mk (below_row LE_5.out.out hg (by omega) LE_5.out.size)); clear kc11 H10_5 H12_5 H6_5 LE_5 hn hg))
  have hsd : w7.drew.heap.size = w7.heap.size := rfl
  have hs12 := lt_of_heap H12_6.out
  refine' wp_region_tail 6 5 100 (Rn [(w.heap.size + 1 + 1 + 1, .cells #[.int .u32 ss, .int .i64 st.room, .bool true, .int .i64 src, .int .i64 layer, .int .i64 tid, .bool ms.on, .int .i64 ms.high, .int .i64 ms.since, .int .i64 ms.off.seq, .int .i64 ms.off.time, .int .i64 ms.off.pic, .int .i64 ms.off.tl0, .int .i64 ms.out.seq, .int .i64 ms.out.time, .int .i64 ms.out.pic, .int .i64 ms.out.tl0, .slice K Kl.length ck, .int .i64 c1, .int .i64 c2, .int .i64 c3, .int .i64 c4, .int .i64 ((c5 : Int) + 1)] 38 (0, 0))]) (Is _ :: Is _ :: Is _ :: Is _ :: Is _ :: (fun _ W => W.heap[w.heap.size + 1 + 1 + 1]? = some (Obj.cells #[.int .u32 ss, .int .i64 st.room, .bool true, .int .i64 src, .int .i64 layer, .int .i64 tid, .bool ms.on, .int .i64 ms.high, .int .i64 ms.since, .int .i64 ms.off.seq, .int .i64 ms.off.time, .int .i64 ms.off.pic, .int .i64 ms.off.tl0, .int .i64 ms.out.seq, .int .i64 ms.out.time, .int .i64 ms.out.pic, .int .i64 ms.out.tl0, .slice K Kl.length ck, .int .i64 c1, .int .i64 c2, .int .i64 c3, .int .i64 c4, .int .i64 ((c5 : Int) + 1)] 38 (0, 0))) :: []) ([] :: [] :: [1] :: [] :: [2, 3] :: [0] :: []) (by kernel_rfl) (by kernel_rfl) (by rfl) (by kernel_rfl) (by kernel_rfl) Rn.refl (fun _ _ _ h h' => h.trans h') ⟨St.is, St.is, St.is, St.is, St.is, (fun _ _ _ h hk => (h.in_ (p := (w.heap.size + 1 + 1 + 1, Obj.cells #[.int .u32 ss, .int .i64 st.room, .bool true, .int .i64 src, .int .i64 layer, .int .i64 tid, .bool ms.on, .int .i64 ms.high, .int .i64 ms.since, .int .i64 ms.off.seq, .int .i64 ms.off.time, .int .i64 ms.off.pic, .int .i64 ms.off.tl0, .int .i64 ms.out.seq, .int .i64 ms.out.time, .int .i64 ms.out.pic, .int .i64 ms.out.tl0, .slice K Kl.length ck, .int .i64 c1, .int .i64 c2, .int .i64 c3, .int .i64 c4, .int .i64 ((c5 : Int) + 1)] 38 (0, 0))) (by simp) hk).elim _root_.id _root_.id), trivial⟩ ?m11
  case m11 =>
    simp (maxSteps := 100000000) only [AllV, Obl2, Leans, factAt, allFacts, actOf, putAll, putRow, Act.put, List.set_cons_succ, List.set_cons_zero, List.getElem?_cons_zero, List.getElem?_cons_succ, List.take_succ_cons, List.take_zero, List.drop_succ_cons, List.drop_zero, List.cons_append, List.nil_append, List.length_cons, List.length_nil, Nat.reduceAdd]
    intro x0 x1 x2 x3 x4 x5
    refine ⟨⟨?_, ?_, ?_, ?_, ?_, ?_, trivial⟩, ?_⟩
    -- 0: 100 := Op.load 38 t6
    · intro wo hw  KQ hK; refine cast (if_pos (show Region.wanted _ _ = true from rfl)).symm ?_; have hz := (hw.heap H6_6.out (by simp <;> omega)); refine wp_load_blk 38 (.tmp 6) rfl (cs := [.int .u32 ss, .int .i64 st.room, .bool true, .int .i64 src, .int .i64 layer, .int .i64 tid, .bool ms.on, .int .i64 ms.high, .int .i64 ms.since, .int .i64 ms.off.seq, .int .i64 ms.off.time, .int .i64 ms.off.pic, .int .i64 ms.off.tl0, .int .i64 ms.out.seq, .int .i64 ms.out.time, .int .i64 ms.out.pic, .int .i64 ms.out.tl0, .slice K Kl.length ck, .int .i64 c1, .int .i64 c2, .int .i64 c3, .int .i64 c4, .int .i64 ((c5 : Int) + 1)]) _ rfl Try.underlying38 rfl (by kernel_rfl) hz ?_; exact hK _ _ (Rn.refl _) (Is.mk _ _)
    -- 1: 101 := Op.fieldAddr 38 t6 2
    · intro wo hw  KQ hK; go_simp; exact hK _ _ (Rn.refl _) (Is.mk _ _)
    -- 2: 102 := Op.load 29 t101
    · intro wo hw h1 KQ hK; cases h1; refine cast (if_pos (show Region.wanted _ _ = true from rfl)).symm ?_; have hz := (hw.heap H6_6.out (by simp <;> omega)); refine wp_load_in 29 (.tmp 101) rfl [.int .u32 ss, .int .i64 st.room] [.bool true, .int .i64 src, .int .i64 layer, .int .i64 tid] [.bool ms.on, .int .i64 ms.high, .int .i64 ms.since, .int .i64 ms.off.seq, .int .i64 ms.off.time, .int .i64 ms.off.pic, .int .i64 ms.off.tl0, .int .i64 ms.out.seq, .int .i64 ms.out.time, .int .i64 ms.out.pic, .int .i64 ms.out.tl0, .slice K Kl.length ck, .int .i64 c1, .int .i64 c2, .int .i64 c3, .int .i64 c4, .int .i64 ((c5 : Int) + 1)] _ rfl Try.underlying29 rfl (by kernel_rfl) hz ?_; exact hK _ _ (Rn.refl _) (Is.mk _ _)
    -- 3: 103 := Op.load 59 t10
    · intro wo hw  KQ hK; refine cast (if_pos (show Region.wanted _ _ = true from rfl)).symm ?_; have hz := (hw.heap H10_6.out (by simp <;> omega)); refine wp_load_blk 59 (.tmp 10) rfl (cs := [.int .i64 x.src, .int .i64 x.layer, .int .i64 x.tid]) _ rfl Try.underlying59 rfl (by kernel_rfl) hz ?_; exact hK _ _ (Rn.refl _) (Is.mk _ _)
    -- 4: 104 := Op.call { value (Operand.func 31), args := #[t102, t103], argTypes := #[29, 59] }
    · intro wo hw h2 h3 KQ hK; cases h2; cases h3; go_simp; refine (HAS.out _).mono ?_; rintro r w' ⟨rfl, hb'⟩; exact hK _ _ (Rn.of_le ⟨hb'⟩ (by have := hw.size; simp; omega)) (Is.mk _ _)
    -- 5: none := Op.store 38 t12 t100
    · intro wo hw h0 KQ hK; cases h0; refine cast (if_pos (show Region.wanted _ _ = true from rfl)).symm ?_; rcases hw.in_ (p := (w.heap.size + 1 + 1 + 1, Obj.cells #[.int .u32 ss, .int .i64 st.room, .bool true, .int .i64 src, .int .i64 layer, .int .i64 tid, .bool ms.on, .int .i64 ms.high, .int .i64 ms.since, .int .i64 ms.off.seq, .int .i64 ms.off.time, .int .i64 ms.off.pic, .int .i64 ms.off.tl0, .int .i64 ms.out.seq, .int .i64 ms.out.time, .int .i64 ms.out.pic, .int .i64 ms.out.tl0, .slice K Kl.length ck, .int .i64 c1, .int .i64 c2, .int .i64 c3, .int .i64 c4, .int .i64 ((c5 : Int) + 1)] 38 (0, 0))) (by simp) H12_6.out with ho | ho <;> (refine wp_store_blk 38 (.tmp 12) (.tmp 100) rfl (cs := [.int .u32 ss, .int .i64 st.room, .bool true, .int .i64 src, .int .i64 layer, .int .i64 tid, .bool ms.on, .int .i64 ms.high, .int .i64 ms.since, .int .i64 ms.off.seq, .int .i64 ms.off.time, .int .i64 ms.off.pic, .int .i64 ms.off.tl0, .int .i64 ms.out.seq, .int .i64 ms.out.time, .int .i64 ms.out.pic, .int .i64 ms.out.tl0, .slice K Kl.length ck, .int .i64 c1, .int .i64 c2, .int .i64 c3, .int .i64 c4, .int .i64 ((c5 : Int) + 1)]) rfl rfl (by kernel_rfl) (by simp [Value.oneCell']) ho rfl ?_; intro w' h' hg'; exact hK undef _ (Rn.store hg' (by simp) h' (by simp <;> omega) (by have := hw.size; simp <;> omega)) h')
    · intro wz hz h0 h1 h2 h3 h4 h5; cases h0; cases h1; cases h2; cases h3; cases h4; skip
      go_wp2_with fail
      refine ret_cttt Try.results14 (InCell.mk' rfl h5 Try.underlying38 rfl (by kernel_rfl)) rfl rfl rfl ?_
      rw [HR.out]
      have hbz := hz.below LE_6.out.out.drew (by simp <;> omega) LE_6.out.size
      exact ⟨.slice K Kl.length ck, Kl, rfl, (Le.mk hbz).rsl keeps_en hk.out, .inl ⟨rfl, rfl, rfl, rfl⟩, hbz⟩

set_option maxRecDepth 100000 in
set_option maxHeartbeats 8000000 in
theorem r14bad0_off (ss : Nat) (src layer tid : Int) (ms0 : Ms) (st : St) (c1 c2 c3 c4 c5 : Nat) (p : Pk) (Kl : Kp) (K : Option Addr) (ck : Nat) (A5 A6 : Option Addr) (cc5 c6 : Nat) (f l : Int) (x : Wnt) (d0 d1 d2 d4 d5 d7 d9 d11 d12 : Bool) (d3 d6 d8 d10 d13 : Nat) (N pp tp E er : Int) (o0 : List UInt8) (hb : IntKind.i64.wrap ((c5 : Int) + 1) = (c5 : Int) + 1) (w : World) (hk : Hd (RSl 2 REn w Kl (.slice K Kl.length ck)))
    (HPA : Hd (∀ W, Calls Try.prog 28 #[.string (str p.payload)] W (Gives W (.tuple #[.agg #[.bool d0, .bool d1, .bool d2, .int .i64 d3, .bool d4, .bool d5, .int .i64 d6, .bool d7, .int .i64 d8, .bool d9, .int .i64 d10, .bool d11, .bool d12, .int .i64 d13], .int .i64 N, .int .i64 pp, .int .i64 tp, .int .i64 10]))))
    (HPU : Hd (∀ W, Le w W → Calls Try.prog 29 #[.agg #[.bool p.mark, .int .u8 p.type, .int .u16 p.seq, .int .u32 p.time, .int .u32 p.ssrc, .slice A5 p.csrc.length cc5, .slice A6 p.exts.length c6, .string (str p.payload), .int .i64 p.pad]] W (Gives W (.tuple #[.string (str o0), .int .i64 er])))) (ask : Bool) (HAS : Hd (∀ W, Calls Try.prog 31 #[.agg #[.bool false, .int .i64 src, .int .i64 layer, .int .i64 tid], .agg #[.int .i64 x.src, .int .i64 x.layer, .int .i64 x.tid]] W (Gives W (.bool ask)))) :
    Calls Try.prog 14 #[rdV (Dn.mk ss (Ch.mk false src layer tid) ms0 st c1 c2 c3 c4 c5) (.slice K Kl.length ck), P06 p (.slice A5 p.csrc.length cc5) (.slice A6 p.exts.length c6), .int .i64 f, .int .i64 l, x.val, .bool false] w (TakeQ (Dn.mk ss (Ch.mk false src layer tid) ms0 st c1 c2 c3 c4 c5) p Kl (.slice K Kl.length ck) w (Dn.mk ss (Ch.mk false src layer tid) ms0 st c1 c2 c3 c4 (c5 + 1), none, ask)) := by
  obtain ⟨R, hR⟩ : ∃ R, R = TakeQ (Dn.mk ss (Ch.mk false src layer tid) ms0 st c1 c2 c3 c4 c5) p Kl (.slice K Kl.length ck) w (Dn.mk ss (Ch.mk false src layer tid) ms0 st c1 c2 c3 c4 (c5 + 1), none, ask) := ⟨_, rfl⟩
  rw [← hR]
  have HR := hide hR
  clear hR
  simp only [rdV, P06, Wnt.val]
  obtain ⟨w1, hw1⟩ : ∃ w1, w1 = ((((w.alloc (.cells #[.int .u32 ss, .int .i64 st.room, .bool false, .int .i64 src, .int .i64 layer, .int .i64 tid, .bool ms0.on, .int .i64 ms0.high, .int .i64 ms0.since, .int .i64 ms0.off.seq, .int .i64 ms0.off.time, .int .i64 ms0.off.pic, .int .i64 ms0.off.tl0, .int .i64 ms0.out.seq, .int .i64 ms0.out.time, .int .i64 ms0.out.pic, .int .i64 ms0.out.tl0, .slice K Kl.length ck, .int .i64 c1, .int .i64 c2, .int .i64 c3, .int .i64 c4, .int .i64 c5] 38)).alloc (.cells #[.bool p.mark, .int .u8 p.type, .int .u16 p.seq, .int .u32 p.time, .int .u32 p.ssrc, .slice A5 p.csrc.length cc5, .slice A6 p.exts.length c6, .string (str p.payload), .int .i64 p.pad] 57)).alloc (.cells #[.int .i64 x.src, .int .i64 x.layer, .int .i64 x.tid] 59)).alloc (.cells #[.int .u32 0, .int .i64 0, .bool false, .int .i64 0, .int .i64 0, .int .i64 0, .bool false, .int .i64 0, .int .i64 0, .int .i64 0, .int .i64 0, .int .i64 0, .int .i64 0, .int .i64 0, .int .i64 0, .int .i64 0, .int .i64 0, .slice none 0 0, .int .i64 0, .int .i64 0, .int .i64 0, .int .i64 0, .int .i64 0] 38)) := ⟨_, rfl⟩
  have LE := hide (show Le w w1 from by rw [hw1]; exact (((((Le.refl w).alloc _).alloc _).alloc _).alloc _))
  have H6 := hide (show w1.heap[w.heap.size]? = some (.cells #[.int .u32 ss, .int .i64 st.room, .bool false, .int .i64 src, .int .i64 layer, .int .i64 tid, .bool ms0.on, .int .i64 ms0.high, .int .i64 ms0.since, .int .i64 ms0.off.seq, .int .i64 ms0.off.time, .int .i64 ms0.off.pic, .int .i64 ms0.off.tl0, .int .i64 ms0.out.seq, .int .i64 ms0.out.time, .int .i64 ms0.out.pic, .int .i64 ms0.out.tl0, .slice K Kl.length ck, .int .i64 c1, .int .i64 c2, .int .i64 c3, .int .i64 c4, .int .i64 c5] 38 (0, 0)) from by rw [hw1]; exact heap_alloc (heap_alloc (heap_alloc (heap_alloc_new w _))))
  have H7 := hide (show w1.heap[w.heap.size + 1]? = some (.cells #[.bool p.mark, .int .u8 p.type, .int .u16 p.seq, .int .u32 p.time, .int .u32 p.ssrc, .slice A5 p.csrc.length cc5, .slice A6 p.exts.length c6, .string (str p.payload), .int .i64 p.pad] 57 (0, 0)) from by rw [hw1]; exact heap_alloc (heap_alloc (heap_at (by simp))))
  have H10 := hide (show w1.heap[w.heap.size + 1 + 1]? = some (.cells #[.int .i64 x.src, .int .i64 x.layer, .int .i64 x.tid] 59 (0, 0)) from by rw [hw1]; exact heap_alloc (heap_at (by simp)))
  have H12 := hide (show w1.heap[w.heap.size + 1 + 1 + 1]? = some (.cells #[.int .u32 0, .int .i64 0, .bool false, .int .i64 0, .int .i64 0, .int .i64 0, .bool false, .int .i64 0, .int .i64 0, .int .i64 0, .int .i64 0, .int .i64 0, .int .i64 0, .int .i64 0, .int .i64 0, .int .i64 0, .int .i64 0, .slice none 0 0, .int .i64 0, .int .i64 0, .int .i64 0, .int .i64 0, .int .i64 0] 38 (0, 0)) from by rw [hw1]; exact heap_at (by simp))
  go_enter Try.func14, Try.ntmps14
  go_upto_region 1 with fail
  rw [← hw1]
  clear hw1
  have kc1 := box_cell H7.out 7 (.string (str p.payload)) rfl w1 (Le.refl _)
  go_wp2_with fail
  refine (HPA.out _).mono ?_
  rintro e w2 ⟨rfl, hb⟩
  have H6_1 := hide (((Le.mk hb)).heap H6.out)
  have H7_1 := hide (((Le.mk hb)).heap H7.out)
  have H10_1 := hide (((Le.mk hb)).heap H10.out)
  have H12_1 := hide (((Le.mk hb)).heap H12.out)
  have LE_1 := hide (Le.trans LE.out (Le.mk hb))
  have hs2 := lt_of_heap H12_1.out
  clear kc1 H6 H7 H10 H12 LE hb
  go_wp2_with (first | (refine wpl_load_blk rfl 57 (.tmp 7) rfl (cs := [.bool p.mark, .int .u8 p.type, .int .u16 p.seq, .int .u32 p.time, .int .u32 p.ssrc, .slice A5 p.csrc.length cc5, .slice A6 p.exts.length c6, .string (str p.payload), .int .i64 p.pad]) _ rfl Try.underlying57 rfl (by kernel_rfl) (heap_alloc H7_1.out) ?_))
  have H6_2 := hide (show (World.alloc w2 (.cells #[.bool d0, .bool d1, .bool d2, .int .i64 d3, .bool d4, .bool d5, .int .i64 d6, .bool d7, .int .i64 d8, .bool d9, .int .i64 d10, .bool d11, .bool d12, .int .i64 d13] 99)).heap[w.heap.size]? = some (.cells #[.int .u32 ss, .int .i64 st.room, .bool false, .int .i64 src, .int .i64 layer, .int .i64 tid, .bool ms0.on, .int .i64 ms0.high, .int .i64 ms0.since, .int .i64 ms0.off.seq, .int .i64 ms0.off.time, .int .i64 ms0.off.pic, .int .i64 ms0.off.tl0, .int .i64 ms0.out.seq, .int .i64 ms0.out.time, .int .i64 ms0.out.pic, .int .i64 ms0.out.tl0, .slice K Kl.length ck, .int .i64 c1, .int .i64 c2, .int .i64 c3, .int .i64 c4, .int .i64 c5] 38 (0, 0)) from heap_alloc H6_1.out)
  have H10_2 := hide (show (World.alloc w2 (.cells #[.bool d0, .bool d1, .bool d2, .int .i64 d3, .bool d4, .bool d5, .int .i64 d6, .bool d7, .int .i64 d8, .bool d9, .int .i64 d10, .bool d11, .bool d12, .int .i64 d13] 99)).heap[w.heap.size + 1 + 1]? = some (.cells #[.int .i64 x.src, .int .i64 x.layer, .int .i64 x.tid] 59 (0, 0)) from heap_alloc H10_1.out)
  have H12_2 := hide (show (World.alloc w2 (.cells #[.bool d0, .bool d1, .bool d2, .int .i64 d3, .bool d4, .bool d5, .int .i64 d6, .bool d7, .int .i64 d8, .bool d9, .int .i64 d10, .bool d11, .bool d12, .int .i64 d13] 99)).heap[w.heap.size + 1 + 1 + 1]? = some (.cells #[.int .u32 0, .int .i64 0, .bool false, .int .i64 0, .int .i64 0, .int .i64 0, .bool false, .int .i64 0, .int .i64 0, .int .i64 0, .int .i64 0, .int .i64 0, .int .i64 0, .int .i64 0, .int .i64 0, .int .i64 0, .int .i64 0, .slice none 0 0, .int .i64 0, .int .i64 0, .int .i64 0, .int .i64 0, .int .i64 0] 38 (0, 0)) from heap_alloc H12_1.out)
  have H16_2 := hide (show (World.alloc w2 (.cells #[.bool d0, .bool d1, .bool d2, .int .i64 d3, .bool d4, .bool d5, .int .i64 d6, .bool d7, .int .i64 d8, .bool d9, .int .i64 d10, .bool d11, .bool d12, .int .i64 d13] 99)).heap[w2.heap.size]? = some (.cells #[.bool d0, .bool d1, .bool d2, .int .i64 d3, .bool d4, .bool d5, .int .i64 d6, .bool d7, .int .i64 d8, .bool d9, .int .i64 d10, .bool d11, .bool d12, .int .i64 d13] 99 (0, 0)) from heap_alloc_new _ _)
  have LE_2 := hide (show Le w (World.alloc w2 (.cells #[.bool d0, .bool d1, .bool d2, .int .i64 d3, .bool d4, .bool d5, .int .i64 d6, .bool d7, .int .i64 d8, .bool d9, .int .i64 d10, .bool d11, .bool d12, .int .i64 d13] 99)) from LE_1.out.alloc _)
  clear H6_1 H7_1 H10_1 H12_1 LE_1
  generalize (World.alloc w2 (.cells #[.bool d0, .bool d1, .bool d2, .int .i64 d3, .bool d4, .bool d5, .int .i64 d6, .bool d7, .int .i64 d8, .bool d9, .int .i64 d10, .bool d11, .bool d12, .int .i64 d13] 99)) = w3 at *
  have hs3 := lt_of_heap H16_2.out
  refine (HPU.out _ LE_2.out).mono ?_
  rintro e w4 ⟨rfl, hb⟩
  have H6_3 := hide (((Le.mk hb)).heap H6_2.out)
  have H10_3 := hide (((Le.mk hb)).heap H10_2.out)
  have H12_3 := hide (((Le.mk hb)).heap H12_2.out)
  have H16_3 := hide (((Le.mk hb)).heap H16_2.out)
  have LE_3 := hide (Le.trans LE_2.out (Le.mk hb))
  have hs4 := lt_of_heap H16_3.out
  clear H6_2 H10_2 H12_2 H16_2 LE_2 hb
  have kc5 := box_cell H6_3.out 2 (.bool false) rfl w4 (Le.refl _)
  have kc6 := box_cell H6_3.out 3 (.int .i64 src) rfl w4 (Le.refl _)
  have kc7 := box_cell H6_3.out 4 (.int .i64 layer) rfl w4 (Le.refl _)
  have kc8 := box_cell H6_3.out 22 (.int .i64 c5) rfl w4 (Le.refl _)
  go_upto_region 11 with (first | (refine wpl_store_1 rfl 3 (.tmp 99) (.tmp 97) rfl [.int .u32 ss, .int .i64 st.room, .bool false, .int .i64 src, .int .i64 layer, .int .i64 tid, .bool ms0.on, .int .i64 ms0.high, .int .i64 ms0.since, .int .i64 ms0.off.seq, .int .i64 ms0.off.time, .int .i64 ms0.off.pic, .int .i64 ms0.off.tl0, .int .i64 ms0.out.seq, .int .i64 ms0.out.time, .int .i64 ms0.out.pic, .int .i64 ms0.out.tl0, .slice K Kl.length ck, .int .i64 c1, .int .i64 c2, .int .i64 c3, .int .i64 c4] (v := .int .i64 ((c5 : Int) + 1)) (old := .int .i64 c5) (post := []) rfl rfl (by kernel_rfl) rfl H6_3.out ?_; intro w7 hn hg; have H10_4 := hide (heap_grown hg H10_3.out (by simp <;> omega)); have H12_4 := hide (heap_grown hg H12_3.out (by simp <;> omega)); have H6_4 := hide hn; have LE_4 := hide (Le.mk (below_row LE_3.out.out hg (by omega) LE_3.out.size)); clear kc5 kc6 kc7 kc8 H10_3 H12_3 H16_3 H6_3 LE_3 hn hg))
  have hsd : w7.drew.heap.size = w7.heap.size := rfl
  have hs12 := lt_of_heap H12_4.out
  refine' wp_region_tail 6 5 100 (Rn [(w.heap.size + 1 + 1 + 1, .cells #[.int .u32 ss, .int .i64 st.room, .bool false, .int .i64 src, .int .i64 layer, .int .i64 tid, .bool ms0.on, .int .i64 ms0.high, .int .i64 ms0.since, .int .i64 ms0.off.seq, .int .i64 ms0.off.time, .int .i64 ms0.off.pic, .int .i64 ms0.off.tl0, .int .i64 ms0.out.seq, .int .i64 ms0.out.time, .int .i64 ms0.out.pic, .int .i64 ms0.out.tl0, .slice K Kl.length ck, .int .i64 c1, .int .i64 c2, .int .i64 c3, .int .i64 c4, .int .i64 ((c5 : Int) + 1)] 38 (0, 0))]) (Is _ :: Is _ :: Is _ :: Is _ :: Is _ :: (fun _ W => W.heap[w.heap.size + 1 + 1 + 1]? = some (Obj.cells #[.int .u32 ss, .int .i64 st.room, .bool false, .int .i64 src, .int .i64 layer, .int .i64 tid, .bool ms0.on, .int .i64 ms0.high, .int .i64 ms0.since, .int .i64 ms0.off.seq, .int .i64 ms0.off.time, .int .i64 ms0.off.pic, .int .i64 ms0.off.tl0, .int .i64 ms0.out.seq, .int .i64 ms0.out.time, .int .i64 ms0.out.pic, .int .i64 ms0.out.tl0, .slice K Kl.length ck, .int .i64 c1, .int .i64 c2, .int .i64 c3, .int .i64 c4, .int .i64 ((c5 : Int) + 1)] 38 (0, 0))) :: []) ([] :: [] :: [1] :: [] :: [2, 3] :: [0] :: []) (by kernel_rfl) (by kernel_rfl) (by rfl) (by kernel_rfl) (by kernel_rfl) Rn.refl (fun _ _ _ h h' => h.trans h') ⟨St.is, St.is, St.is, St.is, St.is, (fun _ _ _ h hk => (h.in_ (p := (w.heap.size + 1 + 1 + 1, Obj.cells #[.int .u32 ss, .int .i64 st.room, .bool false, .int .i64 src, .int .i64 layer, .int .i64 tid, .bool ms0.on, .int .i64 ms0.high, .int .i64 ms0.since, .int .i64 ms0.off.seq, .int .i64 ms0.off.time, .int .i64 ms0.off.pic, .int .i64 ms0.off.tl0, .int .i64 ms0.out.seq, .int .i64 ms0.out.time, .int .i64 ms0.out.pic, .int .i64 ms0.out.tl0, .slice K Kl.length ck, .int .i64 c1, .int .i64 c2, .int .i64 c3, .int .i64 c4, .int .i64 ((c5 : Int) + 1)] 38 (0, 0))) (by simp) hk).elim _root_.id _root_.id), trivial⟩ ?m11
  case m11 =>
    simp (maxSteps := 100000000) only [AllV, Obl2, Leans, factAt, allFacts, actOf, putAll, putRow, Act.put, List.set_cons_succ, List.set_cons_zero, List.getElem?_cons_zero, List.getElem?_cons_succ, List.take_succ_cons, List.take_zero, List.drop_succ_cons, List.drop_zero, List.cons_append, List.nil_append, List.length_cons, List.length_nil, Nat.reduceAdd]
    intro x0 x1 x2 x3 x4 x5
    refine ⟨⟨?_, ?_, ?_, ?_, ?_, ?_, trivial⟩, ?_⟩
    -- 0: 100 := Op.load 38 t6
    · intro wo hw  KQ hK; refine cast (if_pos (show Region.wanted _ _ = true from rfl)).symm ?_; have hz := (hw.heap H6_4.out (by simp <;> omega)); refine wp_load_blk 38 (.tmp 6) rfl (cs := [.int .u32 ss, .int .i64 st.room, .bool false, .int .i64 src, .int .i64 layer, .int .i64 tid, .bool ms0.on, .int .i64 ms0.high, .int .i64 ms0.since, .int .i64 ms0.off.seq, .int .i64 ms0.off.time, .int .i64 ms0.off.pic, .int .i64 ms0.off.tl0, .int .i64 ms0.out.seq, .int .i64 ms0.out.time, .int .i64 ms0.out.pic, .int .i64 ms0.out.tl0, .slice K Kl.length ck, .int .i64 c1, .int .i64 c2, .int .i64 c3, .int .i64 c4, .int .i64 ((c5 : Int) + 1)]) _ rfl Try.underlying38 rfl (by kernel_rfl) hz ?_; exact hK _ _ (Rn.refl _) (Is.mk _ _)
    -- 1: 101 := Op.fieldAddr 38 t6 2
    · intro wo hw  KQ hK; go_simp; exact hK _ _ (Rn.refl _) (Is.mk _ _)
    -- 2: 102 := Op.load 29 t101
    · intro wo hw h1 KQ hK; cases h1; refine cast (if_pos (show Region.wanted _ _ = true from rfl)).symm ?_; have hz := (hw.heap H6_4.out (by simp <;> omega)); refine wp_load_in 29 (.tmp 101) rfl [.int .u32 ss, .int .i64 st.room] [.bool false, .int .i64 src, .int .i64 layer, .int .i64 tid] [.bool ms0.on, .int .i64 ms0.high, .int .i64 ms0.since, .int .i64 ms0.off.seq, .int .i64 ms0.off.time, .int .i64 ms0.off.pic, .int .i64 ms0.off.tl0, .int .i64 ms0.out.seq, .int .i64 ms0.out.time, .int .i64 ms0.out.pic, .int .i64 ms0.out.tl0, .slice K Kl.length ck, .int .i64 c1, .int .i64 c2, .int .i64 c3, .int .i64 c4, .int .i64 ((c5 : Int) + 1)] _ rfl Try.underlying29 rfl (by kernel_rfl) hz ?_; exact hK _ _ (Rn.refl _) (Is.mk _ _)
    -- 3: 103 := Op.load 59 t10
    · intro wo hw  KQ hK; refine cast (if_pos (show Region.wanted _ _ = true from rfl)).symm ?_; have hz := (hw.heap H10_4.out (by simp <;> omega)); refine wp_load_blk 59 (.tmp 10) rfl (cs := [.int .i64 x.src, .int .i64 x.layer, .int .i64 x.tid]) _ rfl Try.underlying59 rfl (by kernel_rfl) hz ?_; exact hK _ _ (Rn.refl _) (Is.mk _ _)
    -- 4: 104 := Op.call { value (Operand.func 31), args := #[t102, t103], argTypes := #[29, 59] }
    · intro wo hw h2 h3 KQ hK; cases h2; cases h3; go_simp; refine (HAS.out _).mono ?_; rintro r w' ⟨rfl, hb'⟩; exact hK _ _ (Rn.of_le ⟨hb'⟩ (by have := hw.size; simp; omega)) (Is.mk _ _)
    -- 5: none := Op.store 38 t12 t100
    · intro wo hw h0 KQ hK; cases h0; refine cast (if_pos (show Region.wanted _ _ = true from rfl)).symm ?_; rcases hw.in_ (p := (w.heap.size + 1 + 1 + 1, Obj.cells #[.int .u32 ss, .int .i64 st.room, .bool false, .int .i64 src, .int .i64 layer, .int .i64 tid, .bool ms0.on, .int .i64 ms0.high, .int .i64 ms0.since, .int .i64 ms0.off.seq, .int .i64 ms0.off.time, .int .i64 ms0.off.pic, .int .i64 ms0.off.tl0, .int .i64 ms0.out.seq, .int .i64 ms0.out.time, .int .i64 ms0.out.pic, .int .i64 ms0.out.tl0, .slice K Kl.length ck, .int .i64 c1, .int .i64 c2, .int .i64 c3, .int .i64 c4, .int .i64 ((c5 : Int) + 1)] 38 (0, 0))) (by simp) H12_4.out with ho | ho <;> (refine wp_store_blk 38 (.tmp 12) (.tmp 100) rfl (cs := [.int .u32 ss, .int .i64 st.room, .bool false, .int .i64 src, .int .i64 layer, .int .i64 tid, .bool ms0.on, .int .i64 ms0.high, .int .i64 ms0.since, .int .i64 ms0.off.seq, .int .i64 ms0.off.time, .int .i64 ms0.off.pic, .int .i64 ms0.off.tl0, .int .i64 ms0.out.seq, .int .i64 ms0.out.time, .int .i64 ms0.out.pic, .int .i64 ms0.out.tl0, .slice K Kl.length ck, .int .i64 c1, .int .i64 c2, .int .i64 c3, .int .i64 c4, .int .i64 ((c5 : Int) + 1)]) rfl rfl (by kernel_rfl) (by simp [Value.oneCell']) ho rfl ?_; intro w' h' hg'; exact hK undef _ (Rn.store hg' (by simp) h' (by simp <;> omega) (by have := hw.size; simp <;> omega)) h')
    · intro wz hz h0 h1 h2 h3 h4 h5; cases h0; cases h1; cases h2; cases h3; cases h4; skip
      go_wp2_with fail
      refine ret_cttt Try.results14 (InCell.mk' rfl h5 Try.underlying38 rfl (by kernel_rfl)) rfl rfl rfl ?_
      rw [HR.out]
      have hbz := hz.below LE_4.out.out.drew (by simp <;> omega) LE_4.out.size
      exact ⟨.slice K Kl.length ck, Kl, rfl, (Le.mk hbz).rsl keeps_en hk.out, .inl ⟨rfl, rfl, rfl, rfl⟩, hbz⟩

set_option maxRecDepth 100000 in
set_option maxHeartbeats 8000000 in
theorem r14bad0_src (ss : Nat) (src layer tid : Int) (ms0 : Ms) (st : St) (c1 c2 c3 c4 c5 : Nat) (p : Pk) (Kl : Kp) (K : Option Addr) (ck : Nat) (A5 A6 : Option Addr) (cc5 c6 : Nat) (f l : Int) (x : Wnt) (d0 d1 d2 d4 d5 d7 d9 d11 d12 : Bool) (d3 d6 d8 d10 d13 : Nat) (N pp tp E er : Int) (o0 : List UInt8) (hb : IntKind.i64.wrap ((c5 : Int) + 1) = (c5 : Int) + 1) (hne : (src == f) = false) (w : World) (hk : Hd (RSl 2 REn w Kl (.slice K Kl.length ck)))
    (HPA : Hd (∀ W, Calls Try.prog 28 #[.string (str p.payload)] W (Gives W (.tuple #[.agg #[.bool d0, .bool d1, .bool d2, .int .i64 d3, .bool d4, .bool d5, .int .i64 d6, .bool d7, .int .i64 d8, .bool d9, .int .i64 d10, .bool d11, .bool d12, .int .i64 d13], .int .i64 N, .int .i64 pp, .int .i64 tp, .int .i64 10]))))
    (HPU : Hd (∀ W, Le w W → Calls Try.prog 29 #[.agg #[.bool p.mark, .int .u8 p.type, .int .u16 p.seq, .int .u32 p.time, .int .u32 p.ssrc, .slice A5 p.csrc.length cc5, .slice A6 p.exts.length c6, .string (str p.payload), .int .i64 p.pad]] W (Gives W (.tuple #[.string (str o0), .int .i64 er])))) (ask : Bool) (HAS : Hd (∀ W, Calls Try.prog 31 #[.agg #[.bool true, .int .i64 src, .int .i64 layer, .int .i64 tid], .agg #[.int .i64 x.src, .int .i64 x.layer, .int .i64 x.tid]] W (Gives W (.bool ask)))) :
    Calls Try.prog 14 #[rdV (Dn.mk ss (Ch.mk true src layer tid) ms0 st c1 c2 c3 c4 c5) (.slice K Kl.length ck), P06 p (.slice A5 p.csrc.length cc5) (.slice A6 p.exts.length c6), .int .i64 f, .int .i64 l, x.val, .bool false] w (TakeQ (Dn.mk ss (Ch.mk true src layer tid) ms0 st c1 c2 c3 c4 c5) p Kl (.slice K Kl.length ck) w (Dn.mk ss (Ch.mk true src layer tid) ms0 st c1 c2 c3 c4 (c5 + 1), none, ask)) := by
  obtain ⟨R, hR⟩ : ∃ R, R = TakeQ (Dn.mk ss (Ch.mk true src layer tid) ms0 st c1 c2 c3 c4 c5) p Kl (.slice K Kl.length ck) w (Dn.mk ss (Ch.mk true src layer tid) ms0 st c1 c2 c3 c4 (c5 + 1), none, ask) := ⟨_, rfl⟩
  rw [← hR]
  have HR := hide hR
  clear hR
  simp only [rdV, P06, Wnt.val]
  obtain ⟨w1, hw1⟩ : ∃ w1, w1 = ((((w.alloc (.cells #[.int .u32 ss, .int .i64 st.room, .bool true, .int .i64 src, .int .i64 layer, .int .i64 tid, .bool ms0.on, .int .i64 ms0.high, .int .i64 ms0.since, .int .i64 ms0.off.seq, .int .i64 ms0.off.time, .int .i64 ms0.off.pic, .int .i64 ms0.off.tl0, .int .i64 ms0.out.seq, .int .i64 ms0.out.time, .int .i64 ms0.out.pic, .int .i64 ms0.out.tl0, .slice K Kl.length ck, .int .i64 c1, .int .i64 c2, .int .i64 c3, .int .i64 c4, .int .i64 c5] 38)).alloc (.cells #[.bool p.mark, .int .u8 p.type, .int .u16 p.seq, .int .u32 p.time, .int .u32 p.ssrc, .slice A5 p.csrc.length cc5, .slice A6 p.exts.length c6, .string (str p.payload), .int .i64 p.pad] 57)).alloc (.cells #[.int .i64 x.src, .int .i64 x.layer, .int .i64 x.tid] 59)).alloc (.cells #[.int .u32 0, .int .i64 0, .bool false, .int .i64 0, .int .i64 0, .int .i64 0, .bool false, .int .i64 0, .int .i64 0, .int .i64 0, .int .i64 0, .int .i64 0, .int .i64 0, .int .i64 0, .int .i64 0, .int .i64 0, .int .i64 0, .slice none 0 0, .int .i64 0, .int .i64 0, .int .i64 0, .int .i64 0, .int .i64 0] 38)) := ⟨_, rfl⟩
  have LE := hide (show Le w w1 from by rw [hw1]; exact (((((Le.refl w).alloc _).alloc _).alloc _).alloc _))
  have H6 := hide (show w1.heap[w.heap.size]? = some (.cells #[.int .u32 ss, .int .i64 st.room, .bool true, .int .i64 src, .int .i64 layer, .int .i64 tid, .bool ms0.on, .int .i64 ms0.high, .int .i64 ms0.since, .int .i64 ms0.off.seq, .int .i64 ms0.off.time, .int .i64 ms0.off.pic, .int .i64 ms0.off.tl0, .int .i64 ms0.out.seq, .int .i64 ms0.out.time, .int .i64 ms0.out.pic, .int .i64 ms0.out.tl0, .slice K Kl.length ck, .int .i64 c1, .int .i64 c2, .int .i64 c3, .int .i64 c4, .int .i64 c5] 38 (0, 0)) from by rw [hw1]; exact heap_alloc (heap_alloc (heap_alloc (heap_alloc_new w _))))
  have H7 := hide (show w1.heap[w.heap.size + 1]? = some (.cells #[.bool p.mark, .int .u8 p.type, .int .u16 p.seq, .int .u32 p.time, .int .u32 p.ssrc, .slice A5 p.csrc.length cc5, .slice A6 p.exts.length c6, .string (str p.payload), .int .i64 p.pad] 57 (0, 0)) from by rw [hw1]; exact heap_alloc (heap_alloc (heap_at (by simp))))
  have H10 := hide (show w1.heap[w.heap.size + 1 + 1]? = some (.cells #[.int .i64 x.src, .int .i64 x.layer, .int .i64 x.tid] 59 (0, 0)) from by rw [hw1]; exact heap_alloc (heap_at (by simp)))
  have H12 := hide (show w1.heap[w.heap.size + 1 + 1 + 1]? = some (.cells #[.int .u32 0, .int .i64 0, .bool false, .int .i64 0, .int .i64 0, .int .i64 0, .bool false, .int .i64 0, .int .i64 0, .int .i64 0, .int .i64 0, .int .i64 0, .int .i64 0, .int .i64 0, .int .i64 0, .int .i64 0, .int .i64 0, .slice none 0 0, .int .i64 0, .int .i64 0, .int .i64 0, .int .i64 0, .int .i64 0] 38 (0, 0)) from by rw [hw1]; exact heap_at (by simp))
  go_enter Try.func14, Try.ntmps14
  go_upto_region 1 with fail
  rw [← hw1]
  clear hw1
  have kc1 := box_cell H7.out 7 (.string (str p.payload)) rfl w1 (Le.refl _)
  go_wp2_with fail
  refine (HPA.out _).mono ?_
  rintro e w2 ⟨rfl, hb⟩
  have H6_1 := hide (((Le.mk hb)).heap H6.out)
  have H7_1 := hide (((Le.mk hb)).heap H7.out)
  have H10_1 := hide (((Le.mk hb)).heap H10.out)
  have H12_1 := hide (((Le.mk hb)).heap H12.out)
  have LE_1 := hide (Le.trans LE.out (Le.mk hb))
  have hs2 := lt_of_heap H12_1.out
  clear kc1 H6 H7 H10 H12 LE hb
  go_wp2_with (first | (refine wpl_load_blk rfl 57 (.tmp 7) rfl (cs := [.bool p.mark, .int .u8 p.type, .int .u16 p.seq, .int .u32 p.time, .int .u32 p.ssrc, .slice A5 p.csrc.length cc5, .slice A6 p.exts.length c6, .string (str p.payload), .int .i64 p.pad]) _ rfl Try.underlying57 rfl (by kernel_rfl) (heap_alloc H7_1.out) ?_))
  have H6_2 := hide (show (World.alloc w2 (.cells #[.bool d0, .bool d1, .bool d2, .int .i64 d3, .bool d4, .bool d5, .int .i64 d6, .bool d7, .int .i64 d8, .bool d9, .int .i64 d10, .bool d11, .bool d12, .int .i64 d13] 99)).heap[w.heap.size]? = some (.cells #[.int .u32 ss, .int .i64 st.room, .bool true, .int .i64 src, .int .i64 layer, .int .i64 tid, .bool ms0.on, .int .i64 ms0.high, .int .i64 ms0.since, .int .i64 ms0.off.seq, .int .i64 ms0.off.time, .int .i64 ms0.off.pic, .int .i64 ms0.off.tl0, .int .i64 ms0.out.seq, .int .i64 ms0.out.time, .int .i64 ms0.out.pic, .int .i64 ms0.out.tl0, .slice K Kl.length ck, .int .i64 c1, .int .i64 c2, .int .i64 c3, .int .i64 c4, .int .i64 c5] 38 (0, 0)) from heap_alloc H6_1.out)
  have H10_2 := hide (show (World.alloc w2 (.cells #[.bool d0, .bool d1, .bool d2, .int .i64 d3, .bool d4, .bool d5, .int .i64 d6, .bool d7, .int .i64 d8, .bool d9, .int .i64 d10, .bool d11, .bool d12, .int .i64 d13] 99)).heap[w.heap.size + 1 + 1]? = some (.cells #[.int .i64 x.src, .int .i64 x.layer, .int .i64 x.tid] 59 (0, 0)) from heap_alloc H10_1.out)
  have H12_2 := hide (show (World.alloc w2 (.cells #[.bool d0, .bool d1, .bool d2, .int .i64 d3, .bool d4, .bool d5, .int .i64 d6, .bool d7, .int .i64 d8, .bool d9, .int .i64 d10, .bool d11, .bool d12, .int .i64 d13] 99)).heap[w.heap.size + 1 + 1 + 1]? = some (.cells #[.int .u32 0, .int .i64 0, .bool false, .int .i64 0, .int .i64 0, .int .i64 0, .bool false, .int .i64 0, .int .i64 0, .int .i64 0, .int .i64 0, .int .i64 0, .int .i64 0, .int .i64 0, .int .i64 0, .int .i64 0, .int .i64 0, .slice none 0 0, .int .i64 0, .int .i64 0, .int .i64 0, .int .i64 0, .int .i64 0] 38 (0, 0)) from heap_alloc H12_1.out)
  have H16_2 := hide (show (World.alloc w2 (.cells #[.bool d0, .bool d1, .bool d2, .int .i64 d3, .bool d4, .bool d5, .int .i64 d6, .bool d7, .int .i64 d8, .bool d9, .int .i64 d10, .bool d11, .bool d12, .int .i64 d13] 99)).heap[w2.heap.size]? = some (.cells #[.bool d0, .bool d1, .bool d2, .int .i64 d3, .bool d4, .bool d5, .int .i64 d6, .bool d7, .int .i64 d8, .bool d9, .int .i64 d10, .bool d11, .bool d12, .int .i64 d13] 99 (0, 0)) from heap_alloc_new _ _)
  have LE_2 := hide (show Le w (World.alloc w2 (.cells #[.bool d0, .bool d1, .bool d2, .int .i64 d3, .bool d4, .bool d5, .int .i64 d6, .bool d7, .int .i64 d8, .bool d9, .int .i64 d10, .bool d11, .bool d12, .int .i64 d13] 99)) from LE_1.out.alloc _)
  clear H6_1 H7_1 H10_1 H12_1 LE_1
  generalize (World.alloc w2 (.cells #[.bool d0, .bool d1, .bool d2, .int .i64 d3, .bool d4, .bool d5, .int .i64 d6, .bool d7, .int .i64 d8, .bool d9, .int .i64 d10, .bool d11, .bool d12, .int .i64 d13] 99)) = w3 at *
  have hs3 := lt_of_heap H16_2.out
  refine (HPU.out _ LE_2.out).mono ?_
  rintro e w4 ⟨rfl, hb⟩
  have H6_3 := hide (((Le.mk hb)).heap H6_2.out)
  have H10_3 := hide (((Le.mk hb)).heap H10_2.out)
  have H12_3 := hide (((Le.mk hb)).heap H12_2.out)
  have H16_3 := hide (((Le.mk hb)).heap H16_2.out)
  have LE_3 := hide (Le.trans LE_2.out (Le.mk hb))
  have hs4 := lt_of_heap H16_3.out
  clear H6_2 H10_2 H12_2 H16_2 LE_2 hb
  have kc5 := box_cell H6_3.out 2 (.bool true) rfl w4 (Le.refl _)
  have kc6 := box_cell H6_3.out 3 (.int .i64 src) rfl w4 (Le.refl _)
  have kc7 := box_cell H6_3.out 4 (.int .i64 layer) rfl w4 (Le.refl _)
  have kc8 := box_cell H6_3.out 22 (.int .i64 c5) rfl w4 (Le.refl _)
  go_upto_region 11 with (first | (refine wpl_store_1 rfl 3 (.tmp 99) (.tmp 97) rfl [.int .u32 ss, .int .i64 st.room, .bool true, .int .i64 src, .int .i64 layer, .int .i64 tid, .bool ms0.on, .int .i64 ms0.high, .int .i64 ms0.since, .int .i64 ms0.off.seq, .int .i64 ms0.off.time, .int .i64 ms0.off.pic, .int .i64 ms0.off.tl0, .int .i64 ms0.out.seq, .int .i64 ms0.out.time, .int .i64 ms0.out.pic, .int .i64 ms0.out.tl0, .slice K Kl.length ck, .int .i64 c1, .int .i64 c2, .int .i64 c3, .int .i64 c4] (v := .int .i64 ((c5 : Int) + 1)) (old := .int .i64 c5) (post := []) rfl rfl (by kernel_rfl) rfl H6_3.out ?_; intro w7 hn hg; have H10_4 := hide (heap_grown hg H10_3.out (by simp <;> omega)); have H12_4 := hide (heap_grown hg H12_3.out (by simp <;> omega)); have H6_4 := hide hn; have LE_4 := hide (Le.mk (below_row LE_3.out.out hg (by omega) LE_3.out.size)); clear kc5 kc6 kc7 kc8 H10_3 H12_3 H16_3 H6_3 LE_3 hn hg))
  clear hne
  have hsd : w7.drew.heap.size = w7.heap.size := rfl
  have hs12 := lt_of_heap H12_4.out
  refine' wp_region_tail 6 5 100 (Rn [(w.heap.size + 1 + 1 + 1, .cells #[.int .u32 ss, .int .i64 st.room, .bool true, .int .i64 src, .int .i64 layer, .int .i64 tid, .bool ms0.on, .int .i64 ms0.high, .int .i64 ms0.since, .int .i64 ms0.off.seq, .int .i64 ms0.off.time, .int .i64 ms0.off.pic, .int .i64 ms0.off.tl0, .int .i64 ms0.out.seq, .int .i64 ms0.out.time, .int .i64 ms0.out.pic, .int .i64 ms0.out.tl0, .slice K Kl.length ck, .int .i64 c1, .int .i64 c2, .int .i64 c3, .int .i64 c4, .int .i64 ((c5 : Int) + 1)] 38 (0, 0))]) (Is _ :: Is _ :: Is _ :: Is _ :: Is _ :: (fun _ W => W.heap[w.heap.size + 1 + 1 + 1]? = some (Obj.cells #[.int .u32 ss, .int .i64 st.room, .bool true, .int .i64 src, .int .i64 layer, .int .i64 tid, .bool ms0.on, .int .i64 ms0.high, .int .i64 ms0.since, .int .i64 ms0.off.seq, .int .i64 ms0.off.time, .int .i64 ms0.off.pic, .int .i64 ms0.off.tl0, .int .i64 ms0.out.seq, .int .i64 ms0.out.time, .int .i64 ms0.out.pic, .int .i64 ms0.out.tl0, .slice K Kl.length ck, .int .i64 c1, .int .i64 c2, .int .i64 c3, .int .i64 c4, .int .i64 ((c5 : Int) + 1)] 38 (0, 0))) :: []) ([] :: [] :: [1] :: [] :: [2, 3] :: [0] :: []) (by kernel_rfl) (by kernel_rfl) (by rfl) (by kernel_rfl) (by kernel_rfl) Rn.refl (fun _ _ _ h h' => h.trans h') ⟨St.is, St.is, St.is, St.is, St.is, (fun _ _ _ h hk => (h.in_ (p := (w.heap.size + 1 + 1 + 1, Obj.cells #[.int .u32 ss, .int .i64 st.room, .bool true, .int .i64 src, .int .i64 layer, .int .i64 tid, .bool ms0.on, .int .i64 ms0.high, .int .i64 ms0.since, .int .i64 ms0.off.seq, .int .i64 ms0.off.time, .int .i64 ms0.off.pic, .int .i64 ms0.off.tl0, .int .i64 ms0.out.seq, .int .i64 ms0.out.time, .int .i64 ms0.out.pic, .int .i64 ms0.out.tl0, .slice K Kl.length ck, .int .i64 c1, .int .i64 c2, .int .i64 c3, .int .i64 c4, .int .i64 ((c5 : Int) + 1)] 38 (0, 0))) (by simp) hk).elim _root_.id _root_.id), trivial⟩ ?m11
  case m11 =>
    simp (maxSteps := 100000000) only [AllV, Obl2, Leans, factAt, allFacts, actOf, putAll, putRow, Act.put, List.set_cons_succ, List.set_cons_zero, List.getElem?_cons_zero, List.getElem?_cons_succ, List.take_succ_cons, List.take_zero, List.drop_succ_cons, List.drop_zero, List.cons_append, List.nil_append, List.length_cons, List.length_nil, Nat.reduceAdd]
    intro x0 x1 x2 x3 x4 x5
    refine ⟨⟨?_, ?_, ?_, ?_, ?_, ?_, trivial⟩, ?_⟩
    -- 0: 100 := Op.load 38 t6
    · intro wo hw  KQ hK; refine cast (if_pos (show Region.wanted _ _ = true from rfl)).symm ?_; have hz := (hw.heap H6_4.out (by simp <;> omega)); refine wp_load_blk 38 (.tmp 6) rfl (cs := [.int .u32 ss, .int .i64 st.room, .bool true, .int .i64 src, .int .i64 layer, .int .i64 tid, .bool ms0.on, .int .i64 ms0.high, .int .i64 ms0.since, .int .i64 ms0.off.seq, .int .i64 ms0.off.time, .int .i64 ms0.off.pic, .int .i64 ms0.off.tl0, .int .i64 ms0.out.seq, .int .i64 ms0.out.time, .int .i64 ms0.out.pic, .int .i64 ms0.out.tl0, .slice K Kl.length ck, .int .i64 c1, .int .i64 c2, .int .i64 c3, .int .i64 c4, .int .i64 ((c5 : Int) + 1)]) _ rfl Try.underlying38 rfl (by kernel_rfl) hz ?_; exact hK _ _ (Rn.refl _) (Is.mk _ _)
    -- 1: 101 := Op.fieldAddr 38 t6 2
    · intro wo hw  KQ hK; go_simp; exact hK _ _ (Rn.refl _) (Is.mk _ _)
    -- 2: 102 := Op.load 29 t101
    · intro wo hw h1 KQ hK; cases h1; refine cast (if_pos (show Region.wanted _ _ = true from rfl)).symm ?_; have hz := (hw.heap H6_4.out (by simp <;> omega)); refine wp_load_in 29 (.tmp 101) rfl [.int .u32 ss, .int .i64 st.room] [.bool true, .int .i64 src, .int .i64 layer, .int .i64 tid] [.bool ms0.on, .int .i64 ms0.high, .int .i64 ms0.since, .int .i64 ms0.off.seq, .int .i64 ms0.off.time, .int .i64 ms0.off.pic, .int .i64 ms0.off.tl0, .int .i64 ms0.out.seq, .int .i64 ms0.out.time, .int .i64 ms0.out.pic, .int .i64 ms0.out.tl0, .slice K Kl.length ck, .int .i64 c1, .int .i64 c2, .int .i64 c3, .int .i64 c4, .int .i64 ((c5 : Int) + 1)] _ rfl Try.underlying29 rfl (by kernel_rfl) hz ?_; exact hK _ _ (Rn.refl _) (Is.mk _ _)
    -- 3: 103 := Op.load 59 t10
    · intro wo hw  KQ hK; refine cast (if_pos (show Region.wanted _ _ = true from rfl)).symm ?_; have hz := (hw.heap H10_4.out (by simp <;> omega)); refine wp_load_blk 59 (.tmp 10) rfl (cs := [.int .i64 x.src, .int .i64 x.layer, .int .i64 x.tid]) _ rfl Try.underlying59 rfl (by kernel_rfl) hz ?_; exact hK _ _ (Rn.refl _) (Is.mk _ _)
    -- 4: 104 := Op.call { value (Operand.func 31), args := #[t102, t103], argTypes := #[29, 59] }
    · intro wo hw h2 h3 KQ hK; cases h2; cases h3; go_simp; refine (HAS.out _).mono ?_; rintro r w' ⟨rfl, hb'⟩; exact hK _ _ (Rn.of_le ⟨hb'⟩ (by have := hw.size; simp; omega)) (Is.mk _ _)
    -- 5: none := Op.store 38 t12 t100
    · intro wo hw h0 KQ hK; cases h0; refine cast (if_pos (show Region.wanted _ _ = true from rfl)).symm ?_; rcases hw.in_ (p := (w.heap.size + 1 + 1 + 1, Obj.cells #[.int .u32 ss, .int .i64 st.room, .bool true, .int .i64 src, .int .i64 layer, .int .i64 tid, .bool ms0.on, .int .i64 ms0.high, .int .i64 ms0.since, .int .i64 ms0.off.seq, .int .i64 ms0.off.time, .int .i64 ms0.off.pic, .int .i64 ms0.off.tl0, .int .i64 ms0.out.seq, .int .i64 ms0.out.time, .int .i64 ms0.out.pic, .int .i64 ms0.out.tl0, .slice K Kl.length ck, .int .i64 c1, .int .i64 c2, .int .i64 c3, .int .i64 c4, .int .i64 ((c5 : Int) + 1)] 38 (0, 0))) (by simp) H12_4.out with ho | ho <;> (refine wp_store_blk 38 (.tmp 12) (.tmp 100) rfl (cs := [.int .u32 ss, .int .i64 st.room, .bool true, .int .i64 src, .int .i64 layer, .int .i64 tid, .bool ms0.on, .int .i64 ms0.high, .int .i64 ms0.since, .int .i64 ms0.off.seq, .int .i64 ms0.off.time, .int .i64 ms0.off.pic, .int .i64 ms0.off.tl0, .int .i64 ms0.out.seq, .int .i64 ms0.out.time, .int .i64 ms0.out.pic, .int .i64 ms0.out.tl0, .slice K Kl.length ck, .int .i64 c1, .int .i64 c2, .int .i64 c3, .int .i64 c4, .int .i64 ((c5 : Int) + 1)]) rfl rfl (by kernel_rfl) (by simp [Value.oneCell']) ho rfl ?_; intro w' h' hg'; exact hK undef _ (Rn.store hg' (by simp) h' (by simp <;> omega) (by have := hw.size; simp <;> omega)) h')
    · intro wz hz h0 h1 h2 h3 h4 h5; cases h0; cases h1; cases h2; cases h3; cases h4; skip
      go_wp2_with fail
      refine ret_cttt Try.results14 (InCell.mk' rfl h5 Try.underlying38 rfl (by kernel_rfl)) rfl rfl rfl ?_
      rw [HR.out]
      have hbz := hz.below LE_4.out.out.drew (by simp <;> omega) LE_4.out.size
      exact ⟨.slice K Kl.length ck, Kl, rfl, (Le.mk hbz).rsl keeps_en hk.out, .inl ⟨rfl, rfl, rfl, rfl⟩, hbz⟩

set_option maxRecDepth 100000 in
set_option maxHeartbeats 8000000 in
theorem r14bad0_layer (ss : Nat) (src layer tid : Int) (ms0 : Ms) (st : St) (c1 c2 c3 c4 c5 : Nat) (p : Pk) (Kl : Kp) (K : Option Addr) (ck : Nat) (A5 A6 : Option Addr) (cc5 c6 : Nat) (f l : Int) (x : Wnt) (d0 d1 d2 d4 d5 d7 d9 d11 d12 : Bool) (d3 d6 d8 d10 d13 : Nat) (N pp tp E er : Int) (o0 : List UInt8) (hb : IntKind.i64.wrap ((c5 : Int) + 1) = (c5 : Int) + 1) (hne : (layer == l) = false) (w : World) (hk : Hd (RSl 2 REn w Kl (.slice K Kl.length ck)))
    (HPA : Hd (∀ W, Calls Try.prog 28 #[.string (str p.payload)] W (Gives W (.tuple #[.agg #[.bool d0, .bool d1, .bool d2, .int .i64 d3, .bool d4, .bool d5, .int .i64 d6, .bool d7, .int .i64 d8, .bool d9, .int .i64 d10, .bool d11, .bool d12, .int .i64 d13], .int .i64 N, .int .i64 pp, .int .i64 tp, .int .i64 10]))))
    (HPU : Hd (∀ W, Le w W → Calls Try.prog 29 #[.agg #[.bool p.mark, .int .u8 p.type, .int .u16 p.seq, .int .u32 p.time, .int .u32 p.ssrc, .slice A5 p.csrc.length cc5, .slice A6 p.exts.length c6, .string (str p.payload), .int .i64 p.pad]] W (Gives W (.tuple #[.string (str o0), .int .i64 er])))) (ask : Bool) (HAS : Hd (∀ W, Calls Try.prog 31 #[.agg #[.bool true, .int .i64 src, .int .i64 layer, .int .i64 tid], .agg #[.int .i64 x.src, .int .i64 x.layer, .int .i64 x.tid]] W (Gives W (.bool ask)))) :
    Calls Try.prog 14 #[rdV (Dn.mk ss (Ch.mk true src layer tid) ms0 st c1 c2 c3 c4 c5) (.slice K Kl.length ck), P06 p (.slice A5 p.csrc.length cc5) (.slice A6 p.exts.length c6), .int .i64 src, .int .i64 l, x.val, .bool false] w (TakeQ (Dn.mk ss (Ch.mk true src layer tid) ms0 st c1 c2 c3 c4 c5) p Kl (.slice K Kl.length ck) w (Dn.mk ss (Ch.mk true src layer tid) ms0 st c1 c2 c3 c4 (c5 + 1), none, ask)) := by
  obtain ⟨R, hR⟩ : ∃ R, R = TakeQ (Dn.mk ss (Ch.mk true src layer tid) ms0 st c1 c2 c3 c4 c5) p Kl (.slice K Kl.length ck) w (Dn.mk ss (Ch.mk true src layer tid) ms0 st c1 c2 c3 c4 (c5 + 1), none, ask) := ⟨_, rfl⟩
  rw [← hR]
  have HR := hide hR
  clear hR
  simp only [rdV, P06, Wnt.val]
  obtain ⟨w1, hw1⟩ : ∃ w1, w1 = ((((w.alloc (.cells #[.int .u32 ss, .int .i64 st.room, .bool true, .int .i64 src, .int .i64 layer, .int .i64 tid, .bool ms0.on, .int .i64 ms0.high, .int .i64 ms0.since, .int .i64 ms0.off.seq, .int .i64 ms0.off.time, .int .i64 ms0.off.pic, .int .i64 ms0.off.tl0, .int .i64 ms0.out.seq, .int .i64 ms0.out.time, .int .i64 ms0.out.pic, .int .i64 ms0.out.tl0, .slice K Kl.length ck, .int .i64 c1, .int .i64 c2, .int .i64 c3, .int .i64 c4, .int .i64 c5] 38)).alloc (.cells #[.bool p.mark, .int .u8 p.type, .int .u16 p.seq, .int .u32 p.time, .int .u32 p.ssrc, .slice A5 p.csrc.length cc5, .slice A6 p.exts.length c6, .string (str p.payload), .int .i64 p.pad] 57)).alloc (.cells #[.int .i64 x.src, .int .i64 x.layer, .int .i64 x.tid] 59)).alloc (.cells #[.int .u32 0, .int .i64 0, .bool false, .int .i64 0, .int .i64 0, .int .i64 0, .bool false, .int .i64 0, .int .i64 0, .int .i64 0, .int .i64 0, .int .i64 0, .int .i64 0, .int .i64 0, .int .i64 0, .int .i64 0, .int .i64 0, .slice none 0 0, .int .i64 0, .int .i64 0, .int .i64 0, .int .i64 0, .int .i64 0] 38)) := ⟨_, rfl⟩
  have LE := hide (show Le w w1 from by rw [hw1]; exact (((((Le.refl w).alloc _).alloc _).alloc _).alloc _))
  have H6 := hide (show w1.heap[w.heap.size]? = some (.cells #[.int .u32 ss, .int .i64 st.room, .bool true, .int .i64 src, .int .i64 layer, .int .i64 tid, .bool ms0.on, .int .i64 ms0.high, .int .i64 ms0.since, .int .i64 ms0.off.seq, .int .i64 ms0.off.time, .int .i64 ms0.off.pic, .int .i64 ms0.off.tl0, .int .i64 ms0.out.seq, .int .i64 ms0.out.time, .int .i64 ms0.out.pic, .int .i64 ms0.out.tl0, .slice K Kl.length ck, .int .i64 c1, .int .i64 c2, .int .i64 c3, .int .i64 c4, .int .i64 c5] 38 (0, 0)) from by rw [hw1]; exact heap_alloc (heap_alloc (heap_alloc (heap_alloc_new w _))))
  have H7 := hide (show w1.heap[w.heap.size + 1]? = some (.cells #[.bool p.mark, .int .u8 p.type, .int .u16 p.seq, .int .u32 p.time, .int .u32 p.ssrc, .slice A5 p.csrc.length cc5, .slice A6 p.exts.length c6, .string (str p.payload), .int .i64 p.pad] 57 (0, 0)) from by rw [hw1]; exact heap_alloc (heap_alloc (heap_at (by simp))))
  have H10 := hide (show w1.heap[w.heap.size + 1 + 1]? = some (.cells #[.int .i64 x.src, .int .i64 x.layer, .int .i64 x.tid] 59 (0, 0)) from by rw [hw1]; exact heap_alloc (heap_at (by simp)))
  have H12 := hide (show w1.heap[w.heap.size + 1 + 1 + 1]? = some (.cells #[.int .u32 0, .int .i64 0, .bool false, .int .i64 0, .int .i64 0, .int .i64 0, .bool false, .int .i64 0, .int .i64 0, .int .i64 0, .int .i64 0, .int .i64 0, .int .i64 0, .int .i64 0, .int .i64 0, .int .i64 0, .int .i64 0, .slice none 0 0, .int .i64 0, .int .i64 0, .int .i64 0, .int .i64 0, .int .i64 0] 38 (0, 0)) from by rw [hw1]; exact heap_at (by simp))
  go_enter Try.func14, Try.ntmps14
  go_upto_region 1 with fail
  rw [← hw1]
  clear hw1
  have kc1 := box_cell H7.out 7 (.string (str p.payload)) rfl w1 (Le.refl _)
  go_wp2_with fail
  refine (HPA.out _).mono ?_
  rintro e w2 ⟨rfl, hb⟩
  have H6_1 := hide (((Le.mk hb)).heap H6.out)
  have H7_1 := hide (((Le.mk hb)).heap H7.out)
  have H10_1 := hide (((Le.mk hb)).heap H10.out)
  have H12_1 := hide (((Le.mk hb)).heap H12.out)
  have LE_1 := hide (Le.trans LE.out (Le.mk hb))
  have hs2 := lt_of_heap H12_1.out
  clear kc1 H6 H7 H10 H12 LE hb
  go_wp2_with (first | (refine wpl_load_blk rfl 57 (.tmp 7) rfl (cs := [.bool p.mark, .int .u8 p.type, .int .u16 p.seq, .int .u32 p.time, .int .u32 p.ssrc, .slice A5 p.csrc.length cc5, .slice A6 p.exts.length c6, .string (str p.payload), .int .i64 p.pad]) _ rfl Try.underlying57 rfl (by kernel_rfl) (heap_alloc H7_1.out) ?_))
  have H6_2 := hide (show (World.alloc w2 (.cells #[.bool d0, .bool d1, .bool d2, .int .i64 d3, .bool d4, .bool d5, .int .i64 d6, .bool d7, .int .i64 d8, .bool d9, .int .i64 d10, .bool d11, .bool d12, .int .i64 d13] 99)).heap[w.heap.size]? = some (.cells #[.int .u32 ss, .int .i64 st.room, .bool true, .int .i64 src, .int .i64 layer, .int .i64 tid, .bool ms0.on, .int .i64 ms0.high, .int .i64 ms0.since, .int .i64 ms0.off.seq, .int .i64 ms0.off.time, .int .i64 ms0.off.pic, .int .i64 ms0.off.tl0, .int .i64 ms0.out.seq, .int .i64 ms0.out.time, .int .i64 ms0.out.pic, .int .i64 ms0.out.tl0, .slice K Kl.length ck, .int .i64 c1, .int .i64 c2, .int .i64 c3, .int .i64 c4, .int .i64 c5] 38 (0, 0)) from heap_alloc H6_1.out)
  have H10_2 := hide (show (World.alloc w2 (.cells #[.bool d0, .bool d1, .bool d2, .int .i64 d3, .bool d4, .bool d5, .int .i64 d6, .bool d7, .int .i64 d8, .bool d9, .int .i64 d10, .bool d11, .bool d12, .int .i64 d13] 99)).heap[w.heap.size + 1 + 1]? = some (.cells #[.int .i64 x.src, .int .i64 x.layer, .int .i64 x.tid] 59 (0, 0)) from heap_alloc H10_1.out)
  have H12_2 := hide (show (World.alloc w2 (.cells #[.bool d0, .bool d1, .bool d2, .int .i64 d3, .bool d4, .bool d5, .int .i64 d6, .bool d7, .int .i64 d8, .bool d9, .int .i64 d10, .bool d11, .bool d12, .int .i64 d13] 99)).heap[w.heap.size + 1 + 1 + 1]? = some (.cells #[.int .u32 0, .int .i64 0, .bool false, .int .i64 0, .int .i64 0, .int .i64 0, .bool false, .int .i64 0, .int .i64 0, .int .i64 0, .int .i64 0, .int .i64 0, .int .i64 0, .int .i64 0, .int .i64 0, .int .i64 0, .int .i64 0, .slice none 0 0, .int .i64 0, .int .i64 0, .int .i64 0, .int .i64 0, .int .i64 0] 38 (0, 0)) from heap_alloc H12_1.out)
  have H16_2 := hide (show (World.alloc w2 (.cells #[.bool d0, .bool d1, .bool d2, .int .i64 d3, .bool d4, .bool d5, .int .i64 d6, .bool d7, .int .i64 d8, .bool d9, .int .i64 d10, .bool d11, .bool d12, .int .i64 d13] 99)).heap[w2.heap.size]? = some (.cells #[.bool d0, .bool d1, .bool d2, .int .i64 d3, .bool d4, .bool d5, .int .i64 d6, .bool d7, .int .i64 d8, .bool d9, .int .i64 d10, .bool d11, .bool d12, .int .i64 d13] 99 (0, 0)) from heap_alloc_new _ _)
  have LE_2 := hide (show Le w (World.alloc w2 (.cells #[.bool d0, .bool d1, .bool d2, .int .i64 d3, .bool d4, .bool d5, .int .i64 d6, .bool d7, .int .i64 d8, .bool d9, .int .i64 d10, .bool d11, .bool d12, .int .i64 d13] 99)) from LE_1.out.alloc _)
  clear H6_1 H7_1 H10_1 H12_1 LE_1
  generalize (World.alloc w2 (.cells #[.bool d0, .bool d1, .bool d2, .int .i64 d3, .bool d4, .bool d5, .int .i64 d6, .bool d7, .int .i64 d8, .bool d9, .int .i64 d10, .bool d11, .bool d12, .int .i64 d13] 99)) = w3 at *
  have hs3 := lt_of_heap H16_2.out
  refine (HPU.out _ LE_2.out).mono ?_
  rintro e w4 ⟨rfl, hb⟩
  have H6_3 := hide (((Le.mk hb)).heap H6_2.out)
  have H10_3 := hide (((Le.mk hb)).heap H10_2.out)
  have H12_3 := hide (((Le.mk hb)).heap H12_2.out)
  have H16_3 := hide (((Le.mk hb)).heap H16_2.out)
  have LE_3 := hide (Le.trans LE_2.out (Le.mk hb))
  have hs4 := lt_of_heap H16_3.out
  clear H6_2 H10_2 H12_2 H16_2 LE_2 hb
  have kc5 := box_cell H6_3.out 2 (.bool true) rfl w4 (Le.refl _)
  have kc6 := box_cell H6_3.out 3 (.int .i64 src) rfl w4 (Le.refl _)
  have kc7 := box_cell H6_3.out 4 (.int .i64 layer) rfl w4 (Le.refl _)
  have kc8 := box_cell H6_3.out 22 (.int .i64 c5) rfl w4 (Le.refl _)
  go_upto_region 11 with (first | (refine wpl_store_1 rfl 3 (.tmp 99) (.tmp 97) rfl [.int .u32 ss, .int .i64 st.room, .bool true, .int .i64 src, .int .i64 layer, .int .i64 tid, .bool ms0.on, .int .i64 ms0.high, .int .i64 ms0.since, .int .i64 ms0.off.seq, .int .i64 ms0.off.time, .int .i64 ms0.off.pic, .int .i64 ms0.off.tl0, .int .i64 ms0.out.seq, .int .i64 ms0.out.time, .int .i64 ms0.out.pic, .int .i64 ms0.out.tl0, .slice K Kl.length ck, .int .i64 c1, .int .i64 c2, .int .i64 c3, .int .i64 c4] (v := .int .i64 ((c5 : Int) + 1)) (old := .int .i64 c5) (post := []) rfl rfl (by kernel_rfl) rfl H6_3.out ?_; intro w7 hn hg; have H10_4 := hide (heap_grown hg H10_3.out (by simp <;> omega)); have H12_4 := hide (heap_grown hg H12_3.out (by simp <;> omega)); have H6_4 := hide hn; have LE_4 := hide (Le.mk (below_row LE_3.out.out hg (by omega) LE_3.out.size)); clear kc5 kc6 kc7 kc8 H10_3 H12_3 H16_3 H6_3 LE_3 hn hg))
  clear hne
  have hsd : w7.drew.heap.size = w7.heap.size := rfl
  have hs12 := lt_of_heap H12_4.out
  refine' wp_region_tail 6 5 100 (Rn [(w.heap.size + 1 + 1 + 1, .cells #[.int .u32 ss, .int .i64 st.room, .bool true, .int .i64 src, .int .i64 layer, .int .i64 tid, .bool ms0.on, .int .i64 ms0.high, .int .i64 ms0.since, .int .i64 ms0.off.seq, .int .i64 ms0.off.time, .int .i64 ms0.off.pic, .int .i64 ms0.off.tl0, .int .i64 ms0.out.seq, .int .i64 ms0.out.time, .int .i64 ms0.out.pic, .int .i64 ms0.out.tl0, .slice K Kl.length ck, .int .i64 c1, .int .i64 c2, .int .i64 c3, .int .i64 c4, .int .i64 ((c5 : Int) + 1)] 38 (0, 0))]) (Is _ :: Is _ :: Is _ :: Is _ :: Is _ :: (fun _ W => W.heap[w.heap.size + 1 + 1 + 1]? = some (Obj.cells #[.int .u32 ss, .int .i64 st.room, .bool true, .int .i64 src, .int .i64 layer, .int .i64 tid, .bool ms0.on, .int .i64 ms0.high, .int .i64 ms0.since, .int .i64 ms0.off.seq, .int .i64 ms0.off.time, .int .i64 ms0.off.pic, .int .i64 ms0.off.tl0, .int .i64 ms0.out.seq, .int .i64 ms0.out.time, .int .i64 ms0.out.pic, .int .i64 ms0.out.tl0, .slice K Kl.length ck, .int .i64 c1, .int .i64 c2, .int .i64 c3, .int .i64 c4, .int .i64 ((c5 : Int) + 1)] 38 (0, 0))) :: []) ([] :: [] :: [1] :: [] :: [2, 3] :: [0] :: []) (by kernel_rfl) (by kernel_rfl) (by rfl) (by kernel_rfl) (by kernel_rfl) Rn.refl (fun _ _ _ h h' => h.trans h') ⟨St.is, St.is, St.is, St.is, St.is, (fun _ _ _ h hk => (h.in_ (p := (w.heap.size + 1 + 1 + 1, Obj.cells #[.int .u32 ss, .int .i64 st.room, .bool true, .int .i64 src, .int .i64 layer, .int .i64 tid, .bool ms0.on, .int .i64 ms0.high, .int .i64 ms0.since, .int .i64 ms0.off.seq, .int .i64 ms0.off.time, .int .i64 ms0.off.pic, .int .i64 ms0.off.tl0, .int .i64 ms0.out.seq, .int .i64 ms0.out.time, .int .i64 ms0.out.pic, .int .i64 ms0.out.tl0, .slice K Kl.length ck, .int .i64 c1, .int .i64 c2, .int .i64 c3, .int .i64 c4, .int .i64 ((c5 : Int) + 1)] 38 (0, 0))) (by simp) hk).elim _root_.id _root_.id), trivial⟩ ?m11
  case m11 =>
    simp (maxSteps := 100000000) only [AllV, Obl2, Leans, factAt, allFacts, actOf, putAll, putRow, Act.put, List.set_cons_succ, List.set_cons_zero, List.getElem?_cons_zero, List.getElem?_cons_succ, List.take_succ_cons, List.take_zero, List.drop_succ_cons, List.drop_zero, List.cons_append, List.nil_append, List.length_cons, List.length_nil, Nat.reduceAdd]
    intro x0 x1 x2 x3 x4 x5
    refine ⟨⟨?_, ?_, ?_, ?_, ?_, ?_, trivial⟩, ?_⟩
    -- 0: 100 := Op.load 38 t6
    · intro wo hw  KQ hK; refine cast (if_pos (show Region.wanted _ _ = true from rfl)).symm ?_; have hz := (hw.heap H6_4.out (by simp <;> omega)); refine wp_load_blk 38 (.tmp 6) rfl (cs := [.int .u32 ss, .int .i64 st.room, .bool true, .int .i64 src, .int .i64 layer, .int .i64 tid, .bool ms0.on, .int .i64 ms0.high, .int .i64 ms0.since, .int .i64 ms0.off.seq, .int .i64 ms0.off.time, .int .i64 ms0.off.pic, .int .i64 ms0.off.tl0, .int .i64 ms0.out.seq, .int .i64 ms0.out.time, .int .i64 ms0.out.pic, .int .i64 ms0.out.tl0, .slice K Kl.length ck, .int .i64 c1, .int .i64 c2, .int .i64 c3, .int .i64 c4, .int .i64 ((c5 : Int) + 1)]) _ rfl Try.underlying38 rfl (by kernel_rfl) hz ?_; exact hK _ _ (Rn.refl _) (Is.mk _ _)
    -- 1: 101 := Op.fieldAddr 38 t6 2
    · intro wo hw  KQ hK; go_simp; exact hK _ _ (Rn.refl _) (Is.mk _ _)
    -- 2: 102 := Op.load 29 t101
    · intro wo hw h1 KQ hK; cases h1; refine cast (if_pos (show Region.wanted _ _ = true from rfl)).symm ?_; have hz := (hw.heap H6_4.out (by simp <;> omega)); refine wp_load_in 29 (.tmp 101) rfl [.int .u32 ss, .int .i64 st.room] [.bool true, .int .i64 src, .int .i64 layer, .int .i64 tid] [.bool ms0.on, .int .i64 ms0.high, .int .i64 ms0.since, .int .i64 ms0.off.seq, .int .i64 ms0.off.time, .int .i64 ms0.off.pic, .int .i64 ms0.off.tl0, .int .i64 ms0.out.seq, .int .i64 ms0.out.time, .int .i64 ms0.out.pic, .int .i64 ms0.out.tl0, .slice K Kl.length ck, .int .i64 c1, .int .i64 c2, .int .i64 c3, .int .i64 c4, .int .i64 ((c5 : Int) + 1)] _ rfl Try.underlying29 rfl (by kernel_rfl) hz ?_; exact hK _ _ (Rn.refl _) (Is.mk _ _)
    -- 3: 103 := Op.load 59 t10
    · intro wo hw  KQ hK; refine cast (if_pos (show Region.wanted _ _ = true from rfl)).symm ?_; have hz := (hw.heap H10_4.out (by simp <;> omega)); refine wp_load_blk 59 (.tmp 10) rfl (cs := [.int .i64 x.src, .int .i64 x.layer, .int .i64 x.tid]) _ rfl Try.underlying59 rfl (by kernel_rfl) hz ?_; exact hK _ _ (Rn.refl _) (Is.mk _ _)
    -- 4: 104 := Op.call { value (Operand.func 31), args := #[t102, t103], argTypes := #[29, 59] }
    · intro wo hw h2 h3 KQ hK; cases h2; cases h3; go_simp; refine (HAS.out _).mono ?_; rintro r w' ⟨rfl, hb'⟩; exact hK _ _ (Rn.of_le ⟨hb'⟩ (by have := hw.size; simp; omega)) (Is.mk _ _)
    -- 5: none := Op.store 38 t12 t100
    · intro wo hw h0 KQ hK; cases h0; refine cast (if_pos (show Region.wanted _ _ = true from rfl)).symm ?_; rcases hw.in_ (p := (w.heap.size + 1 + 1 + 1, Obj.cells #[.int .u32 ss, .int .i64 st.room, .bool true, .int .i64 src, .int .i64 layer, .int .i64 tid, .bool ms0.on, .int .i64 ms0.high, .int .i64 ms0.since, .int .i64 ms0.off.seq, .int .i64 ms0.off.time, .int .i64 ms0.off.pic, .int .i64 ms0.off.tl0, .int .i64 ms0.out.seq, .int .i64 ms0.out.time, .int .i64 ms0.out.pic, .int .i64 ms0.out.tl0, .slice K Kl.length ck, .int .i64 c1, .int .i64 c2, .int .i64 c3, .int .i64 c4, .int .i64 ((c5 : Int) + 1)] 38 (0, 0))) (by simp) H12_4.out with ho | ho <;> (refine wp_store_blk 38 (.tmp 12) (.tmp 100) rfl (cs := [.int .u32 ss, .int .i64 st.room, .bool true, .int .i64 src, .int .i64 layer, .int .i64 tid, .bool ms0.on, .int .i64 ms0.high, .int .i64 ms0.since, .int .i64 ms0.off.seq, .int .i64 ms0.off.time, .int .i64 ms0.off.pic, .int .i64 ms0.off.tl0, .int .i64 ms0.out.seq, .int .i64 ms0.out.time, .int .i64 ms0.out.pic, .int .i64 ms0.out.tl0, .slice K Kl.length ck, .int .i64 c1, .int .i64 c2, .int .i64 c3, .int .i64 c4, .int .i64 ((c5 : Int) + 1)]) rfl rfl (by kernel_rfl) (by simp [Value.oneCell']) ho rfl ?_; intro w' h' hg'; exact hK undef _ (Rn.store hg' (by simp) h' (by simp <;> omega) (by have := hw.size; simp <;> omega)) h')
    · intro wz hz h0 h1 h2 h3 h4 h5; cases h0; cases h1; cases h2; cases h3; cases h4; skip
      go_wp2_with fail
      refine ret_cttt Try.results14 (InCell.mk' rfl h5 Try.underlying38 rfl (by kernel_rfl)) rfl rfl rfl ?_
      rw [HR.out]
      have hbz := hz.below LE_4.out.out.drew (by simp <;> omega) LE_4.out.size
      exact ⟨.slice K Kl.length ck, Kl, rfl, (Le.mk hbz).rsl keeps_en hk.out, .inl ⟨rfl, rfl, rfl, rfl⟩, hbz⟩
end Go.Proofs.Ytekioihjfggmdaa
