/- Texts of one claim, laid together: Ref14 Exts14 Of14 DownCounts Reg3 PlayS DownMutes -/
import Derived.Test.YtekioihjfggmdaaJoX02
import Derived.Test.YtekioihjfggmdaaJoX03
import Derived.Test.YtekioihjfggmdaaJoX01
import Derived.Test.YtekioihjfggmdaaJo26
import Derived.Test.YtekioihjfggmdaaJo24
import Derived.Test.YtekioihjfggmdaaJo21
/- louverref14: send, Take. -/
namespace Go.Proofs.Ytekioihjfggmdaa
open Go.RowKit
set_option linter.unusedVariables false

/-- a downtrack, as the reference has it -/
def rdV (d : Dn) (kv : Value) : Value := .agg #[.int .u32 d.ssrc, .int .i64 d.st.room, .bool d.pick.on, .int .i64 d.pick.src, .int .i64 d.pick.layer, .int .i64 d.pick.tid, .bool d.nums.on, .int .i64 d.nums.high, .int .i64 d.nums.since, .int .i64 d.nums.off.seq, .int .i64 d.nums.off.time, .int .i64 d.nums.off.pic, .int .i64 d.nums.off.tl0, .int .i64 d.nums.out.seq, .int .i64 d.nums.out.time, .int .i64 d.nums.out.pic, .int .i64 d.nums.out.tl0, kv, .int .i64 d.sent, .int .i64 d.left, .int .i64 d.dropped, .int .i64 d.late, .int .i64 d.bad]
theorem kAdd_pos (K : Kp) (seq : Nat) (b : List UInt8) {room : Nat} (h : 0 < room) : 0 < (kAdd K room seq b).length := by
  unfold kAdd
  split
  · next hc => simp at hc ⊢; omega
  · simp
theorem beq_nat0 (d : Nat) : ((d : Int) == 0) = decide (d = 0) := by cases d <;> simp <;> omega
theorem keeps_rnat (k : IntKind) : Keeps (RNat k) := fun _ _ _ _ h _ => h

set_option maxRecDepth 100000 in
set_option maxHeartbeats 8000000 in
theorem rsend14_any (d : Dn) (p : Pk) (hp : p.Ok) (n : Nm) (hn : n.Ok) (hss : d.ssrc < 4294967296) (hbd : d.sent ≤ 1000000) (hroom : 0 < d.st.room ∧ d.st.room ≤ 100000) (hpl : p.payload.length ≤ 1000) (Kl : Kp) (hkl : Kl.length ≤ 10000) (v5 v6 kv : Value) (w : World)
    (h5 : RSl 1 (RNat .u32) w p.csrc v5) (h6 : RSl 2 RI w p.exts v6) (hk : RSl 2 REn w Kl kv) :
    Calls Try.prog 34 #[rdV d kv, P06 p v5 v6, n.rv] w (fun e w' => ∃ b off ck', e = .returned (.tuple #[rdV (d.send p n).1 (.slice (some ⟨b, off, none⟩) (kAdd Kl d.st.room n.seq (p.renum n d.ssrc).out).length ck'), .string (str (p.renum n d.ssrc).out), .bool true]) ∧ RSl 2 REn w' (kAdd Kl d.st.room n.seq (p.renum n d.ssrc).out) (.slice (some ⟨b, off, none⟩) (kAdd Kl d.st.room n.seq (p.renum n d.ssrc).out).length ck') ∧ w.heap.size ≤ b ∧ Below w.heap.size w w') := by
  obtain ⟨A5, c5, rfl, _, _⟩ := id h5
  obtain ⟨A6, c6, rfl, _, _⟩ := id h6
  obtain ⟨K, ck, rfl, _, _⟩ := id hk
  have HW := hide (fun W => rwrite_any p.payload n.pic n.tl0 W hpl hn.pic hn.tl0)
  have HP := hide (fun W (hW : Le w W) => rput06_any (p.renum n d.ssrc) (Pk.renum_ok hp hn hss) _ _ W (hW.rsl (keeps_rnat _) h5) (hW.rsl keeps_ri h6))
  have HA := hide (fun W (hW : Le w W) => radd_any Kl K ck d.st.room n.seq (p.renum n d.ssrc).out W (hW.rsl keeps_en hk) (by omega) hroom.1 hroom.2)
  have q1 : IntKind.u16.wrap (n.seq : Int) = n.seq := by have := hn.seq; simp [IntKind.wrap, IntKind.signed, IntKind.bits]; omega
  have q2 : IntKind.u32.wrap (n.time : Int) = n.time := by have := hn.time; simp [IntKind.wrap, IntKind.signed, IntKind.bits]; omega
  have q3 : IntKind.i64.wrap ((d.sent : Int) + 1) = (d.sent : Int) + 1 := IntWalk.i64_in _ (by omega)
  have HQ := hide (And.intro hn.seq hn.time)
  have hroom0 := hroom.1
  clear h5 h6 hk hp hn hbd hroom hpl hkl hss
  obtain ⟨wr, hwr⟩ : ∃ wr, wr = vpWr p.payload n.pic n.tl0 := ⟨_, rfl⟩
  obtain ⟨o, ho⟩ : ∃ o, o = (p.renum n d.ssrc).out := ⟨_, rfl⟩
  obtain ⟨er, her⟩ : ∃ er, er = (p.renum n d.ssrc).err := ⟨_, rfl⟩
  rw [← hwr] at HW
  rw [← ho] at HP HA ⊢
  rw [← her] at HP
  have hka0 := kAdd_pos Kl n.seq o hroom0
  obtain ⟨KA, hKA⟩ : ∃ KA, KA = kAdd Kl d.st.room n.seq o := ⟨_, rfl⟩
  rw [← hKA] at HA hka0 ⊢
  have HK0 := hide hka0
  clear hka0 hroom0
  simp only [P06, Pk.renum, ← hwr] at HP
  have HS := hide (show ∀ kv', (d.send p n).1.ssrc = d.ssrc ∧ rdV (d.send p n).1 kv' = .agg #[.int .u32 d.ssrc, .int .i64 d.st.room, .bool d.pick.on, .int .i64 d.pick.src, .int .i64 d.pick.layer, .int .i64 d.pick.tid, .bool d.nums.on, .int .i64 d.nums.high, .int .i64 d.nums.since, .int .i64 d.nums.off.seq, .int .i64 d.nums.off.time, .int .i64 d.nums.off.pic, .int .i64 d.nums.off.tl0, .int .i64 d.nums.out.seq, .int .i64 d.nums.out.time, .int .i64 d.nums.out.pic, .int .i64 d.nums.out.tl0, kv', .int .i64 ((d.sent : Int) + 1), .int .i64 d.left, .int .i64 d.dropped, .int .i64 d.late, .int .i64 d.bad] from fun kv' => ⟨rfl, rfl⟩)
  clear hwr ho her hKA
  obtain ⟨R, hR⟩ : ∃ R, R = (fun (e : Ending) (w' : World) => ∃ b off ck', e = .returned (.tuple #[rdV (d.send p n).1 (.slice (some ⟨b, off, none⟩) KA.length ck'), .string (str o), .bool true]) ∧ RSl 2 REn w' KA (.slice (some ⟨b, off, none⟩) KA.length ck') ∧ w.heap.size ≤ b ∧ Below w.heap.size w w') := ⟨_, rfl⟩
  rw [← hR]
  have HR := hide hR
  clear hR
  simp only [rdV, P06, Nm.rv]
  obtain ⟨w1, hw1⟩ : ∃ w1, w1 = ((((w.alloc (.cells #[.int .u32 d.ssrc, .int .i64 d.st.room, .bool d.pick.on, .int .i64 d.pick.src, .int .i64 d.pick.layer, .int .i64 d.pick.tid, .bool d.nums.on, .int .i64 d.nums.high, .int .i64 d.nums.since, .int .i64 d.nums.off.seq, .int .i64 d.nums.off.time, .int .i64 d.nums.off.pic, .int .i64 d.nums.off.tl0, .int .i64 d.nums.out.seq, .int .i64 d.nums.out.time, .int .i64 d.nums.out.pic, .int .i64 d.nums.out.tl0, .slice K Kl.length ck, .int .i64 d.sent, .int .i64 d.left, .int .i64 d.dropped, .int .i64 d.late, .int .i64 d.bad] 38)).alloc (.cells #[.bool p.mark, .int .u8 p.type, .int .u16 p.seq, .int .u32 p.time, .int .u32 p.ssrc, .slice A5 p.csrc.length c5, .slice A6 p.exts.length c6, .string (str p.payload), .int .i64 p.pad] 57)).alloc (.cells #[.int .i64 n.seq, .int .i64 n.time, .int .i64 n.pic, .int .i64 n.tl0] 31)).alloc (.cells #[.int .u32 0, .int .i64 0, .bool false, .int .i64 0, .int .i64 0, .int .i64 0, .bool false, .int .i64 0, .int .i64 0, .int .i64 0, .int .i64 0, .int .i64 0, .int .i64 0, .int .i64 0, .int .i64 0, .int .i64 0, .int .i64 0, .slice none 0 0, .int .i64 0, .int .i64 0, .int .i64 0, .int .i64 0, .int .i64 0] 38)) := ⟨_, rfl⟩
  have LE := hide (show Le w w1 from by rw [hw1]; exact (((((Le.refl w).alloc _).alloc _).alloc _).alloc _))
  have H3 := hide (show w1.heap[w.heap.size]? = some (.cells #[.int .u32 d.ssrc, .int .i64 d.st.room, .bool d.pick.on, .int .i64 d.pick.src, .int .i64 d.pick.layer, .int .i64 d.pick.tid, .bool d.nums.on, .int .i64 d.nums.high, .int .i64 d.nums.since, .int .i64 d.nums.off.seq, .int .i64 d.nums.off.time, .int .i64 d.nums.off.pic, .int .i64 d.nums.off.tl0, .int .i64 d.nums.out.seq, .int .i64 d.nums.out.time, .int .i64 d.nums.out.pic, .int .i64 d.nums.out.tl0, .slice K Kl.length ck, .int .i64 d.sent, .int .i64 d.left, .int .i64 d.dropped, .int .i64 d.late, .int .i64 d.bad] 38 (0, 0)) from by rw [hw1]; exact heap_alloc (heap_alloc (heap_alloc (heap_alloc_new w _))))
  have H4 := hide (show w1.heap[w.heap.size + 1]? = some (.cells #[.bool p.mark, .int .u8 p.type, .int .u16 p.seq, .int .u32 p.time, .int .u32 p.ssrc, .slice A5 p.csrc.length c5, .slice A6 p.exts.length c6, .string (str p.payload), .int .i64 p.pad] 57 (0, 0)) from by rw [hw1]; exact heap_alloc (heap_alloc (heap_at (by simp))))
  have H5 := hide (show w1.heap[w.heap.size + 1 + 1]? = some (.cells #[.int .i64 n.seq, .int .i64 n.time, .int .i64 n.pic, .int .i64 n.tl0] 31 (0, 0)) from by rw [hw1]; exact heap_alloc (heap_at (by simp)))
  have H6 := hide (show w1.heap[w.heap.size + 1 + 1 + 1]? = some (.cells #[.int .u32 0, .int .i64 0, .bool false, .int .i64 0, .int .i64 0, .int .i64 0, .bool false, .int .i64 0, .int .i64 0, .int .i64 0, .int .i64 0, .int .i64 0, .int .i64 0, .int .i64 0, .int .i64 0, .int .i64 0, .int .i64 0, .slice none 0 0, .int .i64 0, .int .i64 0, .int .i64 0, .int .i64 0, .int .i64 0] 38 (0, 0)) from by rw [hw1]; exact heap_at (by simp))
  go_enter Try.func34, Try.ntmps34
  go_upto_region 1 with fail
  rw [← hw1]
  clear hw1
  have kc1 := box_cell H4.out 7 (.string (str p.payload)) rfl w1 (Le.refl _)
  have kc2 := box_cell H5.out 2 (.int .i64 n.pic) rfl w1 (Le.refl _)
  have kc3 := box_cell H5.out 3 (.int .i64 n.tl0) rfl w1 (Le.refl _)
  go_wp2_with fail
  refine (HW.out _).mono ?_
  rintro e w2 ⟨rfl, hb⟩
  have H3_1 := hide (((Le.mk hb)).heap H3.out)
  have H4_1 := hide (((Le.mk hb)).heap H4.out)
  have H5_1 := hide (((Le.mk hb)).heap H5.out)
  have H6_1 := hide (((Le.mk hb)).heap H6.out)
  have LE_1 := hide (Le.trans LE.out (Le.mk hb))
  have hs4 := lt_of_heap H6_1.out
  clear kc1 kc2 kc3 H3 H4 H5 H6 LE hb
  have kc5 := box_cell H5_1.out 0 (.int .i64 n.seq) rfl w2 (Le.refl _)
  have kc6 := box_cell H5_1.out 1 (.int .i64 n.time) rfl w2 (Le.refl _)
  have kc7 := box_cell H3_1.out 0 (.int .u32 d.ssrc) rfl w2 (Le.refl _)
  go_wp2_with (first | (refine wpl_store_1 rfl 9 (.tmp 24) (.tmp 23) rfl [.bool p.mark, .int .u8 p.type, .int .u16 p.seq, .int .u32 p.time, .int .u32 p.ssrc, .slice A5 p.csrc.length c5, .slice A6 p.exts.length c6] (v := .string (str wr)) (old := .string (str p.payload)) (post := [.int .i64 p.pad]) rfl rfl (by kernel_rfl) rfl H4_1.out ?_; intro w3 hn hg; have H3_2 := hide (heap_grown hg H3_1.out (by simp <;> omega)); have H5_2 := hide (heap_grown hg H5_1.out (by simp <;> omega)); have H6_2 := hide (heap_grown hg H6_1.out (by simp <;> omega)); have H4_2 := hide hn; have LE_2 := hide (Le.mk (below_row LE_1.out.out hg (by omega) LE_1.out.size)); clear kc5 kc6 kc7 H3_1 H5_1 H6_1 H4_1 LE_1 hn hg; have kc8 := box_cell H5_2.out 0 (.int .i64 n.seq) rfl w3 (Le.refl _)) | (refine wpl_store_1 rfl 39 (.tmp 28) (.tmp 27) rfl [.bool p.mark, .int .u8 p.type] (v := .int .u16 n.seq) (old := .int .u16 p.seq) (post := [.int .u32 p.time, .int .u32 p.ssrc, .slice A5 p.csrc.length c5, .slice A6 p.exts.length c6, .string (str wr), .int .i64 p.pad]) rfl rfl (by kernel_rfl) rfl H4_2.out ?_; intro w4 hn hg; have H3_3 := hide (heap_grown hg H3_2.out (by simp <;> omega)); have H5_3 := hide (heap_grown hg H5_2.out (by simp <;> omega)); have H6_3 := hide (heap_grown hg H6_2.out (by simp <;> omega)); have H4_3 := hide hn; have LE_3 := hide (Le.mk (below_row LE_2.out.out hg (by omega) LE_2.out.size)); clear kc8 H3_2 H5_2 H6_2 H4_2 LE_2 hn hg; have kc9 := box_cell H5_3.out 1 (.int .i64 n.time) rfl w4 (Le.refl _)) | (refine wpl_store_1 rfl 22 (.tmp 32) (.tmp 31) rfl [.bool p.mark, .int .u8 p.type, .int .u16 n.seq] (v := .int .u32 n.time) (old := .int .u32 p.time) (post := [.int .u32 p.ssrc, .slice A5 p.csrc.length c5, .slice A6 p.exts.length c6, .string (str wr), .int .i64 p.pad]) rfl rfl (by kernel_rfl) rfl H4_3.out ?_; intro w5 hn hg; have H3_4 := hide (heap_grown hg H3_3.out (by simp <;> omega)); have H6_4 := hide (heap_grown hg H6_3.out (by simp <;> omega)); have H4_4 := hide hn; have LE_4 := hide (Le.mk (below_row LE_3.out.out hg (by omega) LE_3.out.size)); clear kc9 H3_3 H5_3 H6_3 H4_3 LE_3 hn hg; have kc10 := box_cell H3_4.out 0 (.int .u32 d.ssrc) rfl w5 (Le.refl _)) | (refine wpl_store_1 rfl 22 (.tmp 35) (.tmp 34) rfl [.bool p.mark, .int .u8 p.type, .int .u16 n.seq, .int .u32 n.time] (v := .int .u32 d.ssrc) (old := .int .u32 p.ssrc) (post := [.slice A5 p.csrc.length c5, .slice A6 p.exts.length c6, .string (str wr), .int .i64 p.pad]) rfl rfl (by kernel_rfl) rfl H4_4.out ?_; intro w6 hn hg; have H3_5 := hide (heap_grown hg H3_4.out (by simp <;> omega)); have H6_5 := hide (heap_grown hg H6_4.out (by simp <;> omega)); have H4_5 := hide hn; have LE_5 := hide (Le.mk (below_row LE_4.out.out hg (by omega) LE_4.out.size)); clear kc10 H3_4 H6_4 H4_4 LE_4 hn hg) | (refine wpl_load_blk rfl 57 (.tmp 4) rfl (cs := [.bool p.mark, .int .u8 p.type, .int .u16 n.seq, .int .u32 n.time, .int .u32 d.ssrc, .slice A5 p.csrc.length c5, .slice A6 p.exts.length c6, .string (str wr), .int .i64 p.pad]) _ rfl Try.underlying57 rfl (by kernel_rfl) H4_5.out ?_))
  refine (HP.out _ LE_5.out).mono ?_
  rintro e w7 ⟨rfl, hb⟩
  have H3_6 := hide (((Le.mk hb)).heap H3_5.out)
  have H4_6 := hide (((Le.mk hb)).heap H4_5.out)
  have H6_6 := hide (((Le.mk hb)).heap H6_5.out)
  have LE_6 := hide (Le.trans LE_5.out (Le.mk hb))
  have hs11 := lt_of_heap H6_6.out
  clear H3_5 H4_5 H6_5 LE_5 hb
  have kc12 := box_cell H3_6.out 17 (.slice K Kl.length ck) rfl w7 (Le.refl _)
  have kc13 := box_cell H3_6.out 1 (.int .i64 d.st.room) rfl w7 (Le.refl _)
  have kc14 := box_cell H4_6.out 2 (.int .u16 n.seq) rfl w7 (Le.refl _)
  go_wp2_with fail
  refine (HA.out _ LE_6.out).mono ?_
  rintro e w8 ⟨K2, ck2, rfl, hk2, hkb, hb⟩
  obtain ⟨kb, ko, rfl⟩ := rsl_addr hk2 HK0.out
  have HK2 := hide hk2
  have HKB := hide (hkb kb ko rfl)
  clear hk2 hkb
  have H3_7 := hide (((Le.mk hb)).heap H3_6.out)
  have H6_7 := hide (((Le.mk hb)).heap H6_6.out)
  have LE_7 := hide (Le.trans LE_6.out (Le.mk hb))
  have hs15 := lt_of_heap H6_7.out
  clear kc12 kc13 kc14 H3_6 H4_6 H6_6 LE_6 hb
  go_wp2_with (first | (refine wpl_store_1 rfl 34 (.tmp 49) (.tmp 48) rfl [.int .u32 d.ssrc, .int .i64 d.st.room, .bool d.pick.on, .int .i64 d.pick.src, .int .i64 d.pick.layer, .int .i64 d.pick.tid, .bool d.nums.on, .int .i64 d.nums.high, .int .i64 d.nums.since, .int .i64 d.nums.off.seq, .int .i64 d.nums.off.time, .int .i64 d.nums.off.pic, .int .i64 d.nums.off.tl0, .int .i64 d.nums.out.seq, .int .i64 d.nums.out.time, .int .i64 d.nums.out.pic, .int .i64 d.nums.out.tl0] (v := .slice (some ⟨kb, ko, none⟩) KA.length ck2) (old := .slice K Kl.length ck) (post := [.int .i64 d.sent, .int .i64 d.left, .int .i64 d.dropped, .int .i64 d.late, .int .i64 d.bad]) rfl rfl (by kernel_rfl) rfl H3_7.out ?_; intro w9 hn hg; have H6_8 := hide (heap_grown hg H6_7.out (by simp <;> omega)); have HK2_8 := hide (RSl.off (fun _ _ _ _ h => h) HK2.out hg (fun b off e => by injection e with e; injection e with e _ _; have := HKB.out; omega)); have H3_8 := hide hn; have LE_8 := hide (Le.mk (below_row LE_7.out.out hg (by omega) LE_7.out.size)); clear H6_7 HK2 H3_7 LE_7 hn hg; have kc16 := box_cell H3_8.out 18 (.int .i64 d.sent) rfl w9 (Le.refl _)) | (refine wpl_store_1 rfl 3 (.tmp 55) (.tmp 53) rfl [.int .u32 d.ssrc, .int .i64 d.st.room, .bool d.pick.on, .int .i64 d.pick.src, .int .i64 d.pick.layer, .int .i64 d.pick.tid, .bool d.nums.on, .int .i64 d.nums.high, .int .i64 d.nums.since, .int .i64 d.nums.off.seq, .int .i64 d.nums.off.time, .int .i64 d.nums.off.pic, .int .i64 d.nums.off.tl0, .int .i64 d.nums.out.seq, .int .i64 d.nums.out.time, .int .i64 d.nums.out.pic, .int .i64 d.nums.out.tl0, .slice (some ⟨kb, ko, none⟩) KA.length ck2] (v := .int .i64 ((d.sent : Int) + 1)) (old := .int .i64 d.sent) (post := [.int .i64 d.left, .int .i64 d.dropped, .int .i64 d.late, .int .i64 d.bad]) rfl rfl (by kernel_rfl) rfl H3_8.out ?_; intro w10 hn hg; have H6_9 := hide (heap_grown hg H6_8.out (by simp <;> omega)); have HK2_9 := hide (RSl.off (fun _ _ _ _ h => h) HK2_8.out hg (fun b off e => by injection e with e; injection e with e _ _; have := HKB.out; omega)); have H3_9 := hide hn; have LE_9 := hide (Le.mk (below_row LE_8.out.out hg (by omega) LE_8.out.size)); clear kc16 H6_8 HK2_8 H3_8 LE_8 hn hg) | (refine wpl_load_blk rfl 38 (.tmp 3) rfl (cs := [.int .u32 d.ssrc, .int .i64 d.st.room, .bool d.pick.on, .int .i64 d.pick.src, .int .i64 d.pick.layer, .int .i64 d.pick.tid, .bool d.nums.on, .int .i64 d.nums.high, .int .i64 d.nums.since, .int .i64 d.nums.off.seq, .int .i64 d.nums.off.time, .int .i64 d.nums.off.pic, .int .i64 d.nums.off.tl0, .int .i64 d.nums.out.seq, .int .i64 d.nums.out.time, .int .i64 d.nums.out.pic, .int .i64 d.nums.out.tl0, .slice (some ⟨kb, ko, none⟩) KA.length ck2, .int .i64 ((d.sent : Int) + 1), .int .i64 d.left, .int .i64 d.dropped, .int .i64 d.late, .int .i64 d.bad]) _ rfl Try.underlying38 rfl (by kernel_rfl) H3_9.out ?_) | (refine wpl_store_blk rfl 38 (.tmp 6) (.tmp 56) (cs := [.int .u32 d.ssrc, .int .i64 d.st.room, .bool d.pick.on, .int .i64 d.pick.src, .int .i64 d.pick.layer, .int .i64 d.pick.tid, .bool d.nums.on, .int .i64 d.nums.high, .int .i64 d.nums.since, .int .i64 d.nums.off.seq, .int .i64 d.nums.off.time, .int .i64 d.nums.off.pic, .int .i64 d.nums.off.tl0, .int .i64 d.nums.out.seq, .int .i64 d.nums.out.time, .int .i64 d.nums.out.pic, .int .i64 d.nums.out.tl0, .slice (some ⟨kb, ko, none⟩) KA.length ck2, .int .i64 ((d.sent : Int) + 1), .int .i64 d.left, .int .i64 d.dropped, .int .i64 d.late, .int .i64 d.bad]) rfl rfl rfl (by kernel_rfl) (by simp [Value.oneCell']) H6_9.out rfl ?_; intro w11 hn hg; have HK2_10 := hide (RSl.off (fun _ _ _ _ h => h) HK2_9.out hg (fun b off e => by injection e with e; injection e with e _ _; have := HKB.out; omega)); have H6_10 := hide hn; have LE_10 := hide (Le.mk (below_row LE_9.out.out hg (by omega) LE_9.out.size)); clear H3_9 HK2_9 H6_9 LE_9 hn hg))
  refine ret_ctt Try.results34 (InCell.mk' rfl H6_10.out Try.underlying38 rfl (by kernel_rfl)) rfl rfl ?_
  rw [HR.out]
  exact ⟨kb, ko, ck2, by rw [(HS.out _).2]; rfl, HK2_10.out, by have := HKB.out; omega, LE_10.out.out⟩

/-- what Take leaves -/
def TakeQ (d : Dn) (p : Pk) (Kl : Kp) (kv : Value) (w : World) (r : Dn × Option (List UInt8) × Bool) (e : Ending) (w' : World) : Prop :=
  ∃ kv' K', e = .returned (.tuple #[rdV r.1 kv', .string (str (r.2.1.getD [])), .bool r.2.1.isSome, .bool r.2.2]) ∧ RSl 2 REn w' K' kv' ∧
    ((r.2.1 = none ∧ r.1.st = d.st ∧ K' = Kl ∧ kv' = kv) ∨ ∃ n : Nm, n.Ok ∧ r.2.1 = some (p.renum n d.ssrc).out ∧ r.1.st = d.st.add n.seq (p.renum n d.ssrc).out ∧ K' = kAdd Kl d.st.room n.seq (p.renum n d.ssrc).out ∧ ∃ b off c, kv' = .slice (some ⟨b, off, none⟩) K'.length c ∧ w.heap.size ≤ b) ∧ Below w.heap.size w w'

set_option maxRecDepth 100000 in
set_option maxHeartbeats 8000000 in
theorem r14take_mute (d : Dn) (p : Pk) (Kl : Kp) (K : Option Addr) (ck : Nat) (A5 A6 : Option Addr) (c5 c6 : Nat) (f l : Int) (x : Wnt) (hl : IntKind.i64.wrap ((d.left : Int) + 1) = (d.left : Int) + 1) (w : World) (hk : Hd (RSl 2 REn w Kl (.slice K Kl.length ck))) :
    Calls Try.prog 14 #[rdV d (.slice K Kl.length ck), P06 p (.slice A5 p.csrc.length c5) (.slice A6 p.exts.length c6), .int .i64 f, .int .i64 l, x.val, .bool true] w (TakeQ d p Kl (.slice K Kl.length ck) w (d.mute, none, false)) := by
  obtain ⟨R, hR⟩ : ∃ R, R = TakeQ d p Kl (.slice K Kl.length ck) w (d.mute, none, false) := ⟨_, rfl⟩
  rw [← hR]
  have HR := hide hR
  clear hR
  simp only [rdV, P06, Wnt.val]
  obtain ⟨w1, hw1⟩ : ∃ w1, w1 = ((((w.alloc (.cells #[.int .u32 d.ssrc, .int .i64 d.st.room, .bool d.pick.on, .int .i64 d.pick.src, .int .i64 d.pick.layer, .int .i64 d.pick.tid, .bool d.nums.on, .int .i64 d.nums.high, .int .i64 d.nums.since, .int .i64 d.nums.off.seq, .int .i64 d.nums.off.time, .int .i64 d.nums.off.pic, .int .i64 d.nums.off.tl0, .int .i64 d.nums.out.seq, .int .i64 d.nums.out.time, .int .i64 d.nums.out.pic, .int .i64 d.nums.out.tl0, .slice K Kl.length ck, .int .i64 d.sent, .int .i64 d.left, .int .i64 d.dropped, .int .i64 d.late, .int .i64 d.bad] 38)).alloc (.cells #[.bool p.mark, .int .u8 p.type, .int .u16 p.seq, .int .u32 p.time, .int .u32 p.ssrc, .slice A5 p.csrc.length c5, .slice A6 p.exts.length c6, .string (str p.payload), .int .i64 p.pad] 57)).alloc (.cells #[.int .i64 x.src, .int .i64 x.layer, .int .i64 x.tid] 59)).alloc (.cells #[.int .u32 0, .int .i64 0, .bool false, .int .i64 0, .int .i64 0, .int .i64 0, .bool false, .int .i64 0, .int .i64 0, .int .i64 0, .int .i64 0, .int .i64 0, .int .i64 0, .int .i64 0, .int .i64 0, .int .i64 0, .int .i64 0, .slice none 0 0, .int .i64 0, .int .i64 0, .int .i64 0, .int .i64 0, .int .i64 0] 38)) := ⟨_, rfl⟩
  have LE := hide (show Le w w1 from by rw [hw1]; exact (((((Le.refl w).alloc _).alloc _).alloc _).alloc _))
  have H6 := hide (show w1.heap[w.heap.size]? = some (.cells #[.int .u32 d.ssrc, .int .i64 d.st.room, .bool d.pick.on, .int .i64 d.pick.src, .int .i64 d.pick.layer, .int .i64 d.pick.tid, .bool d.nums.on, .int .i64 d.nums.high, .int .i64 d.nums.since, .int .i64 d.nums.off.seq, .int .i64 d.nums.off.time, .int .i64 d.nums.off.pic, .int .i64 d.nums.off.tl0, .int .i64 d.nums.out.seq, .int .i64 d.nums.out.time, .int .i64 d.nums.out.pic, .int .i64 d.nums.out.tl0, .slice K Kl.length ck, .int .i64 d.sent, .int .i64 d.left, .int .i64 d.dropped, .int .i64 d.late, .int .i64 d.bad] 38 (0, 0)) from by rw [hw1]; exact heap_alloc (heap_alloc (heap_alloc (heap_alloc_new w _))))
  have H7 := hide (show w1.heap[w.heap.size + 1]? = some (.cells #[.bool p.mark, .int .u8 p.type, .int .u16 p.seq, .int .u32 p.time, .int .u32 p.ssrc, .slice A5 p.csrc.length c5, .slice A6 p.exts.length c6, .string (str p.payload), .int .i64 p.pad] 57 (0, 0)) from by rw [hw1]; exact heap_alloc (heap_alloc (heap_at (by simp))))
  have H10 := hide (show w1.heap[w.heap.size + 1 + 1]? = some (.cells #[.int .i64 x.src, .int .i64 x.layer, .int .i64 x.tid] 59 (0, 0)) from by rw [hw1]; exact heap_alloc (heap_at (by simp)))
  have H12 := hide (show w1.heap[w.heap.size + 1 + 1 + 1]? = some (.cells #[.int .u32 0, .int .i64 0, .bool false, .int .i64 0, .int .i64 0, .int .i64 0, .bool false, .int .i64 0, .int .i64 0, .int .i64 0, .int .i64 0, .int .i64 0, .int .i64 0, .int .i64 0, .int .i64 0, .int .i64 0, .int .i64 0, .slice none 0 0, .int .i64 0, .int .i64 0, .int .i64 0, .int .i64 0, .int .i64 0] 38 (0, 0)) from by rw [hw1]; exact heap_at (by simp))
  go_enter Try.func14, Try.ntmps14
  go_upto_region 1 with fail
  rw [← hw1]
  clear hw1
  go_wp2_with (first | (refine wpl_store_1 rfl 4 (.tmp 41) (.const (.bool false)) rfl [.int .u32 d.ssrc, .int .i64 d.st.room] (v := .bool false) (old := .bool d.pick.on) (post := [.int .i64 d.pick.src, .int .i64 d.pick.layer, .int .i64 d.pick.tid, .bool d.nums.on, .int .i64 d.nums.high, .int .i64 d.nums.since, .int .i64 d.nums.off.seq, .int .i64 d.nums.off.time, .int .i64 d.nums.off.pic, .int .i64 d.nums.off.tl0, .int .i64 d.nums.out.seq, .int .i64 d.nums.out.time, .int .i64 d.nums.out.pic, .int .i64 d.nums.out.tl0, .slice K Kl.length ck, .int .i64 d.sent, .int .i64 d.left, .int .i64 d.dropped, .int .i64 d.late, .int .i64 d.bad]) rfl rfl (by kernel_rfl) rfl H6.out ?_; intro w2 hn hg; have H12_1 := hide (heap_grown hg H12.out (by simp <;> omega)); have H6_1 := hide hn; have LE_1 := hide (Le.mk (below_row LE.out.out hg (by omega) LE.out.size)); clear H7 H10 H12 H6 LE hn hg; have kc1 := box_cell H6_1.out 19 (.int .i64 d.left) rfl w2 (Le.refl _)) | (refine wpl_store_1 rfl 3 (.tmp 47) (.tmp 45) rfl [.int .u32 d.ssrc, .int .i64 d.st.room, .bool false, .int .i64 d.pick.src, .int .i64 d.pick.layer, .int .i64 d.pick.tid, .bool d.nums.on, .int .i64 d.nums.high, .int .i64 d.nums.since, .int .i64 d.nums.off.seq, .int .i64 d.nums.off.time, .int .i64 d.nums.off.pic, .int .i64 d.nums.off.tl0, .int .i64 d.nums.out.seq, .int .i64 d.nums.out.time, .int .i64 d.nums.out.pic, .int .i64 d.nums.out.tl0, .slice K Kl.length ck, .int .i64 d.sent] (v := .int .i64 ((d.left : Int) + 1)) (old := .int .i64 d.left) (post := [.int .i64 d.dropped, .int .i64 d.late, .int .i64 d.bad]) rfl rfl (by kernel_rfl) rfl H6_1.out ?_; intro w3 hn hg; have H12_2 := hide (heap_grown hg H12_1.out (by simp <;> omega)); have H6_2 := hide hn; have LE_2 := hide (Le.mk (below_row LE_1.out.out hg (by omega) LE_1.out.size)); clear kc1 H12_1 H6_1 LE_1 hn hg) | (refine wpl_load_blk rfl 38 (.tmp 6) rfl (cs := [.int .u32 d.ssrc, .int .i64 d.st.room, .bool false, .int .i64 d.pick.src, .int .i64 d.pick.layer, .int .i64 d.pick.tid, .bool d.nums.on, .int .i64 d.nums.high, .int .i64 d.nums.since, .int .i64 d.nums.off.seq, .int .i64 d.nums.off.time, .int .i64 d.nums.off.pic, .int .i64 d.nums.off.tl0, .int .i64 d.nums.out.seq, .int .i64 d.nums.out.time, .int .i64 d.nums.out.pic, .int .i64 d.nums.out.tl0, .slice K Kl.length ck, .int .i64 d.sent, .int .i64 ((d.left : Int) + 1), .int .i64 d.dropped, .int .i64 d.late, .int .i64 d.bad]) _ rfl Try.underlying38 rfl (by kernel_rfl) H6_2.out ?_) | (refine wpl_store_blk rfl 38 (.tmp 12) (.tmp 48) (cs := [.int .u32 d.ssrc, .int .i64 d.st.room, .bool false, .int .i64 d.pick.src, .int .i64 d.pick.layer, .int .i64 d.pick.tid, .bool d.nums.on, .int .i64 d.nums.high, .int .i64 d.nums.since, .int .i64 d.nums.off.seq, .int .i64 d.nums.off.time, .int .i64 d.nums.off.pic, .int .i64 d.nums.off.tl0, .int .i64 d.nums.out.seq, .int .i64 d.nums.out.time, .int .i64 d.nums.out.pic, .int .i64 d.nums.out.tl0, .slice K Kl.length ck, .int .i64 d.sent, .int .i64 ((d.left : Int) + 1), .int .i64 d.dropped, .int .i64 d.late, .int .i64 d.bad]) rfl rfl rfl (by kernel_rfl) (by simp [Value.oneCell']) H12_2.out rfl ?_; intro w4 hn hg; have H12_3 := hide hn; have LE_3 := hide (Le.mk (below_row LE_2.out.out hg (by omega) LE_2.out.size)); clear H6_2 H12_2 LE_2 hn hg))
  refine ret_cttt Try.results14 (InCell.mk' rfl H12_3.out Try.underlying38 rfl (by kernel_rfl)) rfl rfl rfl ?_
  rw [HR.out]
  exact ⟨.slice K Kl.length ck, Kl, rfl, LE_3.out.rsl keeps_en hk.out, .inl ⟨rfl, rfl, rfl, rfl⟩, LE_3.out.out⟩
end Go.Proofs.Ytekioihjfggmdaa

/- louverlaw14.exts: items as the reference has them. -/
namespace Go.Proofs.Ytekioihjfggmdaa
open Go.RowKit
set_option linter.unusedVariables false

set_option maxRecDepth 100000 in
set_option maxHeartbeats 2000000 in
theorem exts14_any (l : List It) (A : Option Addr) (n cap : Nat) (w : World) (hr : RSl 2 RItem w l (.slice A n cap)) (hl : l.length ≤ 100000) :
    Calls Try.prog 36 #[.slice A n cap] w fun e w' => ∃ A' cap', e = .returned (.slice A' l.length cap') ∧ w'.ownsRow w.heap.size 165 2 (.slice A' l.length cap') l.length (l.flatMap encR) ∧ Below w.heap.size w w' := by
  have HR := hide hr
  obtain ⟨A', cap', hv, hcap, hi⟩ := hr
  injection hv with e1 e2 e3
  subst e1 e2 e3
  have HI := hide hi
  clear hi
  go_enter Try.func36, Try.ntmps36
  go_wp2_with fail
  go_loopw [3, 4] (fun v j wr => ∃ k : Nat, k ≤ l.length ∧ j = .int .i64 k ∧ Hd (wr.ownsRow w.heap.size 165 2 v k ((l.take k).flatMap encR)) ∧ Le w wr) (fun _ j _ => l.length - (intOf j).toNat)
  case atStart => exact ⟨0, Nat.zero_le _, rfl, hide (World.ownsRow_nil _ _ _ _), Le.refl _⟩
  case round =>
    obtain ⟨k, hk, rfl, HO, hle⟩ := hrel
    obtain ⟨A2, cap2, rfl, _, _⟩ := own_slice HO.out
    by_cases hlt : k < l.length
    · obtain ⟨b, off, rfl, hg⟩ := HI.out (by rintro rfl; simp at hlt)
      obtain ⟨cs, _, hc, v, hcs, hv⟩ := hg k hlt
      subst hcs
      obtain ⟨A1, cp1, hv1, _⟩ := id hv
      subst hv1
      have c0 := hle.cell (show w.cell? ⟨b, off + k * 2, none⟩ = some (.int .u8 (l[k].1.toNat : Nat)) from hc 0 (by omega))
      have c1 := hle.cell (show w.cell? ⟨b, off + k * 2 + 1, none⟩ = some (.slice A1 l[k].2.length cp1) from hc 1 (by omega))
      have hdk := hle.rsl keeps_u8 hv
      have HT := hide (show (l.take (k + 1)).flatMap encR = (l.take k).flatMap encR ++ encR l[k] by rw [List.take_succ_eq_append_getElem hlt, List.flatMap_append]; simp)
      generalize l[k] = x at *
      obtain ⟨xi, xd⟩ := x
      simp only at c0 c1 hdk
      clear hc hg hv
      have hltI : (k : Int) < (l.length : Int) := by omega
      have h0I : (0 : Int) ≤ (k : Int) := by omega
      have C0 : ∀ W, Le wr W → W.cell? ⟨b, off + k * 2, none⟩ = some (.int .u8 (xi.toNat : Nat)) := fun W h => h.cell c0
      have C1 : ∀ W, Le wr W → W.cell? ⟨b, off + k * 2 + 1, none⟩ = some (.slice A1 xd.length cp1) := fun W h => h.cell c1
      have hle0 := (Le.refl wr).drew
      have HLE := hide hle
      clear hle c0 c1
      go_wp2_with fail
      refine' wp_region_tail 14 14 11 Le (Is _ :: Is _ :: Is _ :: Is _ :: Is _ :: Is _ :: Is _ :: Is _ :: Is _ :: Is _ :: Is _ :: Is _ :: Is _ :: (fun v w => ∃ g : Nat, v = .slice (some ⟨g, 0, none⟩) 1 1 ∧ w.heap[g]? = some (.cells #[.int .u8 (xi.toNat : Nat), .string (str xd)] 165 (0, 0))) :: []) ([] :: [] :: [] :: [1, 2] :: [3] :: [4] :: [] :: [] :: [6, 7] :: [8] :: [9] :: [10] :: [5, 11] :: [12] :: []) (by kernel_rfl) (by kernel_rfl) rfl (by kernel_rfl) (by kernel_rfl) Le.refl (fun _ _ _ h h' => h.trans h') ⟨St.is, St.is, St.is, St.is, St.is, St.is, St.is, St.is, St.is, St.is, St.is, St.is, St.is, fun v w w' h ⟨g, e1, e2⟩ => ⟨g, e1, h.heap e2⟩, trivial⟩ ?m5
      case m5 =>
        simp (maxSteps := 100000000) only [AllV, Obl2, Leans, factAt, allFacts, actOf, putAll, putRow, List.set_cons_succ, List.set_cons_zero, List.getElem?_cons_zero, List.getElem?_cons_succ, List.take_succ_cons, List.take_zero, List.drop_succ_cons, List.drop_zero, List.cons_append, List.nil_append, List.length_cons, List.length_nil, Nat.reduceAdd]
        intro x0 x1 x2 x3 x4 x5 x6 x7 x8 x9 x10 x11 x12 x13
        refine ⟨⟨?_, ?_, ?_, ?_, ?_, ?_, ?_, ?_, ?_, ?_, ?_, ?_, ?_, ?_, trivial⟩, ?_⟩
        -- 0: 11 := Op.move t3
        · intro w hw  K hK; have hlw := hle0.trans hw; go_simp; exact hK _ _ (Le.refl _) (Is.mk _ _)
        -- 1: 12 := Op.move t0
        · intro w hw  K hK; have hlw := hle0.trans hw; go_simp; exact hK _ _ (Le.refl _) (Is.mk _ _)
        -- 2: 13 := Op.move t4
        · intro w hw  K hK; have hlw := hle0.trans hw; go_simp; exact hK _ _ (Le.refl _) (Is.mk _ _)
        -- 3: 14 := Op.indexAddr 22 t12 t13
        · intro w hw h1 h2 K hK; have hlw := hle0.trans hw; cases h1; cases h2; go_simp; exact hK _ _ (Le.refl _) (Is.mk _ _)
        -- 4: 15 := Op.fieldAddr 46 t14 0
        · intro w hw h3 K hK; have hlw := hle0.trans hw; cases h3; go_simp; exact hK _ _ (Le.refl _) (Is.mk _ _)
        -- 5: 16 := Op.load 5 t15
        · intro w hw h4 K hK; have hlw := hle0.trans hw; cases h4; go_simp; exact hK _ _ (Le.refl _) (Is.mk _ _)
        -- 6: 17 := Op.move t0
        · intro w hw  K hK; have hlw := hle0.trans hw; go_simp; exact hK _ _ (Le.refl _) (Is.mk _ _)
        -- 7: 18 := Op.move t4
        · intro w hw  K hK; have hlw := hle0.trans hw; go_simp; exact hK _ _ (Le.refl _) (Is.mk _ _)
        -- 8: 19 := Op.indexAddr 22 t17 t18
        · intro w hw h6 h7 K hK; have hlw := hle0.trans hw; cases h6; cases h7; go_simp; exact hK _ _ (Le.refl _) (Is.mk _ _)
        -- 9: 20 := Op.fieldAddr 46 t19 1
        · intro w hw h8 K hK; have hlw := hle0.trans hw; cases h8; go_simp; exact hK _ _ (Le.refl _) (Is.mk _ _)
        -- 10: 21 := Op.load 26 t20
        · intro w hw h9 K hK; have hlw := hle0.trans hw; cases h9; go_simp; exact hK _ _ (Le.refl _) (Is.mk _ _)
        -- 11: 22 := Op.convert 26 9 t21
        · intro w hw h10 K hK; have hlw := hle0.trans hw; cases h10; have hc := conv_le hdk _ ((hle0.trans hw)); go_simp; exact hK _ _ (Le.refl _) (Is.mk _ _)
        -- 12: 23 := Op.build 42 #[(0, t16), (1, t22)]
        · intro w hw h5 h11 K hK; have hlw := hle0.trans hw; cases h5; cases h11; go_simp; exact hK _ _ (Le.refl _) (Is.mk _ _)
        -- 13: 24 := Op.buildSlice 32 1 #[(0, t23)]
        · intro w hw h12 K hK; have hlw := hle0.trans hw; cases h12; go_simp; exact hK _ _ ((Le.refl _).alloc _) ⟨_, rfl, heap_alloc_new _ _⟩
        · intro wz hz h0 h1 h2 h3 h4 h5 h6 h7 h8 h9 h10 h11 h12 h13; cases h0; cases h1; cases h2; cases h3; cases h4; cases h5; cases h6; cases h7; cases h8; cases h9; cases h10; cases h11; cases h12; obtain ⟨g, rfl, hg⟩ := h13; skip
          clear C0 C1
          have hz2 : Le wr wz := hle0.trans hz
          have HZ := hide (HLE.out.trans hz2)
          have HOZ := hide (hz2.own HO.out)
          have hcz : Cells wz (some ⟨g, 0, none⟩) (encR (xi, xd)) := fun _ => ⟨g, 0, rfl, fun j u hu => by rw [Nat.zero_add, cell_block hg]; simpa [encR] using hu⟩
          clear hz hz2
          go_wp2_with (at_builtin; go_must (refine wpl_app rfl slRI (.tmp 11) (.tmp 24) rfl HOZ.out rfl rfl hcz rfl (by simp [encR, Value.oneCell']) (by omega) (by omega) HZ.out.size ?_); intro v5 w5 ho5 hg5 hat5; have HO5 := hide ho5; have hb5 := below_grown HZ.out.out HOZ.out hg5 (Nat.le_refl _) HZ.out.size; clear ho5 hg5 hat5)
          go_roundw
          case rel => exact ⟨k + 1, by omega, by go_num, hide (by rw [HT.out]; exact HO5.out), ⟨hb5⟩⟩
          case measure => simp [intOf]; omega
    · have hltI : ¬ (k : Int) < (l.length : Int) := by omega
      obtain rfl : k = l.length := by omega
      have HO2 := HO.out
      rw [List.take_length] at HO2
      have HO3 := hide HO2
      clear HO2 HO
      go_wp2_with fail
      go_ret
      exact ⟨A2, cap2, rfl, HO3.out, hle.out⟩
end Go.Proofs.Ytekioihjfggmdaa

/- louverlaw14.of: a packet as the reference has it. -/
namespace Go.Proofs.Ytekioihjfggmdaa
open Go.RowKit
set_option linter.unusedVariables false

set_option maxRecDepth 100000 in
set_option maxHeartbeats 2000000 in
theorem of14_any (p : Pk) (hp : p.Ok) (v5 v6 v7 : Value) (w : World) (hP : PkAt w p v5 v6 v7) :
    Calls Try.prog 15 #[p.val v5 v6 v7] w (fun e w' => ∃ v6', e = .returned (.agg #[.bool p.mark, .int .u8 p.type, .int .u16 p.seq, .int .u32 p.time, .int .u32 p.ssrc, v5, v6', .string (str p.payload), .int .i64 p.pad]) ∧ RSl 2 RI w' p.exts v6' ∧ Below w.heap.size w w') := by
  obtain ⟨A5, c5, rfl, _, _⟩ := id hP.csrc
  obtain ⟨A6, c6, rfl, _, _⟩ := id hP.exts
  obtain ⟨A7, c7, rfl, _, _⟩ := id hP.payload
  have HX := hide (fun W (hW : Le w W) => exts14_any p.exts A6 p.exts.length c6 W (hW.rsl keeps_item hP.exts) hp.ne)
  have HC := hide (fun W (hW : Le w W) => conv_le hP.payload W hW)
  clear hP hp
  rw [Pk.val]
  go_enter Try.func15, Try.ntmps15
  go_upto_region 1 with fail
  have HB := hide (show ((w.alloc (.cells #[.bool p.mark, .int .u8 p.type, .int .u16 p.seq, .int .u32 p.time, .int .u32 p.ssrc, .slice A5 p.csrc.length c5, .slice A6 p.exts.length c6, .slice A7 p.payload.length c7, .int .i64 p.pad] 46)).alloc (.cells #[.bool false, .int .u8 0, .int .u16 0, .int .u32 0, .int .u32 0, .slice none 0 0, .slice none 0 0, .string ⟨#[]⟩, .int .i64 0] 57)).drew.heap[w.heap.size]? = some (.cells #[.bool p.mark, .int .u8 p.type, .int .u16 p.seq, .int .u32 p.time, .int .u32 p.ssrc, .slice A5 p.csrc.length c5, .slice A6 p.exts.length c6, .slice A7 p.payload.length c7, .int .i64 p.pad] 46 (0, 0)) from heap_alloc (heap_alloc_new w _))
  have HB2 := hide (show ((w.alloc (.cells #[.bool p.mark, .int .u8 p.type, .int .u16 p.seq, .int .u32 p.time, .int .u32 p.ssrc, .slice A5 p.csrc.length c5, .slice A6 p.exts.length c6, .slice A7 p.payload.length c7, .int .i64 p.pad] 46)).alloc (.cells #[.bool false, .int .u8 0, .int .u16 0, .int .u32 0, .int .u32 0, .slice none 0 0, .slice none 0 0, .string ⟨#[]⟩, .int .i64 0] 57)).drew.heap[w.heap.size + 1]? = some (.cells #[.bool false, .int .u8 0, .int .u16 0, .int .u32 0, .int .u32 0, .slice none 0 0, .slice none 0 0, .string ⟨#[]⟩, .int .i64 0] 57 (0, 0)) from heap_at (by simp))
  have HL0 := hide ((((Le.refl w).alloc (.cells #[.bool p.mark, .int .u8 p.type, .int .u16 p.seq, .int .u32 p.time, .int .u32 p.ssrc, .slice A5 p.csrc.length c5, .slice A6 p.exts.length c6, .slice A7 p.payload.length c7, .int .i64 p.pad] 46)).alloc (.cells #[.bool false, .int .u8 0, .int .u16 0, .int .u32 0, .int .u32 0, .slice none 0 0, .slice none 0 0, .string ⟨#[]⟩, .int .i64 0] 57)).drew)
  go_wp2_with fail
  refine' wp_region_tailD 27 27 3 Le (IsD _ :: IsD _ :: IsD _ :: IsD _ :: IsD _ :: IsD _ :: IsD _ :: IsD _ :: IsD _ :: IsD _ :: IsD _ :: IsD _ :: IsD _ :: IsD _ :: IsD _ :: IsD _ :: IsD _ :: IsD _ :: IsD _ :: IsD _ :: IsD _ :: (fun _ v W => ∃ A' c', v = .slice A' p.exts.length c' ∧ W.ownsRow w.heap.size 165 2 (.slice A' p.exts.length c') p.exts.length (p.exts.flatMap encR)) :: IsD _ :: IsD _ :: IsD _ :: IsD _ :: IsD _ :: []) ([] :: [0] :: [1] :: [] :: [3] :: [4] :: [] :: [6] :: [7] :: [] :: [9] :: [10] :: [] :: [12] :: [13] :: [] :: [15] :: [16] :: [] :: [18] :: [19] :: [20] :: [] :: [22] :: [23] :: [] :: [25] :: []) (by kernel_rfl) (by kernel_rfl) (by rfl) (by kernel_rfl) (by kernel_rfl) Le.refl (fun _ _ _ h h' => h.trans h') ⟨StD.is, StD.is, StD.is, StD.is, StD.is, StD.is, StD.is, StD.is, StD.is, StD.is, StD.is, StD.is, StD.is, StD.is, StD.is, StD.is, StD.is, StD.is, StD.is, StD.is, StD.is, (fun _ _ _ _ hr h => by obtain ⟨A', c', e, h⟩ := h; exact ⟨A', c', e, hr.own h⟩), StD.is, StD.is, StD.is, StD.is, StD.is, trivial⟩ ?m1
  case m1 =>
    simp (maxSteps := 100000000) only [AllV, OblD, LeansD, factAtD, allFactsD, depV, actOf, putAll, putRow, List.set_cons_succ, List.set_cons_zero, List.map_cons, List.getElem?_cons_zero, List.getElem?_cons_succ, Option.getD_some, List.map_nil, List.take_succ_cons, List.take_zero, List.drop_succ_cons, List.drop_zero, List.cons_append, List.nil_append, List.length_cons, List.length_nil, Nat.reduceAdd]
    intro x0 x1 x2 x3 x4 x5 x6 x7 x8 x9 x10 x11 x12 x13 x14 x15 x16 x17 x18 x19 x20 x21 x22 x23 x24 x25 x26
    refine ⟨⟨?_, ?_, ?_, ?_, ?_, ?_, ?_, ?_, ?_, ?_, ?_, ?_, ?_, ?_, ?_, ?_, ?_, ?_, ?_, ?_, ?_, ?_, ?_, ?_, ?_, ?_, ?_, trivial⟩, ?_⟩
    -- 0: 3 := Op.fieldAddr 46 t1 0
    · intro w hw  K hK; go_simp; exact hK _ _ (Le.refl _) (IsD.mk _ _ _)
    -- 1: 4 := Op.fieldAddr 43 t3 0
    · intro w hw h0 K hK; cases h0; go_simp; exact hK _ _ (Le.refl _) (IsD.mk _ _ _)
    -- 2: 5 := Op.load 4 t4
    · intro w hw h1 K hK; cases h1; have hle := HL0.out.trans hw; have k0 := box_cell (hw.heap HB.out) 0 _ rfl w (Le.refl _); go_simp; exact hK _ _ (Le.refl _) (IsD.mk _ _ _)
    -- 3: 6 := Op.fieldAddr 46 t1 0
    · intro w hw  K hK; go_simp; exact hK _ _ (Le.refl _) (IsD.mk _ _ _)
    -- 4: 7 := Op.fieldAddr 43 t6 1
    · intro w hw h3 K hK; cases h3; go_simp; exact hK _ _ (Le.refl _) (IsD.mk _ _ _)
    -- 5: 8 := Op.load 5 t7
    · intro w hw h4 K hK; cases h4; have hle := HL0.out.trans hw; have k0 := box_cell (hw.heap HB.out) 1 _ rfl w (Le.refl _); go_simp; exact hK _ _ (Le.refl _) (IsD.mk _ _ _)
    -- 6: 9 := Op.fieldAddr 46 t1 0
    · intro w hw  K hK; go_simp; exact hK _ _ (Le.refl _) (IsD.mk _ _ _)
    -- 7: 10 := Op.fieldAddr 43 t9 2
    · intro w hw h6 K hK; cases h6; go_simp; exact hK _ _ (Le.refl _) (IsD.mk _ _ _)
    -- 8: 11 := Op.load 39 t10
    · intro w hw h7 K hK; cases h7; have hle := HL0.out.trans hw; have k0 := box_cell (hw.heap HB.out) 2 _ rfl w (Le.refl _); go_simp; exact hK _ _ (Le.refl _) (IsD.mk _ _ _)
    -- 9: 12 := Op.fieldAddr 46 t1 0
    · intro w hw  K hK; go_simp; exact hK _ _ (Le.refl _) (IsD.mk _ _ _)
    -- 10: 13 := Op.fieldAddr 43 t12 3
    · intro w hw h9 K hK; cases h9; go_simp; exact hK _ _ (Le.refl _) (IsD.mk _ _ _)
    -- 11: 14 := Op.load 22 t13
    · intro w hw h10 K hK; cases h10; have hle := HL0.out.trans hw; have k0 := box_cell (hw.heap HB.out) 3 _ rfl w (Le.refl _); go_simp; exact hK _ _ (Le.refl _) (IsD.mk _ _ _)
    -- 12: 15 := Op.fieldAddr 46 t1 0
    · intro w hw  K hK; go_simp; exact hK _ _ (Le.refl _) (IsD.mk _ _ _)
    -- 13: 16 := Op.fieldAddr 43 t15 4
    · intro w hw h12 K hK; cases h12; go_simp; exact hK _ _ (Le.refl _) (IsD.mk _ _ _)
    -- 14: 17 := Op.load 22 t16
    · intro w hw h13 K hK; cases h13; have hle := HL0.out.trans hw; have k0 := box_cell (hw.heap HB.out) 4 _ rfl w (Le.refl _); go_simp; exact hK _ _ (Le.refl _) (IsD.mk _ _ _)
    -- 15: 18 := Op.fieldAddr 46 t1 0
    · intro w hw  K hK; go_simp; exact hK _ _ (Le.refl _) (IsD.mk _ _ _)
    -- 16: 19 := Op.fieldAddr 43 t18 5
    · intro w hw h15 K hK; cases h15; go_simp; exact hK _ _ (Le.refl _) (IsD.mk _ _ _)
    -- 17: 20 := Op.load 40 t19
    · intro w hw h16 K hK; cases h16; have hle := HL0.out.trans hw; have k0 := box_cell (hw.heap HB.out) 5 _ rfl w (Le.refl _); go_simp; exact hK _ _ (Le.refl _) (IsD.mk _ _ _)
    -- 18: 21 := Op.fieldAddr 46 t1 0
    · intro w hw  K hK; go_simp; exact hK _ _ (Le.refl _) (IsD.mk _ _ _)
    -- 19: 22 := Op.fieldAddr 43 t21 6
    · intro w hw h18 K hK; cases h18; go_simp; exact hK _ _ (Le.refl _) (IsD.mk _ _ _)
    -- 20: 23 := Op.load 41 t22
    · intro w hw h19 K hK; cases h19; have hle := HL0.out.trans hw; have k0 := box_cell (hw.heap HB.out) 6 _ rfl w (Le.refl _); go_simp; exact hK _ _ (Le.refl _) (IsD.mk _ _ _)
    -- 21: 24 := Op.call { value (Operand.func 36), args := #[t23], argTypes := #[41] }
    · intro w hw h20 K hK; cases h20; have hle := HL0.out.trans hw; go_simp; refine (HX.out _ hle).mono ?_; rintro r w' ⟨A', c', rfl, hr', hb'⟩; exact hK _ _ ⟨hb'⟩ ⟨A', c', rfl, own_base hr' hle.size⟩
    -- 22: 25 := Op.fieldAddr 46 t1 1
    · intro w hw  K hK; go_simp; exact hK _ _ (Le.refl _) (IsD.mk _ _ _)
    -- 23: 26 := Op.load 44 t25
    · intro w hw h22 K hK; cases h22; have hle := HL0.out.trans hw; have k0 := box_cell (hw.heap HB.out) 7 _ rfl w (Le.refl _); go_simp; exact hK _ _ (Le.refl _) (IsD.mk _ _ _)
    -- 24: 27 := Op.convert 44 9 t26
    · intro w hw h23 K hK; cases h23; have hle := HL0.out.trans hw; have f1 := HC.out w hle; go_simp; exact hK _ _ (Le.refl _) (IsD.mk _ _ _)
    -- 25: 28 := Op.fieldAddr 46 t1 2
    · intro w hw  K hK; go_simp; exact hK _ _ (Le.refl _) (IsD.mk _ _ _)
    -- 26: 29 := Op.load 3 t28
    · intro w hw h25 K hK; cases h25; have hle := HL0.out.trans hw; have k0 := box_cell (hw.heap HB.out) 8 _ rfl w (Le.refl _); go_simp; exact hK _ _ (Le.refl _) (IsD.mk _ _ _)
    · intro wz hz h0 h1 h2 h3 h4 h5 h6 h7 h8 h9 h10 h11 h12 h13 h14 h15 h16 h17 h18 h19 h20 h21 h22 h23 h24 h25 h26; cases h0; cases h1; cases h2; cases h3; cases h4; cases h5; cases h6; cases h7; cases h8; cases h9; cases h10; cases h11; cases h12; cases h13; cases h14; cases h15; cases h16; cases h17; cases h18; cases h19; cases h20; obtain ⟨A', c', rfl, hr'⟩ := h21; cases h22; cases h23; cases h24; cases h25; cases h26; skip
      have HZ := hide (HL0.out.trans hz)
      have HRR := hide hr'
      clear hr'
      go_wp2_with (first | (refine wpl_store_blk rfl 57 (.tmp 2) (.tmp 30) (cs := [.bool p.mark, .int .u8 p.type, .int .u16 p.seq, .int .u32 p.time, .int .u32 p.ssrc, .slice A5 p.csrc.length c5, .slice A' p.exts.length c', .string (str p.payload), .int .i64 p.pad]) rfl rfl rfl (by kernel_rfl) (by simp [Value.oneCell']) (hz.heap HB2.out) rfl ?_; intro wq hn hg; have HQ := hide (And.intro hn hg); clear hn hg))
      have hq := HZ.out.boxed HQ.out.2 (by omega)
      refine bodyPost_ret (results_cell_row Try.results15 _ _ _ 57 _ (0, 0) _ rfl HQ.out.1 Try.underlying57 rfl (by kernel_rfl)) rfl ⟨_, rfl, ?_, hq.out⟩
      exact rsl_ri (HRR.out.kept HQ.out.2 (Or.inr (own_ne HRR.out (hz.heap HB2.out) (by decide))))
end Go.Proofs.Ytekioihjfggmdaa

/- DownCounts: the walk. -/
namespace Go.Proofs.Ytekioihjfggmdaa
open Go.RowKit
set_option linter.unusedVariables false

theorem fewS_at {l : List Stp} (h : fewS l = true) (k : Nat) (hk : k < l.length) : l[k].p.few = true := by
  rw [fewS, Bool.and_eq_true] at h
  exact List.all_eq_true.1 h.1 _ (List.getElem_mem hk)
theorem fewS_len {l : List Stp} (h : fewS l = true) : l.length ≤ 120 := by
  rw [fewS, Bool.and_eq_true] at h
  simpa using h.2
theorem step_range {w wr : World} {b o : Nat} {x : Stp} {v5 v6 v7 : Value} (hl : Le w wr) (hc : ∀ j, j < 15 → w.cell? ⟨b, o + j, none⟩ = (x.cells v5 v6 v7)[j]?) : wr.rangeAt b o (x.cells v5 v6 v7) := fun j v hj => by
  refine hl.cell ?_
  have h15 : j < 15 := by
    have := (List.getElem?_eq_some_iff.1 hj).1
    simpa [Stp.cells] using this
  rw [hc j h15, hj]

end Go.Proofs.Ytekioihjfggmdaa

/- A region whose order is open, in which one operation (the q-th: an append, a call) does more than the others: what it leaves stays over the others alone. -/
namespace Go.Proofs.Ytekioihjfggmdaa
open Go.RowKit
set_option linter.unusedVariables false

section
variable (q : Nat) (N S : World → World → Prop)
def StAllQ : Nat → List FactD → Prop
  | _, [] => True
  | i, φ :: φs => (∀ us v w w', (cond (i == q) N S) w w' → φ us v w → φ us v w') ∧ StAllQ (i + 1) φs
end
theorem StAllQ.use {q : Nat} {N S : World → World → Prop} : ∀ {Φ : List FactD} {i0 : Nat}, StAllQ q N S i0 Φ → ∀ k φ, Φ[k]? = some φ → ∀ us v w w', (cond (i0 + k == q) N S) w w' → φ us v w → φ us v w'
  | [], _, _, _, _, h, _, _, _, _, _, _ => by simp at h
  | φ :: φs, i0, h, 0, ψ, hm, us, v, w, w', hc, hp => by
    simp only [List.getElem?_cons_zero, Option.some.injEq] at hm
    subst hm
    exact h.1 us v w w' (by simpa using hc) hp
  | φ :: φs, i0, h, k + 1, ψ, hm, us, v, w, w', hc, hp => StAllQ.use h.2 k ψ (by simpa using hm) us v w w' (by rw [show i0 + 1 + k = i0 + (k + 1) by omega]; exact hc) hp
theorem StQ.is {i q : Nat} {N S : World → World → Prop} {c : Value} : ∀ us v w w', (cond (i == q) N S) w w' → IsD c us v w → IsD c us v w' := fun _ _ _ _ _ h => h
section
variable (q : Nat) (N S : World → World → Prop) (P : Program) (ops : Array Oper) (Q : Exit → Act → World → Prop) (w0 : World) (Φ : List FactD) (dsA : List (List Nat)) (A : List Value → Act) (vs : List Value)
def OblQ : Nat → List Oper → List FactD → List (List Nat) → Prop
  | i, o :: os, φ :: φs, d :: ds => (∀ w, (cond (i == q) N S) w0 w → LeansD Φ dsA vs w d (∀ K : Act → World → Prop, (∀ v w', (cond (i == q) S N) w w' → φ (depV d vs) v w' → K (A (vs.set i v)) w') →
      if Region.wanted o (yielded ops (A vs).tmps) = true then o.wp P (A vs) w K Q else K (A (vs.set i undef)) w)) ∧ OblQ (i + 1) os φs ds
  | _, _, _, _ => True
end
theorem OblQ.use {q N S P ops Q w0 Φ dsA A vs} : ∀ {os : List Oper} {n : Nat} {φs : List FactD} {ds : List (List Nat)}, OblQ q N S P ops Q w0 Φ dsA A vs n os φs ds → ∀ (i : Nat) (o : Oper) (φ : FactD) (d : List Nat), os[i]? = some o → φs[i]? = some φ → ds[i]? = some d →
    ∀ w, (cond (n + i == q) N S) w0 w → LeansD Φ dsA vs w d (∀ K : Act → World → Prop, (∀ v w', (cond (n + i == q) S N) w w' → φ (depV d vs) v w' → K (A (vs.set (n + i) v)) w') →
      if Region.wanted o (yielded ops (A vs).tmps) = true then o.wp P (A vs) w K Q else K (A (vs.set (n + i) undef)) w)
  | o :: os, n, φ :: φs, d :: ds, h, 0, o', φ', d', ho, hφ, hd => by
    simp only [List.getElem?_cons_zero, Option.some.injEq] at ho hφ hd
    subst ho hφ hd
    exact h.1
  | o :: os, n, φ :: φs, d :: ds, h, i + 1, o', φ', d', ho, hφ, hd => by
    have := OblQ.use h.2 i o' φ' d' (by simpa using ho) (by simpa using hφ) (by simpa using hd)
    rw [show n + 1 + i = n + (i + 1) by omega] at this
    exact this
  | [], _, _, _, _, _, _, _, _, ho, _, _ => by simp at ho
  | _ :: _, _, [], _, _, _, _, _, _, _, hφ, _ => by simp at hφ
  | _ :: _, _, _ :: _, [], _, _, _, _, _, _, _, hd => by simp at hd

section
variable {P : Program} {Q : Exit → Act → World → Prop} {q : Nat} {N S : World → World → Prop} {Φ : List FactD} {ds : List (List Nat)} {a0 : Act} {w0 : World} {l : List Oper} {m : Nat}

/-- one step: what was known of what is listed stays -/
theorem facts_setQ {ops : Array Oper} {listed : Array Bool} {vs : List Value} {i : Nat} {v : Value} {w w' : World} {φ : FactD} {d : List Nat} {M : Nat} (hst : ∀ k φ', k ≠ i → Φ[k]? = some φ' → ∀ us v, φ' us v w → φ' us v w') (hφ : Φ[i]? = some φ) (hd : ds[i]? = some d) (hi : i < vs.length) 
    (hv : φ (depV d vs) v w') (hcl : Closed ops listed) (hnl : listed.getD i true = false) (hfw : ∀ j ∈ d, j ≠ i)
    (hdep : ∀ k dk, k < M → ds[k]? = some dk → listed.getD k false = true → ∀ j ∈ dk, listed.getD j false = true)
    (hf : ∀ k, k < M → listed.getD k false = true → factAtD Φ ds vs w k) : ∀ k, k < M → (listed.setIfInBounds i true).getD k false = true → factAtD Φ ds (vs.set i v) w' k := by
  intro k hkM hk
  by_cases hki : k = i
  · subst hki
    have hsv : (vs.set k v)[k]? = some v := List.getElem?_set_self hi
    rw [factAtD, hφ, hd, hsv]
    show φ (depV d (vs.set k v)) v w'
    rw [depV_set hfw]
    exact hv
  · rw [getD_set_ne false (fun e => hki e.symm)] at hk
    have h4 := hf k hkM hk
    have hsv : (vs.set i v)[k]? = vs[k]? := by simp [Ne.symm hki]
    unfold factAtD at h4 ⊢
    rw [hsv]
    cases hk1 : Φ[k]? with
    | none => trivial
    | some φ' =>
      cases hk3 : ds[k]? with
      | none => trivial
      | some dk =>
        cases hk2 : vs[k]? with
        | none => trivial
        | some u =>
          simp only [hk1, hk2, hk3] at h4 ⊢
          rw [depV_set (fun j hj e => by
            subst e
            have := hdep k dk hkM hk3 hk j hj
            rw [Array.getD_eq_getD_getElem?] at this hnl
            cases hh : listed[j]? with
            | none => rw [hh] at hnl; cases hnl
            | some b => rw [hh] at this hnl; simp at this hnl; rw [this] at hnl; cases hnl)]
          exact hst k φ' hki hk1 _ u h4

theorem wpAny_facts_tailQ {A : List Value → Act} (hA : ∀ vs : List Value, vs.length = (l.take m).length → A vs = putAll (l.take m) vs a0) (hok : regOk (l.take m).toArray ds = true) (hΦ : Φ.length = (l.take m).length) (htl : tailOk l.toArray m = true) (htrN : ∀ a b c, N a b → N b c → N a c) (htr : ∀ a b c, S a b → S b c → S a c) (hNS : ∀ a b, N a b → S a b) (hst : StAllQ q N S 0 Φ)
    (h : AllV (l.take m) fun vs => OblQ q N S P l.toArray Q w0 Φ ds A vs 0 (l.take m) Φ ds ∧ ∀ w, S w0 w → allFactsD w vs Φ ds vs (wpList P l.toArray Q (l.drop m) (A vs) w)) :
    ∀ (f : Nat) (listed : Array Bool) (a : Act) (w : World), HeadInv .any l.toArray m listed → Closed l.toArray listed → unl m listed = f → S w0 w → (listed.getD q false = false → N w0 w) →
      (∃ vs : List Value, vs.length = (l.take m).length ∧ a = A vs ∧ ∀ i, i < m → listed.getD i false = true → factAtD Φ ds vs w i) → wpAny P .any l.toArray Q (f + (l.toArray.size - m)) listed a w := by
  simp only [tailOk, Bool.and_eq_true, decide_eq_true_eq] at htl
  obtain ⟨⟨⟨hm, hsink⟩, hchain⟩, hseq⟩ := htl
  have hml : m < l.length := by simpa using hm
  have htk : (l.take m).length = m := by simp; omega
  have hget : ∀ i, i < m → (l.take m).toArray[i]? = l.toArray[i]? := fun i hi => by simp [hi]
  simp only [regOk, Bool.and_eq_true, beq_iff_eq, decide_eq_true_eq] at hok
  obtain ⟨⟨⟨hdl, hnd⟩, hfw⟩, hdp⟩ := hok
  have hsz : (l.take m).toArray.size = m := by simp; omega
  rw [hsz] at hfw hdp hdl
  have hnd : ((l.take m).filterMap (·.dst)).Nodup := by simpa using hnd
  have hready : ∀ (listed : Array Bool), HeadInv .any l.toArray m listed → (∃ i, i < m ∧ listed.getD i true = false) → Region.ready .any l.toArray listed ≠ [] := by
    rintro listed inv ⟨i, hi, hb⟩
    induction i using Nat.strongRecOn with
    | _ i ih =>
      by_cases hex : ∃ j, j < i ∧ listed.getD j true = false
      · obtain ⟨j, hj, hb'⟩ := hex
        exact ih j hj (by omega) hb'
      · have hin : i < l.toArray.size := by omega
        have hmem : i ∈ Region.ready .any l.toArray listed := by
          refine mem_ready.2 ⟨hb, l.toArray[i], by simp at hin; simp [hin], fun e he hbd => ?_⟩
          have h1 := List.all_eq_true.1 hfw i (by simpa using hi)
          rw [hget i hi, Array.getElem?_eq_getElem hin] at h1
          have h2 := Array.all_eq_true_iff_forall_mem.1 h1 e he
          simp only [hbd, Bool.not_true, Bool.false_or, decide_eq_true_eq] at h2
          cases hl : listed.getD e.on false with
          | true => rfl
          | false =>
            exact absurd ⟨e.on, h2, getD_in (by rw [inv.size]; omega) hl⟩ hex
        intro h0
        rw [h0] at hmem
        cases hmem
  -- what an operation's facts lean on are edges of it
  have hedge : ∀ k dk o, k < m → ds[k]? = some dk → l.toArray[k]? = some o → ∀ j ∈ dk, ∃ e ∈ o.after, Region.binds .any e = true ∧ e.on = j ∧ j < k := by
    intro k dk o hk hd ho j hj
    have h2 := List.all_eq_true.1 hdp k (by simpa using hk)
    rw [hget k hk, ho, hd] at h2
    simp only at h2
    have h3 := List.all_eq_true.1 h2 j hj
    obtain ⟨e, he, hb⟩ := Array.any_eq_true'.1 h3
    simp only [Bool.and_eq_true, beq_iff_eq] at hb
    have h4 := List.all_eq_true.1 hfw k (by simpa using hk)
    rw [hget k hk, ho] at h4
    have h5 := Array.all_eq_true_iff_forall_mem.1 h4 e he
    simp only [hb.1, Bool.not_true, Bool.false_or, decide_eq_true_eq] at h5
    exact ⟨e, he, hb.1, hb.2, by rw [← hb.2]; exact h5⟩
  intro f
  induction f with
  | zero =>
    intro listed a w inv hcl hu hw hwN ⟨vs, hl, ha, hf⟩
    subst ha
    have hall : ∀ i, i < m → listed.getD i false = true := fun i hi => by
      have hlt : i < listed.toList.length := by simp [inv.size]; simp at hm; omega
      have h0 := List.countP_eq_zero.1 hu (listed.toList[i]) (List.mem_of_getElem? (i := i) (by rw [List.getElem?_take_of_lt hi, List.getElem?_eq_getElem hlt]))
      simp at hlt
      simp [hlt] at h0 ⊢
      exact h0
    have hle : listed = (List.replicate m true ++ List.replicate (l.toArray.size - m) false).toArray := by
      apply Array.ext
      · rw [inv.size]; simp; omega
      · intro i h1 h2
        by_cases hi : i < m
        · have := hall i hi
          simp [h1] at this
          rw [this]
          simp [hi]
        · have := inv.tail i (by omega) (by rw [← inv.size]; exact h1)
          simp [h1] at this
          rw [this, List.getElem_toArray, List.getElem_append_right (by simp; omega)]
          simp
    have hq := ((h.use vs (by simpa using hl)).2 w hw).use (fun i φ d v h1 h2 h3 => by
      have hi : i < m := by have := (List.getElem?_eq_some_iff.1 h1).1; omega
      have := hf i hi (hall i hi)
      rw [factAtD, h1, h2, h3] at this
      exact this)
    have := wpAny_of_seq (md := .any) (Q' := Q) (ops := l.toArray) (l.drop m) m listed _ w (fun j => by simp [List.getElem?_drop]) (by rw [hle]; simpa using hseq) hq
    simpa using this
  | succ f ih =>
    intro listed a w inv hcl hu hw hwN ⟨vs, hl, ha, hf⟩
    subst ha
    have hex : ∃ i, i < m ∧ listed.getD i true = false := by
      have hp : 0 < (listed.toList.take m).countP (fun b => !b) := by unfold unl at hu; omega
      obtain ⟨b, hb, hbf⟩ := List.countP_pos_iff.1 hp
      obtain ⟨i, hi, rfl⟩ := List.getElem_of_mem hb
      simp only [List.length_take] at hi
      refine ⟨i, by omega, ?_⟩
      have hi2 : i < listed.size := by simp at hi; omega
      simp at hbf
      simp [hi2, hbf]
    rw [show f + 1 + (l.toArray.size - m) = (f + (l.toArray.size - m)) + 1 by omega]
    refine ⟨fun hr => absurd hr (hready listed inv hex), fun i hi => ?_⟩
    have him : i < m := by
      obtain ⟨i0, hi0, hb0⟩ := hex
      rcases Nat.lt_or_ge i m with h' | h'
      · exact h'
      · exact absurd hi (tail_waits hsink hchain hm inv _ i0 rfl hi0 hb0 i h')
    obtain ⟨h0, o, ho, hall⟩ := mem_ready.1 hi
    have hlt : i < listed.size := by rw [inv.size]; omega
    have ho' : (l.take m)[i]? = some o := by
      have := hget i him
      rw [ho] at this
      simpa using this
    obtain ⟨φ, hφ⟩ : ∃ φ, Φ[i]? = some φ := ⟨Φ[i]'(by omega), by simp⟩
    obtain ⟨d, hd⟩ : ∃ d, ds[i]? = some d := ⟨ds[i]'(by omega), by simp⟩
    have hO0 := (h.use vs (by simpa using hl)).1.use i o φ d ho' hφ hd w (by
      rw [Nat.zero_add]
      by_cases hiq : i = q
      · rw [show (i == q) = true by simpa using hiq]
        refine hwN ?_
        subst hiq
        rw [Array.getD_eq_getD_getElem?] at h0 ⊢
        cases hh : listed[i]? with
        | none => rw [hh] at h0; cases h0
        | some b => rw [hh] at h0; simpa using h0
      · rw [show (i == q) = false by simpa using hiq]
        exact hw)
    rw [Nat.zero_add] at hO0
    have hO := hO0.use (fun j hj => by
      obtain ⟨e, he, hb, hej, hlt⟩ := hedge i d o him hd ho j hj
      rw [← hej]
      exact hf _ (by omega) (hall e he hb))
    have e : ∀ v, A (vs.set i v) = (A vs).put o.dst v := fun v => by rw [hA _ (by simpa using hl), hA _ hl, putAll_set _ _ _ _ _ _ hnd (by simpa using hl) ho']
    refine wpOp_step ho fun K hK => ?_
    suffices hs : ∀ v w', (cond (i == q) S N) w w' → φ (depV d vs) v w' → K (A (vs.set i v)) w' by
      have := hO K hs
      rw [e] at this
      exact this
    intro v w' hR hv
    have hRS : S w w' := by
      by_cases hiq : i = q
      · rw [show (i == q) = true by simpa using hiq] at hR; exact hR
      · rw [show (i == q) = false by simpa using hiq] at hR; exact hNS _ _ hR
    rw [e]
    refine hK _ _ ?_
    rw [← e]
    refine ih _ _ _ (inv.set hi him) (hcl.set hlt ho hall) ?_ (htr _ _ _ hw hRS) ?_ ⟨vs.set i v, by simpa using hl, rfl, ?_⟩
    · have h1 : (listed.toList.take m)[i]? = some false := by
        rw [List.getElem?_take_of_lt him]
        simp [hlt] at h0 ⊢
        exact h0
      have := countP_set _ _ h1
      unfold unl at hu ⊢
      have e : (listed.setIfInBounds i true).toList.take m = (listed.toList.take m).set i true := by
        rw [← List.take_set]
        simp
      rw [e]
      omega
    · intro hq
      by_cases hiq : i = q
      · subst hiq
        simp [hlt] at hq
      · rw [getD_set_ne false hiq] at hq
        rw [show (i == q) = false by simpa using hiq] at hR
        exact htrN _ _ _ (hwN hq) hR
    · exact facts_setQ (M := m) (fun k φ' hki hk us v => by
          refine hst.use k φ' hk us v w w' ?_
          rw [Nat.zero_add]
          by_cases hkq : k = q
          · rw [show (k == q) = true by simpa using hkq]
            rw [show (i == q) = false by simpa using fun e => hki (hkq.trans e.symm)] at hR
            exact hR
          · rw [show (k == q) = false by simpa using hkq]
            exact hRS) hφ hd (by omega) hv hcl h0 (fun j hj => by obtain ⟨e, _, _, _, hlt⟩ := hedge i d o him hd ho j hj; omega)
        (fun k dk hk hdk hlk j hj => by
          obtain ⟨ok, hok⟩ : ∃ ok, l.toArray[k]? = some ok := ⟨l[k]'(by omega), by simp⟩
          obtain ⟨e, he, hb, hej, _⟩ := hedge k dk ok hk hdk hok j hj
          rw [← hej]
          exact hcl k ok hlk hok e he hb) hf

theorem wp_region_tailQ {id : Nat} (q m n k : Nat) (N S : World → World → Prop) (Φ : List FactD) (ds : List (List Nat)) (hm : P.follows .mixedOrders = true) (hok : regOk (l.take m).toArray ds = true) (hΦ : (Φ.length == (l.take m).length) = true) (htl : tailOk l.toArray m = true)
    (hrow : rowOk (l.take m) n k a0.tmps.size = true) (hrf : ∀ a, N a a) (htrN : ∀ a b c, N a b → N b c → N a c) (htr : ∀ a b c, S a b → S b c → S a c) (hNS : ∀ a b, N a b → S a b) (hst : StAllQ q N S 0 Φ)
    (h : AllV (l.take m) fun vs => OblQ q N S P l.toArray Q w0.drew Φ ds (actOf (l.take m) n k a0) vs 0 (l.take m) Φ ds ∧ ∀ w, S w0.drew w → allFactsD w vs Φ ds vs (wpList P l.toArray Q (l.drop m) (actOf (l.take m) n k a0 vs) w)) : (Code.region id l.toArray true).wp P Q a0 w0 := by
  refine wp_region_any hm ?_
  have hmt := htl
  simp only [tailOk, Bool.and_eq_true, decide_eq_true_eq] at hmt
  have hml : m < l.length := by simpa using hmt.1.1.1
  obtain ⟨vs, hl, he⟩ := putAll_self (l.take m) a0
  have inv0 : HeadInv .any l.toArray m (Array.replicate l.toArray.size false) :=
    ⟨by simp, fun j oj _ hl => (by rw [getD_replicate_false] at hl; cases hl), fun t _ ht => getD_in (by simpa using ht) (getD_replicate_false _ _)⟩
  have hu : unl m (Array.replicate l.toArray.size false) = m := by
    unfold unl
    rw [List.countP_eq_length.2 (fun b hb => by
      have := List.mem_of_mem_take hb
      simp at this
      rw [this.2]; rfl)]
    simp; omega
  have hA : ∀ vs : List Value, vs.length = (l.take m).length → actOf (l.take m) n k a0 vs = putAll (l.take m) vs a0 := fun vs hl => actOf_eq hrow hl
  have := wpAny_facts_tailQ (a0 := a0) (w0 := w0.drew) (Q := Q) (l := l) (m := m) hA hok (by simpa using hΦ) htl htrN htr hNS hst h
    m _ a0 w0.drew inv0 (fun k o hk => by rw [getD_replicate_false] at hk; cases hk) hu (hNS _ _ (hrf _)) (fun _ => hrf _) ⟨vs, hl, by rw [hA vs hl, he], fun i hi hb => by rw [getD_replicate_false] at hb; cases hb⟩
  rw [show m + (l.toArray.size - m) = l.toArray.size by simp; omega] at this
  exact this
end

/-- old blocks stay, but for a row's -/
structure Gr (row : Option Nat) (w w' : World) : Prop where
  out : w.grownBy w' row
theorem Gr.of_le {row : Option Nat} {w w' : World} (h : Le w w') : Gr row w w' := ⟨⟨h.out.os, h.out.tape, h.out.output, h.out.size, fun k hk _ => h.out.block k hk⟩⟩
theorem Gr.trans {row : Option Nat} {a b c : World} (h : Gr row a b) (h' : Gr row b c) : Gr row a c :=
  ⟨⟨h'.out.os.trans h.out.os, h'.out.tape.trans h.out.tape, h'.out.output.trans h.out.output, Nat.le_trans h.out.size h'.out.size, fun k hk hne => (h'.out.block k (Nat.lt_of_lt_of_le hk h.out.size) hne).trans (h.out.block k hk hne)⟩⟩
theorem Gr.heap {row : Option Nat} {w w' : World} (h : Gr row w w') {k : Nat} {o : Obj} (hk : w.heap[k]? = some o) (hne : row ≠ some k) : w'.heap[k]? = some o := heap_grown h.out hk hne
theorem Gr.size {row : Option Nat} {w w' : World} (h : Gr row w w') : w.heap.size ≤ w'.heap.size := h.out.size
end Go.Proofs.Ytekioihjfggmdaa

/- DownPlays: a step, in plain Lean. -/
namespace Go.Proofs.Ytekioihjfggmdaa
open Go.RowKit
set_option linter.unusedVariables false

theorem Dn.take_good {d : Dn} {p : Pk} {f l : Int} {x : Wnt} {mu : Bool} {b : List UInt8} (h : (d.take p f l x mu).2.1 = some b) : p.err = 0 ∧ vpE p.payload = 0 := by
  cases mu
  · simp only [Dn.take, Bool.false_eq_true, if_false] at h
    by_cases hb : vpE p.payload ≠ 0 ∨ p.err ≠ 0
    · rw [Dn.take1, if_pos hb] at h
      cases h
    · obtain ⟨hv, he⟩ := not_or.1 hb
      exact ⟨Classical.not_not.1 he, Classical.not_not.1 hv⟩
  · cases h
/-- what becomes of the rows that are kept -/
def KStep (d : Dn) (p : Pk) (Kl : Kp) (kv : Value) (B : Nat) (r : Dn × Option (List UInt8) × Bool) (K' : Kp) (kv' : Value) : Prop :=
  (r.2.1 = none ∧ r.1.st = d.st ∧ K' = Kl ∧ kv' = kv) ∨ ∃ n : Nm, n.Ok ∧ r.2.1 = some (p.renum n d.ssrc).out ∧ r.1.st = d.st.add n.seq (p.renum n d.ssrc).out ∧ K' = kAdd Kl d.st.room n.seq (p.renum n d.ssrc).out ∧ ∃ b off c, kv' = .slice (some ⟨b, off, none⟩) K'.length c ∧ B ≤ b
structure KIs (s : St) (N g : Nat) (ps : List Pk) (K : Kp) (kv : Value) : Prop where
  ag : Ag s ps
  room : s.room = N
  kept : K = kOf N ps
  ok : ∀ j, j < ps.length → (ps.getD j pZ).Ok
  far : ∀ b off n c, kv = .slice (some ⟨b, off, none⟩) n c → g < b
theorem KIs.step {d : Dn} {i N g B : Nat} {p : Pk} {f l : Int} {x : Wnt} {mu : Bool} {ps : List Pk} {K K' : Kp} {kv kv' : Value} (h : KIs d.st N g ps K kv) (hN : 0 < N) (hok : d.Ok i) (hp : p.Ok) (hB : g < B) (hs : KStep d p K kv B (d.take p f l x mu) K' kv') :
    ∃ ps', ps'.length ≤ ps.length + 1 ∧ KIs (d.take p f l x mu).1.st N g ps' K' kv' := by
  rcases hs with ⟨_, hst, rfl, rfl⟩ | ⟨n, hn, ho, hst, rfl, b, off, c, rfl, hb⟩
  · exact ⟨ps, by omega, by rw [hst]; exact h⟩
  · obtain ⟨he, hv⟩ := Dn.take_good ho
    have er := renum_err he hv n d.ssrc
    have eo : (p.renum n d.ssrc).out = (p.renum n d.ssrc).bytes := by rw [Pk.out, if_pos er]
    have hq : (p.renum n d.ssrc).Ok := Pk.renum_ok hp hn hok.ssrc
    have hqs : n.seq = (p.renum n d.ssrc).seq := rfl
    refine ⟨ps ++ [p.renum n d.ssrc], by simp, ?_⟩
    rw [hst, eo, hqs]
    refine ⟨h.ag.add _, h.room, ?_, fun j hj => ?_, fun b' off' n' c' e => ?_⟩
    · rw [h.room, h.kept]; exact kOf_add hN ps _
    · rcases Nat.lt_or_ge j ps.length with h1 | h1
      · rw [getD_snoc_lt _ _ _ h1]; exact h.ok j h1
      · obtain rfl : j = ps.length := by simp at hj; omega
        rw [getD_snoc_eq]; exact hq
    · injection e with e; injection e with e; injection e with e; omega
theorem KIs.len {s : St} {N g : Nat} {ps : List Pk} {K : Kp} {kv : Value} (h : KIs s N g ps K kv) : K.length ≤ N := by rw [h.kept, kOf_len]; omega
theorem KIs.seq {s : St} {N g : Nat} {ps : List Pk} {K : Kp} {kv : Value} (h : KIs s N g ps K kv) (i : Nat) (hi : i < K.length) : K[i].1 < 65536 := by
  have e := List.getElem?_eq_getElem hi
  obtain ⟨K0, hK⟩ : ∃ K0, K0 = K[i] := ⟨_, rfl⟩
  rw [← hK] at e ⊢
  have e2 : (kOf N ps)[i]? = some K0 := by rw [← h.kept]; exact e
  obtain ⟨h1, rfl⟩ := kOf_get _ _ _ _ e2
  exact (h.ok _ h1).seq
theorem KIs.get {s : St} {N g : Nat} {ps : List Pk} {K : Kp} {kv : Value} (h : KIs s N g ps K kv) {q : Nat} {r : Option (List UInt8)} (hr : LastIn K q r) : r = s.get q := by
  refine (ag_last h.ag ?_).symm
  rw [h.room, ← h.kept]
  exact hr
theorem KIs.new (ss : Nat) {N g : Nat} (h : 0 < N) : KIs (Dn.new ss N).st N g [] [] (.slice none 0 0) :=
  ⟨Ag.new h, rfl, by simp [kOf], fun j hj => by simp at hj, fun b off n c e => by injection e with e; cases e⟩

/-- cells without a text -/
def NoS (cs : Array Value) : Prop := ∀ u ∈ cs.toList, ∀ b, u ≠ .string b
/-- what was there stays, but for new blocks of one type, that hold no text -/
structure BT (B : Nat) (T : TypeId) (w w' : World) : Prop where
  os : w'.os = w.os
  tape : w'.tape = w.tape
  output : w'.output = w.output
  size : w.heap.size ≤ w'.heap.size
  keep : ∀ (k : Nat) (o : Obj), w.heap[k]? = some o → w'.heap[k]? = some o ∨ (B ≤ k ∧ ∃ cs cs' : Array Value, o = .cells cs T (0, 0) ∧ w'.heap[k]? = some (.cells cs' T (0, 0)) ∧ NoS cs ∧ NoS cs' ∧ cs'.size = cs.size)
theorem BT.of_le {B : Nat} {T : TypeId} {w w' : World} (h : Le w w') : BT B T w w' := ⟨h.out.os, h.out.tape, h.out.output, h.out.size, fun k o hk => .inl (h.heap hk)⟩
theorem BT.trans {B : Nat} {T : TypeId} {w w' w'' : World} (h : BT B T w w') (h' : BT B T w' w'') : BT B T w w'' := by
  refine ⟨h'.os.trans h.os, h'.tape.trans h.tape, h'.output.trans h.output, Nat.le_trans h.size h'.size, fun k o hk => ?_⟩
  rcases h.keep k o hk with h1 | ⟨hB, cs, cs', rfl, h1, n, n', hs⟩
  · exact h'.keep k o h1
  · rcases h'.keep k _ h1 with h2 | ⟨_, cs1, cs2, e, h2, m, m', hs2⟩
    · exact .inr ⟨hB, cs, cs', rfl, h2, n, n', hs⟩
    · injection e with e
      subst e
      exact .inr ⟨hB, cs, cs2, rfl, h2, n, m', hs2.trans hs⟩
theorem BT.old {B : Nat} {T : TypeId} {w w' : World} (h : BT B T w w') {k : Nat} {o : Obj} (hk : w.heap[k]? = some o) (hlt : k < B) : w'.heap[k]? = some o := by
  rcases h.keep k o hk with h1 | ⟨hB, _⟩
  · exact h1
  · omega
theorem BT.le {B : Nat} {T : TypeId} {w0 w w' : World} (hl : Le w0 w) (h : BT B T w w') (hB : w0.heap.size ≤ B) : Le w0 w' := by
  refine ⟨⟨h.os.trans hl.out.os, h.tape.trans hl.out.tape, h.output.trans hl.out.output, Nat.le_trans hl.out.size h.size, fun k hk => ?_⟩⟩
  have e : w0.heap[k]? = some w0.heap[k] := Array.getElem?_eq_getElem hk
  rw [h.old (hl.heap e) (by omega), e]
theorem BT.store {B : Nat} {T : TypeId} {w w' : World} {g : Nat} {cs cs' : Array Value} (hg : w.grownBy w' (some g)) (hB : B ≤ g) (h0 : w.heap[g]? = some (.cells cs T (0, 0))) (h1 : w'.heap[g]? = some (.cells cs' T (0, 0))) (n0 : NoS cs) (n1 : NoS cs') (hs : cs'.size = cs.size) : BT B T w w' := by
  refine ⟨hg.os, hg.tape, hg.output, hg.size, fun k o hk => ?_⟩
  by_cases e : k = g
  · subst e
    rw [h0] at hk
    injection hk with hk
    exact .inr ⟨hB, cs, cs', hk.symm, h1, n0, n1, hs⟩
  · exact .inl ((hg.block k (lt_of_heap hk) (by intro h; injection h with h; exact e h)).trans hk)
def BSlot (B : Nat) (T : TypeId) (n : Nat) (v : Value) (W : World) : Prop := ∃ g, ∃ cs : Array Value, v = .pointer (some ⟨g, 0, none⟩) ∧ B ≤ g ∧ W.heap[g]? = some (.cells cs T (0, 0)) ∧ NoS cs ∧ cs.size = n
theorem BSlot.stay {B : Nat} {T : TypeId} {n : Nat} {v : Value} {w w' : World} (h : BT B T w w') (hs : BSlot B T n v w) : BSlot B T n v w' := by
  obtain ⟨g, cs, hv, hB, hg, hn, hz⟩ := hs
  rcases h.keep g _ hg with h1 | ⟨_, cs1, cs2, e, h2, _, n2, hs2⟩
  · exact ⟨g, cs, hv, hB, h1, hn, hz⟩
  · injection e with e
    subst e
    exact ⟨g, cs2, hv, hB, h2, n2, hs2.trans hz⟩
theorem BT.rsl {α : Type} {R : Rd α} (hK : ∀ w w' x cs, R w x cs → R w' x cs) (hR : ∀ w x cs, R w x cs → ∃ b, cs[1]? = some (.string b)) {B : Nat} {T : TypeId} {w w' : World} {l : List α} {v : Value} (h : RSl 2 R w l v) (hb : BT B T w w') : RSl 2 R w' l v := by
  obtain ⟨A, cap, rfl, hc, hr⟩ := h
  refine ⟨A, cap, rfl, hc, fun hn => ?_⟩
  obtain ⟨b, off, rfl, hi⟩ := hr hn
  refine ⟨b, off, rfl, fun i h => ?_⟩
  obtain ⟨us, hl, hcell, hRi⟩ := hi i h
  refine ⟨us, hl, fun j hj => ?_, hK _ _ _ _ hRi⟩
  obtain ⟨s, hs⟩ := hR _ _ _ hRi
  have h1 := (hcell 1 (by omega)).trans hs
  have hlt := block_lt h1
  have e : w.heap[b]? = some w.heap[b] := Array.getElem?_eq_getElem hlt
  rw [← hcell j hj]
  rcases hb.keep b _ e with h2 | ⟨_, cs, cs', eo, _, n0, _⟩
  · simp only [World.cell?, h2, e]
  · exfalso
    rw [eo] at e
    rw [cell_block e] at h1
    exact n0 _ (List.mem_of_getElem? (by rw [Array.getElem?_toList]; exact h1 : cs.toList[off + i * 2 + 1]? = some (.string s))) _ rfl
theorem en_str : ∀ w x cs, REn w x cs → ∃ b, cs[1]? = some (.string b) := fun _ _ cs h => by rw [show cs = _ from h]; exact ⟨_, rfl⟩
theorem ri_str : ∀ w x cs, RI w x cs → ∃ b, cs[1]? = some (.string b) := fun _ _ cs h => by rw [show cs = _ from h]; exact ⟨_, rfl⟩

/-- what the reference's Take told -/
def TkP (d : Dn) (p : Pk) (Kl : Kp) (kv : Value) (B : Nat) (r : Dn × Option (List UInt8) × Bool) (v : Value) (W : World) : Prop :=
  ∃ A c K', v = .tuple #[.agg #[.int .u32 r.1.ssrc, .int .i64 r.1.st.room, .bool r.1.pick.on, .int .i64 r.1.pick.src, .int .i64 r.1.pick.layer, .int .i64 r.1.pick.tid, .bool r.1.nums.on, .int .i64 r.1.nums.high, .int .i64 r.1.nums.since, .int .i64 r.1.nums.off.seq, .int .i64 r.1.nums.off.time, .int .i64 r.1.nums.off.pic, .int .i64 r.1.nums.off.tl0, .int .i64 r.1.nums.out.seq, .int .i64 r.1.nums.out.time, .int .i64 r.1.nums.out.pic, .int .i64 r.1.nums.out.tl0, .slice A (List.length (α := Nat × List UInt8) K') c, .int .i64 r.1.sent, .int .i64 r.1.left, .int .i64 r.1.dropped, .int .i64 r.1.late, .int .i64 r.1.bad], .string (str (r.2.1.getD [])), .bool r.2.1.isSome, .bool r.2.2] ∧ RSl 2 REn W K' (.slice A K'.length c) ∧ KStep d p Kl kv B r K' (.slice A K'.length c)
theorem TkP.of {d : Dn} {p : Pk} {Kl : Kp} {kv : Value} {w w' : World} {B : Nat} {r : Dn × Option (List UInt8) × Bool} {e : Ending} (h : TakeQ d p Kl kv w r e w') (hB : B ≤ w.heap.size) : ∃ v, e = .returned v ∧ TkP d p Kl kv B r v w' ∧ Le w w' := by
  obtain ⟨kv', K', rfl, hk, hs, hb⟩ := h
  obtain ⟨A, c, rfl, _, _⟩ := id hk
  refine ⟨_, rfl, ⟨A, c, K', rfl, hk, ?_⟩, ⟨hb⟩⟩
  rcases hs with h | ⟨n, h1, h2, h3, h4, b, off, c', h5, h6⟩
  · exact .inl h
  · exact .inr ⟨n, h1, h2, h3, h4, b, off, c', h5, by omega⟩
theorem TkP.stay {B0 : Nat} {T : TypeId} {d : Dn} {p : Pk} {Kl : Kp} {kv : Value} {B : Nat} {r : Dn × Option (List UInt8) × Bool} : ∀ v w w', BT B0 T w w' → TkP d p Kl kv B r v w → TkP d p Kl kv B r v w' :=
  fun v w w' hl ⟨A, c, K', h1, h2, h3⟩ => ⟨A, c, K', h1, BT.rsl (fun _ _ _ _ h => h) en_str h2 hl, h3⟩
def TkD (d : Dn) (p : Pk) (Kl : Kp) (kv : Value) (B : Nat) (r : Dn × Option (List UInt8) × Bool) (v : Value) (W : World) : Prop :=
  ∃ A c K', v = .agg #[.int .u32 r.1.ssrc, .int .i64 r.1.st.room, .bool r.1.pick.on, .int .i64 r.1.pick.src, .int .i64 r.1.pick.layer, .int .i64 r.1.pick.tid, .bool r.1.nums.on, .int .i64 r.1.nums.high, .int .i64 r.1.nums.since, .int .i64 r.1.nums.off.seq, .int .i64 r.1.nums.off.time, .int .i64 r.1.nums.off.pic, .int .i64 r.1.nums.off.tl0, .int .i64 r.1.nums.out.seq, .int .i64 r.1.nums.out.time, .int .i64 r.1.nums.out.pic, .int .i64 r.1.nums.out.tl0, .slice A (List.length (α := Nat × List UInt8) K') c, .int .i64 r.1.sent, .int .i64 r.1.left, .int .i64 r.1.dropped, .int .i64 r.1.late, .int .i64 r.1.bad] ∧ RSl 2 REn W K' (.slice A K'.length c) ∧ KStep d p Kl kv B r K' (.slice A K'.length c)
theorem TkD.stay {B0 : Nat} {T : TypeId} {d : Dn} {p : Pk} {Kl : Kp} {kv : Value} {B : Nat} {r : Dn × Option (List UInt8) × Bool} : ∀ v w w', BT B0 T w w' → TkD d p Kl kv B r v w → TkD d p Kl kv B r v w' :=
  fun v w w' hl ⟨A, c, K', h1, h2, h3⟩ => ⟨A, c, K', h1, BT.rsl (fun _ _ _ _ h => h) en_str h2 hl, h3⟩
/-- what stands in the new block -/
def TkF (d : Dn) (p : Pk) (Kl : Kp) (kv : Value) (B : Nat) (r : Dn × Option (List UInt8) × Bool) (v : Value) (W : World) : Prop :=
  ∃ g A c K', v = .pointer (some ⟨g, 0, none⟩) ∧ W.heap[g]? = some (.cells #[.int .u32 r.1.ssrc, .int .i64 r.1.st.room, .bool r.1.pick.on, .int .i64 r.1.pick.src, .int .i64 r.1.pick.layer, .int .i64 r.1.pick.tid, .bool r.1.nums.on, .int .i64 r.1.nums.high, .int .i64 r.1.nums.since, .int .i64 r.1.nums.off.seq, .int .i64 r.1.nums.off.time, .int .i64 r.1.nums.off.pic, .int .i64 r.1.nums.off.tl0, .int .i64 r.1.nums.out.seq, .int .i64 r.1.nums.out.time, .int .i64 r.1.nums.out.pic, .int .i64 r.1.nums.out.tl0, .slice A (List.length (α := Nat × List UInt8) K') c, .int .i64 r.1.sent, .int .i64 r.1.left, .int .i64 r.1.dropped, .int .i64 r.1.late, .int .i64 r.1.bad] 38 (0, 0)) ∧ RSl 2 REn W K' (.slice A K'.length c) ∧ KStep d p Kl kv B r K' (.slice A K'.length c)
theorem TkF.stay {d : Dn} {p : Pk} {Kl : Kp} {kv : Value} {B : Nat} {r : Dn × Option (List UInt8) × Bool} : ∀ v w w', Le w w' → TkF d p Kl kv B r v w → TkF d p Kl kv B r v w' :=
  fun v w w' hl ⟨g, A, c, K', h1, h2, h3, h4⟩ => ⟨g, A, c, K', h1, hl.heap h2, hl.rsl keeps_en h3, h4⟩
def OfP (p : Pk) (v5 : Value) (v : Value) (W : World) : Prop := ∃ v6, v = P06 p v5 v6 ∧ RSl 2 RI W p.exts v6
theorem OfP.stay {B0 : Nat} {T : TypeId} {p : Pk} {v5 : Value} : ∀ v w w', BT B0 T w w' → OfP p v5 v w → OfP p v5 v w' := fun v w w' hl ⟨v6, h1, h2⟩ => ⟨v6, h1, BT.rsl (fun _ _ _ _ h => h) ri_str h2 hl⟩

theorem few_pl {p : Pk} (h : p.few = true) : p.payload.length ≤ 200 := by
  simp only [Pk.few, Bool.and_eq_true, decide_eq_true_eq] at h
  exact h.2.2.2
theorem Dn.take_ssrc (d : Dn) (p : Pk) (f l : Int) (x : Wnt) (mu : Bool) : (d.take p f l x mu).1.ssrc = d.ssrc := by
  cases mu
  · simp only [Dn.take, Bool.false_eq_true, if_false]
    by_cases hb : vpE p.payload ≠ 0 ∨ p.err ≠ 0
    · rw [Dn.take1, if_pos hb]
      dsimp only [Dn.addBad]
      split <;> rfl
    · rw [Dn.take1, if_neg hb]
      unfold Dn.does
      repeat' split
      all_goals rfl
  · rfl
theorem en_cell {w : World} {K : Kp} {b off n c i : Nat} (h : RSl 2 REn w K (.slice (some ⟨b, off, none⟩) n c)) (hi : i < K.length) : w.cell? ⟨b, off + i * 2, none⟩ = some (.int .u16 K[i].1) := by
  obtain ⟨A, cap, hv, _, hr⟩ := h
  injection hv with e1 e2 e3
  obtain ⟨b', off', hA, hg⟩ := hr (by rintro rfl; simp at hi)
  rw [← e1] at hA
  injection hA with hA
  injection hA with h1 h2
  subst h1 h2
  obtain ⟨cs, hl, hc, hR⟩ := hg i hi
  have h0 := hc 0 (by omega)
  rw [hR] at h0
  simpa using h0
theorem rsl_far {α : Type} {size : Nat} {R : Rd α} (hR : ∀ w w' x cs, R w x cs → R w' x cs) {S : Nat → Prop} {w w' : World} {l : List α} {v : Value} (h : RSl size R w l v) (hf : Fp S w w') (hs : ∀ b off n c, v = .slice (some ⟨b, off, none⟩) n c → ¬ S b) : RSl size R w' l v := by
  obtain ⟨A, cap, rfl, hc, hr⟩ := h
  refine ⟨A, cap, rfl, hc, fun hn => ?_⟩
  obtain ⟨b, off, rfl, hi⟩ := hr hn
  refine ⟨b, off, rfl, fun i h => ?_⟩
  obtain ⟨cs, hl, hcell, hRi⟩ := hi i h
  refine ⟨cs, hl, fun j hj => ?_, hR _ _ _ _ hRi⟩
  have h0 := hcell j hj
  have h1 : cs[j]? = some (cs[j]'(by omega)) := List.getElem?_eq_getElem (by omega)
  have hb := block_lt (h0.trans h1)
  rw [← h0]
  have := hf.block b hb (hs b off _ _ rfl)
  simp only [World.cell?, this]
/-- bytes are not in a block that holds none -/
theorem rsl8_off {w w' : World} {l : List UInt8} {v : Value} {g : Nat} {cs : Array Value} {T : TypeId} {fr : Nat × Nat} (h : RSl 1 RU8 w l v) (hg : w.grownBy w' (some g)) (hh : w.heap[g]? = some (.cells cs T fr)) (hno : ∀ u ∈ cs.toList, ∀ x, u ≠ .int .u8 x) : RSl 1 RU8 w' l v := by
  obtain ⟨A, cap, rfl, hc, hr⟩ := h
  refine ⟨A, cap, rfl, hc, fun hn => ?_⟩
  obtain ⟨b, off, rfl, hi⟩ := hr hn
  refine ⟨b, off, rfl, fun i h => ?_⟩
  obtain ⟨us, hl, hcell, hRi⟩ := hi i h
  refine ⟨us, hl, fun j hj => ?_, hRi⟩
  have h0 := hcell j hj
  have h1 : us[j]? = some (us[j]'(by omega)) := List.getElem?_eq_getElem (by omega)
  have hb := block_lt (h0.trans h1)
  have hne : b ≠ g := by
    rintro rfl
    have hu : us = [.int .u8 l[i].toNat] := hRi
    have hj0 : j = 0 := by omega
    subst hj0
    rw [cell_block hh, hu] at h0
    have hm : (.int .u8 l[i].toNat : Value) ∈ cs.toList := by
      have := List.mem_of_getElem? (by rw [Array.getElem?_toList]; exact h0 : cs.toList[off + i * 1 + 0]? = some (.int .u8 l[i].toNat))
      exact this
    exact hno _ hm _ rfl
  rw [← h0]
  have := hg.block b hb (fun e => by injection e with e; exact hne e)
  simp only [World.cell?, this]
theorem rslE_off {w w' : World} {l : Kp} {v : Value} {g : Nat} {cs : Array Value} {T : TypeId} {fr : Nat × Nat} (h : RSl 2 REn w l v) (hg : w.grownBy w' (some g)) (hh : w.heap[g]? = some (.cells cs T fr)) (hno : ∀ u ∈ cs.toList, ∀ x, u ≠ .int .u16 x) : RSl 2 REn w' l v := by
  obtain ⟨A, cap, rfl, hc, hr⟩ := h
  refine ⟨A, cap, rfl, hc, fun hn => ?_⟩
  obtain ⟨b, off, rfl, hi⟩ := hr hn
  have hne : b ≠ g := by
    rintro rfl
    have hp : 0 < l.length := by cases l with | nil => exact absurd rfl hn | cons _ _ => simp
    obtain ⟨us, hl, hcell, hRi⟩ := hi 0 hp
    have h0 := hcell 0 (by omega)
    rw [hRi, cell_block hh] at h0
    exact hno _ (List.mem_of_getElem? (by rw [Array.getElem?_toList]; exact h0 : cs.toList[off + 0 * 2 + 0]? = some (.int .u16 l[0].1))) _ rfl
  refine ⟨b, off, rfl, fun i h => ?_⟩
  obtain ⟨us, hl, hcell, hRi⟩ := hi i h
  refine ⟨us, hl, fun j hj => ?_, hRi⟩
  have h0 := hcell j hj
  have h1 : us[j]? = some (us[j]'(by omega)) := List.getElem?_eq_getElem (by omega)
  have hb := block_lt (h0.trans h1)
  rw [← h0]
  have := hg.block b hb (fun e => by injection e with e; exact hne e)
  simp only [World.cell?, this]
theorem rget_is {s : St} {N g : Nat} {ps : List Pk} {K : Kp} {A : Option Addr} {c : Nat} {kv : Value} (h : KIs s N g ps K kv) (q : Nat) (W : World) (hr : RSl 2 REn W K (.slice A K.length c)) (hl : K.length ≤ 100000) :
    Calls Try.prog 19 #[.slice A K.length c, .int .u16 q] W (fun e w' => e = .returned (.tuple #[.string (str ((s.get q).getD [])), .bool (s.get q).isSome]) ∧ W = w') :=
  (rget_any K A c q W hr hl).mono (fun e w' ⟨x, hx, he, hw⟩ => ⟨by rw [he, h.get hx], hw⟩)
theorem DnAt.off {w w' : World} {L : Dl} {c g : Nat} {d : Dn} {vs : List Value} (h : DnAt w L c d vs) (hg : w.grownBy w' (some g)) (hs : ∀ k, L.S k → k < g) (h4 : ∀ cs fr, w.heap[g]? ≠ some (.cells cs 5 fr)) : DnAt w' L c d vs := by
  have hk : ∀ {k : Nat} {o : Obj}, k ≠ g → w.heap[k]? = some o → w'.heap[k]? = some o := fun hne hk => (hg.block _ (lt_of_heap hk) (by intro e; injection e with e; exact hne e)).trans hk
  have n1 : L.db ≠ g := fun e => absurd (hs L.db (.inl rfl)) (by omega)
  have n2 : L.sb ≠ g := fun e => absurd (hs L.sb (.inr (.inl rfl))) (by omega)
  have n3 : L.rb ≠ g := fun e => absurd (hs L.rb (.inr (.inr (.inl rfl)))) (by omega)
  have n4 : L.mb ≠ g := fun e => absurd (hs L.mb (.inr (.inr (.inr rfl)))) (by omega)
  exact ⟨hk n1 h.hd, h.st.grown hg n2 n3 n4 h4⟩
end Go.Proofs.Ytekioihjfggmdaa

/- DownMutes: the walk. -/
namespace Go.Proofs.Ytekioihjfggmdaa
open Go.RowKit
set_option linter.unusedVariables false

theorem DnAt.lt {w : World} {L : Dl} {c : Nat} {d : Dn} {vs : List Value} (h : DnAt w L c d vs) : ∀ k, L.S k → k < w.heap.size := by
  rintro k (rfl | rfl | rfl | rfl)
  · exact lt_of_heap h.hd
  · exact lt_of_heap h.st.hs
  · exact lt_of_heap h.st.hr
  · exact h.st.map.lt
end Go.Proofs.Ytekioihjfggmdaa
