/- Texts of one claim, laid together: DownPlays RowDownPlays -/
import Derived.ShutString
import Derived.ChangeOld
import Derived.OpenShut
import Derived.Test.YtekioihjfggmdaaJoX04
import Derived.Test.YtekioihjfggmdaaJoX08
import Derived.Test.YtekioihjfggmdaaJo26
import Derived.Test.YtekioihjfggmdaaJo27
/- DownPlays: the walk. -/
namespace Go.Proofs.Ytekioihjfggmdaa
open Go.RowKit
set_option linter.unusedVariables false

set_option maxRecDepth 100000 in
set_option maxHeartbeats 16000000 in
theorem downPlays_walk (w : World) (ssrc : Nat) (hss : ssrc < 4294967296) (room : Nat) (hroom : room < 256) (l : List Stp) (A : Option Addr) (n cap : Nat) (hr : RSl 15 RStp w l (.slice A n cap)) (hl : l.length ≤ 9223372036854775807) : Calls Try.prog 3 #[.int .u32 ssrc, .int .u8 room, .slice A n cap] w (Gives w (.bool true)) := by
  have HR := hide hr
  obtain ⟨A', cap', hv, hcap, hi⟩ := hr
  injection hv with e1 e2 e3
  subst e1 e2 e3
  have HI := hide hi
  clear hi
  have HFEW := hide (fun W (hW : Le w W) => few14_any l A cap W (hW.rsl keeps_stp HR.out) hl)
  go_enter Try.func3, Try.ntmps3
  go_wp2_with fail
  refine (awake14 _).mono ?_
  rintro r w1 ⟨rfl, hb1⟩
  have HL1 := hide (show Le w w1 from ⟨hb1⟩)
  clear hb1
  go_wp2_with fail
  refine (HFEW.out _ HL1.out).mono ?_
  rintro r w2 ⟨rfl, hb2⟩
  have HL2 := hide (HL1.out.trans ⟨hb2⟩)
  clear hb2 HL1 HFEW
  cases hf : fewS l
  · go_wp2_with fail
    go_ret
    exact ⟨rfl, HL2.out.out⟩
  have hlen := fewS_len hf
  have HF := hide hf
  clear hf
  obtain ⟨M, hM⟩ : ∃ M, M = room % 9 := ⟨_, rfl⟩
  obtain ⟨N, hN⟩ : ∃ N, N = M + 1 := ⟨_, rfl⟩
  have hN1 : 0 < N ∧ N ≤ 9 := by omega
  have HNEW := hide (downNew_any ssrc N hN1.1 (by omega) w2)
  have q1 : (room : Int).tmod 9 = (M : Int) := by rw [hM]; rfl
  have q2 : IntKind.u8.wrap (M : Int) = M := by simp [IntKind.wrap, IntKind.signed, IntKind.bits]; omega
  have q3 : (M : Int) + 1 = (N : Int) := by omega
  have q4 : IntKind.i64.wrap (N : Int) = N := IntWalk.i64_in _ (by omega)
  have q5 : IntKind.i64.wrap (M : Int) = M := IntWalk.i64_in _ (by omega)
  clear hM hN
  go_wp2_with fail
  refine HNEW.out.mono ?_
  rintro e w3 ⟨L, vs0, rfl, hd0, hS0, hb3⟩
  have HS := hide (fun k hk => Nat.le_trans HL2.out.size (hS0 k hk))
  have HB := hide hd0.lt
  have HD3 := hide hd0
  have LE3 := hide (HL2.out.trans ⟨hb3⟩)
  clear hd0 hS0 hb3 HNEW q1 q2 q3 q4 q5 HL2
  have hwg := LE3.out.size
  go_upto_region 10 with (first | (refine wpl_store_blk rfl 38 (.tmp 11) (.tmp 47) (cs := [.int .u32 ssrc, .int .i64 N, .bool false, .int .i64 0, .int .i64 0, .int .i64 0, .bool false, .int .i64 0, .int .i64 0, .int .i64 0, .int .i64 0, .int .i64 0, .int .i64 0, .int .i64 0, .int .i64 0, .int .i64 0, .int .i64 0, .slice none 0 0, .int .i64 0, .int .i64 0, .int .i64 0, .int .i64 0, .int .i64 0]) rfl rfl rfl (by kernel_rfl) (by simp [Value.oneCell']) (heap_alloc_new _ _) rfl ?_; intro w4 hn hg; have hbx := ((Le.refl w3).alloc _).boxed hg (Nat.le_refl _); have H11 := hide hn; have LE4 := hide (LE3.out.trans hbx); have HD4 := hide (HD3.out.le hbx); clear hn hg hbx LE3 HD3))
  skip
  obtain ⟨g, hgq⟩ : ∃ g, g = w3.heap.size := ⟨_, rfl⟩
  rw [← hgq] at HB H11 hwg
  rw [← hgq]
  clear hgq
  go_wp2_with fail
  go_loopw [12] (fun j wr => ∃ (k : Nat) (d : Dn) (vs : List Value) (ps : List Pk) (K : Kp) (kv : Value), k ≤ l.length ∧ j = .int .i64 k ∧ DnAt wr L k d vs ∧ d.Ok k ∧ Hd (KIs d.st N g ps K kv) ∧ ps.length ≤ k ∧ Hd (d.ssrc = ssrc) ∧ Hd (RSl 2 REn wr K kv) ∧ Hd (wr.heap[g]? = some (.cells #[.int .u32 d.ssrc, .int .i64 d.st.room, .bool d.pick.on, .int .i64 d.pick.src, .int .i64 d.pick.layer, .int .i64 d.pick.tid, .bool d.nums.on, .int .i64 d.nums.high, .int .i64 d.nums.since, .int .i64 d.nums.off.seq, .int .i64 d.nums.off.time, .int .i64 d.nums.off.pic, .int .i64 d.nums.off.tl0, .int .i64 d.nums.out.seq, .int .i64 d.nums.out.time, .int .i64 d.nums.out.pic, .int .i64 d.nums.out.tl0, kv, .int .i64 d.sent, .int .i64 d.left, .int .i64 d.dropped, .int .i64 d.late, .int .i64 d.bad] 38 (0, 0))) ∧ Le w wr) (fun j _ => l.length - (intOf j).toNat)
  case atStart => exact ⟨0, Dn.new ssrc N, vs0, [], [], .slice none 0 0, Nat.zero_le _, rfl, HD4.out, Dn.new_ok hss hN1.1 (by omega), hide (KIs.new ssrc hN1.1), by simp, hide rfl, hide RSl.nil, hide H11.out, LE4.out⟩
  case round =>
    clear HD4 H11 LE4
    obtain ⟨k, d, vs, ps, K, kv, hk, rfl, hd, hok, HKI, hpl, HSS, HK, H11, hle⟩ := hrel
    obtain ⟨AK, cK, rfl, _, _⟩ := id HK.out
    by_cases hlt : k < l.length
    · obtain ⟨b, off, rfl, hg⟩ := HI.out (by rintro rfl; simp at hlt)
      obtain ⟨cs, _, hc, v5, v6, v7, hcs, hP, hN⟩ := hg k hlt
      subst hcs
      have hp := hN.ok (fewS_at HF.out k hlt)
      have hpl2 := few_pl (fewS_at HF.out k hlt)
      have hltI : (k : Int) < (l.length : Int) := by omega
      generalize l[k] = x at *
      have HRNG := hide (step_range hle hc)
      have hok' := Dn.take_ok hok x.p hp x.src x.layer x.want x.muted
      have HTK := hide (fun W (hW : Le wr W) => downTake_any (hd.le hW) hok (by omega) x.p hp v5 v6 v7 (PdAt.old hP (hle.trans hW).out HS.out) (by omega) x.src x.layer x.want x.muted)
      have HLK := hide HKI.out.len
      have hroom : d.st.room = N := HKI.out.room
      have HRT := hide (fun (a6 K5 : Value) (W : World) (h5 : RSl 1 (RNat .u32) W x.p.csrc v5) (h6 : RSl 2 RI W x.p.exts a6) (hkk : RSl 2 REn W K (.slice AK K.length cK)) => r14take_any d k hok (by omega) (by rw [hroom]; omega) x.p hp (by omega) K (by have := HLK.out; omega) v5 a6 (.slice AK K.length cK) x.src x.layer x.want x.muted W h5 h6 hkk)
      clear hroom
      have HOF := hide (fun W (hW : Le w W) => of14_any x.p hp v5 v6 v7 W (hP.le hW))
      have H5 := hide (fun W (hW : Le w W) => hW.rsl (keeps_rnat .u32) hP.csrc)
      have HKS := hide (fun (B : Nat) (hB : g < B) (K' : Kp) (kv' : Value) hs => HKI.out.step (f := x.src) (l := x.layer) (x := x.want) (mu := x.muted) (B := B) (K' := K') (kv' := kv') hN1.1 hok hp hB hs)
      have hss' : (d.take x.p x.src x.layer x.want x.muted).1.ssrc = d.ssrc := Dn.take_ssrc _ _ _ _ _ _
      have hsq : x.p.seq < 65536 := hp.seq
      have hfar := HKI.out.far
      obtain ⟨A5, c5, rfl, _, _⟩ := id hP.csrc
      obtain ⟨A6, c6, rfl, _, _⟩ := id hP.exts
      obtain ⟨A7, c7, rfl, _, _⟩ := id hP.payload
      generalize d.take x.p x.src x.layer x.want x.muted = r at *
      have hcnt := hok.cnt
      have hcnt' := hok'.cnt
      have HOK := hide hok'
      have HLE := hide hle
      have HFAR := hide hfar
      have HSS' := hide (hss'.trans HSS.out)
      clear hc hg hP hN hp hd hok hok' hle hfar hss' HSS hpl2 HLK
      obtain ⟨p, sr, la, wn, mu⟩ := x
      obtain ⟨ws, wl, wt⟩ := wn
      obtain ⟨mk, ty, sq, tm, ss, cs, ex, pl, pd⟩ := p
      dsimp only at hsq
      simp only [Stp.cells, Pk.val, Wnt.val, P06, rdV] at HRNG HTK HRT HOF H5
      have HG13 := hide (lt_of_heap H11.out)
      go_upto_region 14 with (first | (refine wpList_load_mid rfl 50 (.tmp 56) rfl b (off + k * 15) rfl [.bool mk, .int .u8 ty, .int .u16 sq, .int .u32 tm, .int .u32 ss, .slice A5 cs.length c5, .slice A6 ex.length c6, .slice A7 pl.length c7, .int .i64 pd, .int .i64 sr, .int .i64 la, .int .i64 ws, .int .i64 wl, .int .i64 wt, .bool mu] _ HRNG.out Try.underlying50 rfl (by kernel_rfl) ?_) | (refine wpl_store_blk rfl 50 (.tmp 13) (.tmp 57) (cs := [.bool mk, .int .u8 ty, .int .u16 sq, .int .u32 tm, .int .u32 ss, .slice A5 cs.length c5, .slice A6 ex.length c6, .slice A7 pl.length c7, .int .i64 pd, .int .i64 sr, .int .i64 la, .int .i64 ws, .int .i64 wl, .int .i64 wt, .bool mu]) rfl rfl rfl (by kernel_rfl) (by simp [Value.oneCell']) (heap_alloc_new _ _) rfl ?_; intro wz hn hg; have hbx := ((Le.refl wr).alloc _).boxed hg (Nat.le_refl _); have H11_1 := hide ((hbx).heap H11.out); have HK_1 := hide (hbx.rsl keeps_en HK.out); have LE_1 := hide (Le.trans HLE.out hbx); have H13_1 := hide (hn); have hs1 := lt_of_heap H13_1.out; clear H11 HK HLE; have HTZ := hide (HTK.out wz hbx); clear hn hg hbx))
      clear HTK HRNG
      have kc2 := box_cell H13_1.out 9 (.int .i64 sr) rfl wz (Le.refl _)
      have kc3 := box_cell H13_1.out 10 (.int .i64 la) rfl wz (Le.refl _)
      have kc4 := box_cell H13_1.out 14 (.bool mu) rfl wz (Le.refl _)
      go_wp2_with (first | (refine wpl_load_in rfl 46 (.tmp 60) rfl [] [.bool mk, .int .u8 ty, .int .u16 sq, .int .u32 tm, .int .u32 ss, .slice A5 cs.length c5, .slice A6 ex.length c6, .slice A7 pl.length c7, .int .i64 pd] [.int .i64 sr, .int .i64 la, .int .i64 ws, .int .i64 wl, .int .i64 wt, .bool mu] _ rfl Try.underlying46 rfl (by kernel_rfl) H13_1.out ?_) | (refine wpl_load_in rfl 48 (.tmp 66) rfl [.bool mk, .int .u8 ty, .int .u16 sq, .int .u32 tm, .int .u32 ss, .slice A5 cs.length c5, .slice A6 ex.length c6, .slice A7 pl.length c7, .int .i64 pd, .int .i64 sr, .int .i64 la] [.int .i64 ws, .int .i64 wl, .int .i64 wt] [.bool mu] _ rfl Try.underlying48 rfl (by kernel_rfl) H13_1.out ?_))
      refine HTZ.out.mono ?_
      rintro e w9 ⟨v, vs9, rfl, hd9, hr9, hf9⟩
      have hg13 : g < wr.heap.size := HG13.out
      have H11_9 := hide (hf9.heap H11_1.out (fun h => absurd (HB.out _ h) (by omega)))
      have H13_9 := hide (hf9.heap H13_1.out (fun h => absurd (HB.out _ h) (by omega)))
      have HK_9 := hide (rsl_far (fun _ _ _ _ h => h) HK_1.out hf9 (fun b off n c e h => absurd (HB.out _ h) (by have := HFAR.out b off n c e; omega)))
      have LE_9 := hide (show Le w w9 from ⟨hf9.below LE_1.out.out LE_1.out.size HS.out⟩)
      have HD9 := hide hd9
      obtain ⟨Av, cv, rfl, _, _⟩ := id hr9
      have HV9 := hide hr9
      clear HTZ H11_1 H13_1 HK_1 LE_1 hd9 hr9 hf9 kc2 kc3 kc4
      go_upto_region 15 with fail
      have hg13' := HG13.out
      have hl13 := lt_of_heap H13_9.out
      have hsz9 := LE_9.out.size
      refine' wp_region_tailQ 27 30 21 75 Le (BT w9.heap.size 38) (IsD _ :: IsD _ :: IsD _ :: (fun _ v W => OfP ⟨mk, ty, sq, tm, ss, cs, ex, pl, pd⟩ (.slice A5 cs.length c5) v W) :: IsD _ :: IsD _ :: IsD _ :: IsD _ :: IsD _ :: IsD _ :: IsD _ :: IsD _ :: IsD _ :: IsD _ :: IsD _ :: IsD _ :: IsD _ :: IsD _ :: IsD _ :: IsD _ :: (fun _ v W => TkP d ⟨mk, ty, sq, tm, ss, cs, ex, pl, pd⟩ K (.slice AK K.length cK) w9.heap.size r v W) :: (fun _ v W => TkP d ⟨mk, ty, sq, tm, ss, cs, ex, pl, pd⟩ K (.slice AK K.length cK) w9.heap.size r v W) :: (fun _ v W => TkD d ⟨mk, ty, sq, tm, ss, cs, ex, pl, pd⟩ K (.slice AK K.length cK) w9.heap.size r v W) :: IsD (.string (str (r.2.1.getD []))) :: IsD (.bool r.2.1.isSome) :: IsD (.bool r.2.2) :: (fun _ v W => BSlot w9.heap.size 38 23 v W) :: (fun us _ W => TkF d ⟨mk, ty, sq, tm, ss, cs, ex, pl, pd⟩ K (.slice AK K.length cK) w9.heap.size r ((us[1]?).getD undef) W) :: IsD _ :: IsD _ :: []) ([] :: [] :: [1] :: [2] :: [] :: [4] :: [] :: [6] :: [] :: [8] :: [9] :: [] :: [11] :: [12] :: [] :: [14] :: [15] :: [10, 13, 16] :: [] :: [18] :: [0, 3, 5, 7, 17, 19] :: [20] :: [21] :: [21] :: [21] :: [21] :: [] :: [22, 26] :: [23] :: [24] :: []) (by kernel_rfl) (by kernel_rfl) (by rfl) (by kernel_rfl) (by kernel_rfl) Le.refl (fun _ _ _ h h' => h.trans h') (fun _ _ _ h h' => h.trans h') (fun _ _ h => BT.of_le h) ⟨StQ.is, StQ.is, StQ.is, (fun _ v w w' h hk => OfP.stay v w w' h hk), StQ.is, StQ.is, StQ.is, StQ.is, StQ.is, StQ.is, StQ.is, StQ.is, StQ.is, StQ.is, StQ.is, StQ.is, StQ.is, StQ.is, StQ.is, StQ.is, (fun _ v w w' h hk => TkP.stay v w w' h hk), (fun _ v w w' h hk => TkP.stay v w w' h hk), (fun _ v w w' h hk => TkD.stay v w w' h hk), StQ.is, StQ.is, StQ.is, (fun _ v w w' h hk => BSlot.stay h hk), (fun us _ w w' h hk => TkF.stay _ w w' h hk), StQ.is, StQ.is, trivial⟩ ?m15
      case m15 =>
        simp (maxSteps := 100000000) only [AllV, OblQ, Nat.reduceBEq, cond_true, cond_false, LeansD, factAtD, allFactsD, depV, actOf, putAll, putRow, Act.put, List.setIfInBounds_toArray, List.set_cons_succ, List.set_cons_zero, List.map_cons, List.getElem?_cons_zero, List.getElem?_cons_succ, Option.getD_some, List.map_nil, List.take_succ_cons, List.take_zero, List.drop_succ_cons, List.drop_zero, List.cons_append, List.nil_append, List.length_cons, List.length_nil, Nat.reduceAdd]
        intro x0 x1 x2 x3 x4 x5 x6 x7 x8 x9 x10 x11 x12 x13 x14 x15 x16 x17 x18 x19 x20 x21 x22 x23 x24 x25 x26 x27 x28 x29
        refine ⟨⟨?_, ?_, ?_, ?_, ?_, ?_, ?_, ?_, ?_, ?_, ?_, ?_, ?_, ?_, ?_, ?_, ?_, ?_, ?_, ?_, ?_, ?_, ?_, ?_, ?_, ?_, ?_, ?_, ?_, ?_, trivial⟩, ?_⟩
        -- 0: 75 := Op.load 38 t11
        · intro wo hw  KQ hK; refine cast (if_pos (show Region.wanted _ _ = true from rfl)).symm ?_; have hz := (hw.old H11_9.out (by omega)); refine wp_load_blk 38 (.tmp 11) rfl (cs := [.int .u32 d.ssrc, .int .i64 d.st.room, .bool d.pick.on, .int .i64 d.pick.src, .int .i64 d.pick.layer, .int .i64 d.pick.tid, .bool d.nums.on, .int .i64 d.nums.high, .int .i64 d.nums.since, .int .i64 d.nums.off.seq, .int .i64 d.nums.off.time, .int .i64 d.nums.off.pic, .int .i64 d.nums.off.tl0, .int .i64 d.nums.out.seq, .int .i64 d.nums.out.time, .int .i64 d.nums.out.pic, .int .i64 d.nums.out.tl0, .slice AK K.length cK, .int .i64 d.sent, .int .i64 d.left, .int .i64 d.dropped, .int .i64 d.late, .int .i64 d.bad]) _ rfl Try.underlying38 rfl (by kernel_rfl) hz ?_; exact hK _ _ (Le.refl _) (IsD.mk _ _ _)
        -- 1: 76 := Op.fieldAddr 50 t13 0
        · intro wo hw  KQ hK; go_simp; exact hK _ _ (Le.refl _) (IsD.mk _ _ _)
        -- 2: 77 := Op.load 46 t76
        · intro wo hw h1 KQ hK; cases h1; refine cast (if_pos (show Region.wanted _ _ = true from rfl)).symm ?_; have hz := (hw.old H13_9.out (by omega)); refine wp_load_in 46 (.tmp 76) rfl [] [.bool mk, .int .u8 ty, .int .u16 sq, .int .u32 tm, .int .u32 ss, .slice A5 cs.length c5, .slice A6 ex.length c6, .slice A7 pl.length c7, .int .i64 pd] [.int .i64 sr, .int .i64 la, .int .i64 ws, .int .i64 wl, .int .i64 wt, .bool mu] _ rfl Try.underlying46 rfl (by kernel_rfl) hz ?_; exact hK _ _ (Le.refl _) (IsD.mk _ _ _)
        -- 3: 78 := Op.call { value (Operand.func 15), args := #[t77], argTypes := #[46] }
        · intro wo hw h2 KQ hK; cases h2; go_simp; refine (HOF.out _ (BT.le LE_9.out.drew hw hsz9)).mono ?_; rintro r w' ⟨v6', rfl, h6', hb'⟩; exact hK _ _ (Le.mk hb') ⟨v6', rfl, h6'⟩
        -- 4: 79 := Op.fieldAddr 50 t13 1
        · intro wo hw  KQ hK; go_simp; exact hK _ _ (Le.refl _) (IsD.mk _ _ _)
        -- 5: 80 := Op.load 3 t79
        · intro wo hw h4 KQ hK; cases h4; have kk := box_cell (hw.old H13_9.out (by omega)) 9 (.int .i64 sr) rfl wo (Le.refl _); go_simp; exact hK _ _ (Le.refl _) (IsD.mk _ _ _)
        -- 6: 81 := Op.fieldAddr 50 t13 2
        · intro wo hw  KQ hK; go_simp; exact hK _ _ (Le.refl _) (IsD.mk _ _ _)
        -- 7: 82 := Op.load 3 t81
        · intro wo hw h6 KQ hK; cases h6; have kk := box_cell (hw.old H13_9.out (by omega)) 10 (.int .i64 la) rfl wo (Le.refl _); go_simp; exact hK _ _ (Le.refl _) (IsD.mk _ _ _)
        -- 8: 83 := Op.fieldAddr 50 t13 3
        · intro wo hw  KQ hK; go_simp; exact hK _ _ (Le.refl _) (IsD.mk _ _ _)
        -- 9: 84 := Op.fieldAddr 48 t83 0
        · intro wo hw h8 KQ hK; cases h8; go_simp; exact hK _ _ (Le.refl _) (IsD.mk _ _ _)
        -- 10: 85 := Op.load 3 t84
        · intro wo hw h9 KQ hK; cases h9; have kk := box_cell (hw.old H13_9.out (by omega)) 11 (.int .i64 ws) rfl wo (Le.refl _); go_simp; exact hK _ _ (Le.refl _) (IsD.mk _ _ _)
        -- 11: 86 := Op.fieldAddr 50 t13 3
        · intro wo hw  KQ hK; go_simp; exact hK _ _ (Le.refl _) (IsD.mk _ _ _)
        -- 12: 87 := Op.fieldAddr 48 t86 1
        · intro wo hw h11 KQ hK; cases h11; go_simp; exact hK _ _ (Le.refl _) (IsD.mk _ _ _)
        -- 13: 88 := Op.load 3 t87
        · intro wo hw h12 KQ hK; cases h12; have kk := box_cell (hw.old H13_9.out (by omega)) 12 (.int .i64 wl) rfl wo (Le.refl _); go_simp; exact hK _ _ (Le.refl _) (IsD.mk _ _ _)
        -- 14: 89 := Op.fieldAddr 50 t13 3
        · intro wo hw  KQ hK; go_simp; exact hK _ _ (Le.refl _) (IsD.mk _ _ _)
        -- 15: 90 := Op.fieldAddr 48 t89 2
        · intro wo hw h14 KQ hK; cases h14; go_simp; exact hK _ _ (Le.refl _) (IsD.mk _ _ _)
        -- 16: 91 := Op.load 3 t90
        · intro wo hw h15 KQ hK; cases h15; have kk := box_cell (hw.old H13_9.out (by omega)) 13 (.int .i64 wt) rfl wo (Le.refl _); go_simp; exact hK _ _ (Le.refl _) (IsD.mk _ _ _)
        -- 17: 92 := Op.build 59 #[(0, t85), (1, t88), (2, t91)]
        · intro wo hw h10 h13 h16 KQ hK; cases h10; cases h13; cases h16; go_simp; exact hK _ _ (Le.refl _) (IsD.mk _ _ _)
        -- 18: 93 := Op.fieldAddr 50 t13 4
        · intro wo hw  KQ hK; go_simp; exact hK _ _ (Le.refl _) (IsD.mk _ _ _)
        -- 19: 94 := Op.load 4 t93
        · intro wo hw h18 KQ hK; cases h18; have kk := box_cell (hw.old H13_9.out (by omega)) 14 (.bool mu) rfl wo (Le.refl _); go_simp; exact hK _ _ (Le.refl _) (IsD.mk _ _ _)
        -- 20: 95 := Op.call { value (Operand.func 14), args := #[t75, t78, t80, t82, t92, t94], argTypes := #[38, 57, 3, 3, 59, 4] }
        · intro wo hw h0 h3 h5 h7 h17 h19 KQ hK; cases h0; obtain ⟨a6, rfl, hh6⟩ := h3; cases h5; cases h7; cases h17; cases h19; go_simp; refine (HRT.out a6 (.slice none 0 0) _ (H5.out _ (BT.le LE_9.out.drew hw hsz9)) hh6 (BT.rsl (fun _ _ _ _ h => h) en_str ((Le.refl w9).drew.rsl keeps_en HK_9.out) hw)).mono ?_; intro e w' hq; obtain ⟨v', rfl, htk, hle'⟩ := TkP.of hq hw.size; exact hK _ _ hle' htk
        -- 21: 74 := Op.move t95
        · intro wo hw h20 KQ hK; obtain ⟨KA, ck, K', rfl, hk', hks⟩ := h20; go_simp; exact hK _ _ (Le.refl _) ⟨KA, ck, K', rfl, hk', hks⟩
        -- 22: 96 := Op.extract t74 0
        · intro wo hw h21 KQ hK; obtain ⟨KA, ck, K', rfl, hk', hks⟩ := h21; go_simp; exact hK _ _ (Le.refl _) ⟨KA, ck, K', rfl, hk', hks⟩
        -- 23: 97 := Op.extract t74 1
        · intro wo hw h21 KQ hK; obtain ⟨KA, ck, K', rfl, hk', hks⟩ := h21; go_simp; exact hK _ _ (Le.refl _) (IsD.mk _ _ _)
        -- 24: 98 := Op.extract t74 2
        · intro wo hw h21 KQ hK; obtain ⟨KA, ck, K', rfl, hk', hks⟩ := h21; go_simp; exact hK _ _ (Le.refl _) (IsD.mk _ _ _)
        -- 25: 99 := Op.extract t74 3
        · intro wo hw h21 KQ hK; obtain ⟨KA, ck, K', rfl, hk', hks⟩ := h21; go_simp; exact hK _ _ (Le.refl _) (IsD.mk _ _ _)
        -- 26: 17 := Op.alloc 38
        · intro wo hw  KQ hK; go_simp; exact hK _ _ ((Le.refl _).alloc _) ⟨_, _, rfl, hw.size, heap_alloc_new _ _, (by simp [NoS]), rfl⟩
        -- 27: none := Op.store 38 t17 t96
        · intro wo hw h22 h26 KQ hK; obtain ⟨KA, ck, K', rfl, hk', hks⟩ := h22; obtain ⟨g17, ⟨cs26⟩, rfl, hB26, hh26, hn26, hz26⟩ := h26; refine cast (if_pos (show Region.wanted _ _ = true from rfl)).symm ?_; refine wp_store_blk 38 (.tmp 17) (.tmp 96) rfl (cs := [.int .u32 r.1.ssrc, .int .i64 r.1.st.room, .bool r.1.pick.on, .int .i64 r.1.pick.src, .int .i64 r.1.pick.layer, .int .i64 r.1.pick.tid, .bool r.1.nums.on, .int .i64 r.1.nums.high, .int .i64 r.1.nums.since, .int .i64 r.1.nums.off.seq, .int .i64 r.1.nums.off.time, .int .i64 r.1.nums.off.pic, .int .i64 r.1.nums.off.tl0, .int .i64 r.1.nums.out.seq, .int .i64 r.1.nums.out.time, .int .i64 r.1.nums.out.pic, .int .i64 r.1.nums.out.tl0, .slice KA K'.length ck, .int .i64 r.1.sent, .int .i64 r.1.left, .int .i64 r.1.dropped, .int .i64 r.1.late, .int .i64 r.1.bad]) rfl rfl (by kernel_rfl) (by simp [Value.oneCell']) hh26 hz26 ?_; intro w' h' hg'; have hbt := BT.store (B := w9.heap.size) hg' hB26 hh26 h' hn26 (by simp [NoS]) (by rw [hz26]; rfl); exact hK undef _ hbt ⟨g17, KA, ck, K', rfl, h', BT.rsl (fun _ _ _ _ h => h) en_str hk' hbt, hks⟩
        -- 28: 18 := Op.assign t97
        · intro wo hw h23 KQ hK; cases h23; go_simp; exact hK _ _ (Le.refl _) (IsD.mk _ _ _)
        -- 29: 19 := Op.assign t98
        · intro wo hw h24 KQ hK; cases h24; go_simp; exact hK _ _ (Le.refl _) (IsD.mk _ _ _)
        · intro wz hz h0 h1 h2 h3 h4 h5 h6 h7 h8 h9 h10 h11 h12 h13 h14 h15 h16 h17 h18 h19 h20 h21 h22 h23 h24 h25 h26 h27 h28 h29; cases h0; cases h1; cases h2; obtain ⟨a6, rfl, hh6⟩ := h3; cases h4; cases h5; cases h6; cases h7; cases h8; cases h9; cases h10; cases h11; cases h12; cases h13; cases h14; cases h15; cases h16; cases h17; cases h18; cases h19; obtain ⟨KA, ck, K', rfl, hk', hks⟩ := h20; obtain ⟨KA, ck, K', rfl, hk', hks⟩ := h21; obtain ⟨KA, ck, K', rfl, hk', hks⟩ := h22; cases h23; cases h24; cases h25; obtain ⟨g17, ⟨cs26⟩, rfl, hB26, hh26, hn26, hz26⟩ := h26; cases h28; cases h29; skip
          obtain ⟨g27, KA, ck, K', hp27, hh17, hk', hks⟩ := h27
          cases hp27
          obtain ⟨ps', hpl', hki'⟩ := HKS.out w9.heap.size (lt_of_heap H11_9.out) K' _ hks
          have HKI' := hide hki'
          have HK2 := hide hk'
          clear hk' hks hki' HKS HK_9 HKI HRT HOF H5
          have H11_10 := hide (((BT.le (Le.refl w9).drew hz (Nat.le_refl _))).heap H11_9.out)
          have H13_10 := hide (((BT.le (Le.refl w9).drew hz (Nat.le_refl _))).heap H13_9.out)
          have HD9_10 := hide (HD9.out.le (BT.le (Le.refl w9).drew hz (Nat.le_refl _)))
          have HV9_10 := hide ((BT.le (Le.refl w9).drew hz (Nat.le_refl _)).rsl keeps_u8 HV9.out)
          have LE_10 := hide (Le.trans LE_9.out (BT.le (Le.refl w9).drew hz (Nat.le_refl _)))
          have hs5 := lt_of_heap H13_10.out
          clear H11_9 H13_9 HD9 HV9 LE_9
          have H17 := hide hh17
          go_upto_region 16 with fail
          go_upto_region 17 with (first | (refine wpl_load_blk rfl 38 (.tmp 17) rfl (cs := [.int .u32 r.1.ssrc, .int .i64 r.1.st.room, .bool r.1.pick.on, .int .i64 r.1.pick.src, .int .i64 r.1.pick.layer, .int .i64 r.1.pick.tid, .bool r.1.nums.on, .int .i64 r.1.nums.high, .int .i64 r.1.nums.since, .int .i64 r.1.nums.off.seq, .int .i64 r.1.nums.off.time, .int .i64 r.1.nums.off.pic, .int .i64 r.1.nums.off.tl0, .int .i64 r.1.nums.out.seq, .int .i64 r.1.nums.out.time, .int .i64 r.1.nums.out.pic, .int .i64 r.1.nums.out.tl0, .slice KA K'.length ck, .int .i64 r.1.sent, .int .i64 r.1.left, .int .i64 r.1.dropped, .int .i64 r.1.late, .int .i64 r.1.bad]) _ rfl Try.underlying38 rfl (by kernel_rfl) H17.out ?_) | (refine wpl_store_blk rfl 38 (.tmp 11) (.tmp 100) (cs := [.int .u32 r.1.ssrc, .int .i64 r.1.st.room, .bool r.1.pick.on, .int .i64 r.1.pick.src, .int .i64 r.1.pick.layer, .int .i64 r.1.pick.tid, .bool r.1.nums.on, .int .i64 r.1.nums.high, .int .i64 r.1.nums.since, .int .i64 r.1.nums.off.seq, .int .i64 r.1.nums.off.time, .int .i64 r.1.nums.off.pic, .int .i64 r.1.nums.off.tl0, .int .i64 r.1.nums.out.seq, .int .i64 r.1.nums.out.time, .int .i64 r.1.nums.out.pic, .int .i64 r.1.nums.out.tl0, .slice KA K'.length ck, .int .i64 r.1.sent, .int .i64 r.1.left, .int .i64 r.1.dropped, .int .i64 r.1.late, .int .i64 r.1.bad]) rfl rfl rfl (by kernel_rfl) (by simp [Value.oneCell']) H11_10.out rfl ?_; intro w17 hn hg; have H13_11 := hide (heap_grown hg H13_10.out (by simp <;> omega)); have H17_11 := hide (heap_grown hg H17.out (by simp <;> omega)); have HD9_11 := hide (HD9_10.out.off hg (fun k hk => Nat.lt_of_lt_of_le (HB.out k hk) (by omega)) (fun cs fr e => by rw [H11_10.out] at e; injection e with e; injection e with _ e _; exact absurd e (by decide))); have HV9_11 := hide (rsl8_off HV9_10.out hg H11_10.out (by simp)); have HK2_11 := hide (rslE_off HK2.out hg H11_10.out (by simp)); have H11_11 := hide hn; have LE_11 := hide (Le.mk (below_row LE_10.out.out hg (by omega) LE_10.out.size)); clear H13_10 H17 HD9_10 HV9_10 HK2 H11_10 LE_10 hn hg))
          have f1 := conv_le HV9_11.out w17 (Le.refl _)
          go_upto_region 19 with fail
          clear f1
          clear HV9_11
          go_wp2_with fail
          refine (downCount_any HD9_11.out).mono ?_
          rintro e w18 ⟨rfl, hb⟩
          have H11_12 := hide (((Le.mk hb)).heap H11_11.out)
          have H13_12 := hide (((Le.mk hb)).heap H13_11.out)
          have H17_12 := hide (((Le.mk hb)).heap H17_11.out)
          have HD9_12 := hide (HD9_11.out.le (Le.mk hb))
          have HK2_12 := hide ((Le.mk hb).rsl keeps_en HK2_11.out)
          have LE_12 := hide (Le.trans LE_11.out (Le.mk hb))
          have hs6 := lt_of_heap H17_12.out
          clear H11_11 H13_11 H17_11 HD9_11 HK2_11 LE_11 hb
          simp only [Dn.countV]
          go_upto_region 20 with fail
          have H11_13 := hide (show (World.alloc w18 (.cells #[.int .i64 r.1.sent, .int .i64 r.1.left, .int .i64 r.1.dropped, .int .i64 r.1.late, .int .i64 r.1.bad] 60)).heap[g]? = some (.cells #[.int .u32 r.1.ssrc, .int .i64 r.1.st.room, .bool r.1.pick.on, .int .i64 r.1.pick.src, .int .i64 r.1.pick.layer, .int .i64 r.1.pick.tid, .bool r.1.nums.on, .int .i64 r.1.nums.high, .int .i64 r.1.nums.since, .int .i64 r.1.nums.off.seq, .int .i64 r.1.nums.off.time, .int .i64 r.1.nums.off.pic, .int .i64 r.1.nums.off.tl0, .int .i64 r.1.nums.out.seq, .int .i64 r.1.nums.out.time, .int .i64 r.1.nums.out.pic, .int .i64 r.1.nums.out.tl0, .slice KA K'.length ck, .int .i64 r.1.sent, .int .i64 r.1.left, .int .i64 r.1.dropped, .int .i64 r.1.late, .int .i64 r.1.bad] 38 (0, 0)) from heap_alloc H11_12.out)
          have H13_13 := hide (show (World.alloc w18 (.cells #[.int .i64 r.1.sent, .int .i64 r.1.left, .int .i64 r.1.dropped, .int .i64 r.1.late, .int .i64 r.1.bad] 60)).heap[wr.heap.size]? = some (.cells #[.bool mk, .int .u8 ty, .int .u16 sq, .int .u32 tm, .int .u32 ss, .slice A5 cs.length c5, .slice A6 ex.length c6, .slice A7 pl.length c7, .int .i64 pd, .int .i64 sr, .int .i64 la, .int .i64 ws, .int .i64 wl, .int .i64 wt, .bool mu] 50 (0, 0)) from heap_alloc H13_12.out)
          have H21_13 := hide (show (World.alloc w18 (.cells #[.int .i64 r.1.sent, .int .i64 r.1.left, .int .i64 r.1.dropped, .int .i64 r.1.late, .int .i64 r.1.bad] 60)).heap[w18.heap.size]? = some (.cells #[.int .i64 r.1.sent, .int .i64 r.1.left, .int .i64 r.1.dropped, .int .i64 r.1.late, .int .i64 r.1.bad] 60 (0, 0)) from heap_alloc_new _ _)
          have HD9_13 := hide (HD9_12.out.le ((Le.refl w18).alloc (.cells #[.int .i64 r.1.sent, .int .i64 r.1.left, .int .i64 r.1.dropped, .int .i64 r.1.late, .int .i64 r.1.bad] 60)))
          have HK2_13 := hide (((Le.refl w18).alloc (.cells #[.int .i64 r.1.sent, .int .i64 r.1.left, .int .i64 r.1.dropped, .int .i64 r.1.late, .int .i64 r.1.bad] 60)).rsl keeps_en HK2_12.out)
          have LE_13 := hide (show Le w (World.alloc w18 (.cells #[.int .i64 r.1.sent, .int .i64 r.1.left, .int .i64 r.1.dropped, .int .i64 r.1.late, .int .i64 r.1.bad] 60)) from LE_12.out.alloc _)
          clear H11_12 H13_12 H17_12 HD9_12 HK2_12 LE_12
          generalize (World.alloc w18 (.cells #[.int .i64 r.1.sent, .int .i64 r.1.left, .int .i64 r.1.dropped, .int .i64 r.1.late, .int .i64 r.1.bad] 60)) = w19 at *
          have hs7 := lt_of_heap H21_13.out
          have kc8 := box_cell H21_13.out 0 (.int .i64 r.1.sent) rfl w19 (Le.refl _)
          have kc9 := box_cell H11_13.out 18 (.int .i64 r.1.sent) rfl w19 (Le.refl _)
          have kc10 := box_cell H21_13.out 1 (.int .i64 r.1.left) rfl w19 (Le.refl _)
          have kc11 := box_cell H11_13.out 19 (.int .i64 r.1.left) rfl w19 (Le.refl _)
          have kc12 := box_cell H21_13.out 2 (.int .i64 r.1.dropped) rfl w19 (Le.refl _)
          have kc13 := box_cell H11_13.out 20 (.int .i64 r.1.dropped) rfl w19 (Le.refl _)
          have kc14 := box_cell H21_13.out 3 (.int .i64 r.1.late) rfl w19 (Le.refl _)
          have kc15 := box_cell H11_13.out 21 (.int .i64 r.1.late) rfl w19 (Le.refl _)
          have kc16 := box_cell H21_13.out 4 (.int .i64 r.1.bad) rfl w19 (Le.refl _)
          have kc17 := box_cell H11_13.out 22 (.int .i64 r.1.bad) rfl w19 (Le.refl _)
          have hsse : ((r.1.ssrc : Int) != (ssrc : Int)) = false := by rw [HSS'.out]; simp
          go_wp2_with fail
          refine (downSSRC_any HD9_13.out).mono ?_
          rintro e w20 ⟨rfl, rfl⟩
          go_wp2_with fail
          clear hsse kc8 kc9 kc10 kc11 kc12 kc13 kc14 kc15 kc16 kc17
          have HST := hide HOK.out.st
          have HLEN := hide HKI'.out.len
          have HGET := hide (fun (q : Nat) (W : World) (hW : Le w19 W) => rget_is HKI'.out q W (hW.rsl keeps_en HK2_13.out) (by have := HLEN.out; omega))
          have hkl : K'.length ≤ 9 := by have := HLEN.out; omega
          go_loopw [22] (fun j wr2 => ∃ i : Nat, i ≤ K'.length ∧ j = .int .i64 i ∧ Le w19 wr2) (fun j _ => K'.length - (intOf j).toNat)
          case atStart => exact ⟨0, Nat.zero_le _, rfl, Le.refl _⟩
          case round =>
            obtain ⟨i, hi2, rfl, hl2⟩ := hrel
            have HL2 := hide hl2
            clear hl2
            by_cases hlt2 : i < K'.length
            · have hlt2I : (i : Int) < (K'.length : Int) := by omega
              have h0I2 : (0 : Int) ≤ (i : Int) := by omega
              obtain ⟨kb, ko, rfl⟩ := rsl_addr HK2_13.out (by omega)
              have HC := hide (en_cell HK2_13.out hlt2)
              have HQ := hide (HKI'.out.seq i hlt2)
              generalize K'[i].1 = q at *
              have kca := box_cell H11_13.out 17 (.slice (some ⟨kb, ko, none⟩) K'.length ck) rfl wr HL2.out
              have kcb := HL2.out.cell HC.out
              go_wp2_with fail
              refine (downAgain_any (HD9_13.out.le HL2.out) HST.out q HQ.out).mono ?_
              rintro e w21 ⟨v2, rfl, hv2, hb2⟩
              obtain ⟨Av2, rfl⟩ := hv2.slice
              have HV2 := hide hv2.rsl
              have HL3 := hide (HL2.out.trans ⟨hb2⟩)
              clear kca kcb hv2 hb2
              go_upto_region 26 with fail
              refine' wp_region_tail 13 9 180 Le (Is _ :: Is _ :: Is _ :: Is _ :: Is _ :: Is _ :: Is _ :: Is _ :: Is _ :: Is _ :: Is _ :: Is _ :: Is _ :: []) ([] :: [0] :: [] :: [2] :: [] :: [3, 4] :: [5] :: [6] :: [1, 7] :: [8] :: [9] :: [9] :: [10] :: []) (by kernel_rfl) (by kernel_rfl) (by rfl) (by kernel_rfl) (by kernel_rfl) Le.refl (fun _ _ _ h h' => h.trans h') ⟨St.is, St.is, St.is, St.is, St.is, St.is, St.is, St.is, St.is, St.is, St.is, St.is, St.is, trivial⟩ ?m26
              case m26 =>
                simp (maxSteps := 100000000) only [AllV, Obl2, Leans, factAt, allFacts, actOf, putAll, putRow, Act.put, List.setIfInBounds_toArray, List.set_cons_succ, List.set_cons_zero, List.getElem?_cons_zero, List.getElem?_cons_succ, List.take_succ_cons, List.take_zero, List.drop_succ_cons, List.drop_zero, List.cons_append, List.nil_append, List.length_cons, List.length_nil, Nat.reduceAdd]
                intro x0 x1 x2 x3 x4 x5 x6 x7 x8 x9 x10 x11 x12
                refine ⟨⟨?_, ?_, ?_, ?_, ?_, ?_, ?_, ?_, ?_, ?_, ?_, ?_, ?_, trivial⟩, ?_⟩
                -- 0: 180 := Op.fieldAddr 38 t11 4
                · intro wo hw  KQ hK; go_simp; exact hK _ _ (Le.refl _) (Is.mk _ _)
                -- 1: 181 := Op.load 34 t180
                · intro wo hw h0 KQ hK; cases h0; have kk := box_cell (hw.heap (HL3.out.heap H11_13.out)) 17 (.slice (some ⟨kb, ko, none⟩) K'.length ck) rfl wo (Le.refl _); go_simp; exact hK _ _ (Le.refl _) (Is.mk _ _)
                -- 2: 182 := Op.fieldAddr 38 t11 4
                · intro wo hw  KQ hK; go_simp; exact hK _ _ (Le.refl _) (Is.mk _ _)
                -- 3: 183 := Op.load 34 t182
                · intro wo hw h2 KQ hK; cases h2; have kk := box_cell (hw.heap (HL3.out.heap H11_13.out)) 17 (.slice (some ⟨kb, ko, none⟩) K'.length ck) rfl wo (Le.refl _); go_simp; exact hK _ _ (Le.refl _) (Is.mk _ _)
                -- 4: 184 := Op.move t22
                · intro wo hw  KQ hK; go_simp; exact hK _ _ (Le.refl _) (Is.mk _ _)
                -- 5: 185 := Op.indexAddr 34 t183 t184
                · intro wo hw h3 h4 KQ hK; cases h3; cases h4; go_simp; exact hK _ _ (Le.refl _) (Is.mk _ _)
                -- 6: 186 := Op.fieldAddr 66 t185 0
                · intro wo hw h5 KQ hK; cases h5; go_simp; exact hK _ _ (Le.refl _) (Is.mk _ _)
                -- 7: 187 := Op.load 39 t186
                · intro wo hw h6 KQ hK; cases h6; have kk := (HL3.out.drew.trans hw).cell HC.out; go_simp; exact hK _ _ (Le.refl _) (Is.mk _ _)
                -- 8: 188 := Op.call { value (Operand.func 19), args := #[t181, t187], argTypes := #[34, 39] }
                · intro wo hw h1 h7 KQ hK; cases h1; cases h7; go_simp; refine (HGET.out q _ (HL3.out.drew.trans hw)).mono ?_; rintro e w' ⟨rfl, rfl⟩; exact hK _ _ (Le.refl _) (Is.mk _ _)
                -- 9: 179 := Op.move t188
                · intro wo hw h8 KQ hK; cases h8; go_simp; exact hK _ _ (Le.refl _) (Is.mk _ _)
                -- 10: 189 := Op.extract t179 0
                · intro wo hw h9 KQ hK; cases h9; go_simp; exact hK _ _ (Le.refl _) (Is.mk _ _)
                -- 11: 190 := Op.extract t179 1
                · intro wo hw h9 KQ hK; cases h9; go_simp; exact hK _ _ (Le.refl _) (Is.mk _ _)
                -- 12: 25 := Op.assign t189
                · intro wo hw h10 KQ hK; cases h10; go_simp; exact hK _ _ (Le.refl _) (Is.mk _ _)
                · intro wz hz h0 h1 h2 h3 h4 h5 h6 h7 h8 h9 h10 h11 h12; cases h0; cases h1; cases h2; cases h3; cases h4; cases h5; cases h6; cases h7; cases h8; cases h9; cases h10; cases h11; cases h12; skip
                  have HL4 := hide (HL3.out.drew.trans hz)
                  have f2 := conv_le HV2.out wz ((Le.refl _).drew.trans hz)
                  go_wp2_with fail
                  go_roundw
                  case rel => exact ⟨i + 1, by omega, by go_num, HL4.out⟩
                  case measure => simp [intOf]; omega
            · have hlt2I : ¬ (i : Int) < (K'.length : Int) := by omega
              have kca := box_cell H11_13.out 17 (.slice KA K'.length ck) rfl wr HL2.out
              have kcb := box_cell H13_13.out 2 (.int .u16 sq) rfl wr HL2.out
              go_wp2_with fail
              refine (downAgain_any (HD9_13.out.le HL2.out) HST.out sq hsq).mono ?_
              rintro e w21 ⟨v2, rfl, hv2, hb2⟩
              obtain ⟨Av2, rfl⟩ := hv2.slice
              have HV2 := hide hv2.rsl
              have HL3 := hide (HL2.out.trans ⟨hb2⟩)
              clear kca kcb hv2 hb2
              have kca := box_cell H11_13.out 17 (.slice KA K'.length ck) rfl w21 HL3.out
              have kcb := box_cell H13_13.out 2 (.int .u16 sq) rfl w21 HL3.out
              go_wp2_with fail
              refine (HGET.out sq _ HL3.out).mono ?_
              rintro e w22 ⟨rfl, rfl⟩
              have f2 := conv_le HV2.out w21 (Le.refl _)
              go_wp2_with fail
              go_roundw
              case rel => exact ⟨k + 1, r.1, vs9, ps', K', .slice KA K'.length ck, by omega, by go_num, HD9_13.out.le HL3.out, HOK.out, HKI', by omega, HSS', hide (HL3.out.rsl keeps_en HK2_13.out), hide (HL3.out.heap H11_13.out), LE_13.out.trans HL3.out⟩
              case measure => simp [intOf]; omega
    · have hltI : ¬ (k : Int) < (l.length : Int) := by omega
      have HBB := hide hle
      clear hd hok hle HK H11
      go_wp2_with fail
      go_ret
      exact ⟨rfl, HBB.out.out⟩
end Go.Proofs.Ytekioihjfggmdaa

/- DownPlays: for every input the call returns true, and each argument reads behind it as it read before. No condition. -/
namespace Go.Proofs.Ytekioihjfggmdaa.downPlays
open Go.ChangeShapes Go.WideShapes Go.ChangeAt Go.RowKit
open Go.ChangeMaps (open_string shut_string)
set_option linter.unusedVariables false

theorem own : ownKnob Try.prog.godebug = none := by kernel_rfl
theorem laidOut : laidOutB Try.prog = true := by kernel_rfl

set_option maxRecDepth 100000 in
theorem lifted (os : Os) (started : os.Started) (H : Type) (enc : TypeId × Value → H) :
    ReturnsInHanded {} Try.checked os 3 .any (Rows.downPlaysSpec.pre6 enc Try.prog Try.f3 Rows.downPlaysRow.domain false) (Rows.downPlaysSpec.post enc Try.prog Try.f3 false true false false) := by
  refine returnsInHanded_of_change (C := Try.checked) own started (by kernel_rfl) Try.func3
    (ChangeSpec.witness6 (enc := enc) (C := Try.checked) false ⟨#[], #[.int .u32 0, .int .u8 0, .slice none 0 0], []⟩ 8 (by kernel_rfl) (by kernel_rfl) (by kernel_rfl) (by kernel_rfl)) ?_
  intro W base args ds gs before hval0 hW hcnd _
  have hval : ∀ (j : Nat) t v, Try.f3.params[j]? = some t → args[j]? = some v → Value.okWide Try.prog W .any base t v := hval0
  have hW' := hW
  obtain ⟨p, q, hA0, hV, rfl, hfz, hnd⟩ := hW
  have hA : DataW.TrodAll enc Try.prog W 0 (fun _ => true) true Try.f3.params.toList args.toList ds p := hA0
  rw [Try.params3] at hA hval
  obtain ⟨v0, vs0, d0, ds0, p0, q0, hargs, rfl, rfl, h0, r0⟩ := trodAll_cons hA
  obtain ⟨v1, vs1, d1, ds1, p1, q1, rfl, rfl, rfl, h1, r1⟩ := trodAll_cons r0
  obtain ⟨v2, vs2, d2, ds2, p2, q2, rfl, rfl, rfl, h2, r2⟩ := trodAll_cons r1
  obtain ⟨rfl, rfl, rfl⟩ := trodAll_nil r2
  obtain rfl : args = #[v0, v1, v2] := by cases args; simp_all
  obtain ⟨rfl, rfl⟩ := trodVars_none hV
  have lt0 : ∀ x ∈ p0, x.block < W.heap.size := by obtain ⟨m, hm⟩ := h0; exact DataW.trod_lt m _ _ _ hm
  have lt1 : ∀ x ∈ p1, x.block < W.heap.size := by obtain ⟨m, hm⟩ := h1; exact DataW.trod_lt m _ _ _ hm
  have lt2 : ∀ x ∈ p2, x.block < W.heap.size := by obtain ⟨m, hm⟩ := h2; exact DataW.trod_lt m _ _ _ hm
  obtain ⟨y0, hv0, _, _, wx0⟩ := open_int Try.underlying22 (hval 0 22 v0 rfl rfl) h0
  subst hv0
  obtain ⟨x0, rfl, w0⟩ := wf_u32 wx0
  obtain ⟨y1, hv1, _, _, wx1⟩ := open_int Try.underlying5 (hval 1 5 v1 rfl rfl) h1
  subst hv1
  obtain ⟨x1, rfl, w1⟩ := wf_u8 wx1
  obtain ⟨a2, n2, c2, rfl⟩ := okWide_slice Try.underlying23 (hval 2 23 v2 rfl rfl)
  obtain ⟨l2, w2, x2⟩ := open_steps14 h2
  clear hA0 hval0
  refine (downPlays_walk W x0 w0 x1 w1 l2 a2 n2 c2 w2 x2).mono fun e W' ⟨he, bel⟩ => ?_
  subst he
  exact ⟨_, rfl, _, _, _, [], _, [], hW', trodAll_mk1 (shut_bool Try.underlying4 _), (trodAll_cons_mk (Below.trod laidOut (by kernel_rfl) (of_decide_eq_true (by kernel_rfl)) h0 bel lt0) (trodAll_cons_mk (Below.trod laidOut (by kernel_rfl) (of_decide_eq_true (by kernel_rfl)) h1 bel lt1) (trodAll_cons_mk (Below.trod laidOut (by kernel_rfl) (of_decide_eq_true (by kernel_rfl)) h2 bel lt2) trodAll_mk0))), rfl, bel.frame _, fun h => by cases h⟩

theorem over : Rows.downPlaysRow.holds Try.pinned (OpenSpec.ofChange Rows.downPlaysSpec) :=
  OpenClaim.holds_of_wide 3 Try.f3 rfl rfl rfl rfl rfl rfl rfl ⟨rfl, rfl, rfl, rfl, rfl⟩ rfl rfl rfl rfl rfl (by kernel_rfl) Try.func3 (by kernel_rfl)
    (of_decide_eq_true (by kernel_rfl)) (by unfold Func.isWrapper; first | (rw [if_pos (by decide +kernel)]; kernel_rfl) | (rw [if_neg (by decide +kernel)]; exact ⟨rfl, rfl⟩))
    (fun os started H enc _ => lifted os started H enc)

/-- THE STATEMENT. -/
theorem proved : Rows.DownPlaysSaid := over
#print axioms proved
end Go.Proofs.Ytekioihjfggmdaa.downPlays
