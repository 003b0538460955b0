/- req.Put of a request that may be. -/
import Derived.Test.YtlfomilalkkbeaaReq
namespace Go.Proofs.Ytlfomilalkkbeaa
open Go.RowKit
set_option linter.unusedVariables false

set_option maxRecDepth 100000 in
set_option maxHeartbeats 1000000 in
theorem reqPut_ok (id : Nat) (q : Rq) (A : Option Addr) (n cap : Nat) (w : World) (hid : (id : Int) < 18446744073709551616) (hr : RSl 1 RU32 w q.ssrcs (.slice A n cap)) (h : q.ok = true) :
    Calls Try.prog 26 #[.int .u64 id, .agg #[.int .i64 q.kind, .int .i64 q.who, .int .i64 q.room, .int .i64 q.rights, .int .i64 q.track, .slice A n cap, .int .i64 q.layer, .int .i64 q.tid]] w (Owns8E w (q.bytes id) 0) := by
  have HID := hide hid
  have HR := hide hr
  obtain ⟨A', cap', hv, hcap, hri⟩ := hr
  injection hv with e1 e2 e3
  subst e1 e2 e3
  have HRI := hide hri
  obtain ⟨g1, g2, g3, g4, g5, g6, g7, g8⟩ := ok_parts h
  obtain ⟨kind, who, room, rights, track, layer, tid, ssrcs⟩ := q
  simp only at *
  obtain ⟨kind, rfl⟩ := Int.eq_ofNat_of_zero_le g1.1
  obtain ⟨who, rfl⟩ := Int.eq_ofNat_of_zero_le g2.1
  obtain ⟨room, rfl⟩ := Int.eq_ofNat_of_zero_le g3.1
  obtain ⟨rights, rfl⟩ := Int.eq_ofNat_of_zero_le g4.1
  obtain ⟨track, rfl⟩ := Int.eq_ofNat_of_zero_le g5.1
  obtain ⟨layer, rfl⟩ := Int.eq_ofNat_of_zero_le g6.1
  obtain ⟨tid, rfl⟩ := Int.eq_ofNat_of_zero_le g7.1
  have f1 : fitS who 2 = true := by simp [fitS, fitB]; omega
  have f2 : fitS room 1 = true := by simp [fitS, fitB]; omega
  have f3 : fitS rights 1 = true := by simp [fitS, fitB]; omega
  have f4 : fitS track 2 = true := by simp [fitS, fitB]; omega
  have f5 : fitS layer 1 = true := by simp [fitS, fitB]; omega
  have f6 : fitS tid 1 = true := by simp [fitS, fitB]; omega
  have f7 : (ssrcs.length : Int) ≤ 255 := by omega
  have k1 : (kind : Int) ≤ 9 := g1.2
  have k2 : who < 65536 := by omega
  have k3 : room < 256 := by omega
  have k4 : rights < 256 := by omega
  have k5 : track < 65536 := by omega
  have k6 : layer < 256 := by omega
  have k7 : tid < 256 := by omega
  clear hid hri h g1 g2 g3 g4 g5 g6 g7
  go_enter Try.func26, Try.ntmps26
  go_wp2_with (go_at_call 38; refine (fits_any _ _ _ (by omega)).mono ?_; rintro e w' ⟨rfl, rfl⟩)
  have hq0 : ∀ W, Below (w.heap.size + 1) (w.alloc (.cells #[.int .i64 kind, .int .i64 who, .int .i64 room, .int .i64 rights, .int .i64 track, .slice A ssrcs.length cap, .int .i64 layer, .int .i64 tid] 56)) W → W.heap[w.heap.size]? = some (.cells #[.int .i64 kind, .int .i64 who, .int .i64 room, .int .i64 rights, .int .i64 track, .slice A ssrcs.length cap, .int .i64 layer, .int .i64 tid] 56 (0, 0)) := fun W h => (h.block _ (Nat.lt_succ_self _)).trans (heap_alloc_new w _)
  have hq1 : ∀ W, Below (w.heap.size + 1) (w.alloc (.cells #[.int .i64 kind, .int .i64 who, .int .i64 room, .int .i64 rights, .int .i64 track, .slice A ssrcs.length cap, .int .i64 layer, .int .i64 tid] 56)) W → W.cell? ⟨w.heap.size, 1, none⟩ = some (.int .i64 who) := fun W h => cell_block (hq0 W h) 1
  have hq2 : ∀ W, Below (w.heap.size + 1) (w.alloc (.cells #[.int .i64 kind, .int .i64 who, .int .i64 room, .int .i64 rights, .int .i64 track, .slice A ssrcs.length cap, .int .i64 layer, .int .i64 tid] 56)) W → W.cell? ⟨w.heap.size, 2, none⟩ = some (.int .i64 room) := fun W h => cell_block (hq0 W h) 2
  have hq3 : ∀ W, Below (w.heap.size + 1) (w.alloc (.cells #[.int .i64 kind, .int .i64 who, .int .i64 room, .int .i64 rights, .int .i64 track, .slice A ssrcs.length cap, .int .i64 layer, .int .i64 tid] 56)) W → W.cell? ⟨w.heap.size, 3, none⟩ = some (.int .i64 rights) := fun W h => cell_block (hq0 W h) 3
  have hq4 : ∀ W, Below (w.heap.size + 1) (w.alloc (.cells #[.int .i64 kind, .int .i64 who, .int .i64 room, .int .i64 rights, .int .i64 track, .slice A ssrcs.length cap, .int .i64 layer, .int .i64 tid] 56)) W → W.cell? ⟨w.heap.size, 4, none⟩ = some (.int .i64 track) := fun W h => cell_block (hq0 W h) 4
  have hq5 : ∀ W, Below (w.heap.size + 1) (w.alloc (.cells #[.int .i64 kind, .int .i64 who, .int .i64 room, .int .i64 rights, .int .i64 track, .slice A ssrcs.length cap, .int .i64 layer, .int .i64 tid] 56)) W → W.cell? ⟨w.heap.size, 5, none⟩ = some (.slice A ssrcs.length cap) := fun W h => cell_block (hq0 W h) 5
  have hq6 : ∀ W, Below (w.heap.size + 1) (w.alloc (.cells #[.int .i64 kind, .int .i64 who, .int .i64 room, .int .i64 rights, .int .i64 track, .slice A ssrcs.length cap, .int .i64 layer, .int .i64 tid] 56)) W → W.cell? ⟨w.heap.size, 6, none⟩ = some (.int .i64 layer) := fun W h => cell_block (hq0 W h) 6
  have hq7 : ∀ W, Below (w.heap.size + 1) (w.alloc (.cells #[.int .i64 kind, .int .i64 who, .int .i64 room, .int .i64 rights, .int .i64 track, .slice A ssrcs.length cap, .int .i64 layer, .int .i64 tid] 56)) W → W.cell? ⟨w.heap.size, 7, none⟩ = some (.int .i64 tid) := fun W h => cell_block (hq0 W h) 7
  clear hq0 f1 f2 f3 f4 f5 f6
  have hB : Below (w.heap.size + 1) (w.alloc (.cells #[.int .i64 kind, .int .i64 who, .int .i64 room, .int .i64 rights, .int .i64 track, .slice A ssrcs.length cap, .int .i64 layer, .int .i64 tid] 56)) (((w.alloc (.cells #[.int .i64 kind, .int .i64 who, .int .i64 room, .int .i64 rights, .int .i64 track, .slice A ssrcs.length cap, .int .i64 layer, .int .i64 tid] 56)).alloc (.cells #[.int .u64 id, .int .i64 8] 28)).alloc (.cells #[.slice (some ⟨w.heap.size + 1, 0, none⟩) 1 1] 22)) :=
    ((Below.refl _ _).alloc (by simp) _).alloc (by simp) _
  have hP : PartsAt (((w.alloc (.cells #[.int .i64 kind, .int .i64 who, .int .i64 room, .int .i64 rights, .int .i64 track, .slice A ssrcs.length cap, .int .i64 layer, .int .i64 tid] 56)).alloc (.cells #[.int .u64 id, .int .i64 8] 28)).alloc (.cells #[.slice (some ⟨w.heap.size + 1, 0, none⟩) 1 1] 22)) (w.heap.size + 1) (w.heap.size + 2) [(id, 8)] := by
    refine ⟨by omega, _, by simpa using heap_alloc_new ((w.alloc (.cells #[.int .i64 kind, .int .i64 who, .int .i64 room, .int .i64 rights, .int .i64 track, .slice A ssrcs.length cap, .int .i64 layer, .int .i64 tid] 56)).alloc (.cells #[.int .u64 id, .int .i64 8] 28)) _, rfl, .inr ⟨w.heap.size + 1, 1, _, rfl, Nat.le_refl _, heap_alloc (by simpa using heap_alloc_new (w.alloc (.cells #[.int .i64 kind, .int .i64 who, .int .i64 room, .int .i64 rights, .int .i64 track, .slice A ssrcs.length cap, .int .i64 layer, .int .i64 tid] 56)) _), by simp, by simp [maxLen], rfl, rfl⟩⟩
  refine (number_any _ _ _ _ _ _ (by omega) hP (by simp)).mono ?_
  rintro e w1 ⟨rfl, hP1, hb1⟩
  have hB1 := hB.trans hb1
  clear hP hB hb1
  go_wp2_with (go_at_call 39; refine (number_any _ _ _ _ _ _ (by omega) (by assumption) (by simp)).mono ?_; rintro e w1 ⟨rfl, hP1, hb1⟩; have hB1 := Below.trans (by assumption) hb1; clear hb1)
  obtain ⟨hd, hhd⟩ : ∃ hd, hd = Rq.head id ⟨kind, who, room, rights, track, layer, tid, ssrcs⟩ := ⟨_, rfl⟩
  have HH := hide hhd
  have hdl : hd.length = 9 := by rw [hhd]; rfl
  have hP9 : PartsAt w1 (w.heap.size + 1) (w.heap.size + 2) hd := by rw [hhd]; simpa [Rq.head] using hP1
  have hB9 := hB1
  clear hhd hP1 hB1
  have hdb : ∀ p ∈ hd, (p.1 : Int) < 18446744073709551616 := by
    rw [HH.out]
    intro p hp
    simp only [Rq.head, List.mem_cons, List.not_mem_nil, or_false] at hp
    have := HID.out
    rcases hp with rfl | rfl | rfl | rfl | rfl | rfl | rfl | rfl | rfl <;> simp only [Int.toNat_natCast] <;> omega
  have HDB := hide hdb
  clear hdb
  go_loopw [100] (fun j wr => ∃ k : Nat, k ≤ ssrcs.length ∧ j = .int .i64 k ∧ PartsAt wr (w.heap.size + 1) (w.heap.size + 2) (hd ++ tailP (ssrcs.take k)) ∧ Below (w.heap.size + 1) (w.alloc (.cells #[.int .i64 kind, .int .i64 who, .int .i64 room, .int .i64 rights, .int .i64 track, .slice A ssrcs.length cap, .int .i64 layer, .int .i64 tid] 56)) wr ∧ ∀ p ∈ ssrcs.take k, (p : Int) < 4294967296) (fun j _ => ssrcs.length - (intOf j).toNat)
  case atStart => exact ⟨0, Nat.zero_le _, rfl, by simpa [tailP] using hP9, hB9, by simp⟩
  case round =>
    clear hP9 hB9
    obtain ⟨k, hk, rfl, hP, hb, hall⟩ := hrel
    have HA := hide hall
    clear hall
    by_cases hlt : k < ssrcs.length
    · obtain ⟨b, off, rfl, hi⟩ := HRI.out (by rintro rfl; simp at hlt)
      obtain ⟨cs, _, hcc, hR, hx⟩ := hi k hlt
      subst hR
      have hbb : b < w.heap.size := block_lt (show w.cell? ⟨b, off + k * 1 + 0, none⟩ = _ from hcc 0 (by omega))
      have c0 : wr.cell? ⟨b, off + k, none⟩ = some (.int .u32 ssrcs[k]) := by
        have h1 : w.cell? ⟨b, off + k, none⟩ = some (.int .u32 ssrcs[k]) := by simpa using hcc 0 (by omega)
        rw [hb.cell (p := ⟨b, off + k, none⟩) (Nat.lt_succ_of_lt hbb), World.cell?_alloc_lt w _ _ hbb, h1]
      have HT := hide (tail_take ssrcs k hlt)
      have HT2 := hide (show ssrcs.take (k + 1) = ssrcs.take k ++ [ssrcs[k]] from List.take_succ_eq_append_getElem hlt)
      have hx' := hx
      generalize ssrcs[k] = x at *
      have HX := hide hx'
      have hxn : x ≤ 4294967295 := by omega
      have hbl := hide hb
      have htl := tail_length (ssrcs.take k)
      have htk : (ssrcs.take k).length ≤ k := List.length_take_le _ _
      have hll : (hd ++ tailP (ssrcs.take k)).length ≤ 1000 := by rw [List.length_append, htl]; omega
      have HLL := hide hll
      clear hcc hi hx hx' htl htk hll hbb hdl
      go_wp2_with fail
      refine (number_any _ _ _ _ _ _ (by omega) hP HLL.out).mono ?_
      rintro e w2 ⟨rfl, hP2, hb2⟩
      have hb3 := hbl.out.trans hb2
      clear hP hb2
      go_wp2_with fail
      go_roundw
      case rel =>
        refine ⟨k + 1, by omega, by go_num, ?_, hb3, ?_⟩
        · rw [HT.out, ← List.append_assoc]; exact hP2
        · rw [HT2.out]
          intro p hp
          rcases List.mem_append.1 hp with hp | hp
          · exact HA.out p hp
          · obtain rfl := List.mem_singleton.1 hp
            exact HX.out
      case measure => simp [intOf]; omega
    · have hke : k = ssrcs.length := by omega
      have HK := hide (show ssrcs.take k = ssrcs by rw [hke]; exact List.take_length)
      rw [HK.out] at hP HA
      clear hke
      have hbd : ∀ p ∈ hd ++ tailP ssrcs, (p.1 : Int) < 18446744073709551616 := fun p hp => by
        rcases List.mem_append.1 hp with hp | hp
        · exact HDB.out p hp
        · simp only [tailP, List.mem_map] at hp
          obtain ⟨a, ha, rfl⟩ := hp
          have := HA.out a ha
          simp only; omega
      have hle : (hd ++ tailP ssrcs).length ≤ 65536 := by rw [List.length_append, tail_length]; omega
      generalize hL : hd ++ tailP ssrcs = L at hP hbd hle
      have HL := hide hL
      clear hL
      obtain ⟨hbg, v, hg, hown⟩ := hP
      obtain ⟨A8, cap8, rfl, hcap8, hc8⟩ := own_slice hown
      have c8 : wr.cell? ⟨w.heap.size + 2, 0, none⟩ = some (.slice A8 L.length cap8) := cell_block hg 0
      have hrp := hide (rsl_parts rfl hcap8 hbd hc8)
      have HLE := hide hle
      have HBB := hide ((((Below.refl w.heap.size w).alloc (Nat.le_refl _) (.cells #[.int .i64 kind, .int .i64 who, .int .i64 room, .int .i64 rights, .int .i64 track, .slice A ssrcs.length cap, .int .i64 layer, .int .i64 tid] 56)).trans (hb.mono (Nat.le_succ _))))
      clear hown hc8 hg hle hbg hbd
      go_wp2_with fail
      refine (put_any _ _ _ _ _ hrp.out HLE.out).mono ?_
      rintro e w9 ⟨v9, rfl, hown9, hb9⟩
      go_wp2_with fail
      go_ret2
      refine ⟨_, rfl, ?_, HBB.out.trans (hb9.mono HBB.out.size)⟩
      rw [Rq.bytes, ← HH.out, HL.out]
      exact own_base hown9 HBB.out.size
end Go.Proofs.Ytlfomilalkkbeaa
