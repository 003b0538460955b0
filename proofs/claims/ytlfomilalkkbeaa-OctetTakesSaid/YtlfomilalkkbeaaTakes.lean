/- OctetTakes: the law's walk. -/
import Derived.Test.YtlfomilalkkbeaaLaw1
import Derived.Test.YtlfomilalkkbeaaHeld
namespace Go.Proofs.Ytlfomilalkkbeaa
open Go.RowKit
set_option linter.unusedVariables false

set_option maxRecDepth 100000 in
set_option maxHeartbeats 4000000 in
theorem octetTakes_walk (w : World) (l : List UInt8) (A : Option Addr) (n cap : Nat) (hr : RSl 1 RU8 w l (.slice A n cap)) (ss : List (Bool × Int)) (A2 : Option Addr) (n2 cap2 : Nat) (hs : RSl 2 RStep w ss (.slice A2 n2 cap2)) :
    Calls Try.prog 5 #[.slice A n cap, .slice A2 n2 cap2] w (Gives w (.bool true)) := by
  have HR := hide hr
  obtain ⟨A', cap', hv, hcap, _⟩ := hr
  injection hv with e1 e2 e3
  subst e1 e2 e3
  obtain ⟨A', cap', hv, hcap2, hsi⟩ := hs
  injection hv with e1 e2 e3
  subst e1 e2 e3
  have HS := hide hsi; clear hsi
  by_cases hbig : 300 < l.length
  · go_enter Try.func5, Try.ntmps5
    go_wp2_with (go_at_call 15; refine (awake1 _).mono ?_; rintro e w1 ⟨rfl, hb1⟩)
    go_ret
    exact ⟨rfl, hb1⟩
  by_cases hbig2 : 60 < ss.length
  · go_enter Try.func5, Try.ntmps5
    go_wp2_with (go_at_call 15; refine (awake1 _).mono ?_; rintro e w1 ⟨rfl, hb1⟩)
    go_ret
    exact ⟨rfl, hb1⟩
  go_enter Try.func5, Try.ntmps5
  go_wp2_with (go_at_call 15; refine (awake1 _).mono ?_; rintro e w1 ⟨rfl, hb1⟩)
  refine (new_any _ _ _ _ l (HR.out.below keeps_u8 hb1 (Nat.le_refl _)) (by omega)).mono ?_
  rintro r w2 ⟨p, rfl, hc2, hb2⟩
  have hB2 := hb1.trans (hb2.mono hb1.size)
  have hc2' : CutAt w2 w.heap.size p l 0 := hc2.base hb1.size
  have hcv := conv_str (P := Try.prog) w2 24 9 5 A l.length cap l Try.underlying24 Try.underlying5 Try.underlying9 (HR.out.below keeps_u8 hB2 (Nat.le_refl _))
  have hq := heap_alloc_new w2 (.cells #[.string (str l), .int .i64 0] 38)
  have hc3 := hc2'.keep ((Below.refl w2.heap.size w2).alloc (Nat.le_refl _) (.cells #[.string (str l), .int .i64 0] 38)) (Nat.le_refl _)
  have hB3 := hB2.alloc hB2.size (.cells #[.string (str l), .int .i64 0] 38)
  have hqb := hB2.size
  clear hb1 hb2 hc2 hc2' hB2
  go_wp2_with fail
  clear hcv
  generalize w2.alloc (.cells #[.string (str l), .int .i64 0] 38) = w3 at *
  generalize w2.heap.size = q at *
  go_loopw [8] (fun j wr => ∃ (k : Nat) (l' : List UInt8) (e' : Int), k ≤ ss.length ∧ j = .int .i64 k ∧ l'.length ≤ 300 ∧ wr.heap[q]? = some (.cells #[.string (str l'), .int .i64 e'] 38 (0, 0)) ∧ CutAt wr w.heap.size p l' e' ∧ Below w.heap.size w wr) (fun j _ => ss.length - (intOf j).toNat)
  case atStart => exact ⟨0, l, 0, Nat.zero_le _, rfl, by omega, hq, hc3, hB3⟩
  case round =>
    clear hc3 hB3 hq
    obtain ⟨k, l', e', hk, rfl, hl', hq, hc, hb⟩ := hrel
    have q0 : wr.cell? ⟨q, 0, none⟩ = some (.string (str l')) := cell_block hq 0
    have q1 : wr.cell? ⟨q, 1, none⟩ = some (.int .i64 e') := cell_block hq 1
    have HQ := hide hq; have HC := hide hc; have HB := hide hb
    by_cases hlt : k < ss.length
    · obtain ⟨b, off, rfl, hi⟩ := HS.out (by rintro rfl; simp at hlt)
      obtain ⟨cs, _, hcc, hR, hz1, hz2⟩ := hi k hlt
      subst hR
      have c1w : w.cell? ⟨b, off + k * 2 + 1, none⟩ = some (.int .i64 ss[k].2) := hcc 1 (by omega)
      have c0 := cell_later hb (show w.cell? ⟨b, off + k * 2, none⟩ = some (.bool ss[k].1) from hcc 0 (by omega))
      have c1 := cell_later hb (show w.cell? ⟨b, off + k * 2 + 1, none⟩ = some (.int .i64 ss[k].2) from hcc 1 (by omega))
      generalize ss[k] = s at *
      obtain ⟨sb, z⟩ := s
      simp only at c0 c1 c1w hz1 hz2
      clear hcc hi hq hc hb
      cases sb with
      | true =>
        have hcl := cut_left l' e' z (decide (0 ≤ z))
        have HT := hide (fun w => rbytes_any l' e' z w (by omega))
        have HU := hide (fun (W : World) h => bytes_any W w.heap.size p l' e' z h (by omega))
        generalize cut l' e' z (decide (0 ≤ z)) = x1 at *
        obtain ⟨l1, e1, o1⟩ := x1
        go_upto_region 12 with fail
        go_cut [9, 10] (fun s9 s10 wx => ∃ g : Nat, s9 = .pointer (some ⟨g, 0, none⟩) ∧ s10 = .string (str o1) ∧ wx.cell? ⟨g, 0, none⟩ = some (.string (str l1)) ∧ wx.cell? ⟨g, 1, none⟩ = some (.int .i64 e1) ∧ Below wr.heap.size wr wx)
        case first =>
          go_region_held3 (fun w' => Below wr.heap.size wr w' ∧ w'.cell? ⟨q, 0, none⟩ = some (.string (str l')) ∧ w'.cell? ⟨q, 1, none⟩ = some (.int .i64 e') ∧ w'.cell? ⟨b, off + k * 2 + 1, none⟩ = some (.int .i64 z))
            ((refine held3 ?_ q0 q1 c1; first | exact hk0 | exact hkA | exact hkC hb4 | exact hkCA hb4 | exact hkAC hb4 | exact hkACSS hb4 | exact hkACS hb4))
            (first | (go_at_call 19; refine (HT.out _).mono ?_; rintro r w4 ⟨hr, hb4⟩; obtain rfl : r = .returned (.tuple #[.agg #[.string (str l1), .int .i64 e1], .string (str o1)]) := hr; obtain ⟨hc4, hf4⟩ := bcell hb4))
          · go_wp2_with fail
            go_meet
            exact ⟨_, rfl, rfl, by rw [cell_block (heap_alloc_new _ _)]; rfl, by rw [cell_block (heap_alloc_new _ _)]; rfl, hkCA hb4⟩
          · go_wp2_with fail
            go_meet
            have hn : w4.heap[wr.heap.size]? = some (.cells #[.string { data := #[] }, .int .i64 0] 38 (0, 0)) := heap_below hb4 (heap_alloc_new wr.drew (.cells #[.string { data := #[] }, .int .i64 0] 38)) (by simp)
            have hn2 := heap_set (i := 1) (.int .i64 e1) (heap_set (i := 0) (.string (str l1)) hn)
            exact ⟨_, rfl, rfl, by rw [cell_block hn2]; rfl, by rw [cell_block hn2]; rfl, hkACSS hb4⟩
        case rest =>
          obtain ⟨g, rfl, rfl, g0, g1, hbx⟩ := hcut
          have hqx := heap_below hbx HQ.out (Array.getElem?_eq_some_iff.1 HQ.out).1
          have y0 := cell_block hqx 0
          have y1 := cell_block hqx 1
          have z0 := free_block hqx 0
          have z1 := free_block hqx 1
          simp only [List.getElem?_toArray, List.getElem?_cons_zero, List.getElem?_cons_succ] at y0 y1
          have hq5 := heap_set (i := 1) (.int .i64 e1) (heap_set (i := 0) (.string (str l1)) hqx)
          have hc5 := ((HC.out.keep hbx (Nat.le_refl _)).set_other (i := 0) hqx (by decide) (by decide) (.string (str l1))).set_other (i := 1) (heap_set (i := 0) (.string (str l1)) hqx) (by decide) (by decide) (.int .i64 e1)
          have hb5 : Below w.heap.size w ((wc.setCell ⟨q, 0, none⟩ (.string (str l1))).setCell ⟨q, 1, none⟩ (.int .i64 e1)) := ((HB.out.trans (hbx.mono HB.out.size)).setCell (by simpa using hqb) _).setCell (by simpa using hqb) _
          have d1 := cell_later hb5 c1w
          have H5 := hide hq5; have HC5 := hide hc5; have HB5 := hide hb5
          clear hqx hq5 hc5 hb5 hbx q0 q1 c1 c0
          go_wp2_with fail
          clear g0 g1 y0 y1 z0 z1
          generalize (wc.setCell ⟨q, 0, none⟩ (.string (str l1))).setCell ⟨q, 1, none⟩ (.int .i64 e1) = w5 at *
          simp only [List.setIfInBounds_toArray, List.set_cons_zero, List.set_cons_succ] at H5
          refine (HU.out _ HC5.out).mono ?_
          rintro r w6 ⟨v6, rfl, hc6, hr6, hg6⟩
          have hq6 := heap_grown hg6 H5.out (ne_pq HC5.out H5.out)
          have hb6 := below_row HB5.out hg6 HC5.out.1 HB5.out.size
          obtain ⟨A6, cap6, rfl, hcap6, _⟩ := own_rsl hr6
          simp only at hr6 hc6
          have hcv := conv_str (P := Try.prog) w6 24 9 5 A6 o1.length cap6 o1 Try.underlying24 Try.underlying5 Try.underlying9 hr6
          have t0 : w6.cell? ⟨q, 0, none⟩ = some (.string (str l1)) := cell_block hq6 0
          have t1 : w6.cell? ⟨q, 1, none⟩ = some (.int .i64 e1) := cell_block hq6 1
          have b1 : (((l1.length : Nat) : Int) != (l1.length : Int)) = false := by simp
          have b2 : (e1 != e1) = false := by simp
          have b3 : (!(o1 == o1)) = false := by simp
          have HQ6 := hide hq6
          clear hr6 hg6 d1 H5 HC5 HB5 hq6
          go_wp2_with fail
          go_quiet ((first | (go_at_call 23; exact quietL (CutAt.left (w := w6.drewN _) hc6)) | (go_at_call 24; exact quietL (CutAt.err (w := w6.drewN _) hc6))))
          go_wp2
          go_roundw
          case rel => exact ⟨k + 1, l1, e1, by omega, by go_num, by omega, HQ6.out, hc6.keep (below_drewN (Below.refl _ _) _) (Nat.le_refl _), below_drewN hb6 _⟩
          case measure => simp [intOf]; omega
      | false =>
        have hcl := cut_left l' e' z (mayB z)
        have HT := hide (fun w => rtake_any l' e' z w (by omega))
        have HU := hide (fun (W : World) h => num_any W w.heap.size p l' e' z h (by omega))
        generalize cut l' e' z (mayB z) = x1 at *
        obtain ⟨l1, e1, o1⟩ := x1
        go_upto_region 16 with fail
        go_cut [11, 12] (fun s9 s10 wx => ∃ g : Nat, s9 = .pointer (some ⟨g, 0, none⟩) ∧ s10 = .int .u64 (val o1) ∧ wx.cell? ⟨g, 0, none⟩ = some (.string (str l1)) ∧ wx.cell? ⟨g, 1, none⟩ = some (.int .i64 e1) ∧ Below wr.heap.size wr wx)
        case first =>
          go_region_held3 (fun w' => Below wr.heap.size wr w' ∧ w'.cell? ⟨q, 0, none⟩ = some (.string (str l')) ∧ w'.cell? ⟨q, 1, none⟩ = some (.int .i64 e') ∧ w'.cell? ⟨b, off + k * 2 + 1, none⟩ = some (.int .i64 z))
            ((refine held3 ?_ q0 q1 c1; first | exact hk0 | exact hkA | exact hkC hb4 | exact hkCA hb4 | exact hkAC hb4 | exact hkACSS hb4 | exact hkACS hb4))
            (first | (go_at_call 21; refine (HT.out _).mono ?_; rintro r w4 ⟨hr, hb4⟩; obtain rfl : r = .returned (.tuple #[.agg #[.string (str l1), .int .i64 e1], .int .u64 (val o1)]) := hr; obtain ⟨hc4, hf4⟩ := bcell hb4))
          · go_wp2_with fail
            go_meet
            exact ⟨_, rfl, rfl, by rw [cell_block (heap_alloc_new _ _)]; rfl, by rw [cell_block (heap_alloc_new _ _)]; rfl, hkCA hb4⟩
          · go_wp2_with fail
            go_meet
            have hn : w4.heap[wr.heap.size]? = some (.cells #[.string { data := #[] }, .int .i64 0] 38 (0, 0)) := heap_below hb4 (heap_alloc_new wr.drew (.cells #[.string { data := #[] }, .int .i64 0] 38)) (by simp)
            have hn2 := heap_set (i := 1) (.int .i64 e1) (heap_set (i := 0) (.string (str l1)) hn)
            exact ⟨_, rfl, rfl, by rw [cell_block hn2]; rfl, by rw [cell_block hn2]; rfl, hkACSS hb4⟩
        case rest =>
          obtain ⟨g, rfl, rfl, g0, g1, hbx⟩ := hcut
          have hqx := heap_below hbx HQ.out (Array.getElem?_eq_some_iff.1 HQ.out).1
          have y0 := cell_block hqx 0
          have y1 := cell_block hqx 1
          have z0 := free_block hqx 0
          have z1 := free_block hqx 1
          simp only [List.getElem?_toArray, List.getElem?_cons_zero, List.getElem?_cons_succ] at y0 y1
          have hq5 := heap_set (i := 1) (.int .i64 e1) (heap_set (i := 0) (.string (str l1)) hqx)
          have hc5 := ((HC.out.keep hbx (Nat.le_refl _)).set_other (i := 0) hqx (by decide) (by decide) (.string (str l1))).set_other (i := 1) (heap_set (i := 0) (.string (str l1)) hqx) (by decide) (by decide) (.int .i64 e1)
          have hb5 : Below w.heap.size w ((wc.setCell ⟨q, 0, none⟩ (.string (str l1))).setCell ⟨q, 1, none⟩ (.int .i64 e1)) := ((HB.out.trans (hbx.mono HB.out.size)).setCell (by simpa using hqb) _).setCell (by simpa using hqb) _
          have d1 := cell_later hb5 c1w
          have H5 := hide hq5; have HC5 := hide hc5; have HB5 := hide hb5
          clear hqx hq5 hc5 hb5 hbx q0 q1 c1 c0
          go_wp2_with fail
          clear g0 g1 y0 y1 z0 z1
          generalize (wc.setCell ⟨q, 0, none⟩ (.string (str l1))).setCell ⟨q, 1, none⟩ (.int .i64 e1) = w5 at *
          simp only [List.setIfInBounds_toArray, List.set_cons_zero, List.set_cons_succ] at H5
          refine (HU.out _ HC5.out).mono ?_
          rintro r w6 ⟨rfl, hc6, hg6⟩
          have hq6 := heap_grown hg6 H5.out (ne_pq HC5.out H5.out)
          have hb6 := below_row HB5.out hg6 HC5.out.1 HB5.out.size
          simp only at hc6
          have t0 : w6.cell? ⟨q, 0, none⟩ = some (.string (str l1)) := cell_block hq6 0
          have t1 : w6.cell? ⟨q, 1, none⟩ = some (.int .i64 e1) := cell_block hq6 1
          have b1 : (((l1.length : Nat) : Int) != (l1.length : Int)) = false := by simp
          have b2 : (e1 != e1) = false := by simp
          have b3 : (((val o1 : Nat) : Int) != (val o1 : Int)) = false := by simp
          have HQ6 := hide hq6
          clear hg6 d1 H5 HC5 HB5 hq6
          go_wp2_with fail
          go_quiet ((first | (go_at_call 23; exact quietL (CutAt.left (w := w6.drewN _) hc6)) | (go_at_call 24; exact quietL (CutAt.err (w := w6.drewN _) hc6))))
          go_wp2
          go_roundw
          case rel => exact ⟨k + 1, l1, e1, by omega, by go_num, by omega, HQ6.out, hc6.keep (below_drewN (Below.refl _ _) _) (Nat.le_refl _), below_drewN hb6 _⟩
          case measure => simp [intOf]; omega
    · have hke : k = ss.length := by omega
      have HK := hide hke; clear hke
      go_wp2_with (first | (go_at_call 22; refine (num_nil _ _).mono ?_; rintro e w' ⟨rfl, rfl⟩) | (go_at_call 20; refine (bytes_nil _ _).mono ?_; rintro e w' ⟨rfl, rfl⟩) | (go_at_call 23; refine (left_nil _).mono ?_; rintro e w' ⟨rfl, rfl⟩) | (go_at_call 24; refine (err_nil _).mono ?_; rintro e w' ⟨rfl, rfl⟩))
      go_ret
      exact ⟨rfl, hb⟩
end Go.Proofs.Ytlfomilalkkbeaa
