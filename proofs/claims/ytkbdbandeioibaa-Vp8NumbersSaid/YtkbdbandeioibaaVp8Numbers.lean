/- Vp8Numbers: the law's walk. -/
import Derived.Test.YtkbdbandeioibaaVp8N
import Derived.Test.YtkbdbandeioibaaVp8Ignores
namespace Go.Proofs.Ytkbdbandeioibaa
open Go.RowKit
set_option linter.unusedVariables false

/-- the wanted descriptor so far -/
structure WS (wd wx : World) (p : Nat) (d : Dsc) : Prop where
  le : Below wd.heap.size wd wx
  h : wx.heap[p]? = some (.cells d.cs 49 (0, 0))
theorem WS.put {wd wx : World} {p : Nat} {d : Dsc} (h : WS wd wx p d) (hp : wd.heap.size ≤ p) (i : Nat) (u : Value) (d' : Dsc) (e : d.cs.setIfInBounds i u = d'.cs) : WS wd (wx.setCell ⟨p, i, none⟩ u) p d' :=
  ⟨h.le.setCell hp u, by rw [← e]; exact heap_set u h.h⟩
theorem rsl_none (w : World) (A : Option Addr) (c : Nat) : RSl 1 RU8 w [] (.slice A 0 c) := ⟨A, c, rfl, by simp, fun h => absurd rfl h⟩

set_option maxRecDepth 100000 in
set_option maxHeartbeats 4000000 in
theorem vp8Numbers_walk (w : World) (l : List UInt8) (A : Option Addr) (n cap : Nat) (hr : RSl 1 RU8 w l (.slice A n cap)) (pic : Nat) (hpic : pic < 65536) (tl0 : Nat) (ht0 : tl0 < 256) :
    Calls Try.prog 12 #[.slice A n cap, .int .u16 pic, .int .u8 tl0] w (Gives w (.bool true)) := by
  have HR := hide hr
  obtain ⟨A', cap', hv, hcap, hi⟩ := hr
  injection hv with e1 e2 e3
  subst e1 e2 e3
  have HI := hide hi
  clear hi
  have hlp := vp_places l
  have hee := vpE_two l
  have hnum := numbers l pic tl0 hpic ht0
  obtain ⟨hn0, hn1⟩ := vpN_range l
  have hOk := vpD_ok l
  go_enter Try.func12, Try.ntmps12
  go_wp2_with fail
  refine (awake07 _).mono ?_
  rintro r w1 ⟨rfl, hb1⟩
  have hl1 : Le w w1 := ⟨hb1⟩
  clear hb1
  by_cases hbig : 300 < l.length
  · go_wp2_with fail
    go_ret
    exact ⟨rfl, hl1.out⟩
  have hnb : ¬ (300 : Int) < (l.length : Int) := by omega
  have hp1 := parseX_any A cap l w1 (hl1.rsl keeps_u8 HR.out) (by omega)
  have hw1 := fun W (h : Le w W) => write_any A cap l pic tl0 W (h.rsl keeps_u8 HR.out) (by omega) hpic ht0
  rw [vpV] at hp1
  have HNUM := hide hnum
  have HLP := hide (fun h => (hlp h).1)
  clear hnum hlp
  generalize hE : vpE l = E at *
  rcases hee with rfl | rfl
  · obtain ⟨m1, m2, m3, m4, m5, m6⟩ := HNUM.out rfl
    have hp3 : ∀ W A c, RSl 1 RU8 W (vpWr l pic tl0) (.slice A l.length c) → Calls Try.prog 26 #[.slice A l.length c] W (Gives W (vpV (vpWr l pic tl0))) := by
      rw [← m3]
      intro W A c h
      exact parseX_any A c (vpWr l pic tl0) W h (by omega)
    have hw3 : ∀ W A c, RSl 1 RU8 W (vpWr l pic tl0) (.slice A l.length c) → Calls Try.prog 31 #[.slice A l.length c, .int .u16 (vpD l).pic, .int .u8 (vpD l).tl0] W (PutV W (vpWr (vpWr l pic tl0) (vpD l).pic (vpD l).tl0) (vpE (vpWr l pic tl0))) := by
      rw [← m3]
      intro W A c h
      exact write_any A c (vpWr l pic tl0) (vpD l).pic (vpD l).tl0 W h (by omega) hOk.pic hOk.tl0
    rw [vpV, m1, m2, m5] at hp3
    rw [m6, m1] at hw3
    obtain ⟨k, hk⟩ := Int.eq_ofNat_of_zero_le hn0
    rw [hk] at m4 hp1 hp3
    rw [Int.toNat_natCast] at m4
    have hkl : k ≤ l.length := by omega
    have hl0 := HLP.out rfl
    clear HLP
    clear hn0 hn1 hk m1 m2 m5 m6 HNUM hE
    generalize hd : vpD l = d at *
    generalize vpWr l pic tl0 = C at *
    obtain ⟨more, lone, start, part, hasPic, wide, pc, hasTl0, t0, hasTid, tid, sync, hasKey, key⟩ := d
    simp only [Dsc.val, Dsc.with] at hp1 hp3 hw3
    generalize hP : (if hasPic = true then (if wide = true then pic % 32768 else pic % 128) else pc) = P at *
    generalize hT : (if hasTl0 = true then tl0 else t0) = T at *
    have HPT := hide (And.intro hP hT)
    have HP1 := hide hp1
    have HW1 := hide hw1
    have HP3 := hide hp3
    have HW3 := hide hw3
    have HOK := hide hOk
    clear hp1 hw1 hp3 hw3 hP hT hd hOk
    go_wp2_with fail
    refine HP1.out.mono ?_
    rintro r w2 ⟨rfl, hb2⟩
    have hz2 := heap_alloc_new w2 (.cells (#[.bool more, .bool lone, .bool start, .int .u8 part, .bool hasPic, .bool wide, .int .u16 pc, .bool hasTl0, .int .u8 t0, .bool hasTid, .int .u8 tid, .bool sync, .bool hasKey, .int .u8 key] : Array Value) 49)
    have hl2 := (hl1.trans (Le.mk hb2)).alloc (.cells (#[.bool more, .bool lone, .bool start, .int .u8 part, .bool hasPic, .bool wide, .int .u16 pc, .bool hasTl0, .int .u8 t0, .bool hasTid, .int .u8 tid, .bool sync, .bool hasKey, .int .u8 key] : Array Value) 49)
    clear hb2 HP1
    go_wp2_with fail
    generalize w2.alloc (.cells (#[.bool more, .bool lone, .bool start, .int .u8 part, .bool hasPic, .bool wide, .int .u16 pc, .bool hasTl0, .int .u8 t0, .bool hasTid, .int .u8 tid, .bool sync, .bool hasKey, .int .u8 key] : Array Value) 49) = w3 at *
    generalize w2.heap.size = p8 at *
    have HZ2 := hide hz2
    have HL2 := hide hl2
    clear hz2
    refine (HW1.out w3 hl2).mono ?_
    rintro r w4 ⟨v4, rfl, ho4, hb4⟩
    obtain ⟨A4, cap4, rfl, hcap4, _⟩ := own_slice ho4
    obtain ⟨g, rfl⟩ : ∃ g, A4 = some ⟨g, 0, none⟩ := by
      rcases ho4.2 with ⟨hv, h0⟩ | ⟨g, c', cur, hv, _⟩
      · omega
      · injection hv with e1 e2 e3
        exact ⟨g, e1⟩
    have hr4 := rsl_of_own ho4
    rw [m3] at hr4 hcap4
    have HR4 := hide hr4
    clear hr4
    have HL34 := hide (Le.mk hb4)
    clear ho4 hb4 HW1 hl2
    go_wp2_with fail
    refine (HP3.out w4 _ cap4 HR4.out).mono ?_
    rintro r w5 ⟨rfl, hb5⟩
    have hz5 := heap_alloc_new w5 (.cells (#[.bool more, .bool lone, .bool start, .int .u8 part, .bool hasPic, .bool wide, .int .u16 P, .bool hasTl0, .int .u8 T, .bool hasTid, .int .u8 tid, .bool sync, .bool hasKey, .int .u8 key] : Array Value) 49)
    have HL46 := hide ((Le.mk hb5).alloc (.cells (#[.bool more, .bool lone, .bool start, .int .u8 part, .bool hasPic, .bool wide, .int .u16 P, .bool hasTl0, .int .u8 T, .bool hasTid, .int .u8 tid, .bool sync, .bool hasKey, .int .u8 key] : Array Value) 49))
    clear hb5 HP3
    go_upto_region 11 with fail
    generalize w5.alloc (.cells (#[.bool more, .bool lone, .bool start, .int .u8 part, .bool hasPic, .bool wide, .int .u16 P, .bool hasTl0, .int .u8 T, .bool hasTid, .int .u8 tid, .bool sync, .bool hasKey, .int .u8 key] : Array Value) 49) = w6 at *
    generalize w5.heap.size = p13 at *
    have HZ5 := hide hz5
    clear hz5
    obtain ⟨bb, oo, rfl, _⟩ := HI.out (by rintro rfl; simp at hl0)
    go_cut [78] (fun s wx => s = .bool false ∧ Le w6 wx)
    case first =>
      have hkk : ((k : Int) != (k : Int)) = false := by simp
      have hll : ((l.length : Int) != (l.length : Int)) = false := by simp
      have HRA := hide ((HL2.out.trans (HL34.out.trans HL46.out)).rsl keeps_u8 HR.out)
      have HRB := hide (HL46.out.rsl keeps_u8 HR4.out)
      rcases Nat.lt_or_ge k l.length with hlt | hge
      · have k1 : k < cap := by omega
        have k2 : ¬ cap = k := by omega
        have k3 : k < cap4 := by omega
        have k4 : ¬ cap4 = k := by omega
        have f1 := fun nq => conv_le (rsl_drop HRA.out hkl) _ ((Le.refl w6).drewN nq)
        have f2 := fun nq => conv_le (rsl_drop HRB.out (k := k) (by omega)) _ ((Le.refl w6).drewN nq)
        rw [m4] at f2
        simp only [Nat.zero_add] at f2
        generalize l.drop k = D at *
        have g2 : (D != D) = false := by simp
        go_quiet (fail)
        go_wp2_with fail
        go_meet
        exact ⟨rfl, (Le.refl w6).drewN _⟩
      · obtain rfl : k = l.length := by omega
        have fz := fun (A' : Option Addr) (c nq : Nat) => conv_le (rsl_none w6 A' c) _ ((Le.refl w6).drewN nq)
        have g2 : (([] : List UInt8) != []) = false := by simp
        rcases Nat.lt_or_ge l.length cap with k1 | k1 <;> rcases Nat.lt_or_ge l.length cap4 with k3 | k3
        · have k2 : ¬ cap = l.length := by omega
          have k4 : ¬ cap4 = l.length := by omega
          go_quiet (fail)
          go_wp2_with fail
          go_meet
          exact ⟨rfl, (Le.refl w6).drewN _⟩
        · have k2 : ¬ cap = l.length := by omega
          have k4 : cap4 = l.length := by omega
          go_quiet (fail)
          go_wp2_with fail
          go_meet
          exact ⟨rfl, (Le.refl w6).drewN _⟩
        · have k2 : cap = l.length := by omega
          have k4 : ¬ cap4 = l.length := by omega
          go_quiet (fail)
          go_wp2_with fail
          go_meet
          exact ⟨rfl, (Le.refl w6).drewN _⟩
        · have k2 : cap = l.length := by omega
          have k4 : cap4 = l.length := by omega
          go_quiet (fail)
          go_wp2_with fail
          go_meet
          exact ⟨rfl, (Le.refl w6).drewN _⟩
    case rest =>
      obtain ⟨rfl, hlc⟩ := hcut
      have HL3c := hide (HL34.out.trans (HL46.out.trans hlc))
      have HL6c := hide hlc
      clear hlc
      generalize wc = wd at *
      have c0 := box_cell HZ2.out 0 (.bool more) rfl wd HL3c.out
      have c1 := box_cell HZ2.out 1 (.bool lone) rfl wd HL3c.out
      have c2 := box_cell HZ2.out 2 (.bool start) rfl wd HL3c.out
      have c3 := box_cell HZ2.out 3 (.int .u8 part) rfl wd HL3c.out
      have c4 := box_cell HZ2.out 4 (.bool hasPic) rfl wd HL3c.out
      have c5 := box_cell HZ2.out 5 (.bool wide) rfl wd HL3c.out
      have c6 := box_cell HZ2.out 6 (.int .u16 pc) rfl wd HL3c.out
      have c7 := box_cell HZ2.out 7 (.bool hasTl0) rfl wd HL3c.out
      have c8 := box_cell HZ2.out 8 (.int .u8 t0) rfl wd HL3c.out
      have c9 := box_cell HZ2.out 9 (.bool hasTid) rfl wd HL3c.out
      have c10 := box_cell HZ2.out 10 (.int .u8 tid) rfl wd HL3c.out
      have c11 := box_cell HZ2.out 11 (.bool sync) rfl wd HL3c.out
      have c12 := box_cell HZ2.out 12 (.bool hasKey) rfl wd HL3c.out
      have c13 := box_cell HZ2.out 13 (.int .u8 key) rfl wd HL3c.out
      have hz16 := heap_alloc_new wd (.cells (#[.bool more, .bool lone, .bool start, .int .u8 part, .bool hasPic, .bool wide, .int .u16 pc, .bool hasTl0, .int .u8 t0, .bool hasTid, .int .u8 tid, .bool sync, .bool hasKey, .int .u8 key] : Array Value) 49)
      have HLA := hide ((Le.refl wd).alloc (.cells (#[.bool more, .bool lone, .bool start, .int .u8 part, .bool hasPic, .bool wide, .int .u16 pc, .bool hasTl0, .int .u8 t0, .bool hasTid, .int .u8 tid, .bool sync, .bool hasKey, .int .u8 key] : Array Value) 49))
      go_upto_region 14 with fail
      generalize wd.alloc (.cells (#[.bool more, .bool lone, .bool start, .int .u8 part, .bool hasPic, .bool wide, .int .u16 pc, .bool hasTl0, .int .u8 t0, .bool hasTid, .int .u8 tid, .bool sync, .bool hasKey, .int .u8 key] : Array Value) 49) = wa at *
      generalize hp16 : wd.heap.size = p16 at *
      clear c0 c1 c2 c3 c4 c5 c6 c7 c8 c9 c10 c11 c12 c13
      have hws : WS wd wa p16 ⟨more, lone, start, part, hasPic, wide, pc, hasTl0, t0, hasTid, tid, sync, hasKey, key⟩ := ⟨HLA.out.out, hz16⟩
      have HB16 := hide (show wd.heap.size ≤ p16 by omega)
      have hlt8 : p8 < p16 := by rw [← hp16]; exact lt_of_heap (HL3c.out.heap HZ2.out)
      have hne8 : ¬ p8 = p16 := by omega
      have hne8' : ¬ p16 = p8 := by omega
      clear hz16 HLA hp16
      obtain ⟨P1, hP1⟩ : ∃ P1, P1 = if (hasPic && wide) = true then pic % 32768 else pc := ⟨_, rfl⟩
      have hP2 : P = if (hasPic && !wide) = true then pic % 128 else P1 := by
        rw [hP1, ← HPT.out.1]
        cases hasPic <;> cases wide <;> rfl
      have hT2 := HPT.out.2
      have HP1e := hide hP1; have HP2e := hide hP2; have HT2e := hide hT2
      clear hP1 hP2 hT2
      have y4 := box_cell HZ2.out 4 (.bool hasPic) rfl wa (HL3c.out.trans ⟨hws.le⟩)
      have y5 := box_cell HZ2.out 5 (.bool wide) rfl wa (HL3c.out.trans ⟨hws.le⟩)
      go_cut [85] (fun s wx => s = .bool (hasPic && wide) ∧ wx = wa)
      case first =>
        cases hasPic
        · go_wp2_with fail
          go_meet
          exact ⟨rfl, rfl⟩
        · go_wp2_with fail
          go_meet
          exact ⟨rfl, rfl⟩
      case rest =>
        obtain ⟨rfl, hwc⟩ := hcut
        rw [hwc]
        clear hwc y4 y5
        generalize hpw : (hasPic && wide) = pw at *
        go_upto_if 85 with fail
        go_cut [16] (fun s wx => s = .pointer (some ⟨p16, 0, none⟩) ∧ WS wd wx p16 ⟨more, lone, start, part, hasPic, wide, P1, hasTl0, t0, hasTid, tid, sync, hasKey, key⟩)
        case first =>
          cases pw
          · have e : P1 = pc := HP1e.out
            go_wp2_with fail
            go_meet
            rw [e]
            exact ⟨rfl, hws⟩
          · have e : P1 = pic % 32768 := HP1e.out
            have hpm : (pic : Int) % 32768 = (P1 : Nat) := by omega
            have hpt : (pic : Int).tmod 32768 = (P1 : Nat) := by rw [Int.tmod_eq_emod_of_nonneg (by omega)]; exact hpm
            have z6 := cell_block hws.h 6
            have g6 : wa.frozen? ⟨p16, 6, none⟩ = false := free_block hws.h 6
            simp only [Dsc.cs, List.getElem?_toArray, List.getElem?_cons_zero, List.getElem?_cons_succ] at z6
            clear e
            go_wp2_with fail
            go_meet
            exact ⟨rfl, hws.put HB16.out 6 _ _ (by simp [Dsc.cs])⟩
        case rest =>
          obtain ⟨rfl, hws1⟩ := hcut
          clear hws
          generalize wc = wb at *
          clear hpw
          have y4 := box_cell HZ2.out 4 (.bool hasPic) rfl wb (HL3c.out.trans ⟨hws1.le⟩)
          have y5 := box_cell HZ2.out 5 (.bool wide) rfl wb (HL3c.out.trans ⟨hws1.le⟩)
          go_upto_region 16 with fail
          go_cut [95] (fun s wx => s = .bool (hasPic && !wide) ∧ wx = wb)
          case first =>
            cases hasPic
            · go_wp2_with fail
              go_meet
              exact ⟨rfl, rfl⟩
            · cases wide
              · go_wp2_with fail
                go_meet
                exact ⟨rfl, rfl⟩
              · go_wp2_with fail
                go_meet
                exact ⟨rfl, rfl⟩
          case rest =>
            obtain ⟨rfl, hwc⟩ := hcut
            rw [hwc]
            clear hwc y4 y5
            generalize hpw : (hasPic && !wide) = pw2 at *
            go_upto_if 95 with fail
            go_cut [16] (fun s wx => s = .pointer (some ⟨p16, 0, none⟩) ∧ WS wd wx p16 ⟨more, lone, start, part, hasPic, wide, P, hasTl0, t0, hasTid, tid, sync, hasKey, key⟩)
            case first =>
              cases pw2
              · have e : P = P1 := HP2e.out
                go_wp2_with fail
                go_meet
                rw [e]
                exact ⟨rfl, hws1⟩
              · have e : P = pic % 128 := HP2e.out
                have hpm : (pic : Int) % 128 = (P : Nat) := by omega
                have hpt : (pic : Int).tmod 128 = (P : Nat) := by rw [Int.tmod_eq_emod_of_nonneg (by omega)]; exact hpm
                have z6 := cell_block hws1.h 6
                have g6 : wb.frozen? ⟨p16, 6, none⟩ = false := free_block hws1.h 6
                simp only [Dsc.cs, List.getElem?_toArray, List.getElem?_cons_zero, List.getElem?_cons_succ] at z6
                clear e
                go_wp2_with fail
                go_meet
                exact ⟨rfl, hws1.put HB16.out 6 _ _ (by simp [Dsc.cs])⟩
            case rest =>
              obtain ⟨rfl, hws2⟩ := hcut
              clear hws1 hpw
              generalize wc = we at *
              have y7 := box_cell HZ2.out 7 (.bool hasTl0) rfl we (HL3c.out.trans ⟨hws2.le⟩)
              go_upto_if 100 with fail
              clear y7
              go_cut [16] (fun s wx => s = .pointer (some ⟨p16, 0, none⟩) ∧ WS wd wx p16 ⟨more, lone, start, part, hasPic, wide, P, hasTl0, T, hasTid, tid, sync, hasKey, key⟩)
              case first =>
                cases hasTl0
                · have e : t0 = T := HT2e.out
                  go_wp2_with fail
                  go_meet
                  rw [← e]
                  exact ⟨rfl, hws2⟩
                · have e : tl0 = T := HT2e.out
                  have z8 := cell_block hws2.h 8
                  have g8 : we.frozen? ⟨p16, 8, none⟩ = false := free_block hws2.h 8
                  simp only [Dsc.cs, List.getElem?_toArray, List.getElem?_cons_zero, List.getElem?_cons_succ] at z8
                  have E := hide e
                  clear e
                  go_wp2_with fail
                  go_meet
                  rw [← E.out]
                  exact ⟨rfl, hws2.put HB16.out 8 _ _ (by simp [Dsc.cs])⟩
              case rest =>
                obtain ⟨rfl, hws3⟩ := hcut
                clear hws2
                generalize wc = wx at *
                have HLX := hide (Le.mk hws3.le)
                have HZF := hide hws3.h
                have HL3x := hide (HL3c.out.trans HLX.out)
                clear hws3
                have q6 := box_cell HZ2.out 6 (.int .u16 pc) rfl wx HL3x.out
                have q8 := box_cell HZ2.out 8 (.int .u8 t0) rfl wx HL3x.out
                go_wp2_with fail
                refine (HW3.out wx _ cap4 ((HL46.out.trans (HL6c.out.trans HLX.out)).rsl keeps_u8 HR4.out)).mono ?_
                rintro r w9 ⟨v9, rfl, ho9, hb9⟩
                obtain ⟨A9, cap9, rfl, hcap9, _⟩ := own_slice ho9
                have hr9 := rsl_of_own ho9
                have hl9 := Le.mk hb9
                clear ho9 hb9 q6 q8
                have a0 := box_cell HZ5.out 0 (.bool more) rfl w9 (HL6c.out.trans (HLX.out.trans hl9))
                have a1 := box_cell HZ5.out 1 (.bool lone) rfl w9 (HL6c.out.trans (HLX.out.trans hl9))
                have a2 := box_cell HZ5.out 2 (.bool start) rfl w9 (HL6c.out.trans (HLX.out.trans hl9))
                have a3 := box_cell HZ5.out 3 (.int .u8 part) rfl w9 (HL6c.out.trans (HLX.out.trans hl9))
                have a4 := box_cell HZ5.out 4 (.bool hasPic) rfl w9 (HL6c.out.trans (HLX.out.trans hl9))
                have a5 := box_cell HZ5.out 5 (.bool wide) rfl w9 (HL6c.out.trans (HLX.out.trans hl9))
                have a6 := box_cell HZ5.out 6 (.int .u16 P) rfl w9 (HL6c.out.trans (HLX.out.trans hl9))
                have a7 := box_cell HZ5.out 7 (.bool hasTl0) rfl w9 (HL6c.out.trans (HLX.out.trans hl9))
                have a8 := box_cell HZ5.out 8 (.int .u8 T) rfl w9 (HL6c.out.trans (HLX.out.trans hl9))
                have a9 := box_cell HZ5.out 9 (.bool hasTid) rfl w9 (HL6c.out.trans (HLX.out.trans hl9))
                have a10 := box_cell HZ5.out 10 (.int .u8 tid) rfl w9 (HL6c.out.trans (HLX.out.trans hl9))
                have a11 := box_cell HZ5.out 11 (.bool sync) rfl w9 (HL6c.out.trans (HLX.out.trans hl9))
                have a12 := box_cell HZ5.out 12 (.bool hasKey) rfl w9 (HL6c.out.trans (HLX.out.trans hl9))
                have a13 := box_cell HZ5.out 13 (.int .u8 key) rfl w9 (HL6c.out.trans (HLX.out.trans hl9))
                have b0 := box_cell HZF.out 0 (.bool more) rfl w9 hl9
                have b1 := box_cell HZF.out 1 (.bool lone) rfl w9 hl9
                have b2 := box_cell HZF.out 2 (.bool start) rfl w9 hl9
                have b3 := box_cell HZF.out 3 (.int .u8 part) rfl w9 hl9
                have b4 := box_cell HZF.out 4 (.bool hasPic) rfl w9 hl9
                have b5 := box_cell HZF.out 5 (.bool wide) rfl w9 hl9
                have b6 := box_cell HZF.out 6 (.int .u16 P) rfl w9 hl9
                have b7 := box_cell HZF.out 7 (.bool hasTl0) rfl w9 hl9
                have b8 := box_cell HZF.out 8 (.int .u8 T) rfl w9 hl9
                have b9 := box_cell HZF.out 9 (.bool hasTid) rfl w9 hl9
                have b10 := box_cell HZF.out 10 (.int .u8 tid) rfl w9 hl9
                have b11 := box_cell HZF.out 11 (.bool sync) rfl w9 hl9
                have b12 := box_cell HZF.out 12 (.bool hasKey) rfl w9 hl9
                have b13 := box_cell HZF.out 13 (.int .u8 key) rfl w9 hl9
                have heq1 := fun W => desc_eq_self more lone start part hasPic wide P hasTl0 T hasTid tid sync hasKey key W
                have heq2 := fun W => desc_eql_self more lone start part hasPic wide P hasTl0 T hasTid tid sync hasKey key W
                have hgu := desc_guard
                have HLF := hide (HL2.out.trans (HL3x.out.trans hl9))
                have f1 := conv_le hr9 w9 (Le.refl w9)
                have f2 := conv_le (HLF.out.rsl keeps_u8 HR.out) w9 (Le.refl w9)
                have g2 : (l == l) = true := by simp
                clear hl9 hr9
                go_wp2_with fail
                go_ret
                exact ⟨rfl, HLF.out.out⟩
  · generalize vpD l = d at *
    obtain ⟨more, lone, start, part, hasPic, wide, pc, hasTl0, t0, hasTid, tid, sync, hasKey, key⟩ := d
    simp only [Dsc.val] at hp1
    have HP1 := hide hp1
    have HW1 := hide hw1
    clear hp1 hw1 hOk HNUM HLP
    go_wp2_with fail
    refine HP1.out.mono ?_
    rintro r w2 ⟨rfl, hb2⟩
    have hl2 := (hl1.trans (Le.mk hb2)).alloc (.cells (#[.bool more, .bool lone, .bool start, .int .u8 part, .bool hasPic, .bool wide, .int .u16 pc, .bool hasTl0, .int .u8 t0, .bool hasTid, .int .u8 tid, .bool sync, .bool hasKey, .int .u8 key] : Array Value) 49)
    go_wp2_with fail
    refine (HW1.out _ hl2).mono ?_
    rintro r w4 ⟨v4, rfl, ho4, hb4⟩
    have hl4 := hl2.trans (Le.mk hb4)
    go_wp2_with fail
    go_ret
    exact ⟨rfl, hl4.out⟩
end Go.Proofs.Ytkbdbandeioibaa
