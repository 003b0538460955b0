/- Texts of one claim, laid together: ScrRPut ScriptPuts -/
import Derived.Test.YtkcpfhbfjpldhaaGreatDoorJo15
import Derived.Test.YtkcpfhbfjpldhaaGreatDoorJo07
import Derived.Test.YtkcpfhbfjpldhaaGreatDoorJo16
/- louverref24.Put. -/
namespace Go.Proofs.YtkcpfhbfjpldhaaGreatDoor
open Go.RowKit
set_option linter.unusedVariables false

theorem conv_pair24 (w : World) (x y : Int) (a b : UInt8) (hx : x = (a.toNat : Int)) (hy : y = (b.toNat : Int)) :
    (convert 25 9 (.slice (some ⟨w.heap.size, 0, none⟩) 2 2)).run Tryz.prog (w.alloc (.cells #[.int .u8 x, .int .u8 y] 5)) = .ok (.string (str [a, b])) (w.alloc (.cells #[.int .u8 x, .int .u8 y] 5)) := by
  subst hx hy
  have hr : RSl 1 RU8 (w.alloc (.cells #[.int .u8 (a.toNat : Int), .int .u8 (b.toNat : Int)] 5)) [a, b] (.slice (some ⟨w.heap.size, 0, none⟩) 2 2) := by
    refine ⟨some ⟨w.heap.size, 0, none⟩, 2, rfl, by simp, fun _ => ⟨w.heap.size, 0, rfl, fun i hi => ?_⟩⟩
    have hi2 : i < 2 := hi
    refine ⟨[.int .u8 (([a, b] : List UInt8)[i].toNat : Nat)], rfl, fun j hj => ?_, rfl⟩
    have : i = 0 ∨ i = 1 := by omega
    obtain rfl : j = 0 := by omega
    rcases this with rfl | rfl
    · simp [cell_block (heap_alloc_new w _)]
    · simp [cell_block (heap_alloc_new w _)]
  exact conv_str (P := Tryz.prog) _ 25 9 5 _ 2 2 [a, b] Tryz.underlying25 Tryz.underlying5 Tryz.underlying9 hr

def RPutQ (w : World) (l : List UInt8) (err : Int) (e : Ending) (w' : World) : Prop :=
  e = .returned (.tuple #[.string (str l), .int .i64 err]) ∧ Below w.heap.size w w'
theorem RPutQ.none {w w' : World} {l : List Sp} (h : l.all Sp.may = false) (hb : Below w.heap.size w w') : RPutQ w (putSB l) (putSE l) (.returned (.tuple #[.string (str []), .int .i64 1])) w' := by
  have e1 : putSB l = [] := by rw [putSB, h]; rfl
  have e2 : putSE l = 1 := by rw [putSE, h]; rfl
  rw [e1, e2]
  exact ⟨rfl, hb⟩

set_option maxRecDepth 100000 in
set_option maxHeartbeats 4000000 in
theorem rput24_any (l : List Sp) (A : Option Addr) (n cap : Nat) (w : World) (hr : RSl 3 RSr w l (.slice A n cap)) (hl : l.length ≤ 600) (hb : ∀ s ∈ l, s.b.length ≤ 200) :
    Calls Tryz.prog 14 #[.slice A n cap] w (RPutQ w (putSB l) (putSE l)) := by
  obtain ⟨A', cap', hv, hcap, hi⟩ := hr
  injection hv with e1 e2 e3
  subst e1 e2 e3
  have HI := hide hi
  have HBL := hide hb
  clear hi hb
  go_enter Tryz.func14, Tryz.ntmps14
  go_wp2_with fail
  go_loopw [4, 5] (fun v i wr => ∃ k : Nat, k ≤ l.length ∧ i = .int .i64 k ∧ Hd (∀ s ∈ l.take k, s.may = true) ∧ v = .string (str ((l.take k).flatMap Sp.out)) ∧ Le w wr) (fun _ i _ => l.length - (intOf i).toNat)
  case atStart => exact ⟨0, Nat.zero_le _, rfl, hide (by simp), rfl, Le.refl _⟩
  case round =>
    obtain ⟨k, hk, rfl, HM, rfl, hle⟩ := hrel
    by_cases hlt : k < l.length
    · obtain ⟨b, off, rfl, hg⟩ := HI.out (by rintro rfl; simp at hlt)
      obtain ⟨cs, _, hc, hR⟩ := hg k hlt
      subst hR
      have c0 := hle.cell (show w.cell? ⟨b, off + k * 3, none⟩ = some (.int .i64 l[k].op) from hc 0 (by decide))
      have c1 := hle.cell (show w.cell? ⟨b, off + k * 3 + 1, none⟩ = some (.int .i64 l[k].shard) from hc 1 (by decide))
      have c2 := hle.cell (show w.cell? ⟨b, off + k * 3 + 2, none⟩ = some (.string (str l[k].b)) from hc 2 (by decide))
      have HT := hide (out_take l k hlt)
      have HBAD := hide (fun (h : l[k].may = false) => put_bad hlt h)
      have HGOOD := hide (fun (h : l[k].may = true) => show ∀ s ∈ l.take (k + 1), s.may = true from fun s hs => by
        rw [List.take_add_one, List.getElem?_eq_getElem hlt, List.mem_append] at hs
        rcases hs with hs | hs
        · exact HM.out s hs
        · simp at hs; rw [hs]; exact h)
      have hbl : l[k].b.length ≤ 200 := HBL.out _ (List.getElem_mem hlt)
      have hS := out_len (l.take k) (fun s hs => HBL.out s (List.mem_of_mem_take hs))
      have htk : (l.take k).length ≤ k := List.length_take_le _ _
      have h0k : (0 : Int) ≤ (k : Int) := by omega
      generalize (l.take k).flatMap Sp.out = S at *
      generalize l[k] = x at *
      have hltI : (k : Int) < (l.length : Int) := by omega
      have hSl : S.length ≤ 122400 := by omega
      have HLE := hide (hle.alloc (.cells #[.int .i64 x.op, .int .i64 x.shard, .string (str x.b)] 83))
      clear hc hg htk hS
      obtain ⟨op, sh, xb⟩ := x
      simp only at c0 c1 c2 hbl HT HBAD HGOOD HLE
      have h65 : ¬ (65535 : Int) < (xb.length : Int) := by omega
      have HRNG := hide (show wr.rangeAt b (off + k * 3) [.int .i64 op, .int .i64 sh, .string (str xb)] from fun j v hj => by
        match j, hj with
        | 0, hj => simpa using c0.trans hj
        | 1, hj => simpa using c1.trans hj
        | 2, hj => simpa using c2.trans hj
        | j + 3, hj => simp at hj)
      clear c0 c1 c2 HLE
      go_upto_region 6 with (first
        | (refine wpList_load_mid rfl 83 (.tmp 15) rfl b (off + k * 3) rfl [.int .i64 op, .int .i64 sh, .string (str xb)] _ HRNG.out Tryz.underlying83 rfl (by kernel_rfl) ?_)
        | (refine wpl_store_blk rfl 83 (.tmp 6) (.tmp 16) (cs := [.int .i64 op, .int .i64 sh, .string (str xb)]) (old := [.int .i64 0, .int .i64 0, .string ByteArray.empty]) rfl rfl rfl (by kernel_rfl) (by simp [Value.oneCell']) (heap_alloc_new wr _) rfl ?_; intro w5 h5 hg5; have H5 := hide (And.intro h5 (le_boxed ((Le.refl wr).alloc _) hg5 (Nat.le_refl _))); generalize wr.heap.size = gs at H5 ⊢; clear h5 hg5))
      have z0 : w5.cell? ⟨gs, 0, none⟩ = some (.int .i64 op) := cell_block H5.out.1 0
      have z1 : w5.cell? ⟨gs, 1, none⟩ = some (.int .i64 sh) := cell_block H5.out.1 1
      have z2 : w5.cell? ⟨gs, 2, none⟩ = some (.string (str xb)) := cell_block H5.out.1 2
      have HLE5 := hide (hle.trans H5.out.2)
      obtain ⟨m, hm⟩ : ∃ m, (Sp.mk op sh xb).may = m := ⟨_, rfl⟩
      rw [hm] at HBAD HGOOD
      simp only [Act.put]
      go_cut [65] (fun s65 wx => s65 = .bool (!m) ∧ w5 = wx)
      case first =>
        have HN := hide (fun h => hm.symm.trans (may_no (s := Sp.mk op sh xb) h))
        have HY := hide (fun h => hm.symm.trans (may_yes (s := Sp.mk op sh xb) h))
        clear hm HBAD HGOOD HT HI HBL HM
        go_wp2_with fail
        all_goals go_meet
        all_goals
          refine ⟨congrArg Value.bool ?_, rfl⟩
          have hN := HN.out
          have hY := HY.out
          clear HN HY
          cases m
          all_goals (first | rfl | (simp_all [bOp, sOp]; done) | (simp_all [bOp, sOp]; omega) | (simp [bOp, sOp] at hN hY; simp_all; omega))
      case rest =>
        obtain ⟨rfl, rfl⟩ := hcut
        cases m
        · have HB := hide (HBAD.out rfl)
          clear HBAD HGOOD hm z0 z1 z2
          go_wp2_with fail
          go_ret2
          exact RPutQ.none HB.out HLE5.out.out
        have hp := may_parts hm
        have HG := hide (HGOOD.out rfl)
        simp only at hp
        obtain ⟨hp1, hp2, hp3, hp4, hp5, hp6, hp7⟩ := hp
        have hcv := conv_one (P := Tryz.prog) w5 25 9 5 5 op Tryz.underlying25 Tryz.underlying5 Tryz.underlying9 (by omega) (by omega)
        have hw8 : IntKind.u8.wrap op = op := IntWalk.u8_in _ (by omega)
        clear HBAD HGOOD hm HM HI HBL
        have y0 : ∀ o, (w5.alloc o).cell? ⟨gs, 0, none⟩ = some (.int .i64 op) := fun o => cell_block (heap_alloc (o' := o) H5.out.1) 0
        have y1 : ∀ o, (w5.alloc o).cell? ⟨gs, 1, none⟩ = some (.int .i64 sh) := fun o => cell_block (heap_alloc (o' := o) H5.out.1) 1
        have y2 : ∀ o, (w5.alloc o).cell? ⟨gs, 2, none⟩ = some (.string (str xb)) := fun o => cell_block (heap_alloc (o' := o) H5.out.1) 2
        have y3 : ∀ o o', ((w5.alloc o).alloc o').cell? ⟨gs, 2, none⟩ = some (.string (str xb)) := fun o o2 => cell_block (heap_alloc (o' := o2) (heap_alloc (o' := o) H5.out.1)) 2
        rcases (show op = 0 ∨ op = 1 ∨ op = 2 ∨ op = 3 ∨ (4 ≤ op ∧ op ≤ 8) by omega) with rfl | rfl | rfl | rfl | ⟨h4, h8⟩
        · obtain rfl : sh = 0 := by simpa [sOp] using hp4
          have HO := hide (show (Sp.mk 0 0 xb).out = 0 :: 0 :: UInt8.ofNat xb.length :: xb by
            have e : xb.length / 256 = 0 := by omega
            simp [Sp.out, bOp, sOp, be2, e])
          have q1 : (xb.length : Int).tdiv 256 = 0 := by rw [Int.tdiv_eq_ediv_of_nonneg (by omega)]; omega
          have q2 : (xb.length : Int).tmod 256 = xb.length := by rw [Int.tmod_eq_emod_of_nonneg (by omega)]; omega
          have q3 : IntKind.u8.wrap (xb.length : Int) = xb.length := IntWalk.u8_in _ (by omega)
          have q4 : IntKind.i64.wrap (xb.length : Int) = xb.length := IntWalk.i64_in _ (by omega)
          have hcv2 := conv_pair24 (w5.alloc (.cells #[.int .u8 0] 5)) 0 xb.length 0 (UInt8.ofNat xb.length) rfl (by simp; omega)
          rw [alloc_size] at hcv2
          clear hp1 hp2 hp3 hp4 hp5 hp6 hp7
          go_wp2_with fail
          go_roundw
          case rel => exact ⟨k + 1, by omega, by go_num, HG, by rw [HT.out, HO.out], ((HLE5.out.alloc _).alloc _)⟩
          case measure => simp [intOf]; omega
        · obtain rfl : sh = 0 := by simpa [sOp] using hp4
          have HO := hide (show (Sp.mk 1 0 xb).out = 1 :: 0 :: UInt8.ofNat xb.length :: xb by
            have e : xb.length / 256 = 0 := by omega
            simp [Sp.out, bOp, sOp, be2, e])
          have q1 : (xb.length : Int).tdiv 256 = 0 := by rw [Int.tdiv_eq_ediv_of_nonneg (by omega)]; omega
          have q2 : (xb.length : Int).tmod 256 = xb.length := by rw [Int.tmod_eq_emod_of_nonneg (by omega)]; omega
          have q3 : IntKind.u8.wrap (xb.length : Int) = xb.length := IntWalk.u8_in _ (by omega)
          have q4 : IntKind.i64.wrap (xb.length : Int) = xb.length := IntWalk.i64_in _ (by omega)
          have hcv2 := conv_pair24 (w5.alloc (.cells #[.int .u8 1] 5)) 0 xb.length 0 (UInt8.ofNat xb.length) rfl (by simp; omega)
          rw [alloc_size] at hcv2
          clear hp1 hp2 hp3 hp4 hp5 hp6 hp7
          go_wp2_with fail
          go_roundw
          case rel => exact ⟨k + 1, by omega, by go_num, HG, by rw [HT.out, HO.out], ((HLE5.out.alloc _).alloc _)⟩
          case measure => simp [intOf]; omega
        · obtain rfl : xb = [] := by
            have : xb.length = 0 := by simpa [bOp] using hp3
            exact List.eq_nil_of_length_eq_zero this
          have HO := hide (show (Sp.mk 2 sh []).out = [2, UInt8.ofNat sh.toNat] by simp [Sp.out, bOp, sOp])
          have q3 : IntKind.u8.wrap sh = sh := IntWalk.u8_in _ (by omega)
          have hcv2 := conv_one (P := Tryz.prog) (w5.alloc (.cells #[.int .u8 2] 5)) 25 9 5 5 sh Tryz.underlying25 Tryz.underlying5 Tryz.underlying9 (by omega) (by omega)
          rw [alloc_size] at hcv2
          clear hp1 hp2 hp3 hp4 hp5 hp6 hp7
          go_wp2_with fail
          go_roundw
          case rel => exact ⟨k + 1, by omega, by go_num, HG, by rw [HT.out, HO.out], ((HLE5.out.alloc _).alloc _)⟩
          case measure => simp [intOf]; omega
        · obtain rfl : xb = [] := by
            have : xb.length = 0 := by simpa [bOp] using hp3
            exact List.eq_nil_of_length_eq_zero this
          have HO := hide (show (Sp.mk 3 sh []).out = [3, UInt8.ofNat sh.toNat] by simp [Sp.out, bOp, sOp])
          have q3 : IntKind.u8.wrap sh = sh := IntWalk.u8_in _ (by omega)
          have hcv2 := conv_one (P := Tryz.prog) (w5.alloc (.cells #[.int .u8 3] 5)) 25 9 5 5 sh Tryz.underlying25 Tryz.underlying5 Tryz.underlying9 (by omega) (by omega)
          rw [alloc_size] at hcv2
          clear hp1 hp2 hp3 hp4 hp5 hp6 hp7
          go_wp2_with fail
          go_roundw
          case rel => exact ⟨k + 1, by omega, by go_num, HG, by rw [HT.out, HO.out], ((HLE5.out.alloc _).alloc _)⟩
          case measure => simp [intOf]; omega
        · obtain rfl : xb = [] := by
            have : xb.length = 0 := by
              rcases hp3 with h | h
              · simp [bOp] at h; omega
              · exact h
            exact List.eq_nil_of_length_eq_zero this
          obtain rfl : sh = 0 := by
            rcases hp4 with h | h
            · simp [sOp] at h; omega
            · exact h
          have HO := hide (show (Sp.mk op 0 []).out = [UInt8.ofNat op.toNat] by
            have e1 : bOp op = false := by simp [bOp]; omega
            have e2 : sOp op = false := by simp [sOp]; omega
            simp [Sp.out, e1, e2])
          have q5 : (op == 0) = false := by rw [beq_eq_false_iff_ne]; omega
          have q6 : (op == 1) = false := by rw [beq_eq_false_iff_ne]; omega
          have q7 : (op == 2) = false := by rw [beq_eq_false_iff_ne]; omega
          have q8 : (op == 3) = false := by rw [beq_eq_false_iff_ne]; omega
          clear hp1 hp2 hp3 hp4 hp5 hp6 hp7
          go_wp2_with fail
          go_roundw
          case rel => exact ⟨k + 1, by omega, by go_num, HG, by rw [HT.out, HO.out], (HLE5.out.alloc _)⟩
          case measure => simp [intOf]; omega
    · obtain rfl : k = l.length := by omega
      have hltI : ¬ ((l.length : Nat) : Int) < (l.length : Int) := by omega
      rw [List.take_length] at HM ⊢
      have ha : l.all Sp.may = true := List.all_eq_true.2 HM.out
      have HS := hide (show putSB l = l.flatMap Sp.out by rw [putSB, ha]; rfl)
      have HE := hide (show putSE l = 0 by rw [putSE, ha]; rfl)
      generalize l.flatMap Sp.out = S at *
      clear ha
      go_wp2_with fail
      go_ret2
      rw [HS.out, HE.out]
      exact ⟨rfl, hle.out⟩
end Go.Proofs.YtkcpfhbfjpldhaaGreatDoor

/- ScriptPuts: the law's walk. -/
namespace Go.Proofs.YtkcpfhbfjpldhaaGreatDoor
open Go.RowKit
set_option linter.unusedVariables false

set_option maxRecDepth 100000 in
set_option maxHeartbeats 2000000 in
theorem scriptPuts_walk (w : World) (l : List Sp) (A : Option Addr) (n cap : Nat) (hr : RSl 3 RSp w l (.slice A n cap)) (hl : l.length ≤ 9223372036854775807) :
    Calls Tryz.prog 3 #[.slice A n cap] w (Gives w (.bool true)) := by
  have HR := hide hr
  obtain ⟨A', cap', hv, hcap, _⟩ := hr
  injection hv with e1 e2 e3
  subst e1 e2 e3
  have HLN := hide hl
  clear hl
  go_enter Tryz.func3, Tryz.ntmps3
  go_wp2_with fail
  refine (awake24 _).mono ?_
  rintro r w1 ⟨rfl, hb1⟩
  have hl1 : Le w w1 := ⟨hb1⟩
  clear hb1
  go_wp2_with fail
  have hf := few24_any l A l.length cap w1 (hl1.rsl keeps_sp HR.out) HLN.out
  cases hfw : fewP l
  · rw [hfw] at hf
    refine hf.mono ?_
    rintro r w2 ⟨rfl, hb2⟩
    have hl2 := hl1.trans ⟨hb2⟩
    clear hb2 hf
    go_wp2_with fail
    go_ret
    exact ⟨rfl, hl2.out⟩
  rw [hfw] at hf
  refine hf.mono ?_
  rintro r w2 ⟨rfl, hb2⟩
  have hl2 := hl1.trans ⟨hb2⟩
  have HF := hide (fewP_parts hfw)
  have hll : l.length ≤ 300 := HF.out.2
  clear hb2 hf hfw hl1
  go_wp2_with fail
  refine (scPut_any l A cap w2 (hl2.rsl keeps_sp HR.out) (by omega) HF.out.1).mono ?_
  rintro r w3 ⟨v3, rfl, ho3, hb3⟩
  obtain ⟨A3, cap3, rfl, _, _⟩ := own_slice ho3
  have HR3 := hide (rsl_of_own ho3)
  have hl3 := hl2.trans ⟨hb3⟩
  clear ho3 hb3 hl2
  go_wp2_with fail
  refine (steps_any l A l.length cap w3 (hl3.rsl keeps_sp HR.out) (by omega)).mono ?_
  rintro r w4 ⟨A4, cap4, rfl, hr4, hb4⟩
  have hl34 : Le w3 w4 := ⟨hb4⟩
  clear hb4
  go_wp2_with fail
  refine (rput24_any l A4 l.length cap4 w4 hr4 (by omega) HF.out.1).mono ?_
  rintro r w5 ⟨rfl, hb5⟩
  have hl35 := hl34.trans ⟨hb5⟩
  have f1 := conv_le HR3.out w5 hl35
  have HL := hide (hl3.trans hl35)
  have g2 : (putSB l == putSB l) = true := by simp
  have g3 : (putSE l == putSE l) = true := by simp
  clear hr4 hb5 hl34 hl35 hl3
  go_wp2_with fail
  go_ret
  exact ⟨rfl, HL.out.out⟩
end Go.Proofs.YtkcpfhbfjpldhaaGreatDoor
