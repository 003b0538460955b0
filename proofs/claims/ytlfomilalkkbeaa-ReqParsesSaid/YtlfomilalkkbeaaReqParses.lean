/- ReqParses: the law's walk. -/
import Derived.Test.YtlfomilalkkbeaaLaw19
import Derived.Test.YtlfomilalkkbeaaReqSame
import Derived.Test.YtlfomilalkkbeaaRefParse
import Derived.Test.YtlfomilalkkbeaaOpenReq
import Derived.Laws.BitsAll
namespace Go.Proofs.Ytlfomilalkkbeaa
open Go.RowKit
set_option linter.unusedVariables false

theorem reqPut_any (id : Nat) (q : Rq) (A : Option Addr) (n cap : Nat) (w : World) (hid : (id : Int) < 18446744073709551616) (hr : RSl 1 RU32 w q.ssrcs (.slice A n cap)) :
    Calls Try.prog 26 #[.int .u64 id, .agg #[.int .i64 q.kind, .int .i64 q.who, .int .i64 q.room, .int .i64 q.rights, .int .i64 q.track, .slice A n cap, .int .i64 q.layer, .int .i64 q.tid]] w (Owns8E w (q.put id) q.err) := by
  cases h : q.ok with
  | true =>
    have := reqPut_ok id q A n cap w hid hr h
    simpa [Rq.put, Rq.err, h] using this
  | false =>
    obtain ⟨A', c', hv, _⟩ := hr
    injection hv with e1 e2 e3
    have := reqPut_bad id q A n cap w e2 h
    simpa [Rq.put, Rq.err, h] using this
theorem put_len (id : Nat) (q : Rq) : (q.put id).length ≤ 1218 := by
  unfold Rq.put
  split
  · rename_i h
    have := (ok_parts h).2.2.2.2.2.2.2
    rw [bytes_len]; omega
  · simp
theorem pr_len (l : List UInt8) : (prRq l).ssrcs.length ≤ 255 := by
  unfold prRq
  split
  · have := nm_lt (q8 l) 1 (by omega)
    simp [rq]
    have e : nm (q8 l) 1 < 256 := by simpa using this
    omega
  · simp [Rq.zero]
theorem xor_u8 (a b : UInt8) : bits .xor .u8 (a.toNat : Int) (b.toNat : Int) = ((a ^^^ b).toNat : Int) := by
  rw [u8_xor_nat _ _ a.toNat_lt b.toNat_lt]
  rfl
theorem u8s_set (l : List UInt8) (k : Nat) (x : UInt8) : (u8s l).set k (.int .u8 x.toNat) = u8s (l.set k x) := by simp [u8s]

set_option maxRecDepth 100000 in
set_option maxHeartbeats 4000000 in
theorem reqParses_walk (w : World) (id : Nat) (hid : (id : Int) < 18446744073709551616) (q : Rq) (A : Option Addr) (n cap : Nat) (hr : RSl 1 RU32 w q.ssrcs (.slice A n cap)) (at_ : List Nat) (Aa : Option Addr) (na ca : Nat) (ha : RSl 1 RU16 w at_ (.slice Aa na ca)) (xs : List UInt8) (Ax : Option Addr) (nx cx : Nat) (hx : RSl 1 RU8 w xs (.slice Ax nx cx)) (l : List UInt8) (Am : Option Addr) (m capm : Nat) (hm : RSl 1 RU8 w l (.slice Am m capm)) :
    Calls Try.prog 11 #[.int .u64 id, .agg #[.int .i64 q.kind, .int .i64 q.who, .int .i64 q.room, .int .i64 q.rights, .int .i64 q.track, .slice A n cap, .int .i64 q.layer, .int .i64 q.tid], .slice Aa na ca, .slice Ax nx cx, .slice Am m capm] w (Gives w (.bool true)) := by
  have HR := hide hr
  obtain ⟨A', cap', hv, hcap, _⟩ := hr
  injection hv with e1 e2 e3
  subst e1 e2 e3
  have HID := hide hid
  clear hid
  have HA := hide ha; have HX := hide hx; have HM := hide hm
  obtain ⟨A', cap', hv, hcapa, hai⟩ := ha
  injection hv with e1 e2 e3
  subst e1 e2 e3
  obtain ⟨A', cap', hv, hcapx, hxi⟩ := hx
  injection hv with e1 e2 e3
  subst e1 e2 e3
  obtain ⟨A', cap', hv, hcapm, _⟩ := hm
  injection hv with e1 e2 e3
  subst e1 e2 e3
  have HAI := hide hai; have HXI := hide hxi
  clear hai hxi
  have hq := heap_alloc_new w (.cells #[.int .i64 q.kind, .int .i64 q.who, .int .i64 q.room, .int .i64 q.rights, .int .i64 q.track, .slice A q.ssrcs.length cap, .int .i64 q.layer, .int .i64 q.tid] 56)
  have hwb : Le w (w.alloc (.cells #[.int .i64 q.kind, .int .i64 q.who, .int .i64 q.room, .int .i64 q.rights, .int .i64 q.track, .slice A q.ssrcs.length cap, .int .i64 q.layer, .int .i64 q.tid] 56)) := (Le.refl w).alloc _
  go_enter Try.func11, Try.ntmps11
  go_wp2_with fail
  generalize w.alloc (.cells #[.int .i64 q.kind, .int .i64 q.who, .int .i64 q.room, .int .i64 q.rights, .int .i64 q.track, .slice A q.ssrcs.length cap, .int .i64 q.layer, .int .i64 q.tid] 56) = wb at *
  generalize w.heap.size = p at *
  have q0 := box_cell hq 0 _ rfl
  have q1 := box_cell hq 1 _ rfl
  have q2 := box_cell hq 2 _ rfl
  have q3 := box_cell hq 3 _ rfl
  have q4 := box_cell hq 4 _ rfl
  have q5 := box_cell hq 5 _ rfl
  have q6 := box_cell hq 6 _ rfl
  have q7 := box_cell hq 7 _ rfl
  clear hq
  refine (awake19 _).mono ?_
  rintro r w1 ⟨rfl, hb1⟩
  have hl1 : Le wb w1 := ⟨hb1⟩
  clear hb1
  by_cases hbig : 300 < q.ssrcs.length
  · go_wp2_with fail
    go_ret
    exact ⟨rfl, (hwb.trans hl1).out⟩
  have hn1 : ¬ (300 : Int) < (q.ssrcs.length : Int) := by omega
  by_cases hb2 : 20 < at_.length
  · go_wp2_with fail
    go_ret
    exact ⟨rfl, (hwb.trans hl1).out⟩
  have hn2 : ¬ (20 : Int) < (at_.length : Int) := by omega
  by_cases hb3 : xs.length < at_.length
  · go_wp2_with fail
    go_ret
    exact ⟨rfl, (hwb.trans hl1).out⟩
  have hn3 : ¬ (xs.length : Int) < (at_.length : Int) := by omega
  by_cases hb4 : 300 < l.length
  · go_wp2_with fail
    go_ret
    exact ⟨rfl, (hwb.trans hl1).out⟩
  have hn4 : ¬ (300 : Int) < (l.length : Int) := by omega
  have hB := put_len id q
  go_wp2_with fail
  refine (reqPut_any id q A _ cap _ HID.out ((hwb.trans hl1).rsl keeps_u32 HR.out)).mono ?_
  rintro r w2 ⟨v2, rfl, ho2, hb2'⟩
  generalize q.put id = B at *
  generalize q.err = E at *
  have hw2 : Le w w2 := (hwb.trans hl1).trans ⟨hb2'⟩
  have HO2 := hide (own_base ho2 (hwb.trans hl1).size)
  obtain ⟨A2, cap2, rfl, hcap2, _⟩ := own_slice ho2
  clear ho2 hb2' hl1 hwb q0 q1 q2 q3 q4 q5 q6 q7
  go_wp2_with fail
  go_loopw [14] (fun j wr => ∃ (k : Nat) (L : List UInt8), k ≤ at_.length ∧ j = .int .i64 k ∧ L.length = B.length ∧ Hd (wr.ownsRow w.heap.size 5 1 (.slice A2 B.length cap2) B.length (u8s L)) ∧ Le w wr) (fun j _ => at_.length - (intOf j).toNat)
  case atStart => exact ⟨0, B, Nat.zero_le _, rfl, rfl, HO2, hw2⟩
  case round =>
    clear HO2 hw2
    obtain ⟨k, L, hk, rfl, hLB, HO, hle⟩ := hrel
    by_cases hlt : k < at_.length ∧ 0 < B.length
    · obtain ⟨hlt, hpos⟩ := hlt
      obtain ⟨ba, oa, rfl, hai⟩ := HAI.out (by rintro rfl; simp at hlt)
      obtain ⟨cs, _, hca, hRa, hba⟩ := hai k hlt
      subst hRa
      have hltx : k < xs.length := by omega
      obtain ⟨bx, ox, rfl, hxi⟩ := HXI.out (by rintro rfl; simp at hltx)
      obtain ⟨cs, _, hcx, hRx⟩ := hxi k hltx
      simp only [RU8] at hRx
      subst hRx
      have ca : wr.cell? ⟨ba, oa + k, none⟩ = some (.int .u16 (at_[k] : Nat)) := hle.cell (by simpa using hca 0 (by omega))
      have cx : wr.cell? ⟨bx, ox + k, none⟩ = some (.int .u8 (xs[k].toNat : Nat)) := hle.cell (by simpa using hcx 0 (by omega))
      obtain ⟨g, rfl⟩ : ∃ g, A2 = some ⟨g, 0, none⟩ := by
        rcases HO.out.2 with ⟨hv, h0⟩ | ⟨g, c', cur, hv, _⟩
        · have := HO.out.1
          simp [u8s, h0] at this
          omega
        · injection hv with e1 e2 e3
          exact ⟨g, e1⟩
      generalize at_[k] = a at *
      generalize xs[k] = x at *
      clear hca hcx hai hxi
      have hm0 : a % B.length < B.length := Nat.mod_lt _ hpos
      have hg0 := (HO.out.lt g rfl).1
      obtain ⟨i, hi⟩ : ∃ i, i = a % B.length := ⟨_, rfl⟩
      rw [← hi] at hm0
      have hmod : ((a : Int)).tmod (B.length : Int) = (i : Int) := by rw [hi]; rfl
      have hmod2 : ((a : Int)) % (B.length : Int) = (i : Int) := by rw [hi]; rfl
      have hmod3 : ((a % B.length : Nat) : Int) = (i : Int) := by rw [hi]
      have hwa : IntKind.i64.wrap (a : Int) = a := IntWalk.i64_in _ (by omega)
      have hwi : IntKind.i64.wrap (i : Int) = i := IntWalk.i64_in _ (by omega)
      have hiL : i < L.length := by omega
      have cb : wr.cell? ⟨g, i, none⟩ = some (.int .u8 ((L[i]'hiL).toNat : Nat)) := by
        rw [HO.out.cellAt i (by omega)]
        simp [u8s, hiL]
      have fb := HO.out.frozenAt i
      have hst := (HO.out.stored i (.int .u8 ((L[i]'hiL) ^^^ x).toNat)).1
      rw [u8s_set] at hst
      have HST := hide hst
      have hxr := xor_u8 (L[i]'hiL) x
      generalize L[i]'hiL = y at *
      have HI := hide hi
      have h0i : (0 : Int) ≤ (i : Int) := by omega
      have h1i : (i : Int) < (B.length : Int) := by omega
      have h0k : (0 : Int) ≤ (k : Int) := by omega
      have h1k : (k : Int) < (at_.length : Int) := by omega
      have h2k : (k : Int) < (xs.length : Int) := by omega
      have hposI : (0 : Int) < (B.length : Int) := by omega
      have hdz : ((B.length : Int) == 0) = false := by rw [beq_eq_false_iff_ne]; omega
      have hdz2 : ¬ B.length = 0 := by omega
      clear hst hi hlt hpos
      go_wp2_with fail
      go_still_tail 17, (by kernel_rfl)
      change wpList _ _ _ _ _ wr.drew
      clear hmod hmod2 hmod3 hwa hwi hdz hdz2 hxr
      go_wp2_with fail
      go_roundw
      case rel => exact ⟨k + 1, L.set i (y ^^^ x), by omega, by go_num, by simpa using hLB, hide HST.out.drew, ⟨(hle.out.setCell (p := ⟨g, i, none⟩) hg0 _).drew⟩⟩
      case measure => simp [intOf]; omega
    · have hr0 := hide (rsl_of_own HO.out)
      have hL0 : L.length ≤ 1218 := by omega
      rw [← hLB] at hr0 ⊢
      have hLI : ((L.length : Nat) : Int) = (B.length : Int) := by rw [hLB]
      have hlt3 : ((k : Int) < (at_.length : Int) ∧ ¬ (0 : Int) < (L.length : Int)) ∨ ¬ (k : Int) < (at_.length : Int) := by omega
      have HLE := hide hle
      have HLB := hide hLB
      clear hle hlt hLB hLI HO hB
      rcases hlt3 with ⟨hlt1, hlt2⟩ | hlt1
      all_goals
        go_wp2_with fail
        go_loopw [12, 15] (fun v j wr2 => ∃ (i : Nat) (Lb : List UInt8) (Ab : Option Addr) (cb : Nat), i ≤ 2 ∧ j = .int .i64 i ∧ v = .slice Ab Lb.length cb ∧ Hd (RSl 1 RU8 wr2 Lb (.slice Ab Lb.length cb)) ∧ Lb.length ≤ 1218 ∧ Le w wr2) (fun _ j _ => 2 - (intOf j).toNat)
        case atStart => exact ⟨0, L, A2, cap2, by omega, rfl, rfl, hr0, hL0, HLE.out⟩
        case round =>
          clear hr0 hL0 HLE
          obtain ⟨i, Lb, Ab, cb, hi, rfl, rfl, HRB, hLb, hle⟩ := hrel
          by_cases hi2 : i < 2
          · have hi2' : (i : Int) < 2 := by omega
            have HPL := hide (pr_len Lb)
            have HLE := hide hle
            clear hle
            go_wp2_with fail
            refine (reqParse_any Lb _ _ _ wr HRB.out (by omega)).mono ?_
            have HRP := hide (fun W => rparse_any Lb W (by omega))
            generalize prId Lb = I at *
            generalize prRq Lb = Qr at *
            generalize rqErr Lb = Er at *
            rintro r w3 ⟨Ay, capy, rfl, hry, hb3⟩
            have hy := heap_alloc_new w3 (.cells #[.int .i64 Qr.kind, .int .i64 Qr.who, .int .i64 Qr.room, .int .i64 Qr.rights, .int .i64 Qr.track, .slice Ay Qr.ssrcs.length capy, .int .i64 Qr.layer, .int .i64 Qr.tid] 56)
            have hl4 : Le wr (w3.alloc (.cells #[.int .i64 Qr.kind, .int .i64 Qr.who, .int .i64 Qr.room, .int .i64 Qr.rights, .int .i64 Qr.track, .slice Ay Qr.ssrcs.length capy, .int .i64 Qr.layer, .int .i64 Qr.tid] 56)) := (Le.mk hb3).alloc _
            have hry4 := RSl.alloc keeps_u32 hry (.cells #[.int .i64 Qr.kind, .int .i64 Qr.who, .int .i64 Qr.room, .int .i64 Qr.rights, .int .i64 Qr.track, .slice Ay Qr.ssrcs.length capy, .int .i64 Qr.layer, .int .i64 Qr.tid] 56)
            have hrb4 := hl4.rsl keeps_u8 HRB.out
            have f1 := conv_le hrb4 _ (Le.refl _)
            clear hb3 hry hrb4
            go_wp2_with fail
            generalize w3.alloc (.cells #[.int .i64 Qr.kind, .int .i64 Qr.who, .int .i64 Qr.room, .int .i64 Qr.rights, .int .i64 Qr.track, .slice Ay Qr.ssrcs.length capy, .int .i64 Qr.layer, .int .i64 Qr.tid] 56) = w4 at *
            generalize w3.heap.size = py at *
            refine (HRP.out _).mono ?_
            rintro r w5 ⟨Az, capz, rfl, hrz, hb5⟩
            have hz6 := heap_alloc_new w5 (.cells #[.int .i64 Qr.kind, .int .i64 Qr.who, .int .i64 Qr.room, .int .i64 Qr.rights, .int .i64 Qr.track, .slice Az Qr.ssrcs.length capz, .int .i64 Qr.layer, .int .i64 Qr.tid] 61)
            have hl56 : Le w5 (w5.alloc (.cells #[.int .i64 Qr.kind, .int .i64 Qr.who, .int .i64 Qr.room, .int .i64 Qr.rights, .int .i64 Qr.track, .slice Az Qr.ssrcs.length capz, .int .i64 Qr.layer, .int .i64 Qr.tid] 61)) := (Le.refl w5).alloc _
            have hl46 : Le w4 (w5.alloc (.cells #[.int .i64 Qr.kind, .int .i64 Qr.who, .int .i64 Qr.room, .int .i64 Qr.rights, .int .i64 Qr.track, .slice Az Qr.ssrcs.length capz, .int .i64 Qr.layer, .int .i64 Qr.tid] 61)) := (Le.mk hb5).trans hl56
            have hrz6 := RSl.alloc keeps_u32 hrz (.cells #[.int .i64 Qr.kind, .int .i64 Qr.who, .int .i64 Qr.room, .int .i64 Qr.rights, .int .i64 Qr.track, .slice Az Qr.ssrcs.length capz, .int .i64 Qr.layer, .int .i64 Qr.tid] 61)
            clear hb5 hrz f1 HRP
            go_wp2_with fail
            generalize w5.alloc (.cells #[.int .i64 Qr.kind, .int .i64 Qr.who, .int .i64 Qr.room, .int .i64 Qr.rights, .int .i64 Qr.track, .slice Az Qr.ssrcs.length capz, .int .i64 Qr.layer, .int .i64 Qr.tid] 61) = w6 at *
            generalize w5.heap.size = pz at *
            have y0 := box_cell hy 0 _ rfl
            have y1 := box_cell hy 1 _ rfl
            have y2 := box_cell hy 2 _ rfl
            have y3 := box_cell hy 3 _ rfl
            have y4 := box_cell hy 4 _ rfl
            have y5 := box_cell hy 5 _ rfl
            have y6 := box_cell hy 6 _ rfl
            have y7 := box_cell hy 7 _ rfl
            have z0 := box_cell hz6 0 _ rfl
            have z1 := box_cell hz6 1 _ rfl
            have z2 := box_cell hz6 2 _ rfl
            have z3 := box_cell hz6 3 _ rfl
            have z4 := box_cell hz6 4 _ rfl
            have z5 := box_cell hz6 5 _ rfl
            have z6 := box_cell hz6 6 _ rfl
            have z7 := box_cell hz6 7 _ rfl
            have HY5 := hide hl46.drew
            have HZ5 := hide (Le.refl w6).drew
            have HRY := hide hry4; have HRZ := hide hrz6
            have HL6 := hide ((HLE.out.trans (hl4.trans hl46)))
            have i0 : ((I : Int) != (I : Int)) = false := by simp
            have e0 : (Er != Er) = false := by simp
            have hq300 := HPL.out
            clear hy hz6 hl4 hl56 hl46 hry4 hrz6
            refine' wp_region_rows 15 97 Le (Is _ :: Is _ :: Is _ :: Is _ :: Is _ :: Is _ :: Is _ :: Is _ :: Is _ :: Is _ :: Is _ :: Is _ :: Is _ :: Is _ :: Is _ :: []) ([] :: [] :: [0, 1] :: [2] :: [3] :: [3] :: [3, 4, 5] :: [3, 6] :: [7] :: [8] :: [8, 9] :: [8] :: [8, 10, 11] :: [8, 12] :: [8, 13] :: []) (by kernel_rfl) (by kernel_rfl) rfl (by kernel_rfl) Le.refl (fun _ _ _ h h' => h.trans h') ⟨St.is, St.is, St.is, St.is, St.is, St.is, St.is, St.is, St.is, St.is, St.is, St.is, St.is, St.is, St.is, trivial⟩ ?m16
            case m16 =>
              simp (maxSteps := 100000000) only [AllV, Obl2, Leans, factAt, allFacts, actOf, putAll, putRow, List.set_cons_succ, List.set_cons_zero, List.getElem?_cons_zero, List.getElem?_cons_succ, List.take_succ_cons, List.take_zero, List.drop_succ_cons, List.drop_zero, List.cons_append, List.nil_append, List.length_cons, List.length_nil, Nat.reduceAdd]
              intro x0 x1 x2 x3 x4 x5 x6 x7 x8 x9 x10 x11 x12 x13 x14
              refine ⟨⟨?_, ?_, ?_, ?_, ?_, ?_, ?_, ?_, ?_, ?_, ?_, ?_, ?_, ?_, ?_, trivial⟩, ?_⟩
              -- 0: 97 := Op.move t16
              · intro w hw  K hK; go_simp; exact hK _ _ (Le.refl _) (Is.mk _ _)
              -- 1: 98 := Op.move t19
              · intro w hw  K hK; go_simp; exact hK _ _ (Le.refl _) (Is.mk _ _)
              -- 2: 99 := Op.binOp BinOp.neq 26 t97 t98 26
              · intro w hw h0 h1 K hK; cases h0; cases h1; go_simp; exact hK _ _ (Le.refl _) (Is.mk _ _)
              -- 3: 100 := Op.move t99
              · intro w hw h2 K hK; cases h2; go_simp; exact hK _ _ (Le.refl _) (Is.mk _ _)
              -- 4: 101 := Op.move t18   [guarded: some (3, false)]
              · intro w hw h3 K hK; cases h3; go_simp; exact hK _ _ (Le.refl _) (Is.mk _ _)
              -- 5: 102 := Op.move t21   [guarded: some (3, false)]
              · intro w hw h3 K hK; cases h3; go_simp; exact hK _ _ (Le.refl _) (Is.mk _ _)
              -- 6: 103 := Op.binOp BinOp.neq 36 t101 t102 36   [guarded: some (3, false)]
              · intro w hw h3 h4 h5 K hK; cases h3; cases h4; cases h5; go_simp; exact hK _ _ (Le.refl _) (Is.mk _ _)
              -- 7: 104 := Op.pick t100 (const (Value.bool true)) t103
              · intro w hw h3 h6 K hK; cases h3; cases h6; go_simp; exact hK _ _ (Le.refl _) (Is.mk _ _)
              -- 8: 105 := Op.move t104
              · intro w hw h7 K hK; cases h7; go_simp; exact hK _ _ (Le.refl _) (Is.mk _ _)
              -- 9: 106 := Op.load 56 t17   [guarded: some (8, false)]
              · intro w hw h8 K hK; cases h8; have hle := HY5.out.trans hw; go_simp; exact hK _ _ (Le.refl _) (Is.mk _ _)
              -- 10: 107 := Op.call { value (Operand.func 28), args := #[t106], argTypes := #[56] }   [guarded: some (8, false)]
              · intro w hw h8 h9 K hK; cases h8; cases h9; go_simp; have hof := of_any Qr Ay Qr.ssrcs.length capy w; simp only [rqV] at hof; refine hof.mono ?_; rintro r w' ⟨rfl, hb⟩; exact hK _ _ ⟨hb⟩ (Is.mk _ _)
              -- 11: 108 := Op.load 61 t20   [guarded: some (8, false)]
              · intro w hw h8 K hK; cases h8; have hle := HZ5.out.trans hw; go_simp; exact hK _ _ (Le.refl _) (Is.mk _ _)
              -- 12: 109 := Op.call { value (Operand.func 31), args := #[t107, t108], argTypes := #[61, 61] }   [guarded: some (8, false)]
              · intro w hw h8 h10 h11 K hK; cases h8; cases h10; cases h11; go_simp; have hsm := same_any Qr Qr Ay _ capy Az _ capz w ((HY5.out.trans hw).rsl keeps_u32 HRY.out) ((HZ5.out.trans hw).rsl keeps_u32 HRZ.out) (by omega); simp only [rqV, same_refl] at hsm; refine hsm.mono ?_; rintro r w' ⟨rfl, hb⟩; exact hK _ _ ⟨hb⟩ (Is.mk _ _)
              -- 13: 110 := Op.unOp UnOp.not 4 t109   [guarded: some (8, false)]
              · intro w hw h8 h12 K hK; cases h8; cases h12; go_simp; exact hK _ _ (Le.refl _) (Is.mk _ _)
              -- 14: 111 := Op.pick t105 (const (Value.bool true)) t110
              · intro w hw h8 h13 K hK; cases h8; cases h13; go_simp; exact hK _ _ (Le.refl _) (Is.mk _ _)
              · intro wz hz h0 h1 h2 h3 h4 h5 h6 h7 h8 h9 h10 h11 h12 h13 h14; cases h0; cases h1; cases h2; cases h3; cases h4; cases h5; cases h6; cases h7; cases h8; cases h9; cases h10; cases h11; cases h12; cases h13; cases h14; skip
                clear y0 y1 y2 y3 y4 y5 y6 y7 z0 z1 z2 z3 z4 z5 z6 z7 i0 e0
                have hlz := HL6.out.trans ((Le.refl w6).drew.trans hz)
                go_wp2_with fail
                go_roundw
                case rel => exact ⟨i + 1, l, Am, capm, by omega, by go_num, rfl, hide (hlz.rsl keeps_u8 HM.out), by omega, hlz⟩
                case measure => simp [intOf]; omega
          · have hi2' : ¬ (i : Int) < 2 := by omega
            go_wp2_with fail
            go_ret
            exact ⟨rfl, hle.out⟩
end Go.Proofs.Ytlfomilalkkbeaa
