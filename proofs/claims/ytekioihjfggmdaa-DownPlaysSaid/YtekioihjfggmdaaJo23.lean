/- Texts of one claim, laid together: DownT DownA -/
import Derived.Test.YtekioihjfggmdaaJo22
/- down.take: packets that are none of the bad ones. -/
namespace Go.Proofs.Ytekioihjfggmdaa
open Go.RowKit
set_option linter.unusedVariables false

set_option maxRecDepth 100000 in
set_option maxHeartbeats 4000000 in
theorem downTake_ok {w : World} {L : Dl} {c i : Nat} {d : Dn} {vs : List Value} (h : DnAt w L c d vs) (hk : d.Ok i) (hi : i ≤ 900000) (p : Pk) (hp : p.Ok) (v5 v6 v7 : Value) (hP : PdAt w L p v5 v6 v7) (hc : c < 1000000) (f l : Int) (x : Wnt) (hE : vpE p.payload = 0) (hER : p.err = 0) :
    Calls Try.prog 26 #[.pointer (some ⟨L.db, 0, none⟩), p.val v5 v6 v7, .int .i64 f, .int .i64 l, x.val] w (TakeR L (c + 1) ((d.setPick (d.pick.take (p.inn f l) x).1).does p f l (d.pick.take (p.inn f l) x).2) w) := by
  have hPw := hP.here
  obtain ⟨A7, c7, h7, _⟩ := own_rsl hPw.payload
  subst h7
  have HPR := hide (fun W (hW : Le w W) => parseX_any A7 c7 p.payload W (hW.rsl keeps_u8 hPw.payload) (by have := hp.np; omega))
  have HPT := hide (fun W (hW : Le w W) => rtpPut_any p hp v5 v6 (.slice A7 p.payload.length c7) W (hPw.le hW))
  have HCH := hide (fun W => chTake_any d.pick (p.inn f l) x W)
  have HBG := hide (fun W => begins_any (vpD p.payload) (vpD_ok p.payload).part W)
  have HWH := hide (fun W (hW : Le w W) => whole_any A7 c7 p.payload W (hW.rsl keeps_u8 hPw.payload) (by have := hp.np; omega) (vpD_ok p.payload).part)
  have HDO := hide (vpD_ok p.payload)
  have hwt : ∀ (s : Ch) (i : Inn) (x : Wnt), (s.take i x).2 = 0 ∨ (s.take i x).2 = 1 ∨ (s.take i x).2 = 2 ∨ (s.take i x).2 = 3 := fun s i x => by
    unfold Ch.take
    split
    · dsimp only
      split <;> simp
    · split <;> simp
  have HWT := hide (hwt d.pick (p.inn f l) x)
  clear hwt
  have hnm : p.nm.Ok := ⟨hp.seq, hp.time, (vpD_ok p.payload).pic, (vpD_ok p.payload).tl0⟩
  have hms := hk.nums (by omega)
  have HV := hide (fun W vs' (hW : DnAt W L c (d.setPick (d.pick.take (p.inn f l) x).1) vs') cd hcd => doLeave_any hW (by show d.left ≤ 1000000; have := hk.cnt; omega) cd hcd)
  have HVD := hide (fun W vs' (hW : DnAt W L c (d.setPick (d.pick.take (p.inn f l) x).1) vs') => doDrop_any hW (by show d.dropped ≤ 1000000; have := hk.cnt; omega) hms p.nm hnm (p.inn f l))
  have HVS := hide (fun W vs' (hW : DnAt W L c (d.setPick (d.pick.take (p.inn f l) x).1) vs') (hF : PdAt W L p v5 v6 (.slice A7 p.payload.length c7)) => doSwitch_any hW hk.st hk.ssrc hc (by show d.sent ≤ 1000000; have := hk.cnt; omega) hms p hp v5 v6 (.slice A7 p.payload.length c7) hF p.nm hnm)
  have HVE := hide (fun W vs' (hW : DnAt W L c (d.setPick (d.pick.take (p.inn f l) x).1) vs') (hF : PdAt W L p v5 v6 (.slice A7 p.payload.length c7)) => doSend_any hW hk.st hk.ssrc hc (by show d.sent ≤ 1000000; have := hk.cnt; omega) (by show d.late ≤ 1000000; have := hk.cnt; omega) hms p hp v5 v6 (.slice A7 p.payload.length c7) hF p.nm hnm)
  have HT := hide (TkSt.start (p := p) (v5 := v5) (v6 := v6) (v7 := .slice A7 p.payload.length c7) (x := x) h)
  have HL0 := hide ((((Le.refl w).alloc (.cells #[.pointer (some ⟨L.db, 0, none⟩)] 26)).alloc (.cells (p.cl v5 v6 (.slice A7 p.payload.length c7)).toArray 46)).alloc (.cells x.cl.toArray 48))
  have HS := hide hP
  have hIN : (p.inn f l).cl = [.int .i64 f, .int .i64 l, .bool (vpD p.payload).begins, .bool (vpW p.payload), .bool (vpD p.payload).hasTid, .int .i64 (vpD p.payload).tid, .bool (vpD p.payload).sync] := rfl
  have hNM : p.nm.cl = [.int .u16 p.seq, .int .u32 p.time, .int .u16 (vpD p.payload).pic, .int .u8 (vpD p.payload).tl0] := rfl
  have hINV : (p.inn f l).val = .agg (p.inn f l).cl.toArray := rfl
  have hbeg : (p.inn f l).begin_ = (vpD p.payload).begins := rfl
  have HIN := hide (And.intro hIN (And.intro hNM (And.intro hINV hbeg)))
  clear hIN hNM hINV hbeg
  obtain ⟨R, hR⟩ : ∃ R, R = (d.setPick (d.pick.take (p.inn f l) x).1).does p f l (d.pick.take (p.inn f l) x).2 := ⟨_, rfl⟩
  rw [← hR]
  have HR := hide hR
  clear h hk hp hP hPw hR hnm hms hc
  generalize d.pick.take (p.inn f l) x = r at *
  generalize p.inn f l = ii at *
  rw [Pk.val, Wnt.val]
  simp only [Pk.cl, Wnt.cl] at HT HL0
  go_enter Try.func26, Try.ntmps26
  go_wp2_with fail
  refine (HPR.out _ HL0.out).mono ?_
  rintro e w1 ⟨rfl, hb⟩
  have HT1 := hide (HT.out.le ⟨hb⟩)
  have HL1 := hide (HL0.out.trans ⟨hb⟩)
  clear hb HPR HT HL0
  rw [vpV, hE]
  rw [hER] at HPT
  clear hER
  generalize hDD : vpD p.payload = D at *
  have HDD := hide hDD
  clear hDD
  clear hE
  generalize vpN p.payload = NN at *
  rw [Dsc.val]
  have hds := heap_alloc_new w1 (.cells #[.bool D.more, .bool D.lone, .bool D.start, .int .u8 D.part, .bool D.hasPic, .bool D.wide, .int .u16 D.pic, .bool D.hasTl0, .int .u8 D.tl0, .bool D.hasTid, .int .u8 D.tid, .bool D.sync, .bool D.hasKey, .int .u8 D.key] 74)
  have HDS := hide hds
  clear hds
  have HT2 := hide (HT1.out.le ((Le.refl w1).alloc (.cells #[.bool D.more, .bool D.lone, .bool D.start, .int .u8 D.part, .bool D.hasPic, .bool D.wide, .int .u16 D.pic, .bool D.hasTl0, .int .u8 D.tl0, .bool D.hasTid, .int .u8 D.tid, .bool D.sync, .bool D.hasKey, .int .u8 D.key] 74)))
  have HL2 := hide (HL1.out.alloc (.cells #[.bool D.more, .bool D.lone, .bool D.start, .int .u8 D.part, .bool D.hasPic, .bool D.wide, .int .u16 D.pic, .bool D.hasTl0, .int .u8 D.tl0, .bool D.hasTid, .int .u8 D.tid, .bool D.sync, .bool D.hasKey, .int .u8 D.key] 74))
  go_upto_region 2 with fail
  generalize w1.alloc (.cells #[.bool D.more, .bool D.lone, .bool D.start, .int .u8 D.part, .bool D.hasPic, .bool D.wide, .int .u16 D.pic, .bool D.hasTl0, .int .u8 D.tl0, .bool D.hasTid, .int .u8 D.tid, .bool D.sync, .bool D.hasKey, .int .u8 D.key] 74) = W2 at *
  obtain ⟨a0, a1, a2, a3, a4, a5, a6, a7, a8⟩ := HT2.out.pcells
  have HPT2 := hide (HPT.out W2 HL2.out)
  rw [Pk.val] at HPT2
  clear HPT HT1 HL1
  go_wp2_with fail
  refine HPT2.out.mono ?_
  rintro e w3 ⟨vo, rfl, _, hb⟩
  have HT3 := hide (HT2.out.le ⟨hb⟩)
  have HL3 := hide (HL2.out.trans ⟨hb⟩)
  have HDS3 := hide ((Le.mk hb).heap HDS.out)
  clear hb HT2 HL2 HPT2 HDS a0 a1 a2 a3 a4 a5 a6 a7 a8
  have c0 := HT3.out.dcell
  obtain ⟨c1, c2, c3, c4⟩ := HT3.out.pick
  generalize w1.heap.size = g12 at *
  generalize p.payload.length = NP at *
  generalize vpW p.payload = WH at *
  go_upto_region 8 with fail
  clear c0 c1 c2 c3 c4
  have HLE := hide (Le.refl w3).drew
  have htid : IntKind.i64.wrap (D.tid : Int) = D.tid := IntWalk.i64_in _ (by have := HDO.out.tid; omega)
  have HTID := hide htid
  clear htid
  go_cut [17] (fun sv wx => ∃ g17, sv = .pointer (some ⟨g17, 0, none⟩) ∧ wx.heap[g17]? = some (.cells ii.cl.toArray 141 (0, 0)) ∧ Le w3 wx)
  case first =>
    refine' wp_region_rowsD 15 70 (Bx w3.heap.size 141 ii.cl.toArray 93 #[]) (IsD _ :: IsD _ :: IsD _ :: IsD _ :: IsD _ :: IsD _ :: IsD _ :: IsD _ :: IsD _ :: IsD _ :: IsD _ :: IsD _ :: IsD _ :: IsD _ :: IsD _ :: (fun _ v W => Slot 141 ii.cl.toArray.size w3.heap.size v W) :: (fun us _ W => Filled 141 ii.cl.toArray ((us[1]?).getD undef) W) :: []) ([] :: [] :: [] :: [2] :: [] :: [4] :: [5] :: [] :: [7] :: [] :: [9] :: [10] :: [] :: [12] :: [0, 1, 3, 6, 8, 11, 13] :: [] :: [14, 15] :: []) (by kernel_rfl) (by kernel_rfl) (by rfl) (by kernel_rfl) Bx.refl (fun _ _ _ h h' => Bx.trans (by decide) h h') ⟨StD.is, StD.is, StD.is, StD.is, StD.is, StD.is, StD.is, StD.is, StD.is, StD.is, StD.is, StD.is, StD.is, StD.is, StD.is, (fun _ _ _ _ h hs => Slot.stay1 h hs), (fun _ _ _ _ h hs => Filled.stay1 (by decide) h hs), trivial⟩ ?m8
    case m8 =>
      simp (maxSteps := 100000000) only [AllV, OblD, LeansD, factAtD, allFactsD, depV, actOf, putAll, putRow, Act.put, List.setIfInBounds_toArray, List.set_cons_succ, List.set_cons_zero, List.map_cons, List.getElem?_cons_zero, List.getElem?_cons_succ, Option.getD_some, List.map_nil, List.take_succ_cons, List.take_zero, List.drop_succ_cons, List.drop_zero, List.cons_append, List.nil_append, List.length_cons, List.length_nil, Nat.reduceAdd]
      intro x0 x1 x2 x3 x4 x5 x6 x7 x8 x9 x10 x11 x12 x13 x14 x15 x16
      refine ⟨⟨?_, ?_, ?_, ?_, ?_, ?_, ?_, ?_, ?_, ?_, ?_, ?_, ?_, ?_, ?_, ?_, ?_, trivial⟩, ?_⟩
      -- 0: 70 := Op.move t2
      · intro w hw  K hK; go_simp; exact hK _ _ (Bx.refl _) (IsD.mk _ _ _)
      -- 1: 71 := Op.move t3
      · intro w hw  K hK; go_simp; exact hK _ _ (Bx.refl _) (IsD.mk _ _ _)
      -- 2: 72 := Op.load 74 t12
      · intro w hw  K hK; have hle := HLE.out.trans (hw.le rfl); have hT := HT3.out.le hle; refine cast (if_pos (show Region.wanted _ _ = true from rfl)).symm ?_; refine wp_load_blk 74 (.tmp 12) rfl (cs := [.bool D.more, .bool D.lone, .bool D.start, .int .u8 D.part, .bool D.hasPic, .bool D.wide, .int .u16 D.pic, .bool D.hasTl0, .int .u8 D.tl0, .bool D.hasTid, .int .u8 D.tid, .bool D.sync, .bool D.hasKey, .int .u8 D.key]) _ rfl Try.underlying74 rfl (by kernel_rfl) (hle.heap HDS3.out) ?_; exact hK _ _ (Bx.refl _) (IsD.mk _ _ _)
      -- 3: 73 := Op.call { value (Operand.func 47), args := #[t72], argTypes := #[74] }
      · intro w hw h2 K hK; cases h2; go_simp; refine (HBG.out _).mono ?_; rintro r w' ⟨rfl, hb'⟩; exact hK _ _ (Bx.of_le ⟨hb'⟩ hw.size) (IsD.mk _ _ _)
      -- 4: 74 := Op.fieldAddr 46 t6 1
      · intro w hw  K hK; go_simp; exact hK _ _ (Bx.refl _) (IsD.mk _ _ _)
      -- 5: 75 := Op.load 44 t74
      · intro w hw h4 K hK; cases h4; have hle := HLE.out.trans (hw.le rfl); have hT := HT3.out.le hle; obtain ⟨a0, a1, a2, a3, a4, a5, a6, a7, a8⟩ := hT.pcells; go_simp; exact hK _ _ (Bx.refl _) (IsD.mk _ _ _)
      -- 6: 76 := Op.call { value (Operand.func 24), args := #[t75], argTypes := #[44] }
      · intro w hw h5 K hK; cases h5; have hle := HLE.out.trans (hw.le rfl); have hT := HT3.out.le hle; go_simp; refine (HWH.out _ (HL3.out.trans hle)).mono ?_; rintro r w' ⟨rfl, hb'⟩; exact hK _ _ (Bx.of_le ⟨hb'⟩ hw.size) (IsD.mk _ _ _)
      -- 7: 77 := Op.fieldAddr 74 t12 9
      · intro w hw  K hK; go_simp; exact hK _ _ (Bx.refl _) (IsD.mk _ _ _)
      -- 8: 78 := Op.load 4 t77
      · intro w hw h7 K hK; cases h7; have hle := HLE.out.trans (hw.le rfl); have hT := HT3.out.le hle; have k9 := box_cell (hle.heap HDS3.out) 9 (.bool D.hasTid) rfl w (Le.refl _); go_simp; exact hK _ _ (Bx.refl _) (IsD.mk _ _ _)
      -- 9: 79 := Op.fieldAddr 74 t12 10
      · intro w hw  K hK; go_simp; exact hK _ _ (Bx.refl _) (IsD.mk _ _ _)
      -- 10: 80 := Op.load 5 t79
      · intro w hw h9 K hK; cases h9; have hle := HLE.out.trans (hw.le rfl); have hT := HT3.out.le hle; have k10 := box_cell (hle.heap HDS3.out) 10 (.int .u8 D.tid) rfl w (Le.refl _); go_simp; exact hK _ _ (Bx.refl _) (IsD.mk _ _ _)
      -- 11: 81 := Op.convert 5 3 t80
      · intro w hw h10 K hK; cases h10; have htid := HTID.out; go_simp; exact hK _ _ (Bx.refl _) (IsD.mk _ _ _)
      -- 12: 82 := Op.fieldAddr 74 t12 11
      · intro w hw  K hK; go_simp; exact hK _ _ (Bx.refl _) (IsD.mk _ _ _)
      -- 13: 83 := Op.load 4 t82
      · intro w hw h12 K hK; cases h12; have hle := HLE.out.trans (hw.le rfl); have hT := HT3.out.le hle; have k11 := box_cell (hle.heap HDS3.out) 11 (.bool D.sync) rfl w (Le.refl _); go_simp; exact hK _ _ (Bx.refl _) (IsD.mk _ _ _)
      -- 14: 84 := Op.build 141 #[(0, t70), (1, t71), (2, t73), (3, t76), (4, t78), (5, t81), (6, t83)]
      · intro w hw h0 h1 h3 h6 h8 h11 h13 K hK; cases h0; cases h1; cases h3; cases h6; cases h8; cases h11; cases h13; go_simp; exact hK _ _ (Bx.refl _) (IsD.mk _ _ _)
      -- 15: 17 := Op.alloc 141
      · intro w hw  K hK; go_simp; exact hK _ _ (Bx.of_le ((Le.refl _).alloc _) hw.size) (Slot.new hw.size rfl)
      -- 16: none := Op.store 141 t17 t84
      · intro w hw h14 h15 K hK; cases h14; obtain ⟨g, ⟨cs⟩, rfl, hB, hg, hn⟩ := h15; refine cast (if_pos (show Region.wanted _ _ = true from rfl)).symm ?_; refine wp_store_blk 141 (.tmp 17) (.tmp 84) rfl (cs := ii.cl) rfl (by rw [HIN.out.1]; rfl) (by kernel_rfl) (by simp [Inn.cl, Value.oneCell']) hg hn ?_; intro w' h' hg'; exact hK undef _ (Bx.store1 hB hg hn h' hg') ⟨g, rfl, h'⟩
      · intro wz hz h0 h1 h2 h3 h4 h5 h6 h7 h8 h9 h10 h11 h12 h13 h14 h15 h16; cases h0; cases h1; cases h2; cases h3; cases h4; cases h5; cases h6; cases h7; cases h8; cases h9; cases h10; cases h11; cases h12; cases h13; cases h14; obtain ⟨g17, rfl, h17⟩ := h16; skip
        go_wp2_with fail
        go_meet
        exact ⟨g17, rfl, h17, (Le.refl w3).drew.trans (hz.le rfl)⟩
  case rest =>
    obtain ⟨g17, rfl, h17, hle⟩ := hcut
    generalize wc = W4 at *
    have HT4 := hide (HT3.out.le hle)
    have HI4 := hide h17
    have HDS4 := hide (hle.heap HDS3.out)
    clear h17 hle HT3 HDS3 HL3 HLE HBG HWH HTID
    obtain ⟨a0, a1, a2, a3, a4, a5, a6, a7, a8⟩ := HT4.out.pcells
    have e6 : W4.cell? ⟨g12, 6, none⟩ = some (.int .u16 D.pic) := box_cell HDS4.out 6 _ rfl _ (Le.refl _)
    have e8 : W4.cell? ⟨g12, 8, none⟩ = some (.int .u8 D.tl0) := box_cell HDS4.out 8 _ rfl _ (Le.refl _)
    have hN5 := heap_alloc_new W4 (.cells #[.int .u16 p.seq, .int .u32 p.time, .int .u16 D.pic, .int .u8 D.tl0] 91)
    have hL5 := (Le.refl W4).alloc (.cells #[.int .u16 p.seq, .int .u32 p.time, .int .u16 D.pic, .int .u8 D.tl0] 91)
    have H5 := hide (And.intro hN5 hL5)
    clear hN5 hL5
    go_upto_region 10 with fail
    have HN5 : Hd ((W4.alloc (.cells #[.int .u16 p.seq, .int .u32 p.time, .int .u16 D.pic, .int .u8 D.tl0] 91)).heap[W4.heap.size]? = some (.cells p.nm.cl.toArray 91 (0, 0))) := hide (by rw [HIN.out.2.1]; exact H5.out.1)
    generalize W4.alloc (.cells #[.int .u16 p.seq, .int .u32 p.time, .int .u16 D.pic, .int .u8 D.tl0] 91) = W5 at *
    generalize W4.heap.size = g18 at *
    have HT5 := hide (HT4.out.le H5.out.2)
    have HI5 := hide (H5.out.2.heap HI4.out)
    clear a0 a1 a2 a3 a4 a5 a6 a7 a8 e6 e8 H5 HT4 HI4 HDS4
    have hmm := @run_makeMap Try.prog
    have HM0 := hide (FMapAt.made W5)
    have HL0 := hide ((Le.refl W5).alloc (.map #[] 0))
    go_upto_region 11 with (first
      | (refine wpl_finsert rfl (.tmp 96) (.const (.int .i64 0)) (.tmp 97) 0 rfl rfl rfl rfl HM0.out (by omega) (by decide) ?_; intro wa hma hga; have HM1 := hide hma; have HG1 := hide (HL0.out.out.grown hga HL0.out.size (by rintro k hk; injection hk with hk; rw [← hk]; exact Nat.le_refl _)); clear hma hga)
      | (refine wpl_finsert rfl (.tmp 96) (.const (.int .i64 2)) (.tmp 98) 2 rfl rfl rfl rfl HM1.out (by omega) (by decide) ?_; intro wb hmb hgb; have HM2 := hide hmb; have HG2 := hide (HG1.out.grown hgb HG1.out.size (by rintro k hk; injection hk with hk; rw [← hk]; exact Nat.le_refl _)); clear hmb hgb)
      | (refine wpl_finsert rfl (.tmp 96) (.const (.int .i64 3)) (.tmp 99) 3 rfl rfl rfl rfl HM2.out (by omega) (by decide) ?_; intro wc hmc hgc; have HM3 := hide hmc; have HG3 := hide (HG2.out.grown hgc HG2.out.size (by rintro k hk; injection hk with hk; rw [← hk]; exact Nat.le_refl _)); clear hmc hgc)
      | (refine wpl_finsert rfl (.tmp 96) (.const (.int .i64 1)) (.tmp 100) 1 rfl rfl rfl rfl HM3.out (by omega) (by decide) ?_; intro wd hmd hgd; have HM4 := hide hmd; have HG4 := hide (HG3.out.grown hgd HG3.out.size (by rintro k hk; injection hk with hk; rw [← hk]; exact Nat.le_refl _)); clear hmd hgd))
    have HT6 := hide (HT5.out.le ⟨HG4.out⟩)
    have HN6 := hide ((Le.mk HG4.out).heap HN5.out)
    have HI6 := hide ((Le.mk HG4.out).heap HI5.out)
    generalize W5.heap.size = gm at *
    clear HM0 HM1 HM2 HM3 HG1 HG2 HG3 HG4 HL0 HT5 HN5 HI5 hmm
    have HLE := hide (Le.refl wd).drew
    go_cut [20, 21] (fun s20 s21 wx => ∃ g20, s20 = .pointer (some ⟨g20, 0, none⟩) ∧ s21 = .int .i64 r.2 ∧ wx.heap[g20]? = some (.cells r.1.cs.toArray 89 (0, 0)) ∧ Le wd wx)
    case first =>
      refine' wp_region_rowsD 7 103 (Bx wd.heap.size 89 r.1.cs.toArray 93 #[]) (IsD _ :: IsD _ :: IsD _ :: IsD _ :: IsD _ :: IsD _ :: IsD _ :: IsD _ :: IsD _ :: IsD _ :: (fun _ v W => Slot 89 r.1.cs.toArray.size wd.heap.size v W) :: (fun us _ W => Filled 89 r.1.cs.toArray ((us[1]?).getD undef) W) :: IsD _ :: []) ([] :: [0] :: [1] :: [2] :: [] :: [] :: [3, 4, 5] :: [6] :: [7] :: [7] :: [] :: [8, 10] :: [9] :: []) (by kernel_rfl) (by kernel_rfl) (by rfl) (by kernel_rfl) Bx.refl (fun _ _ _ h h' => Bx.trans (by decide) h h') ⟨StD.is, StD.is, StD.is, StD.is, StD.is, StD.is, StD.is, StD.is, StD.is, StD.is, (fun _ _ _ _ h hs => Slot.stay1 h hs), (fun _ _ _ _ h hs => Filled.stay1 (by decide) h hs), StD.is, trivial⟩ ?m11
      case m11 =>
        simp (maxSteps := 100000000) only [AllV, OblD, LeansD, factAtD, allFactsD, depV, actOf, putAll, putRow, Act.put, List.setIfInBounds_toArray, List.set_cons_succ, List.set_cons_zero, List.map_cons, List.getElem?_cons_zero, List.getElem?_cons_succ, Option.getD_some, List.map_nil, List.take_succ_cons, List.take_zero, List.drop_succ_cons, List.drop_zero, List.cons_append, List.nil_append, List.length_cons, List.length_nil, Nat.reduceAdd]
        intro x0 x1 x2 x3 x4 x5 x6 x7 x8 x9 x10 x11 x12
        refine ⟨⟨?_, ?_, ?_, ?_, ?_, ?_, ?_, ?_, ?_, ?_, ?_, ?_, ?_, trivial⟩, ?_⟩
        -- 0: 103 := Op.load 26 t5
        · intro w hw  K hK; have hle := HLE.out.trans (hw.le rfl); have hT := HT6.out.le hle; have k0 := hT.dcell; go_simp; exact hK _ _ (Bx.refl _) (IsD.mk _ _ _)
        -- 1: 104 := Op.nilCheck t103
        · intro w hw h0 K hK; cases h0; go_simp; exact hK _ _ (Bx.refl _) (IsD.mk _ _ _)
        -- 2: 105 := Op.fieldAddr 95 t104 1
        · intro w hw h1 K hK; cases h1; go_simp; exact hK _ _ (Bx.refl _) (IsD.mk _ _ _)
        -- 3: 106 := Op.load 89 t105
        · intro w hw h2 K hK; cases h2; have hle := HLE.out.trans (hw.le rfl); have hT := HT6.out.le hle; refine cast (if_pos (show Region.wanted _ _ = true from rfl)).symm ?_; refine wp_load_in 89 (.tmp 105) rfl [.int .u32 d.ssrc] d.pick.cs (d.nums.cs ++ [.pointer (some ⟨L.sb, 0, none⟩), .int .i64 d.sent, .int .i64 d.left, .int .i64 d.dropped, .int .i64 d.late, .int .i64 d.bad]) _ rfl Try.underlying89 rfl (by kernel_rfl) hT.dn.hd ?_; exact hK _ _ (Bx.refl _) (IsD.mk _ _ _)
        -- 4: 107 := Op.load 141 t17
        · intro w hw  K hK; have hle := HLE.out.trans (hw.le rfl); have hT := HT6.out.le hle; refine cast (if_pos (show Region.wanted _ _ = true from rfl)).symm ?_; refine wp_load_blk 141 (.tmp 17) rfl (cs := ii.cl) _ rfl Try.underlying141 rfl (by rw [HIN.out.1]; kernel_rfl) (hle.heap HI6.out) ?_; exact hK _ _ (Bx.refl _) (IsD.mk _ _ _)
        -- 5: 108 := Op.load 48 t9
        · intro w hw  K hK; have hle := HLE.out.trans (hw.le rfl); have hT := HT6.out.le hle; refine cast (if_pos (show Region.wanted _ _ = true from rfl)).symm ?_; refine wp_load_blk 48 (.tmp 9) rfl (cs := x.cl) _ rfl Try.underlying48 rfl (by kernel_rfl) hT.b9 ?_; exact hK _ _ (Bx.refl _) (IsD.mk _ _ _)
        -- 6: 109 := Op.call { value (Operand.func 57), args := #[t106, t107, t108], argTypes := #[89, 141, 48] }
        · intro w hw h3 h4 h5 K hK; cases h3; cases h4; cases h5; go_simp; have hcc := HCH.out w; rw [HIN.out.2.2.1] at hcc; refine hcc.mono ?_; rintro r' w' ⟨rfl, hb'⟩; exact hK _ _ (Bx.of_le ⟨hb'⟩ hw.size) (IsD.mk _ _ _)
        -- 7: 102 := Op.move t109
        · intro w hw h6 K hK; cases h6; go_simp; exact hK _ _ (Bx.refl _) (IsD.mk _ _ _)
        -- 8: 110 := Op.extract t102 0
        · intro w hw h7 K hK; cases h7; go_simp; exact hK _ _ (Bx.refl _) (IsD.mk _ _ _)
        -- 9: 111 := Op.extract t102 1
        · intro w hw h7 K hK; cases h7; go_simp; exact hK _ _ (Bx.refl _) (IsD.mk _ _ _)
        -- 10: 20 := Op.alloc 89
        · intro w hw  K hK; go_simp; exact hK _ _ (Bx.of_le ((Le.refl _).alloc _) hw.size) (Slot.new hw.size rfl)
        -- 11: none := Op.store 89 t20 t110
        · intro w hw h8 h10 K hK; cases h8; obtain ⟨g, ⟨cs⟩, rfl, hB, hg, hn⟩ := h10; refine cast (if_pos (show Region.wanted _ _ = true from rfl)).symm ?_; refine wp_store_blk 89 (.tmp 20) (.tmp 110) rfl (cs := r.1.cs) rfl rfl (by kernel_rfl) (by simp [Ch.cs, Value.oneCell']) hg hn ?_; intro w' h' hg'; exact hK undef _ (Bx.store1 hB hg hn h' hg') ⟨g, rfl, h'⟩
        -- 12: 21 := Op.assign t111
        · intro w hw h9 K hK; cases h9; go_simp; exact hK _ _ (Bx.refl _) (IsD.mk _ _ _)
        · intro wz hz h0 h1 h2 h3 h4 h5 h6 h7 h8 h9 h10 h11 h12; cases h0; cases h1; cases h2; cases h3; cases h4; cases h5; cases h6; cases h7; cases h8; cases h9; obtain ⟨g20, rfl, h20⟩ := h11; cases h12; skip
          go_wp2_with fail
          go_meet
          exact ⟨g20, rfl, rfl, h20, (Le.refl wd).drew.trans (hz.le rfl)⟩
    case rest =>
      obtain ⟨g20, rfl, rfl, h20, hle⟩ := hcut
      generalize wc = W7 at *
      have HT7 := hide (HT6.out.le hle)
      have HN7 := hide (hle.heap HN6.out)
      have HI7 := hide (hle.heap HI6.out)
      have HM7 := hide (HM4.out.le hle)
      have HP7 := hide h20
      clear h20 hle HT6 HN6 HI6 HM4 HLE HCH
      have k0 := HT7.out.dcell
      go_upto_region 13 with (first | (refine wpl_load_blk rfl 89 (.tmp 20) rfl (cs := r.1.cs) _ rfl Try.underlying89 rfl (by kernel_rfl) HP7.out ?_) | (refine wpl_store_in rfl 89 (.tmp 115) (.tmp 113) rfl [.int .u32 d.ssrc] (cs := r.1.cs) (old := d.pick.cs) (post := d.nums.cs ++ [.pointer (some ⟨L.sb, 0, none⟩), .int .i64 d.sent, .int .i64 d.left, .int .i64 d.dropped, .int .i64 d.late, .int .i64 d.bad]) rfl rfl (by kernel_rfl) (by simp [Ch.cs, Value.oneCell']) HT7.out.dn.hd rfl ?_; intro we hn hg; have HW := hide (And.intro hn hg); clear hn hg))
      have hk8 : ∀ {k : Nat} {cs : Array Value} {T : TypeId}, W7.heap[k]? = some (.cells cs T (0, 0)) → T ≠ 95 → we.heap[k]? = some (.cells cs T (0, 0)) := fun h1 h2 => heap_grown HW.out.2 h1 (by intro e; injection e with e; exact blk_ne h1 HT7.out.dn.hd h2 e.symm)
      have HT8 := hide (HT7.out.change HW.out.2 (HT7.out.dn.change (d' := d.setPick r.1) HW.out.2 HW.out.1 rfl))
      have HN8 := hide (hk8 HN7.out (by decide))
      have HI8 := hide (hk8 HI7.out (by decide))
      have hgm : gm ≠ L.db := by
        rintro rfl
        obtain ⟨es, cl, hb, _⟩ := HM7.out
        have := HT7.out.dn.hd
        rw [hb] at this
        cases this
      have hm8 := HM7.out.grown HW.out.2 hgm
      have HB8 := hide (HS.out.fp HT8.out.fp)
      obtain ⟨q0, q1, q2, q3⟩ := four_at (.func (.func 50) #[] #[.pointer (some ⟨w.heap.size, 0, none⟩)]) (.func (.func 55) #[] #[.pointer (some ⟨w.heap.size, 0, none⟩), .pointer (some ⟨g18, 0, none⟩), .pointer (some ⟨w.heap.size + 1, 0, none⟩)]) (.func (.func 51) #[] #[.pointer (some ⟨w.heap.size, 0, none⟩), .pointer (some ⟨g18, 0, none⟩), .pointer (some ⟨g17, 0, none⟩)]) (.func (.func 52) #[] #[.pointer (some ⟨w.heap.size, 0, none⟩), .pointer (some ⟨g18, 0, none⟩), .pointer (some ⟨w.heap.size + 1, 0, none⟩)]) .nilFunc
      have HL := hide (And.intro (hm8.look (k := 0) (by decide) q0) (And.intro (hm8.look (k := 1) (by decide) q1) (And.intro (hm8.look (k := 2) (by decide) q2) (hm8.look (k := 3) (by decide) q3))))
      clear k0 hk8 hgm hm8 q0 q1 q2 q3 HT7 HN7 HI7 HM7 HP7 HW
      have HRR := HR.out
      obtain ⟨r1, r2⟩ := r
      simp only at HRR HWT HL HV HVD HVS HVE HT8
      rcases HWT.out with e | e | e | e
      · subst e
        have hl := HL.out.1
        go_wp2_with fail
        refine (HV.out we vs HT8.out.dn _ HT8.out.b5).mono ?_
        rintro e w9 ⟨v, vs9, rfl, hd9, hr9, hf9⟩
        have H9 := hide (And.intro hd9 (And.intro hr9 (HT8.out.fp.trans hf9)))
        clear hd9 hr9 hf9
        go_wp2_with fail
        go_ret2
        have hR : R = ((d.setPick r1).addLeft, none) := by rw [HRR, Dn.does, if_pos rfl]
        rw [hR]
        exact ⟨v, vs9, rfl, H9.out.1.mono (Nat.le_succ c), H9.out.2.1, H9.out.2.2⟩
      · subst e
        have hl := HL.out.2.1
        go_wp2_with fail
        refine (HVE.out we vs HT8.out.dn HB8.out _ _ _ HT8.out.b5 HN8.out HT8.out.b6).mono ?_
        generalize hX : (if ((d.setPick r1).nums.send p.nm).2.2 = true then (((d.setPick r1).setNums ((d.setPick r1).nums.send p.nm).1).send p ((d.setPick r1).nums.send p.nm).2.1 |>.1, some (((d.setPick r1).setNums ((d.setPick r1).nums.send p.nm).1).send p ((d.setPick r1).nums.send p.nm).2.1).2) else (((d.setPick r1).setNums ((d.setPick r1).nums.send p.nm).1).addLate, none)) = X
        have HX := hide hX
        clear hX
        rintro e w9 ⟨v, vs9, rfl, hd9, hr9, hf9⟩
        have H9 := hide (And.intro hd9 (And.intro hr9 (HT8.out.fp.trans hf9)))
        clear hd9 hr9 hf9
        go_wp2_with fail
        go_ret2
        have hR : R = X := by rw [HRR, Dn.does, if_neg (by decide), if_neg (by decide), if_neg (by decide), ← HX.out]
        rw [hR]
        exact ⟨v, vs9, rfl, H9.out.1, H9.out.2.1, H9.out.2.2⟩
      · subst e
        have hl := HL.out.2.2.1
        go_wp2_with fail
        refine (HVD.out we vs HT8.out.dn _ _ _ HT8.out.b5 HN8.out HI8.out).mono ?_
        rintro e w9 ⟨v, vs9, rfl, hd9, hr9, hf9⟩
        have H9 := hide (And.intro hd9 (And.intro hr9 (HT8.out.fp.trans hf9)))
        clear hd9 hr9 hf9
        go_wp2_with fail
        go_ret2
        have hR : R = (((d.setPick r1).setNums ((d.setPick r1).nums.drop p.nm ii.begin_)).addDropped, none) := by rw [HRR, Dn.does, if_neg (by decide), if_pos rfl, HDD.out, HIN.out.2.2.2]
        rw [hR]
        exact ⟨v, vs9, rfl, H9.out.1.mono (Nat.le_succ c), H9.out.2.1, H9.out.2.2⟩
      · subst e
        have hl := HL.out.2.2.2
        go_wp2_with fail
        refine (HVS.out we vs HT8.out.dn HB8.out _ _ _ HT8.out.b5 HN8.out HT8.out.b6).mono ?_
        rintro e w9 ⟨v, vs9, rfl, hd9, hr9, hf9⟩
        have H9 := hide (And.intro hd9 (And.intro hr9 (HT8.out.fp.trans hf9)))
        clear hd9 hr9 hf9
        go_wp2_with fail
        go_ret2
        have hR : R = ((((d.setPick r1).setNums ((d.setPick r1).nums.switch p.nm 3000).1).send p ((d.setPick r1).nums.switch p.nm 3000).2).1, some (((d.setPick r1).setNums ((d.setPick r1).nums.switch p.nm 3000).1).send p ((d.setPick r1).nums.switch p.nm 3000).2).2) := by rw [HRR, Dn.does, if_neg (by decide), if_neg (by decide), if_pos rfl]
        rw [hR]
        exact ⟨v, vs9, rfl, H9.out.1, H9.out.2.1, H9.out.2.2⟩
end Go.Proofs.Ytekioihjfggmdaa

/- down.Take. -/
namespace Go.Proofs.Ytekioihjfggmdaa
open Go.RowKit
set_option linter.unusedVariables false

theorem TakeR.mono {L : Dl} {c c' : Nat} {r : Dn × Option (List UInt8)} {w : World} {e : Ending} {w' : World} (h : TakeR L c r w e w') (hc : c ≤ c') : TakeR L c' r w e w' := by
  obtain ⟨v, vs, h1, h2, h3, h4⟩ := h
  exact ⟨v, vs, h1, h2.mono hc, h3, h4⟩
theorem downTake1_any {w : World} {L : Dl} {c i : Nat} {d : Dn} {vs : List Value} (h : DnAt w L c d vs) (hk : d.Ok i) (hi : i ≤ 900000) (p : Pk) (hp : p.Ok) (v5 v6 v7 : Value) (hP : PdAt w L p v5 v6 v7) (hc : c < 1000000) (f l : Int) (x : Wnt) :
    Calls Try.prog 26 #[.pointer (some ⟨L.db, 0, none⟩), p.val v5 v6 v7, .int .i64 f, .int .i64 l, x.val] w (TakeR L (c + 1) (d.take1 p f l x) w) := by
  by_cases hb : vpE p.payload ≠ 0 ∨ p.err ≠ 0
  · rw [Dn.take1, if_pos hb]
    exact (downTake_bad h hk hi p hp v5 v6 v7 hP f l x hb).mono fun e w' h => h.mono (Nat.le_succ c)
  · rw [Dn.take1, if_neg hb]
    have h1 := not_or.1 hb
    exact downTake_ok h hk hi p hp v5 v6 v7 hP hc f l x (by have := h1.1; omega) (by have := h1.2; omega)
theorem DnAt.notS {w : World} {L : Dl} {c : Nat} {d : Dn} {vs : List Value} (h : DnAt w L c d vs) {k : Nat} {cs : Array Value} {T : TypeId} (hk : w.heap[k]? = some (.cells cs T (0, 0))) (h1 : T ≠ 95) (h2 : T ≠ 137) (h3 : T ≠ 169) : ¬ L.S k := by
  rintro (e | e | e | e)
  · exact blk_ne hk h.hd h1 e
  · exact blk_ne hk h.st.hs h2 e
  · exact blk_ne hk h.st.hr h3 e
  · exact h.st.ne_map hk e

/-- what Take gives -/
def TakeA (L : Dl) (c : Nat) (r : Dn × Option (List UInt8) × Bool) (w : World) (e : Ending) (w' : World) : Prop :=
  ∃ v vs, e = .returned (.tuple #[v, .bool r.2.1.isSome, .bool r.2.2]) ∧ DnAt w' L c r.1 vs ∧ RSl 1 RU8 w' (r.2.1.getD []) v ∧ Fp L.S w w'

set_option maxRecDepth 100000 in
set_option maxHeartbeats 2000000 in
theorem downTake_any {w : World} {L : Dl} {c i : Nat} {d : Dn} {vs : List Value} (h : DnAt w L c d vs) (hk : d.Ok i) (hi : i ≤ 900000) (p : Pk) (hp : p.Ok) (v5 v6 v7 : Value) (hP : PdAt w L p v5 v6 v7) (hc : c < 1000000) (f l : Int) (x : Wnt) (mu : Bool) :
    Calls Try.prog 13 #[.pointer (some ⟨L.db, 0, none⟩), p.val v5 v6 v7, .int .i64 f, .int .i64 l, x.val, .bool mu] w (TakeA L (c + 1) (d.take p f l x mu) w) := by
  have HL0 := hide (((Le.refl w).alloc (.cells (p.cl v5 v6 v7).toArray 46)).alloc (.cells x.cl.toArray 48))
  have hD := h.le HL0.out
  have HT := hide (downTake1_any hD hk hi p hp v5 v6 v7 (hP.fp (Fp.of_le HL0.out)) hc f l x)
  have hlf : d.left ≤ 900000 := by have := hk.cnt; omega
  have HB0 := hide (show ((w.alloc (.cells (p.cl v5 v6 v7).toArray 46)).alloc (.cells x.cl.toArray 48)).heap[w.heap.size + 1]? = some (.cells x.cl.toArray 48 (0, 0)) from heap_at (by simp))
  have HNS := hide (hD.notS HB0.out (by decide) (by decide) (by decide))
  have HD := hide hD
  clear h hk hp hP hc hD
  cases mu
  · have hr : d.take p f l x false = ((d.take1 p f l x).1, (d.take1 p f l x).2, (d.take1 p f l x).1.pick.asks x) := rfl
    rw [hr]
    clear hr
    generalize d.take1 p f l x = r at *
    obtain ⟨d1, o1⟩ := r
    have HAS := hide (fun W => chAsks_any d1.pick x W)
    dsimp only
    generalize d1.pick.asks x = ask at *
    rw [Pk.val, Wnt.val] at HT ⊢
    simp only [Pk.cl, Wnt.cl] at HT HL0 HB0
    go_enter Try.func13, Try.ntmps13
    go_wp2_with fail
    refine HT.out.mono ?_
    rintro e w9 ⟨v, vs9, rfl, hd9, hr9, hf9⟩
    dsimp only at hd9 hr9
    have H9 := hide (And.intro hd9 (And.intro hr9 ((Fp.of_le HL0.out).trans hf9)))
    have HB9 := hide (show w9.heap[w.heap.size + 1]? = some (.cells x.cl.toArray 48 (0, 0)) from hf9.heap HB0.out HNS.out)
    have HLE := hide (Le.refl w9).drew
    clear hd9 hr9 hf9 HT HL0 HB0 HNS HD
    obtain ⟨os, hos⟩ : ∃ os, os = o1.isSome := ⟨_, rfl⟩
    rw [← hos]
    have HOS := hide hos
    clear hos
    go_upto_region 8 with fail
    refine' wp_region_rowsD 8 42 Le (IsD _ :: IsD _ :: IsD _ :: IsD _ :: IsD _ :: IsD _ :: IsD _ :: IsD _ :: IsD _ :: IsD _ :: IsD _ :: []) ([] :: [] :: [] :: [2] :: [3] :: [4] :: [] :: [5, 6] :: [0] :: [1] :: [7] :: []) (by kernel_rfl) (by kernel_rfl) (by rfl) (by kernel_rfl) Le.refl (fun _ _ _ h h' => h.trans h') ⟨StD.is, StD.is, StD.is, StD.is, StD.is, StD.is, StD.is, StD.is, StD.is, StD.is, StD.is, trivial⟩ ?m8
    case m8 =>
      simp (maxSteps := 100000000) only [AllV, OblD, LeansD, factAtD, allFactsD, depV, actOf, putAll, putRow, Act.put, List.setIfInBounds_toArray, List.set_cons_succ, List.set_cons_zero, List.map_cons, List.getElem?_cons_zero, List.getElem?_cons_succ, Option.getD_some, List.map_nil, List.take_succ_cons, List.take_zero, List.drop_succ_cons, List.drop_zero, List.cons_append, List.nil_append, List.length_cons, List.length_nil, Nat.reduceAdd]
      intro x0 x1 x2 x3 x4 x5 x6 x7 x8 x9 x10
      refine ⟨⟨?_, ?_, ?_, ?_, ?_, ?_, ?_, ?_, ?_, ?_, ?_, trivial⟩, ?_⟩
      -- 0: 42 := Op.move t15
      · intro w hw  K hK; go_simp; exact hK _ _ (Le.refl _) (IsD.mk _ _ _)
      -- 1: 43 := Op.move t16
      · intro w hw  K hK; go_simp; exact hK _ _ (Le.refl _) (IsD.mk _ _ _)
      -- 2: 44 := Op.move t0
      · intro w hw  K hK; go_simp; exact hK _ _ (Le.refl _) (IsD.mk _ _ _)
      -- 3: 45 := Op.nilCheck t44
      · intro w hw h2 K hK; cases h2; go_simp; exact hK _ _ (Le.refl _) (IsD.mk _ _ _)
      -- 4: 46 := Op.fieldAddr 95 t45 1
      · intro w hw h3 K hK; cases h3; go_simp; exact hK _ _ (Le.refl _) (IsD.mk _ _ _)
      -- 5: 47 := Op.load 89 t46
      · intro w hw h4 K hK; cases h4; have hle := HLE.out.trans hw; refine cast (if_pos (show Region.wanted _ _ = true from rfl)).symm ?_; refine wp_load_in 89 (.tmp 46) rfl [.int .u32 d1.ssrc] d1.pick.cs (d1.nums.cs ++ [.pointer (some ⟨L.sb, 0, none⟩), .int .i64 d1.sent, .int .i64 d1.left, .int .i64 d1.dropped, .int .i64 d1.late, .int .i64 d1.bad]) _ rfl Try.underlying89 rfl (by kernel_rfl) (hle.heap H9.out.1.hd) ?_; exact hK _ _ (Le.refl _) (IsD.mk _ _ _)
      -- 6: 48 := Op.load 48 t10
      · intro w hw  K hK; have hle := HLE.out.trans hw; refine cast (if_pos (show Region.wanted _ _ = true from rfl)).symm ?_; refine wp_load_blk 48 (.tmp 10) rfl (cs := x.cl) _ rfl Try.underlying48 rfl (by kernel_rfl) (hle.heap HB9.out) ?_; exact hK _ _ (Le.refl _) (IsD.mk _ _ _)
      -- 7: 49 := Op.call { value (Operand.func 27), args := #[t47, t48], argTypes := #[89, 48] }
      · intro w hw h5 h6 K hK; cases h5; cases h6; go_simp; refine (HAS.out w).mono ?_; rintro r' w' ⟨rfl, hb'⟩; exact hK _ _ ⟨hb'⟩ (IsD.mk _ _ _)
      -- 8: 12 := Op.assign t42
      · intro w hw h0 K hK; cases h0; go_simp; exact hK _ _ (Le.refl _) (IsD.mk _ _ _)
      -- 9: 13 := Op.assign t43
      · intro w hw h1 K hK; cases h1; go_simp; exact hK _ _ (Le.refl _) (IsD.mk _ _ _)
      -- 10: 14 := Op.assign t49
      · intro w hw h7 K hK; cases h7; go_simp; exact hK _ _ (Le.refl _) (IsD.mk _ _ _)
      · intro wz hz h0 h1 h2 h3 h4 h5 h6 h7 h8 h9 h10; cases h0; cases h1; cases h2; cases h3; cases h4; cases h5; cases h6; cases h7; cases h8; cases h9; cases h10; skip
        have hlz := HLE.out.trans hz
        go_wp2_with fail
        go_ret3
        have hos := HOS.out
        subst hos
        exact ⟨v, vs9, rfl, H9.out.1.le hlz, hlz.rsl keeps_u8 H9.out.2.1, H9.out.2.2.trans (Fp.of_le hlz)⟩
  · have c1 := HD.out.cell 1 (.bool d.pick.on) rfl
    have c18 := HD.out.cell 18 (.int .i64 d.left) rfl
    have f1 := HD.out.free 1
    have f18 := HD.out.free 18
    rw [Pk.val, Wnt.val]
    simp only [Pk.cl, Wnt.cl] at HL0 c1 c18 f1 f18 HD
    go_enter Try.func13, Try.ntmps13
    go_wp2_with fail
    go_ret3
    have h1 := HD.out.setCell 1 (.bool false) (d.setPick ⟨false, d.pick.src, d.pick.layer, d.pick.tid⟩) rfl rfl
    exact ⟨_, vs, rfl, (h1.setCell 18 _ d.mute rfl rfl).mono (Nat.le_succ c), RSl.nil, ((Fp.of_le HL0.out).setCell (p := ⟨L.db, 1, none⟩) (.inl rfl) _).setCell (p := ⟨L.db, 18, none⟩) (.inl rfl) _⟩
end Go.Proofs.Ytekioihjfggmdaa
