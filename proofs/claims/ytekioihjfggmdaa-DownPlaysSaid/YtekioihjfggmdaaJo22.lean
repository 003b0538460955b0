/- Texts of one claim, laid together: DownG FMap DownT0 -/
import Derived.Test.YtekioihjfggmdaaJo20
import Derived.Test.YtekioihjfggmdaaJo21
import Derived.Test.YtekioihjfggmdaaJo14
/- down.take's closures. -/
namespace Go.Proofs.Ytekioihjfggmdaa
open Go.RowKit
set_option linter.unusedVariables false

def TakeR (L : Dl) (c : Nat) (r : Dn × Option (List UInt8)) (w : World) (e : Ending) (w' : World) : Prop :=
  ∃ v vs, e = .returned (.tuple #[v, .bool r.2.isSome]) ∧ DnAt w' L c r.1 vs ∧ RSl 1 RU8 w' (r.2.getD []) v ∧ Fp L.S w w'
theorem StAt.mono {w : World} {sb rb mb c c' : Nat} {s : St} {vs : List Value} (h : StAt w sb rb mb c s vs) (hc : c ≤ c') : StAt w sb rb mb c' s vs := ⟨h.hs, h.hr, h.len, h.bytes, h.map.mono hc⟩
theorem DnAt.mono {w : World} {L : Dl} {c c' : Nat} {d : Dn} {vs : List Value} (h : DnAt w L c d vs) (hc : c ≤ c') : DnAt w L c' d vs := ⟨h.hd, h.st.mono hc⟩

set_option maxRecDepth 100000 in
theorem doLeave_any {w : World} {L : Dl} {c : Nat} {d : Dn} {vs : List Value} (h : DnAt w L c d vs) (hl : d.left ≤ 1000000) (cd : Nat) (hcd : w.heap[cd]? = some (.cells #[.pointer (some ⟨L.db, 0, none⟩)] 26 (0, 0))) :
    Calls Try.prog 50 #[.pointer (some ⟨cd, 0, none⟩)] w (TakeR L c (d.addLeft, none) w) := by
  have k0 : w.cell? ⟨cd, 0, none⟩ = some (.pointer (some ⟨L.db, 0, none⟩)) := box_cell hcd 0 _ rfl _ (Le.refl _)
  have c18 := h.cell 18 (.int .i64 d.left) rfl
  have f18 := h.free 18
  have H := hide h
  clear h
  go_enter Try.func50, Try.ntmps50
  go_wp2_with fail
  go_ret2
  exact ⟨_, vs, rfl, H.out.setCell 18 _ d.addLeft rfl rfl, RSl.nil, (Fp.refl L.S w).setCell (p := ⟨L.db, 18, none⟩) (.inl rfl) _⟩

theorem msSwitch_ok (s : Ms) (hs : s.Ok) (n : Nm) (hn : n.Ok) : (s.switch n 3000).2.Ok := by
  simp only [Ms.switch]
  split
  · exact ⟨Nat.mod_lt _ (by omega), Nat.mod_lt _ (by omega), Nat.mod_lt _ (by omega), Nat.mod_lt _ (by omega)⟩
  · exact hn

set_option maxRecDepth 100000 in
set_option maxHeartbeats 2000000 in
theorem doSwitch_any {w : World} {L : Dl} {c : Nat} {d : Dn} {vs : List Value} (h : DnAt w L c d vs) (hk : d.st.Ok) (hss : d.ssrc < 4294967296) (hc : c < 1000000) (hcnt : d.sent ≤ 1000000) (hms : d.nums.Ok) (p : Pk) (hp : p.Ok) (v5 v6 v7 : Value) (hP : PdAt w L p v5 v6 v7) (n : Nm) (hn : n.Ok)
    (cd nb pb : Nat) (hcd : w.heap[cd]? = some (.cells #[.pointer (some ⟨L.db, 0, none⟩)] 26 (0, 0))) (hnb : w.heap[nb]? = some (.cells n.cl.toArray 91 (0, 0)))
    (hpb : w.heap[pb]? = some (.cells #[.bool p.mark, .int .u8 p.type, .int .u16 p.seq, .int .u32 p.time, .int .u32 p.ssrc, v5, v6, v7, .int .i64 p.pad] 46 (0, 0))) :
    Calls Try.prog 52 #[.pointer (some ⟨cd, 0, none⟩), .pointer (some ⟨nb, 0, none⟩), .pointer (some ⟨pb, 0, none⟩)] w (TakeR L (c + 1) (((d.setNums (d.nums.switch n 3000).1).send p (d.nums.switch n 3000).2).1, some ((d.setNums (d.nums.switch n 3000).1).send p (d.nums.switch n 3000).2).2) w) := by
  have HD := hide h
  have HCD := hide hcd
  have HNB := hide hnb
  have HPB := hide hpb
  have HSW := hide (fun W => msSwitch_any d.nums hms n hn 3000 (by decide) W)
  have HOK := hide (msSwitch_ok d.nums hms n hn)
  generalize d.nums.switch n 3000 = sw at *
  have HSEND := hide (fun W vs' (hW : DnAt W L c (d.setNums sw.1) vs') (hF : PdAt W L p v5 v6 v7) => downSend_any hW hk hss hc hcnt p hp v5 v6 v7 hF sw.2 HOK.out)
  have HS := hide hP
  clear h hcd hnb hpb hk hss hc hcnt hms hp hP hn
  go_enter Try.func52, Try.ntmps52
  go_upto_region 1 with fail
  go_cut [5, 6] (fun s5 s6 wx => ∃ g5 g6, s5 = .pointer (some ⟨g5, 0, none⟩) ∧ s6 = .pointer (some ⟨g6, 0, none⟩) ∧ wx.heap[g5]? = some (.cells sw.1.cl.toArray 93 (0, 0)) ∧ wx.heap[g6]? = some (.cells sw.2.cl.toArray 91 (0, 0)) ∧ Le w wx)
  case first =>
    refine' wp_region_rowsD 6 8 (Bx w.heap.size 93 sw.1.cl.toArray 91 sw.2.cl.toArray) (IsD _ :: IsD _ :: IsD _ :: IsD _ :: IsD _ :: IsD _ :: IsD _ :: IsD _ :: IsD _ :: (fun _ v W => Slot 93 sw.1.cl.toArray.size w.heap.size v W) :: (fun _ v W => Slot 91 sw.2.cl.toArray.size w.heap.size v W) :: (fun us _ W => Filled 93 sw.1.cl.toArray ((us[1]?).getD undef) W) :: (fun us _ W => Filled 91 sw.2.cl.toArray ((us[1]?).getD undef) W) :: []) ([] :: [0] :: [1] :: [2] :: [] :: [3, 4] :: [5] :: [6] :: [6] :: [] :: [] :: [7, 9] :: [8, 10] :: []) (by kernel_rfl) (by kernel_rfl) (by rfl) (by kernel_rfl) Bx.refl (fun _ _ _ h h' => Bx.trans (by decide) h h') ⟨StD.is, StD.is, StD.is, StD.is, StD.is, StD.is, StD.is, StD.is, StD.is, (fun _ _ _ _ h hs => Slot.stay1 h hs), (fun _ _ _ _ h hs => Slot.stay2 h hs), (fun _ _ _ _ h hs => Filled.stay1 (by decide) h hs), (fun _ _ _ _ h hs => Filled.stay2 (by decide) h hs), trivial⟩ ?m1
    case m1 =>
      simp (maxSteps := 100000000) only [AllV, OblD, LeansD, factAtD, allFactsD, depV, actOf, putAll, putRow, Act.put, List.setIfInBounds_toArray, List.set_cons_succ, List.set_cons_zero, List.map_cons, List.getElem?_cons_zero, List.getElem?_cons_succ, Option.getD_some, List.map_nil, List.take_succ_cons, List.take_zero, List.drop_succ_cons, List.drop_zero, List.cons_append, List.nil_append, List.length_cons, List.length_nil, Nat.reduceAdd]
      intro x0 x1 x2 x3 x4 x5 x6 x7 x8 x9 x10 x11 x12
      refine ⟨⟨?_, ?_, ?_, ?_, ?_, ?_, ?_, ?_, ?_, ?_, ?_, ?_, ?_, trivial⟩, ?_⟩
      -- 0: 8 := Op.load 26 t0
      · intro w hw  K hK; have k0 := box_cell (hw.old HCD.out (lt_of_heap HCD.out)) 0 (.pointer (some ⟨L.db, 0, none⟩)) rfl w (Le.refl _); go_simp; exact hK _ _ (Bx.refl _) (IsD.mk _ _ _)
      -- 1: 9 := Op.nilCheck t8
      · intro w hw h0 K hK; cases h0; go_simp; exact hK _ _ (Bx.refl _) (IsD.mk _ _ _)
      -- 2: 10 := Op.fieldAddr 95 t9 2
      · intro w hw h1 K hK; cases h1; go_simp; exact hK _ _ (Bx.refl _) (IsD.mk _ _ _)
      -- 3: 11 := Op.load 93 t10
      · intro w hw h2 K hK; cases h2; refine cast (if_pos (show Region.wanted _ _ = true from rfl)).symm ?_; refine wp_load_in 93 (.tmp 10) rfl (.int .u32 d.ssrc :: d.pick.cs) d.nums.cs [.pointer (some ⟨L.sb, 0, none⟩), .int .i64 d.sent, .int .i64 d.left, .int .i64 d.dropped, .int .i64 d.late, .int .i64 d.bad] _ rfl Try.underlying93 rfl (by kernel_rfl) (hw.old HD.out.hd (lt_of_heap HD.out.hd)) ?_; exact hK _ _ (Bx.refl _) (IsD.mk _ _ _)
      -- 4: 12 := Op.load 91 t1
      · intro w hw  K hK; refine cast (if_pos (show Region.wanted _ _ = true from rfl)).symm ?_; refine wp_load_blk 91 (.tmp 1) rfl (cs := n.cl) _ rfl Try.underlying91 rfl (by kernel_rfl) (hw.old HNB.out (lt_of_heap HNB.out)) ?_; exact hK _ _ (Bx.refl _) (IsD.mk _ _ _)
      -- 5: 13 := Op.call { value (Operand.func 53), args := #[t11, t12, const (3000:u32)], argTypes := #[93, 91, 22] }
      · intro w hw h3 h4 K hK; cases h3; cases h4; go_simp; refine (HSW.out _).mono ?_; rintro r w' ⟨rfl, hb'⟩; exact hK _ _ (Bx.of_le ⟨hb'⟩ hw.size) (IsD.mk _ _ _)
      -- 6: 7 := Op.move t13
      · intro w hw h5 K hK; cases h5; go_simp; exact hK _ _ (Bx.refl _) (IsD.mk _ _ _)
      -- 7: 14 := Op.extract t7 0
      · intro w hw h6 K hK; cases h6; go_simp; exact hK _ _ (Bx.refl _) (IsD.mk _ _ _)
      -- 8: 15 := Op.extract t7 1
      · intro w hw h6 K hK; cases h6; go_simp; exact hK _ _ (Bx.refl _) (IsD.mk _ _ _)
      -- 9: 5 := Op.alloc 93
      · intro w hw  K hK; go_simp; exact hK _ _ (Bx.of_le ((Le.refl _).alloc _) hw.size) (Slot.new hw.size rfl)
      -- 10: 6 := Op.alloc 91
      · intro w hw  K hK; go_simp; exact hK _ _ (Bx.of_le ((Le.refl _).alloc _) hw.size) (Slot.new hw.size rfl)
      -- 11: none := Op.store 93 t5 t14
      · intro w hw h7 h9 K hK; cases h7; obtain ⟨g, ⟨cs⟩, rfl, hB, hg, hn⟩ := h9; refine cast (if_pos (show Region.wanted _ _ = true from rfl)).symm ?_; refine wp_store_blk 93 (.tmp 5) (.tmp 14) rfl (cs := sw.1.cl) rfl rfl (by kernel_rfl) (by simp [Ms.cl, Value.oneCell']) hg hn ?_; intro w' h' hg'; exact hK undef _ (Bx.store1 hB hg hn h' hg') ⟨g, rfl, h'⟩
      -- 12: none := Op.store 91 t6 t15
      · intro w hw h8 h10 K hK; cases h8; obtain ⟨g, ⟨cs⟩, rfl, hB, hg, hn⟩ := h10; refine cast (if_pos (show Region.wanted _ _ = true from rfl)).symm ?_; refine wp_store_blk 91 (.tmp 6) (.tmp 15) rfl (cs := sw.2.cl) rfl rfl (by kernel_rfl) (by simp [Nm.cl, Value.oneCell']) hg hn ?_; intro w' h' hg'; exact hK undef _ (Bx.store2 hB hg hn h' hg') ⟨g, rfl, h'⟩
      · intro wz hz h0 h1 h2 h3 h4 h5 h6 h7 h8 h9 h10 h11 h12; cases h0; cases h1; cases h2; cases h3; cases h4; cases h5; cases h6; cases h7; cases h8; obtain ⟨g5, rfl, h5⟩ := h11; obtain ⟨g6, rfl, h6⟩ := h12; skip
        go_wp2_with fail
        go_meet
        exact ⟨g5, g6, rfl, rfl, h5, h6, (Le.refl w).drew.trans (hz.le rfl)⟩
  case rest =>
    obtain ⟨g5, g6, rfl, rfl, h5, h6, hle⟩ := hcut
    generalize wc = W1 at *
    have H5 := hide h5
    have H6 := hide (And.intro h6 hle)
    have HD1 := hide (HD.out.le hle)
    have hc1 := hle.heap HCD.out
    have k0 : W1.cell? ⟨cd, 0, none⟩ = some (.pointer (some ⟨L.db, 0, none⟩)) := box_cell hc1 0 _ rfl _ (Le.refl _)
    clear h5 h6 hle hc1 HD
    go_upto_region 3 with (first | (refine wpl_load_blk rfl 93 (.tmp 5) rfl (cs := sw.1.cl) _ rfl Try.underlying93 rfl (by kernel_rfl) H5.out ?_) | (refine wpl_store_in rfl 93 (.tmp 19) (.tmp 17) rfl (.int .u32 d.ssrc :: d.pick.cs) (cs := sw.1.cl) (old := d.nums.cs) (post := [.pointer (some ⟨L.sb, 0, none⟩), .int .i64 d.sent, .int .i64 d.left, .int .i64 d.dropped, .int .i64 d.late, .int .i64 d.bad]) rfl rfl (by kernel_rfl) (by simp [Ms.cl, Value.oneCell']) HD1.out.hd rfl ?_; intro wd hn hg; have HW := hide (And.intro hn hg); clear hn hg))
    have hd2 : DnAt wd L c (d.setNums sw.1) vs := HD1.out.change HW.out.2 HW.out.1 rfl
    have hS2 : Fp L.S w wd := (Fp.of_le H6.out.2).trans (Fp.of_grown HW.out.2 (.inl rfl))
    have hb2 : PdAt wd L p v5 v6 v7 := HS.out.fp hS2
    have H2 := hide (And.intro (HSEND.out wd vs hd2 hb2) hS2)
    have hg6 := heap_grown HW.out.2 H6.out.1 (by intro e; injection e with e; exact blk_ne H6.out.1 HD1.out.hd (by decide) e.symm)
    have hcd2 := heap_grown HW.out.2 (H6.out.2.heap HCD.out) (by intro e; injection e with e; exact blk_ne (H6.out.2.heap HCD.out) HD1.out.hd (by decide) e.symm)
    have hpb2 := heap_grown HW.out.2 (H6.out.2.heap HPB.out) (by intro e; injection e with e; exact blk_ne (H6.out.2.heap HPB.out) HD1.out.hd (by decide) e.symm)
    have k0 : wd.cell? ⟨cd, 0, none⟩ = some (.pointer (some ⟨L.db, 0, none⟩)) := box_cell hcd2 0 _ rfl _ (Le.refl _)
    have HPB2 := hide hpb2
    have HG6 := hide hg6
    clear hd2 hS2 hb2 hcd2 hg6 hpb2 HSEND HPB HNB HSW
    go_wp2_with (first | (refine wpl_load_blk rfl 46 (.tmp 2) rfl (cs := [.bool p.mark, .int .u8 p.type, .int .u16 p.seq, .int .u32 p.time, .int .u32 p.ssrc, v5, v6, v7, .int .i64 p.pad]) _ rfl Try.underlying46 rfl (by kernel_rfl) HPB2.out ?_) | (refine wpl_load_blk rfl 91 (.tmp 6) rfl (cs := sw.2.cl) _ rfl Try.underlying91 rfl (by kernel_rfl) HG6.out ?_))
    refine H2.out.1.mono ?_
    rintro e w9 ⟨v, vs9, rfl, hd9, hr9, hf9⟩
    have H9 := hide (And.intro hd9 (And.intro hr9 hf9))
    clear hd9 hr9 hf9
    go_wp2_with fail
    go_ret2
    exact ⟨v, vs9, rfl, H9.out.1, H9.out.2.1, H2.out.2.trans H9.out.2.2⟩

theorem msSend_ok (s : Ms) (hs : s.Ok) (n : Nm) (hn : n.Ok) : (s.send n).2.1.Ok := by
  rw [send_eq]
  have h := nm_from_ok s.off n
  split
  · exact nm_zero_ok
  · split
    · exact h
    · refine ⟨h.seq, ?_, h.pic, h.tl0⟩
      dsimp only
      split
      · exact hs.out.time
      · exact h.time

set_option maxRecDepth 100000 in
set_option maxHeartbeats 2000000 in
theorem doSend_any {w : World} {L : Dl} {c : Nat} {d : Dn} {vs : List Value} (h : DnAt w L c d vs) (hk : d.st.Ok) (hss : d.ssrc < 4294967296) (hc : c < 1000000) (hcnt : d.sent ≤ 1000000) (hlt : d.late ≤ 1000000) (hms : d.nums.Ok) (p : Pk) (hp : p.Ok) (v5 v6 v7 : Value) (hP : PdAt w L p v5 v6 v7) (n : Nm) (hn : n.Ok)
    (cd nb pb : Nat) (hcd : w.heap[cd]? = some (.cells #[.pointer (some ⟨L.db, 0, none⟩)] 26 (0, 0))) (hnb : w.heap[nb]? = some (.cells n.cl.toArray 91 (0, 0)))
    (hpb : w.heap[pb]? = some (.cells #[.bool p.mark, .int .u8 p.type, .int .u16 p.seq, .int .u32 p.time, .int .u32 p.ssrc, v5, v6, v7, .int .i64 p.pad] 46 (0, 0))) :
    Calls Try.prog 55 #[.pointer (some ⟨cd, 0, none⟩), .pointer (some ⟨nb, 0, none⟩), .pointer (some ⟨pb, 0, none⟩)] w (TakeR L (c + 1) (if (d.nums.send n).2.2 then (((d.setNums (d.nums.send n).1).send p (d.nums.send n).2.1).1, some ((d.setNums (d.nums.send n).1).send p (d.nums.send n).2.1).2) else ((d.setNums (d.nums.send n).1).addLate, none)) w) := by
  have HD := hide h
  have HCD := hide hcd
  have HNB := hide hnb
  have HPB := hide hpb
  have HSW := hide (fun W => msSend_any d.nums hms n hn W)
  have HOK := hide (msSend_ok d.nums hms n hn)
  generalize d.nums.send n = sw at *
  have HSEND := hide (fun W vs' (hW : DnAt W L c (d.setNums sw.1) vs') (hF : PdAt W L p v5 v6 v7) => downSend_any hW hk hss hc hcnt p hp v5 v6 v7 hF sw.2.1 HOK.out)
  have HS := hide hP
  clear h hcd hnb hpb hk hss hc hcnt hms hp hP hn
  go_enter Try.func55, Try.ntmps55
  go_upto_region 1 with fail
  go_cut [5, 6, 7] (fun s5 s6 s7 wx => ∃ g5 g6, s5 = .pointer (some ⟨g5, 0, none⟩) ∧ s6 = .pointer (some ⟨g6, 0, none⟩) ∧ s7 = .bool sw.2.2 ∧ wx.heap[g5]? = some (.cells sw.1.cl.toArray 93 (0, 0)) ∧ wx.heap[g6]? = some (.cells sw.2.1.cl.toArray 91 (0, 0)) ∧ Le w wx)
  case first =>
    refine' wp_region_rowsD 6 9 (Bx w.heap.size 93 sw.1.cl.toArray 91 sw.2.1.cl.toArray) (IsD _ :: IsD _ :: IsD _ :: IsD _ :: IsD _ :: IsD _ :: IsD _ :: IsD _ :: IsD _ :: IsD _ :: (fun _ v W => Slot 93 sw.1.cl.toArray.size w.heap.size v W) :: (fun _ v W => Slot 91 sw.2.1.cl.toArray.size w.heap.size v W) :: (fun us _ W => Filled 93 sw.1.cl.toArray ((us[1]?).getD undef) W) :: (fun us _ W => Filled 91 sw.2.1.cl.toArray ((us[1]?).getD undef) W) :: IsD _ :: []) ([] :: [0] :: [1] :: [2] :: [] :: [3, 4] :: [5] :: [6] :: [6] :: [6] :: [] :: [] :: [7, 10] :: [8, 11] :: [9] :: []) (by kernel_rfl) (by kernel_rfl) (by rfl) (by kernel_rfl) Bx.refl (fun _ _ _ h h' => Bx.trans (by decide) h h') ⟨StD.is, StD.is, StD.is, StD.is, StD.is, StD.is, StD.is, StD.is, StD.is, StD.is, (fun _ _ _ _ h hs => Slot.stay1 h hs), (fun _ _ _ _ h hs => Slot.stay2 h hs), (fun _ _ _ _ h hs => Filled.stay1 (by decide) h hs), (fun _ _ _ _ h hs => Filled.stay2 (by decide) h hs), StD.is, trivial⟩ ?m1
    case m1 =>
      simp (maxSteps := 100000000) only [AllV, OblD, LeansD, factAtD, allFactsD, depV, actOf, putAll, putRow, Act.put, List.setIfInBounds_toArray, List.set_cons_succ, List.set_cons_zero, List.map_cons, List.getElem?_cons_zero, List.getElem?_cons_succ, Option.getD_some, List.map_nil, List.take_succ_cons, List.take_zero, List.drop_succ_cons, List.drop_zero, List.cons_append, List.nil_append, List.length_cons, List.length_nil, Nat.reduceAdd]
      intro x0 x1 x2 x3 x4 x5 x6 x7 x8 x9 x10 x11 x12 x13 x14
      refine ⟨⟨?_, ?_, ?_, ?_, ?_, ?_, ?_, ?_, ?_, ?_, ?_, ?_, ?_, ?_, ?_, trivial⟩, ?_⟩
      -- 0: 9 := Op.load 26 t0
      · intro w hw  K hK; have k0 := box_cell (hw.old HCD.out (lt_of_heap HCD.out)) 0 (.pointer (some ⟨L.db, 0, none⟩)) rfl w (Le.refl _); go_simp; exact hK _ _ (Bx.refl _) (IsD.mk _ _ _)
      -- 1: 10 := Op.nilCheck t9
      · intro w hw h0 K hK; cases h0; go_simp; exact hK _ _ (Bx.refl _) (IsD.mk _ _ _)
      -- 2: 11 := Op.fieldAddr 95 t10 2
      · intro w hw h1 K hK; cases h1; go_simp; exact hK _ _ (Bx.refl _) (IsD.mk _ _ _)
      -- 3: 12 := Op.load 93 t11
      · intro w hw h2 K hK; cases h2; refine cast (if_pos (show Region.wanted _ _ = true from rfl)).symm ?_; refine wp_load_in 93 (.tmp 11) rfl (.int .u32 d.ssrc :: d.pick.cs) d.nums.cs [.pointer (some ⟨L.sb, 0, none⟩), .int .i64 d.sent, .int .i64 d.left, .int .i64 d.dropped, .int .i64 d.late, .int .i64 d.bad] _ rfl Try.underlying93 rfl (by kernel_rfl) (hw.old HD.out.hd (lt_of_heap HD.out.hd)) ?_; exact hK _ _ (Bx.refl _) (IsD.mk _ _ _)
      -- 4: 13 := Op.load 91 t1
      · intro w hw  K hK; refine cast (if_pos (show Region.wanted _ _ = true from rfl)).symm ?_; refine wp_load_blk 91 (.tmp 1) rfl (cs := n.cl) _ rfl Try.underlying91 rfl (by kernel_rfl) (hw.old HNB.out (lt_of_heap HNB.out)) ?_; exact hK _ _ (Bx.refl _) (IsD.mk _ _ _)
      -- 5: 14 := Op.call { value (Operand.func 56), args := #[t12, t13], argTypes := #[93, 91] }
      · intro w hw h3 h4 K hK; cases h3; cases h4; go_simp; refine (HSW.out _).mono ?_; rintro r w' ⟨rfl, hb'⟩; exact hK _ _ (Bx.of_le ⟨hb'⟩ hw.size) (IsD.mk _ _ _)
      -- 6: 8 := Op.move t14
      · intro w hw h5 K hK; cases h5; go_simp; exact hK _ _ (Bx.refl _) (IsD.mk _ _ _)
      -- 7: 15 := Op.extract t8 0
      · intro w hw h6 K hK; cases h6; go_simp; exact hK _ _ (Bx.refl _) (IsD.mk _ _ _)
      -- 8: 16 := Op.extract t8 1
      · intro w hw h6 K hK; cases h6; go_simp; exact hK _ _ (Bx.refl _) (IsD.mk _ _ _)
      -- 9: 17 := Op.extract t8 2
      · intro w hw h6 K hK; cases h6; go_simp; exact hK _ _ (Bx.refl _) (IsD.mk _ _ _)
      -- 10: 5 := Op.alloc 93
      · intro w hw  K hK; go_simp; exact hK _ _ (Bx.of_le ((Le.refl _).alloc _) hw.size) (Slot.new hw.size rfl)
      -- 11: 6 := Op.alloc 91
      · intro w hw  K hK; go_simp; exact hK _ _ (Bx.of_le ((Le.refl _).alloc _) hw.size) (Slot.new hw.size rfl)
      -- 12: none := Op.store 93 t5 t15
      · intro w hw h7 h10 K hK; cases h7; obtain ⟨g, ⟨cs⟩, rfl, hB, hg, hn⟩ := h10; refine cast (if_pos (show Region.wanted _ _ = true from rfl)).symm ?_; refine wp_store_blk 93 (.tmp 5) (.tmp 15) rfl (cs := sw.1.cl) rfl rfl (by kernel_rfl) (by simp [Ms.cl, Value.oneCell']) hg hn ?_; intro w' h' hg'; exact hK undef _ (Bx.store1 hB hg hn h' hg') ⟨g, rfl, h'⟩
      -- 13: none := Op.store 91 t6 t16
      · intro w hw h8 h11 K hK; cases h8; obtain ⟨g, ⟨cs⟩, rfl, hB, hg, hn⟩ := h11; refine cast (if_pos (show Region.wanted _ _ = true from rfl)).symm ?_; refine wp_store_blk 91 (.tmp 6) (.tmp 16) rfl (cs := sw.2.1.cl) rfl rfl (by kernel_rfl) (by simp [Nm.cl, Value.oneCell']) hg hn ?_; intro w' h' hg'; exact hK undef _ (Bx.store2 hB hg hn h' hg') ⟨g, rfl, h'⟩
      -- 14: 7 := Op.assign t17
      · intro w hw h9 K hK; cases h9; go_simp; exact hK _ _ (Bx.refl _) (IsD.mk _ _ _)
      · intro wz hz h0 h1 h2 h3 h4 h5 h6 h7 h8 h9 h10 h11 h12 h13 h14; cases h0; cases h1; cases h2; cases h3; cases h4; cases h5; cases h6; cases h7; cases h8; cases h9; obtain ⟨g5, rfl, h5⟩ := h12; obtain ⟨g6, rfl, h6⟩ := h13; cases h14; skip
        go_wp2_with fail
        go_meet
        exact ⟨g5, g6, rfl, rfl, rfl, h5, h6, (Le.refl w).drew.trans (hz.le rfl)⟩
  case rest =>
    obtain ⟨g5, g6, rfl, rfl, rfl, h5, h6, hle⟩ := hcut
    generalize wc = W1 at *
    have H5 := hide h5
    have H6 := hide (And.intro h6 hle)
    have HD1 := hide (HD.out.le hle)
    have hc1 := hle.heap HCD.out
    have k0 : W1.cell? ⟨cd, 0, none⟩ = some (.pointer (some ⟨L.db, 0, none⟩)) := box_cell hc1 0 _ rfl _ (Le.refl _)
    clear h5 h6 hle hc1 HD
    go_upto_region 3 with (first | (refine wpl_load_blk rfl 93 (.tmp 5) rfl (cs := sw.1.cl) _ rfl Try.underlying93 rfl (by kernel_rfl) H5.out ?_) | (refine wpl_store_in rfl 93 (.tmp 21) (.tmp 19) rfl (.int .u32 d.ssrc :: d.pick.cs) (cs := sw.1.cl) (old := d.nums.cs) (post := [.pointer (some ⟨L.sb, 0, none⟩), .int .i64 d.sent, .int .i64 d.left, .int .i64 d.dropped, .int .i64 d.late, .int .i64 d.bad]) rfl rfl (by kernel_rfl) (by simp [Ms.cl, Value.oneCell']) HD1.out.hd rfl ?_; intro wd hn hg; have HW := hide (And.intro hn hg); clear hn hg))
    have hd2 : DnAt wd L c (d.setNums sw.1) vs := HD1.out.change HW.out.2 HW.out.1 rfl
    have hS2 : Fp L.S w wd := (Fp.of_le H6.out.2).trans (Fp.of_grown HW.out.2 (.inl rfl))
    have hb2 : PdAt wd L p v5 v6 v7 := HS.out.fp hS2
    have H2 := hide (And.intro (HSEND.out wd vs hd2 hb2) hS2)
    have hg6 := heap_grown HW.out.2 H6.out.1 (by intro e; injection e with e; exact blk_ne H6.out.1 HD1.out.hd (by decide) e.symm)
    have hcd2 := heap_grown HW.out.2 (H6.out.2.heap HCD.out) (by intro e; injection e with e; exact blk_ne (H6.out.2.heap HCD.out) HD1.out.hd (by decide) e.symm)
    have hpb2 := heap_grown HW.out.2 (H6.out.2.heap HPB.out) (by intro e; injection e with e; exact blk_ne (H6.out.2.heap HPB.out) HD1.out.hd (by decide) e.symm)
    have k0 : wd.cell? ⟨cd, 0, none⟩ = some (.pointer (some ⟨L.db, 0, none⟩)) := box_cell hcd2 0 _ rfl _ (Le.refl _)
    have HPB2 := hide hpb2
    have HG6 := hide hg6
    have hd2' := hd2
    clear hd2 hS2 hb2 hcd2 hg6 hpb2 HSEND HPB HNB HSW
    obtain ⟨s1, o1, b1⟩ := sw
    cases b1
    · have c20 := hd2'.cell 20 (.int .i64 d.late) rfl
      have f20 := hd2'.free 20
      have HD2 := hide hd2'
      clear hd2'
      go_wp2_with fail
      go_ret2
      exact ⟨_, vs, rfl, (HD2.out.setCell 20 _ (d.setNums s1).addLate rfl rfl).mono (Nat.le_succ c), RSl.nil, H2.out.2.setCell (p := ⟨L.db, 20, none⟩) (.inl rfl) _⟩
    · clear hd2'
      go_wp2_with (first | (refine wpl_load_blk rfl 46 (.tmp 2) rfl (cs := [.bool p.mark, .int .u8 p.type, .int .u16 p.seq, .int .u32 p.time, .int .u32 p.ssrc, v5, v6, v7, .int .i64 p.pad]) _ rfl Try.underlying46 rfl (by kernel_rfl) HPB2.out ?_) | (refine wpl_load_blk rfl 91 (.tmp 6) rfl (cs := o1.cl) _ rfl Try.underlying91 rfl (by kernel_rfl) HG6.out ?_))
      refine H2.out.1.mono ?_
      rintro e w9 ⟨v, vs9, rfl, hd9, hr9, hf9⟩
      have H9 := hide (And.intro hd9 (And.intro hr9 hf9))
      clear hd9 hr9 hf9
      go_wp2_with fail
      go_ret2
      exact ⟨v, vs9, rfl, H9.out.1, H9.out.2.1, H2.out.2.trans H9.out.2.2⟩

def Inn.cl (i : Inn) : List Value := [.int .i64 i.src, .int .i64 i.layer, .bool i.begin_, .bool i.whole, .bool i.hasTid, .int .i64 i.tid, .bool i.sync]
set_option maxRecDepth 100000 in
set_option maxHeartbeats 2000000 in
theorem doDrop_any {w : World} {L : Dl} {c : Nat} {d : Dn} {vs : List Value} (h : DnAt w L c d vs) (hdr : d.dropped ≤ 1000000) (hms : d.nums.Ok) (n : Nm) (hn : n.Ok) (i : Inn)
    (cd nb ib : Nat) (hcd : w.heap[cd]? = some (.cells #[.pointer (some ⟨L.db, 0, none⟩)] 26 (0, 0))) (hnb : w.heap[nb]? = some (.cells n.cl.toArray 91 (0, 0)))
    (hib : w.heap[ib]? = some (.cells i.cl.toArray 141 (0, 0))) :
    Calls Try.prog 51 #[.pointer (some ⟨cd, 0, none⟩), .pointer (some ⟨nb, 0, none⟩), .pointer (some ⟨ib, 0, none⟩)] w (TakeR L c ((d.setNums (d.nums.drop n i.begin_)).addDropped, none) w) := by
  have HD := hide h
  have HCD := hide hcd
  have HNB := hide hnb
  have HIB := hide hib
  have HSW := hide (fun W => msDrop_any d.nums hms n hn.seq i.begin_ W)
  have HLE := hide (Le.refl w).drew
  generalize d.nums.drop n i.begin_ = s1 at *
  clear h hcd hnb hib hms hn
  go_enter Try.func51, Try.ntmps51
  go_upto_region 1 with fail
  refine' wp_region_tailD 11 11 5 Le (IsD _ :: IsD _ :: IsD _ :: IsD _ :: IsD _ :: IsD _ :: IsD _ :: IsD _ :: IsD _ :: IsD _ :: IsD _ :: []) ([] :: [] :: [1] :: [2] :: [3] :: [] :: [] :: [6] :: [4, 5, 7] :: [0] :: [9] :: []) (by kernel_rfl) (by kernel_rfl) (by rfl) (by kernel_rfl) (by kernel_rfl) Le.refl (fun _ _ _ h h' => h.trans h') ⟨StD.is, StD.is, StD.is, StD.is, StD.is, StD.is, StD.is, StD.is, StD.is, StD.is, StD.is, trivial⟩ ?m1
  case m1 =>
    simp (maxSteps := 100000000) only [AllV, OblD, LeansD, factAtD, allFactsD, depV, actOf, putAll, putRow, List.set_cons_succ, List.set_cons_zero, List.map_cons, List.getElem?_cons_zero, List.getElem?_cons_succ, Option.getD_some, List.map_nil, List.take_succ_cons, List.take_zero, List.drop_succ_cons, List.drop_zero, List.cons_append, List.nil_append, List.length_cons, List.length_nil, Nat.reduceAdd]
    intro x0 x1 x2 x3 x4 x5 x6 x7 x8 x9 x10
    refine ⟨⟨?_, ?_, ?_, ?_, ?_, ?_, ?_, ?_, ?_, ?_, ?_, trivial⟩, ?_⟩
    -- 0: 5 := Op.load 26 t0
    · intro w hw  K hK; have hle := HLE.out.trans hw; have k0 := box_cell (hle.heap HCD.out) 0 (.pointer (some ⟨L.db, 0, none⟩)) rfl w (Le.refl _); go_simp; exact hK _ _ (Le.refl _) (IsD.mk _ _ _)
    -- 1: 6 := Op.load 26 t0
    · intro w hw  K hK; have hle := HLE.out.trans hw; have k0 := box_cell (hle.heap HCD.out) 0 (.pointer (some ⟨L.db, 0, none⟩)) rfl w (Le.refl _); go_simp; exact hK _ _ (Le.refl _) (IsD.mk _ _ _)
    -- 2: 7 := Op.nilCheck t6
    · intro w hw h1 K hK; cases h1; go_simp; exact hK _ _ (Le.refl _) (IsD.mk _ _ _)
    -- 3: 8 := Op.fieldAddr 95 t7 2
    · intro w hw h2 K hK; cases h2; go_simp; exact hK _ _ (Le.refl _) (IsD.mk _ _ _)
    -- 4: 9 := Op.load 93 t8
    · intro w hw h3 K hK; cases h3; have hle := HLE.out.trans hw; refine cast (if_pos (show Region.wanted _ _ = true from rfl)).symm ?_; refine wp_load_in 93 (.tmp 8) rfl (.int .u32 d.ssrc :: d.pick.cs) d.nums.cs [.pointer (some ⟨L.sb, 0, none⟩), .int .i64 d.sent, .int .i64 d.left, .int .i64 d.dropped, .int .i64 d.late, .int .i64 d.bad] _ rfl Try.underlying93 rfl (by kernel_rfl) (hle.heap HD.out.hd) ?_; exact hK _ _ (Le.refl _) (IsD.mk _ _ _)
    -- 5: 10 := Op.load 91 t1
    · intro w hw  K hK; have hle := HLE.out.trans hw; refine cast (if_pos (show Region.wanted _ _ = true from rfl)).symm ?_; refine wp_load_blk 91 (.tmp 1) rfl (cs := n.cl) _ rfl Try.underlying91 rfl (by kernel_rfl) (hle.heap HNB.out) ?_; exact hK _ _ (Le.refl _) (IsD.mk _ _ _)
    -- 6: 11 := Op.fieldAddr 141 t2 2
    · intro w hw  K hK; go_simp; exact hK _ _ (Le.refl _) (IsD.mk _ _ _)
    -- 7: 12 := Op.load 4 t11
    · intro w hw h6 K hK; cases h6; have hle := HLE.out.trans hw; have k2 := box_cell (hle.heap HIB.out) 2 (.bool i.begin_) rfl w (Le.refl _); go_simp; exact hK _ _ (Le.refl _) (IsD.mk _ _ _)
    -- 8: 13 := Op.call { value (Operand.func 49), args := #[t9, t10, t12], argTypes := #[93, 91, 4] }
    · intro w hw h4 h5 h7 K hK; cases h4; cases h5; cases h7; go_simp; refine (HSW.out _).mono ?_; rintro r w' ⟨rfl, hb'⟩; exact hK _ _ ⟨hb'⟩ (IsD.mk _ _ _)
    -- 9: 14 := Op.nilCheck t5
    · intro w hw h0 K hK; cases h0; go_simp; exact hK _ _ (Le.refl _) (IsD.mk _ _ _)
    -- 10: 15 := Op.fieldAddr 95 t14 2
    · intro w hw h9 K hK; cases h9; go_simp; exact hK _ _ (Le.refl _) (IsD.mk _ _ _)
    · intro wz hz h0 h1 h2 h3 h4 h5 h6 h7 h8 h9 h10; cases h0; cases h1; cases h2; cases h3; cases h4; cases h5; cases h6; cases h7; cases h8; cases h9; cases h10; skip
      have hlz := HLE.out.trans hz
      have HDz := hide (HD.out.le hlz)
      go_upto_region 2 with (refine wpl_store_in rfl 93 (.tmp 15) (.tmp 13) rfl (.int .u32 d.ssrc :: d.pick.cs) (cs := s1.cl) (old := d.nums.cs) (post := [.pointer (some ⟨L.sb, 0, none⟩), .int .i64 d.sent, .int .i64 d.left, .int .i64 d.dropped, .int .i64 d.late, .int .i64 d.bad]) rfl rfl (by kernel_rfl) (by simp [Ms.cl, Value.oneCell']) HDz.out.hd rfl ?_; intro wd hn hg; have HW := hide (And.intro hn hg); clear hn hg)
      have hd2 : DnAt wd L c (d.setNums s1) vs := HDz.out.change HW.out.2 HW.out.1 rfl
      have hS2 : Fp L.S w wd := (Fp.of_le hlz).trans (Fp.of_grown HW.out.2 (.inl rfl))
      have hcd2 := heap_grown HW.out.2 (hlz.heap HCD.out) (by intro e; injection e with e; exact blk_ne (hlz.heap HCD.out) HDz.out.hd (by decide) e.symm)
      have k0 : wd.cell? ⟨cd, 0, none⟩ = some (.pointer (some ⟨L.db, 0, none⟩)) := box_cell hcd2 0 _ rfl _ (Le.refl _)
      have c19 := hd2.cell 19 (.int .i64 d.dropped) rfl
      have f19 := hd2.free 19
      have H2 := hide (And.intro hd2 hS2)
      clear hd2 hS2 hcd2 hz hlz
      go_wp2_with fail
      go_ret2
      exact ⟨_, vs, rfl, H2.out.1.setCell 19 _ (d.setNums s1).addDropped rfl rfl, RSl.nil, H2.out.2.setCell (p := ⟨L.db, 19, none⟩) (.inl rfl) _⟩
end Go.Proofs.Ytekioihjfggmdaa

/- A map from ints to functions. -/
namespace Go.Proofs.Ytekioihjfggmdaa
open Go.RowKit
set_option linter.unusedVariables false

def rdF (v : Value) : Option (DataW Value × List MemPlace) := some (.held v, [])
def FMapAt (w : World) (b n : Nat) (D : DataW Value) : Prop := w.ownsMap Try.prog 3 rdF b n D
theorem FMapAt.made (w : World) : FMapAt (w.alloc (.map #[] 0)) w.heap.size 0 (.map []) := World.ownsMap_made w _ _ _
theorem FMapAt.le {w w' : World} {b n : Nat} {D : DataW Value} (h : FMapAt w b n D) (hl : Le w w') : FMapAt w' b n D := by
  obtain ⟨es, clock, hb, r⟩ := h
  exact ⟨es, clock, hl.heap hb, r⟩
theorem FMapAt.grown {w w' : World} {b n g : Nat} {D : DataW Value} (h : FMapAt w b n D) (hg : w.grownBy w' (some g)) (hne : b ≠ g) : FMapAt w' b n D := World.ownsMap.kept h hg (by intro e; injection e with e; exact hne e)
theorem keyOfInt {k : Int} (hw : (Lit.int .i64 k).wf = true) : keyOf Try.prog 3 (.int .i64 k) = some (.int .i64 k) := Maps.keyOf_int_mk Try.underlying3 hw
theorem wpl_finsert {ops : Array Oper} {rest : List Oper} {o : Oper} {a : Act} {w : World} {Q : Exit → Act → World → Prop} (hgd : o.guard = none) (m y x : Operand) (k : Int) (hop : o.op = .insert 148 m y x) (hy : a.eval y = .int .i64 k)
    {b n : Nat} {D : DataW Value} {f : Value} (hm : a.eval m = .map (some b)) (hx : a.eval x = f) (h : FMapAt w b n D) (hn : n ≤ 1000000) (hw : (Lit.int .i64 k).wf = true)
    (hK : ∀ w', FMapAt w' b (n + 1) (D.put (.int .i64 k) (.held f)) → w.grownBy w' (some b) → wpList Try.prog ops Q rest (a.put o.dst undef) w') : wpList Try.prog ops Q (o :: rest) a w := by
  refine wpList_plain hgd fun K' hK' => ?_
  obtain ⟨w', hr, h2, h3⟩ := World.ownsMap.update h (Maps.int_keyed Try.underlying3) Try.underlying148 (Nat.lt_of_le_of_lt hn (by decide)) (keyOfInt hw) (show rdF f = some (.held f, []) from rfl)
  unfold Oper.wp
  simp [execOp, hop, hm, hx, hy, hr, Result.andThen]
  exact hK' _ _ (hK w' h2 h3)
theorem zero_fn (w : World) : (zeroValue 142).run Try.prog w = .ok .nilFunc w := by kernel_rfl
theorem FMapAt.look {w : World} {b n : Nat} {D : DataW Value} (h : FMapAt w b n D) {k : Int} (hw : (Lit.int .i64 k).wf = true) {f : Value} (hf : D.atKey (.int .i64 k) (.held .nilFunc) = .held f) :
    (Instr.lookup 148 (.map (some b)) (.int .i64 k) false).run Try.prog w = .ok f w := by
  obtain ⟨v, ps, hr, hv⟩ := World.ownsMap.lookup h (Maps.int_keyed Try.underlying3) Try.underlying148 (zero_fn w) (show rdF .nilFunc = some (.held .nilFunc, []) from rfl) (keyOfInt hw)
  rw [hf] at hv
  simp only [rdF, Option.some.injEq, Prod.mk.injEq, DataW.held.injEq] at hv
  rw [hr, hv.1]
theorem four_at (f0 f1 f2 f3 z : Value) : ((((((DataW.map []).put (.int .i64 0) (.held f0)).put (.int .i64 2) (.held f2)).put (.int .i64 3) (.held f3)).put (.int .i64 1) (.held f1)).atKey (.int .i64 0) (.held z) = .held f0) ∧
    ((((((DataW.map []).put (.int .i64 0) (.held f0)).put (.int .i64 2) (.held f2)).put (.int .i64 3) (.held f3)).put (.int .i64 1) (.held f1)).atKey (.int .i64 1) (.held z) = .held f1) ∧
    ((((((DataW.map []).put (.int .i64 0) (.held f0)).put (.int .i64 2) (.held f2)).put (.int .i64 3) (.held f3)).put (.int .i64 1) (.held f1)).atKey (.int .i64 2) (.held z) = .held f2) ∧
    ((((((DataW.map []).put (.int .i64 0) (.held f0)).put (.int .i64 2) (.held f2)).put (.int .i64 3) (.held f3)).put (.int .i64 1) (.held f1)).atKey (.int .i64 3) (.held z) = .held f3) := by
  exact ⟨rfl, rfl, rfl, rfl⟩
end Go.Proofs.Ytekioihjfggmdaa

/- down.take. -/
namespace Go.Proofs.Ytekioihjfggmdaa
open Go.RowKit
set_option linter.unusedVariables false

def Pk.cl (p : Pk) (v5 v6 v7 : Value) : List Value := [.bool p.mark, .int .u8 p.type, .int .u16 p.seq, .int .u32 p.time, .int .u32 p.ssrc, v5, v6, v7, .int .i64 p.pad]
def Wnt.cl (x : Wnt) : List Value := [.int .i64 x.src, .int .i64 x.layer, .int .i64 x.tid]
/-- take on its way -/
structure TkSt (w W : World) (L : Dl) (c : Nat) (d : Dn) (vs : List Value) (p : Pk) (v5 v6 v7 : Value) (x : Wnt) : Prop where
  fp : Fp L.S w W
  dn : DnAt W L c d vs
  b5 : W.heap[w.heap.size]? = some (.cells #[.pointer (some ⟨L.db, 0, none⟩)] 26 (0, 0))
  b6 : W.heap[w.heap.size + 1]? = some (.cells (p.cl v5 v6 v7).toArray 46 (0, 0))
  b9 : W.heap[w.heap.size + 1 + 1]? = some (.cells x.cl.toArray 48 (0, 0))
section
variable {w W W' : World} {L : Dl} {c : Nat} {d d' : Dn} {vs : List Value} {p : Pk} {v5 v6 v7 : Value} {x : Wnt}
theorem TkSt.le (h : TkSt w W L c d vs p v5 v6 v7 x) (hl : Le W W') : TkSt w W' L c d vs p v5 v6 v7 x := ⟨h.fp.trans (Fp.of_le hl), h.dn.le hl, hl.heap h.b5, hl.heap h.b6, hl.heap h.b9⟩
theorem TkSt.change (h : TkSt w W L c d vs p v5 v6 v7 x) (hg : W.grownBy W' (some L.db)) (hd : DnAt W' L c d' vs) : TkSt w W' L c d' vs p v5 v6 v7 x := by
  have hk : ∀ {k : Nat} {cs : Array Value} {T : TypeId}, W.heap[k]? = some (.cells cs T (0, 0)) → T ≠ 95 → W'.heap[k]? = some (.cells cs T (0, 0)) := fun h1 h2 => heap_grown hg h1 (by intro e; injection e with e; exact blk_ne h1 h.dn.hd h2 e.symm)
  exact ⟨h.fp.trans (Fp.of_grown hg (.inl rfl)), hd, hk h.b5 (by decide), hk h.b6 (by decide), hk h.b9 (by decide)⟩
theorem TkSt.start (h : DnAt w L c d vs) : TkSt w (((w.alloc (.cells #[.pointer (some ⟨L.db, 0, none⟩)] 26)).alloc (.cells (p.cl v5 v6 v7).toArray 46)).alloc (.cells x.cl.toArray 48)) L c d vs p v5 v6 v7 x :=
  have hl := (((Le.refl w).alloc (.cells #[.pointer (some ⟨L.db, 0, none⟩)] 26)).alloc (.cells (p.cl v5 v6 v7).toArray 46)).alloc (.cells x.cl.toArray 48)
  ⟨Fp.of_le hl, h.le hl, heap_alloc (heap_alloc (heap_alloc_new w _)), heap_alloc (heap_at (by simp)), heap_at (by simp)⟩
theorem TkSt.pcells (h : TkSt w W L c d vs p v5 v6 v7 x) : W.cell? ⟨w.heap.size + 1, 0, none⟩ = some (.bool p.mark) ∧ W.cell? ⟨w.heap.size + 1, 1, none⟩ = some (.int .u8 p.type) ∧ W.cell? ⟨w.heap.size + 1, 2, none⟩ = some (.int .u16 p.seq) ∧ W.cell? ⟨w.heap.size + 1, 3, none⟩ = some (.int .u32 p.time) ∧ W.cell? ⟨w.heap.size + 1, 4, none⟩ = some (.int .u32 p.ssrc) ∧
    W.cell? ⟨w.heap.size + 1, 5, none⟩ = some v5 ∧ W.cell? ⟨w.heap.size + 1, 6, none⟩ = some v6 ∧ W.cell? ⟨w.heap.size + 1, 7, none⟩ = some v7 ∧ W.cell? ⟨w.heap.size + 1, 8, none⟩ = some (.int .i64 p.pad) :=
  ⟨box_cell h.b6 0 _ rfl _ (Le.refl _), box_cell h.b6 1 _ rfl _ (Le.refl _), box_cell h.b6 2 _ rfl _ (Le.refl _), box_cell h.b6 3 _ rfl _ (Le.refl _), box_cell h.b6 4 _ rfl _ (Le.refl _), box_cell h.b6 5 _ rfl _ (Le.refl _), box_cell h.b6 6 _ rfl _ (Le.refl _), box_cell h.b6 7 _ rfl _ (Le.refl _), box_cell h.b6 8 _ rfl _ (Le.refl _)⟩
theorem TkSt.dcell (h : TkSt w W L c d vs p v5 v6 v7 x) : W.cell? ⟨w.heap.size, 0, none⟩ = some (.pointer (some ⟨L.db, 0, none⟩)) := box_cell h.b5 0 _ rfl _ (Le.refl _)
theorem TkSt.pick (h : TkSt w W L c d vs p v5 v6 v7 x) : W.cell? ⟨L.db, 1, none⟩ = some (.bool d.pick.on) ∧ W.cell? ⟨L.db, 2, none⟩ = some (.int .i64 d.pick.src) ∧ W.cell? ⟨L.db, 3, none⟩ = some (.int .i64 d.pick.layer) ∧ W.cell? ⟨L.db, 4, none⟩ = some (.int .i64 d.pick.tid) :=
  ⟨h.dn.cell 1 _ rfl, h.dn.cell 2 _ rfl, h.dn.cell 3 _ rfl, h.dn.cell 4 _ rfl⟩
end

set_option maxRecDepth 100000 in
set_option maxHeartbeats 2000000 in
theorem downTake_bad {w : World} {L : Dl} {c i : Nat} {d : Dn} {vs : List Value} (h : DnAt w L c d vs) (hk : d.Ok i) (hi : i ≤ 900000) (p : Pk) (hp : p.Ok) (v5 v6 v7 : Value) (hP : PdAt w L p v5 v6 v7) (f l : Int) (x : Wnt) (hbad : vpE p.payload ≠ 0 ∨ p.err ≠ 0) :
    Calls Try.prog 26 #[.pointer (some ⟨L.db, 0, none⟩), p.val v5 v6 v7, .int .i64 f, .int .i64 l, x.val] w (TakeR L c ((if d.pick.is f l then d.setNums (d.nums.drop ⟨p.seq, 0, 0, 0⟩ false) else d).addBad, none) w) := by
  have hPw := hP.here
  obtain ⟨A7, c7, h7, _⟩ := own_rsl hPw.payload
  subst h7
  have HPR := hide (fun W (hW : Le w W) => parseX_any A7 c7 p.payload W (hW.rsl keeps_u8 hPw.payload) (by have := hp.np; omega))
  have HPT := hide (fun W (hW : Le w W) => rtpPut_any p hp v5 v6 (.slice A7 p.payload.length c7) W (hPw.le hW))
  have HAS := hide (fun W => chAsks_any d.pick ⟨f, l, 0⟩ W)
  have HDR := hide (fun W => msDrop_any d.nums (hk.nums (by omega)) ⟨p.seq, 0, 0, 0⟩ hp.seq false W)
  have HB := hide hbad
  have HT := hide (TkSt.start (p := p) (v5 := v5) (v6 := v6) (v7 := .slice A7 p.payload.length c7) (x := x) h)
  have hbd : d.bad ≤ 900000 := by have := hk.cnt; omega
  have HL0 := hide ((((Le.refl w).alloc (.cells #[.pointer (some ⟨L.db, 0, none⟩)] 26)).alloc (.cells (p.cl v5 v6 (.slice A7 p.payload.length c7)).toArray 46)).alloc (.cells x.cl.toArray 48))
  rw [Ch.asks] at HAS
  generalize d.nums.drop ⟨p.seq, 0, 0, 0⟩ false = s1 at *
  generalize d.pick.is f l = is at *
  obtain ⟨R, hR⟩ : ∃ R, R = ((if is = true then d.setNums s1 else d).addBad, (none : Option (List UInt8))) := ⟨_, rfl⟩
  rw [← hR]
  have HR := hide hR
  clear h hk hp hP hPw hbad hR
  rw [Pk.val, Wnt.val]
  simp only [Pk.cl, Wnt.cl] at HT HL0
  go_enter Try.func26, Try.ntmps26
  go_wp2_with fail
  refine (HPR.out _ HL0.out).mono ?_
  rintro e w1 ⟨rfl, hb⟩
  have HT1 := hide (HT.out.le ⟨hb⟩)
  have HL1 := hide (HL0.out.trans ⟨hb⟩)
  clear hb HPR HT HL0
  rw [vpV]
  generalize vpD p.payload = D at *
  generalize vpE p.payload = E at *
  generalize vpN p.payload = NN at *
  rw [Dsc.val]
  have HT2 := hide (HT1.out.le ((Le.refl w1).alloc (.cells #[.bool D.more, .bool D.lone, .bool D.start, .int .u8 D.part, .bool D.hasPic, .bool D.wide, .int .u16 D.pic, .bool D.hasTl0, .int .u8 D.tl0, .bool D.hasTid, .int .u8 D.tid, .bool D.sync, .bool D.hasKey, .int .u8 D.key] 74)))
  have HL2 := hide (HL1.out.alloc (.cells #[.bool D.more, .bool D.lone, .bool D.start, .int .u8 D.part, .bool D.hasPic, .bool D.wide, .int .u16 D.pic, .bool D.hasTl0, .int .u8 D.tl0, .bool D.hasTid, .int .u8 D.tid, .bool D.sync, .bool D.hasKey, .int .u8 D.key] 74))
  go_upto_region 2 with fail
  generalize w1.alloc (.cells #[.bool D.more, .bool D.lone, .bool D.start, .int .u8 D.part, .bool D.hasPic, .bool D.wide, .int .u16 D.pic, .bool D.hasTl0, .int .u8 D.tl0, .bool D.hasTid, .int .u8 D.tid, .bool D.sync, .bool D.hasKey, .int .u8 D.key] 74) = W2 at *
  obtain ⟨a0, a1, a2, a3, a4, a5, a6, a7, a8⟩ := HT2.out.pcells
  have HPT2 := hide (HPT.out W2 HL2.out)
  rw [Pk.val] at HPT2
  clear HPT HT1 HL1
  go_wp2_with fail
  refine HPT2.out.mono ?_
  rintro e w3 ⟨vo, rfl, _, hb⟩
  have HT3 := hide (HT2.out.le ⟨hb⟩)
  clear hb HT2 HL2 HPT2 a0 a1 a2 a3 a4 a5 a6 a7 a8
  generalize p.err = ERR at *
  have c0 := HT3.out.dcell
  obtain ⟨c1, c2, c3, c4⟩ := HT3.out.pick
  have hpre : ∃ b1 b2 : Bool, (E != 0) = b1 ∧ (ERR != 0) = b2 ∧ (b1 || b2) = true := ⟨_, _, rfl, rfl, by rcases HB.out with h | h <;> simp [h]⟩
  obtain ⟨b1, b2, hb1, hb2, hb3⟩ := hpre
  have HB3 := hide hb3
  clear hb3
  go_upto_region 3 with fail
  go_cut [39] (fun sv wx => sv = .bool true ∧ wx = w3)
  case first =>
    cases b1
    · obtain rfl : b2 = true := HB3.out
      go_wp2_with fail
      go_meet
      exact ⟨rfl, rfl⟩
    · go_wp2_with fail
      go_meet
      exact ⟨rfl, rfl⟩
  case rest =>
    obtain ⟨rfl, hwc⟩ := hcut
    rw [hwc]
    clear hwc hb1 hb2 HB HB3
    go_wp2_with fail
    refine (HAS.out _).mono ?_
    rintro e w4 ⟨rfl, hb⟩
    have HT4 := hide (HT3.out.le ⟨hb⟩)
    clear hb HT3 c0 c1 c2 c3 c4 HAS
    go_upto_if 48 with fail
    go_cut [] (fun wx => TkSt w wx L c (if is then d.setNums s1 else d) vs p v5 v6 (.slice A7 p.payload.length c7) x)
    case first =>
      cases is
      · go_wp2_with fail
        go_meet
        exact HT4.out
      · have HLE := hide (Le.refl w4).drew
        go_wp2_with fail
        refine' wp_region_tailD 12 12 49 Le (IsD _ :: IsD _ :: IsD _ :: IsD _ :: IsD _ :: IsD _ :: IsD _ :: IsD _ :: IsD _ :: IsD _ :: IsD _ :: IsD _ :: []) ([] :: [] :: [1] :: [2] :: [3] :: [] :: [5] :: [6] :: [7] :: [4, 8] :: [0] :: [10] :: []) (by kernel_rfl) (by kernel_rfl) (by rfl) (by kernel_rfl) (by kernel_rfl) Le.refl (fun _ _ _ h h' => h.trans h') ⟨StD.is, StD.is, StD.is, StD.is, StD.is, StD.is, StD.is, StD.is, StD.is, StD.is, StD.is, StD.is, trivial⟩ ?m5
        case m5 =>
          simp (maxSteps := 100000000) only [AllV, OblD, LeansD, factAtD, allFactsD, depV, actOf, putAll, putRow, List.set_cons_succ, List.set_cons_zero, List.map_cons, List.getElem?_cons_zero, List.getElem?_cons_succ, Option.getD_some, List.map_nil, List.take_succ_cons, List.take_zero, List.drop_succ_cons, List.drop_zero, List.cons_append, List.nil_append, List.length_cons, List.length_nil, Nat.reduceAdd]
          intro x0 x1 x2 x3 x4 x5 x6 x7 x8 x9 x10 x11
          refine ⟨⟨?_, ?_, ?_, ?_, ?_, ?_, ?_, ?_, ?_, ?_, ?_, ?_, trivial⟩, ?_⟩
          -- 0: 49 := Op.load 26 t5
          · intro w hw  K hK; have hT := HT4.out.le (HLE.out.trans hw); have k0 := hT.dcell; go_simp; exact hK _ _ (Le.refl _) (IsD.mk _ _ _)
          -- 1: 50 := Op.load 26 t5
          · intro w hw  K hK; have hT := HT4.out.le (HLE.out.trans hw); have k0 := hT.dcell; go_simp; exact hK _ _ (Le.refl _) (IsD.mk _ _ _)
          -- 2: 51 := Op.nilCheck t50
          · intro w hw h1 K hK; cases h1; go_simp; exact hK _ _ (Le.refl _) (IsD.mk _ _ _)
          -- 3: 52 := Op.fieldAddr 95 t51 2
          · intro w hw h2 K hK; cases h2; go_simp; exact hK _ _ (Le.refl _) (IsD.mk _ _ _)
          -- 4: 53 := Op.load 93 t52
          · intro w hw h3 K hK; cases h3; have hT := HT4.out.le (HLE.out.trans hw); refine cast (if_pos (show Region.wanted _ _ = true from rfl)).symm ?_; refine wp_load_in 93 (.tmp 52) rfl (.int .u32 d.ssrc :: d.pick.cs) d.nums.cs [.pointer (some ⟨L.sb, 0, none⟩), .int .i64 d.sent, .int .i64 d.left, .int .i64 d.dropped, .int .i64 d.late, .int .i64 d.bad] _ rfl Try.underlying93 rfl (by kernel_rfl) hT.dn.hd ?_; exact hK _ _ (Le.refl _) (IsD.mk _ _ _)
          -- 5: 54 := Op.fieldAddr 46 t6 0
          · intro w hw  K hK; go_simp; exact hK _ _ (Le.refl _) (IsD.mk _ _ _)
          -- 6: 55 := Op.fieldAddr 43 t54 2
          · intro w hw h5 K hK; cases h5; go_simp; exact hK _ _ (Le.refl _) (IsD.mk _ _ _)
          -- 7: 56 := Op.load 39 t55
          · intro w hw h6 K hK; cases h6; have hT := HT4.out.le (HLE.out.trans hw); obtain ⟨a0, a1, a2, a3, a4, a5, a6, a7, a8⟩ := hT.pcells; go_simp; exact hK _ _ (Le.refl _) (IsD.mk _ _ _)
          -- 8: 57 := Op.build 91 #[(0, t56)]
          · intro w hw h7 K hK; cases h7; go_simp; exact hK _ _ (Le.refl _) (IsD.mk _ _ _)
          -- 9: 58 := Op.call { value (Operand.func 49), args := #[t53, t57, const (Value.bool false)], argTypes := #[93, 91, 4] }
          · intro w hw h4 h8 K hK; cases h4; cases h8; go_simp; refine (HDR.out _).mono ?_; rintro r w' ⟨rfl, hb'⟩; exact hK _ _ ⟨hb'⟩ (IsD.mk _ _ _)
          -- 10: 59 := Op.nilCheck t49
          · intro w hw h0 K hK; cases h0; go_simp; exact hK _ _ (Le.refl _) (IsD.mk _ _ _)
          -- 11: 60 := Op.fieldAddr 95 t59 2
          · intro w hw h10 K hK; cases h10; go_simp; exact hK _ _ (Le.refl _) (IsD.mk _ _ _)
          · intro wz hz h0 h1 h2 h3 h4 h5 h6 h7 h8 h9 h10 h11; cases h0; cases h1; cases h2; cases h3; cases h4; cases h5; cases h6; cases h7; cases h8; cases h9; cases h10; cases h11; skip
            have hlz := HLE.out.trans hz
            have HTz := hide (HT4.out.le hlz)
            clear hz hlz HT4 HLE
            go_wp2_with (refine wpl_store_in rfl 93 (.tmp 60) (.tmp 58) rfl (.int .u32 d.ssrc :: d.pick.cs) (cs := s1.cl) (old := d.nums.cs) (post := [.pointer (some ⟨L.sb, 0, none⟩), .int .i64 d.sent, .int .i64 d.left, .int .i64 d.dropped, .int .i64 d.late, .int .i64 d.bad]) rfl rfl (by kernel_rfl) (by simp [Ms.cl, Value.oneCell']) HTz.out.dn.hd rfl ?_; intro wd hn hg; have HW := hide (And.intro hn hg); clear hn hg)
            go_meet
            exact HTz.out.change HW.out.2 (HTz.out.dn.change (d' := d.setNums s1) HW.out.2 HW.out.1 rfl)
    case rest =>
      have HT5 := hide hcut
      clear hcut HT4
      generalize wc = W5 at *
      have hbd2 : (if is = true then d.setNums s1 else d).bad = d.bad := by cases is <;> rfl
      have hR := HR.out
      clear HR
      generalize (if is = true then d.setNums s1 else d) = d2 at *
      have HR := hide hR
      clear hR
      rw [← hbd2] at hbd
      clear hbd2
      have c0 := HT5.out.dcell
      have c21 := HT5.out.dn.cell 21 (.int .i64 d2.bad) rfl
      have f21 := HT5.out.dn.free 21
      go_wp2_with fail
      go_ret2
      rw [HR.out]
      exact ⟨_, vs, rfl, HT5.out.dn.setCell 21 _ d2.addBad rfl rfl, RSl.nil, HT5.out.fp.setCell (p := ⟨L.db, 21, none⟩) (.inl rfl) _⟩
end Go.Proofs.Ytekioihjfggmdaa
