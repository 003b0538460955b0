/- Texts of one claim, laid together: DownF -/
import Derived.Test.YtekioihjfggmdaaJo19
/- down.send. -/
namespace Go.Proofs.Ytekioihjfggmdaa
open Go.RowKit
set_option linter.unusedVariables false

theorem out_len (p : Pk) : p.out.length ≤ 1500 := by
  unfold Pk.out
  split
  · rename_i h
    have hm : p.may = true := by
      cases hm : p.may
      · rw [Pk.err, if_pos hm] at h; cases h
      · rfl
    have he : extErr p.exts = 0 := by
      by_cases he : extErr p.exts = 0
      · exact he
      · rw [Pk.err, if_neg (by rw [hm]; decide), if_pos he] at h; exact absurd h he
    have hb : ¬ (1500 : Int) < p.size + p.payload.length + p.pad := by
      intro hb
      rw [Pk.err, if_neg (by rw [hm]; decide), if_neg (by rw [he]; decide), if_pos hb] at h
      cases h
    have hpad : 0 ≤ p.pad := by
      rw [Pk.may] at hm
      simp only [mayN, Bool.and_eq_true, decide_eq_true_eq] at hm
      omega
    have h1 : p.extP.length = if p.exts = [] then 0 else 4 + (extB p.exts).length := by
      unfold Pk.extP
      split
      · rfl
      · rw [List.length_append, puts_two]; simp [putOne, mayB, be_length]
    have h2 : (p.padB.length : Int) = p.pad := by
      unfold Pk.padB
      split
      · simp; omega
      · simp; omega
    have h3 : p.bytes.length = p.size + p.payload.length + p.padB.length := by
      simp only [Pk.bytes, List.length_append, head_len, csB_len, h1, Pk.size]
    omega
  · simp
theorem Pk.renum_ok {p : Pk} (hp : p.Ok) {n : Nm} (hn : n.Ok) {ssrc : Nat} (hs : ssrc < 4294967296) : (p.renum n ssrc).Ok := by
  refine ⟨hp.type, hn.seq, hn.time, hs, hp.csrc, hp.nc, hp.ne, ?_, hp.pad⟩
  have := hp.np
  simp only [Pk.renum]
  by_cases h : vpE p.payload = 0
  · rw [(numbers p.payload n.pic n.tl0 hn.pic hn.tl0 h).2.2.1]; exact this
  · rw [vpWr, if_neg h]; simp

theorem PkAt.below {w0 w : World} {p : Pk} {v5 v6 v7 : Value} (h : PkAt w0 p v5 v6 v7) (hb : Below w0.heap.size w0 w) : PkAt w p v5 v6 v7 := h.le ⟨hb⟩

/-- what send gives -/
def SendR (L : Dl) (c : Nat) (r : Dn × List UInt8) (w : World) (e : Ending) (w' : World) : Prop :=
  ∃ v vs, e = .returned (.tuple #[v, .bool true]) ∧ DnAt w' L c r.1 vs ∧ RSl 1 RU8 w' r.2 v ∧ Fp L.S w w'

theorem set_four {W : World} {g : Nat} {T : TypeId} {o0 o1 o2 o3 o4 o5 o6 o7 o8 a b c d : Value} (hg : W.heap[g]? = some (.cells #[o0, o1, o2, o3, o4, o5, o6, o7, o8] T (0, 0))) :
    ((((W.setCell ⟨g, 7, none⟩ a).setCell ⟨g, 2, none⟩ b).setCell ⟨g, 3, none⟩ c).setCell ⟨g, 4, none⟩ d).heap[g]? = some (.cells #[o0, o1, b, c, d, o5, o6, a, o8] T (0, 0)) :=
  heap_set (i := 4) d (heap_set (i := 3) c (heap_set (i := 2) b (heap_set (i := 7) a hg)))
theorem grown_four {W : World} {g : Nat} {a b c d : Value} : W.grownBy ((((W.setCell ⟨g, 7, none⟩ a).setCell ⟨g, 2, none⟩ b).setCell ⟨g, 3, none⟩ c).setCell ⟨g, 4, none⟩ d) (some g) := by
  have h : Fp (· = g) W ((((W.setCell ⟨g, 7, none⟩ a).setCell ⟨g, 2, none⟩ b).setCell ⟨g, 3, none⟩ c).setCell ⟨g, 4, none⟩ d) := ((((Fp.refl (fun x => x = g) W).setCell (p := ⟨g, 7, none⟩) rfl a).setCell (p := ⟨g, 2, none⟩) rfl b).setCell (p := ⟨g, 3, none⟩) rfl c).setCell (p := ⟨g, 4, none⟩) rfl d
  exact ⟨h.os, h.tape, h.output, h.size, fun k hk hne => h.block k hk (fun e => hne (by rw [e]))⟩

/-- a packet that stays as it is whatever is done to the downtrack -/
def PdAt (w : World) (L : Dl) (p : Pk) (v5 v6 v7 : Value) : Prop := ∀ W, Fp L.S w W → PkAt W p v5 v6 v7
theorem PdAt.here {w : World} {L : Dl} {p : Pk} {v5 v6 v7 : Value} (h : PdAt w L p v5 v6 v7) : PkAt w p v5 v6 v7 := h w (Fp.refl _ _)
theorem PdAt.fp {w w' : World} {L : Dl} {p : Pk} {v5 v6 v7 : Value} (h : PdAt w L p v5 v6 v7) (hf : Fp L.S w w') : PdAt w' L p v5 v6 v7 := fun W hW => h W (hf.trans hW)
theorem PdAt.old {w0 w : World} {L : Dl} {p : Pk} {v5 v6 v7 : Value} (hP : PkAt w0 p v5 v6 v7) (hb0 : Below w0.heap.size w0 w) (hS : ∀ k, L.S k → w0.heap.size ≤ k) : PdAt w L p v5 v6 v7 := fun W hF => hP.below (hF.below hb0 hb0.size hS)

set_option maxRecDepth 100000 in
set_option maxHeartbeats 2000000 in
theorem downSend_any {w : World} {L : Dl} {c : Nat} {d : Dn} {vs : List Value} (h : DnAt w L c d vs) (hk : d.st.Ok) (hss : d.ssrc < 4294967296) (hc : c < 1000000) (hcnt : d.sent ≤ 1000000) (p : Pk) (hp : p.Ok) (v5 v6 v7 : Value) (hP : PdAt w L p v5 v6 v7) (n : Nm) (hn : n.Ok) :
    Calls Try.prog 54 #[.pointer (some ⟨L.db, 0, none⟩), p.val v5 v6 v7, n.val] w (SendR L (c + 1) (d.send p n) w) := by
  have hPw := hP.here
  obtain ⟨A7, c7, h7, _⟩ := own_rsl hPw.payload
  have hpl := hPw.payload
  rw [h7] at hpl
  have HWR := hide (fun W (hW : Le w W) => write_any A7 c7 p.payload n.pic n.tl0 W (hW.rsl keeps_u8 hpl) (by have := hp.np; omega) hn.pic hn.tl0)
  have HP := hide hPw
  have hok := Pk.renum_ok hp hn hss
  have HPUT := hide (fun W v (hW : PkAt W (p.renum n d.ssrc) v5 v6 v) => rtpPut_any _ hok v5 v6 v W hW)
  have HSEQ := hide hn.seq
  obtain ⟨R, hR⟩ : ∃ R, R = d.send p n := ⟨_, rfl⟩
  have HR := hide hR
  rw [← hR]
  clear hR hP hPw hpl hok hp hn
  have hlt := lt_of_heap h.hd
  have HD := hide h
  have HL0 := hide (((Le.refl w).alloc (.cells #[.bool p.mark, .int .u8 p.type, .int .u16 p.seq, .int .u32 p.time, .int .u32 p.ssrc, v5, v6, .slice A7 p.payload.length c7, .int .i64 p.pad] 46)).alloc (.cells #[.int .u16 n.seq, .int .u32 n.time, .int .u16 n.pic, .int .u8 n.tl0] 91))
  rw [Pk.val, Nm.val, h7]
  clear h
  go_enter Try.func54, Try.ntmps54
  go_wp2_with fail
  refine (HWR.out _ HL0.out).mono ?_
  rintro e w1 ⟨v, rfl, ho, hb⟩
  have hbx := (Le.mk hb).heap (heap_alloc (heap_alloc_new w _))
  have hbn : w1.heap[w.heap.size + 1]? = some (.cells #[.int .u16 n.seq, .int .u32 n.time, .int .u16 n.pic, .int .u8 n.tl0] 91 (0, 0)) := (Le.mk hb).heap (heap_at (by simp))
  have HBN := hide hbn
  clear hbn
  have HB := hide (And.intro ho (And.intro (HL0.out.trans ⟨hb⟩) hbx))
  have c0 := (HD.out.le (HL0.out.trans ⟨hb⟩)).cell 0 (.int .u32 d.ssrc) rfl
  have hne1 : L.db ≠ w.heap.size := by omega
  have hne2 : w.heap.size ≠ L.db := by omega
  have hz : w.heap.size + 1 < w1.heap.size := by have := hb.size; simp at this; omega
  obtain ⟨A8, cap8, hv8, _⟩ := own_slice ho
  have HV8 := hide hv8
  rw [hv8]
  have e7 : w1.cell? ⟨w.heap.size, 7, none⟩ = some (.slice A7 p.payload.length c7) := box_cell hbx 7 _ rfl _ (Le.refl _)
  have e2 : w1.cell? ⟨w.heap.size, 2, none⟩ = some (.int .u16 p.seq) := box_cell hbx 2 _ rfl _ (Le.refl _)
  have e3 : w1.cell? ⟨w.heap.size, 3, none⟩ = some (.int .u32 p.time) := box_cell hbx 3 _ rfl _ (Le.refl _)
  have e4 : w1.cell? ⟨w.heap.size, 4, none⟩ = some (.int .u32 p.ssrc) := box_cell hbx 4 _ rfl _ (Le.refl _)
  obtain ⟨hcc, hff⟩ := bcell hb
  clear hb ho hbx hv8
  go_upto_region 5 with fail
  obtain ⟨W5, hW5⟩ : ∃ W5, W5 = ((((w1.setCell ⟨w.heap.size, 7, none⟩ (.slice A8 (vpWr p.payload n.pic n.tl0).length cap8)).setCell ⟨w.heap.size, 2, none⟩ (.int .u16 n.seq)).setCell ⟨w.heap.size, 3, none⟩ (.int .u32 n.time)).setCell ⟨w.heap.size, 4, none⟩ (.int .u32 d.ssrc)) := ⟨_, rfl⟩
  rw [← hW5]
  have hbx5 : W5.heap[w.heap.size]? = some (.cells #[.bool p.mark, .int .u8 p.type, .int .u16 n.seq, .int .u32 n.time, .int .u32 d.ssrc, v5, v6, .slice A8 (vpWr p.payload n.pic n.tl0).length cap8, .int .i64 p.pad] 46 (0, 0)) := by
    rw [hW5]; exact set_four HB.out.2.2
  have hg5 : w1.grownBy W5 (some w.heap.size) := by rw [hW5]; exact grown_four
  have hl5 : Le w W5 := ⟨HB.out.2.1.out.grown hg5 HB.out.2.1.size (by rintro k hk; injection hk with hk; omega)⟩
  have ho5 : W5.ownsRow (((w.alloc (.cells #[.bool p.mark, .int .u8 p.type, .int .u16 p.seq, .int .u32 p.time, .int .u32 p.ssrc, v5, v6, .slice A7 p.payload.length c7, .int .i64 p.pad] 46)).alloc (.cells #[.int .u16 n.seq, .int .u32 n.time, .int .u16 n.pic, .int .u8 n.tl0] 91))).heap.size 5 1 v (vpWr p.payload n.pic n.tl0).length (u8s (vpWr p.payload n.pic n.tl0)) :=
    own_fp HB.out.1 (Fp.of_grown (S := fun k => k = w.heap.size) hg5 rfl) (by rintro k cs fr rfl e; exact blk_ne e HB.out.2.2 (by decide) rfl)
  have hbn5 : W5.heap[w.heap.size + 1]? = some (.cells #[.int .u16 n.seq, .int .u32 n.time, .int .u16 n.pic, .int .u8 n.tl0] 91 (0, 0)) := heap_grown hg5 HBN.out (by simp)
  have hpk5 : PkAt W5 (p.renum n d.ssrc) v5 v6 (.slice A8 (vpWr p.payload n.pic n.tl0).length cap8) :=
    ⟨(HP.out.le hl5).csrc, (HP.out.le hl5).exts, by rw [← HV8.out]; exact rsl_of_own ho5⟩
  have H5 := hide (And.intro hbx5 (And.intro hbn5 hl5))
  have a0 : W5.cell? ⟨w.heap.size, 0, none⟩ = some (.bool p.mark) := box_cell hbx5 0 _ rfl _ (Le.refl _)
  have a1 : W5.cell? ⟨w.heap.size, 1, none⟩ = some (.int .u8 p.type) := box_cell hbx5 1 _ rfl _ (Le.refl _)
  have a2 : W5.cell? ⟨w.heap.size, 2, none⟩ = some (.int .u16 n.seq) := box_cell hbx5 2 _ rfl _ (Le.refl _)
  have a3 : W5.cell? ⟨w.heap.size, 3, none⟩ = some (.int .u32 n.time) := box_cell hbx5 3 _ rfl _ (Le.refl _)
  have a4 : W5.cell? ⟨w.heap.size, 4, none⟩ = some (.int .u32 d.ssrc) := box_cell hbx5 4 _ rfl _ (Le.refl _)
  have a5 : W5.cell? ⟨w.heap.size, 5, none⟩ = some v5 := box_cell hbx5 5 _ rfl _ (Le.refl _)
  have a6 : W5.cell? ⟨w.heap.size, 6, none⟩ = some v6 := box_cell hbx5 6 _ rfl _ (Le.refl _)
  have a7 : W5.cell? ⟨w.heap.size, 7, none⟩ = some (.slice A8 (vpWr p.payload n.pic n.tl0).length cap8) := box_cell hbx5 7 _ rfl _ (Le.refl _)
  have a8 : W5.cell? ⟨w.heap.size, 8, none⟩ = some (.int .i64 p.pad) := box_cell hbx5 8 _ rfl _ (Le.refl _)
  have HPUT5 := hide (HPUT.out W5 _ hpk5)
  clear hW5 hbx5 hg5 hl5 ho5 hbn5 hpk5 hcc hff e7 e2 e3 e4 c0 hz hne1 hne2 HB HPUT HP HWR HL0
  go_wp2_with fail
  refine HPUT5.out.mono ?_
  rintro e w6 ⟨v6', rfl, ho6, hb6⟩
  have hr : R = (⟨d.ssrc, d.pick, d.nums, d.st.add n.seq (p.renum n d.ssrc).out, d.sent + 1, d.left, d.dropped, d.late, d.bad⟩, (p.renum n d.ssrc).out) := HR.out
  have hol := out_len (p.renum n d.ssrc)
  generalize (p.renum n d.ssrc).out = OUT at *
  generalize (p.renum n d.ssrc).err = ERR at *
  have HR2 := hide hr
  obtain ⟨A9, cap9, hv9, _⟩ := own_slice ho6
  subst hv9
  have hd6 := HD.out.le (H5.out.2.2.trans ⟨hb6⟩)
  have H6 := hide (And.intro ho6 (And.intro hd6 (H5.out.2.2.trans ⟨hb6⟩)))
  have d16 := hd6.cell 16 (.pointer (some ⟨L.sb, 0, none⟩)) rfl
  have n0 : w6.cell? ⟨w.heap.size + 1, 0, none⟩ = some (.int .u16 n.seq) := box_cell ((Le.mk hb6).heap H5.out.2.1) 0 _ rfl _ (Le.refl _)
  clear hr HR ho6 hd6 hb6 H5 HPUT5 HD HBN HV8 a0 a1 a2 a3 a4 a5 a6 a7 a8
  have HADD := hide (stAdd_any (H6.out.2.1.st.le (Le.refl w6).drew) hk n.seq HSEQ.out hc A9 cap9 OUT (by omega) (fun W hW => rsl_of_own (own_fp ((Le.refl w6).drew.own H6.out.1) hW (fun k cs fr hk => H6.out.2.1.not8 k cs fr (stS_dl hk)))))
  clear hk
  go_wp2_with fail
  go_still_tail 7, (by kernel_rfl)
  change wpList _ _ _ _ _ w6.drew
  go_wp2_with fail
  refine HADD.out.mono ?_
  rintro e w7 ⟨rfl, ⟨vs', hst7⟩, hf7⟩
  have hdr := H6.out.2.1.le (Le.refl w6).drew
  have hd7 : DnAt w7 L (c + 1) ⟨d.ssrc, d.pick, d.nums, d.st.add n.seq OUT, d.sent, d.left, d.dropped, d.late, d.bad⟩ vs' := by
    refine ⟨hf7.heap hdr.hd ?_, hst7⟩
    rintro (e | e | e)
    · exact blk_ne hdr.hd hdr.st.hs (by decide) e
    · exact blk_ne hdr.hd hdr.st.hr (by decide) e
    · exact hdr.st.ne_map hdr.hd e
  have ho7 := own_fp ((Le.refl w6).drew.own H6.out.1) hf7 (fun k cs fr hk => H6.out.2.1.not8 k cs fr (stS_dl hk))
  have hF7 : Fp L.S w w7 := (Fp.of_le (H6.out.2.2.drew)).trans (hf7.mono fun k hk => stS_dl hk)
  have H7 := hide (And.intro hd7 (And.intro ho7 hF7))
  have c17 := hd7.cell 17 (.int .i64 d.sent) rfl
  have f17 := hd7.free 17
  clear hdr hd7 ho7 hF7 hst7 hf7 HADD H6 d16 n0
  go_wp2_with fail
  go_ret2
  have hs : DnAt (w7.setCell ⟨L.db, 17, none⟩ (.int .i64 ((d.sent : Int) + 1))) L (c + 1) R.1 vs' := H7.out.1.setCell 17 _ R.1 (by rw [HR2.out]) (by rw [HR2.out]; rfl)
  refine ⟨_, vs', rfl, hs, ?_, H7.out.2.2.setCell (p := ⟨L.db, 17, none⟩) (.inl rfl) _⟩
  rw [HR2.out]
  exact rsl_of_own (own_fp H7.out.2.1 ((Fp.refl (fun k => k = L.db) w7).setCell (p := ⟨L.db, 17, none⟩) rfl _) (by rintro k cs fr rfl e; exact blk_ne e H7.out.1.hd (by decide) rfl))
end Go.Proofs.Ytekioihjfggmdaa
