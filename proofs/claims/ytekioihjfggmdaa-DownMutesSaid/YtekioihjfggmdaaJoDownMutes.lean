/- Texts of one claim, laid together: DownCounts DownMutes RowDownMutes -/
import Derived.ShutString
import Derived.ChangeOld
import Derived.OpenShut
import Derived.Test.YtekioihjfggmdaaJo26
import Derived.Test.YtekioihjfggmdaaJo27
/- DownCounts: the walk. -/
namespace Go.Proofs.Ytekioihjfggmdaa
open Go.RowKit
set_option linter.unusedVariables false

theorem fewS_at {l : List Stp} (h : fewS l = true) (k : Nat) (hk : k < l.length) : l[k].p.few = true := by
  rw [fewS, Bool.and_eq_true] at h
  exact List.all_eq_true.1 h.1 _ (List.getElem_mem hk)
theorem fewS_len {l : List Stp} (h : fewS l = true) : l.length ≤ 120 := by
  rw [fewS, Bool.and_eq_true] at h
  simpa using h.2
theorem step_range {w wr : World} {b o : Nat} {x : Stp} {v5 v6 v7 : Value} (hl : Le w wr) (hc : ∀ j, j < 15 → w.cell? ⟨b, o + j, none⟩ = (x.cells v5 v6 v7)[j]?) : wr.rangeAt b o (x.cells v5 v6 v7) := fun j v hj => by
  refine hl.cell ?_
  have h15 : j < 15 := by
    have := (List.getElem?_eq_some_iff.1 hj).1
    simpa [Stp.cells] using this
  rw [hc j h15, hj]

set_option maxRecDepth 100000 in
set_option maxHeartbeats 4000000 in
theorem downCounts_walk (w : World) (room : Nat) (hroom : room < 256) (l : List Stp) (A : Option Addr) (n cap : Nat) (hr : RSl 15 RStp w l (.slice A n cap)) (hl : l.length ≤ 9223372036854775807) : Calls Try.prog 8 #[.int .u8 room, .slice A n cap] w (Gives w (.bool true)) := by
  have HR := hide hr
  obtain ⟨A', cap', hv, hcap, hi⟩ := hr
  injection hv with e1 e2 e3
  subst e1 e2 e3
  have HI := hide hi
  clear hi
  have HFEW := hide (fun W (hW : Le w W) => few14_any l A cap W (hW.rsl keeps_stp HR.out) hl)
  go_enter Try.func8, Try.ntmps8
  go_wp2_with fail
  refine (awake14 _).mono ?_
  rintro r w1 ⟨rfl, hb1⟩
  have HL1 := hide (show Le w w1 from ⟨hb1⟩)
  clear hb1
  go_wp2_with fail
  refine (HFEW.out _ HL1.out).mono ?_
  rintro r w2 ⟨rfl, hb2⟩
  have HL2 := hide (HL1.out.trans ⟨hb2⟩)
  clear hb2 HL1 HFEW
  cases hf : fewS l
  · go_wp2_with fail
    go_ret
    exact ⟨rfl, HL2.out.out⟩
  have hlen := fewS_len hf
  have HF := hide hf
  clear hf
  obtain ⟨M, hM⟩ : ∃ M, M = room % 9 := ⟨_, rfl⟩
  obtain ⟨N, hN⟩ : ∃ N, N = M + 1 := ⟨_, rfl⟩
  have hN1 : 0 < N ∧ N ≤ 9 := by omega
  have HNEW := hide (downNew_any 3 N hN1.1 (by omega) w2)
  have q1 : (room : Int).tmod 9 = (M : Int) := by rw [hM]; rfl
  have q2 : IntKind.u8.wrap (M : Int) = M := by simp [IntKind.wrap, IntKind.signed, IntKind.bits]; omega
  have q3 : (M : Int) + 1 = (N : Int) := by omega
  have q4 : IntKind.i64.wrap (N : Int) = N := IntWalk.i64_in _ (by omega)
  have q5 : IntKind.i64.wrap (M : Int) = M := IntWalk.i64_in _ (by omega)
  clear hM hN
  go_wp2_with fail
  refine HNEW.out.mono ?_
  rintro e w3 ⟨L, vs0, rfl, hd0, hS0, hb3⟩
  have HS := hide (fun k hk => Nat.le_trans HL2.out.size (hS0 k hk))
  have H3 := hide (And.intro hd0 (HL2.out.trans ⟨hb3⟩))
  clear hd0 hS0 hb3 HNEW q1 q2 q3 q4 q5
  go_wp2_with fail
  go_loopw [8, 9] (fun s j wr => ∃ (k : Nat) (d : Dn) (vs : List Value), k ≤ l.length ∧ j = .int .i64 k ∧ s = .int .i64 (d.sent : Nat) ∧ DnAt wr L k d vs ∧ d.Ok k ∧ Le w wr) (fun s j _ => l.length - (intOf j).toNat)
  case atStart => exact ⟨0, Dn.new 3 N, vs0, Nat.zero_le _, rfl, rfl, H3.out.1, Dn.new_ok (by decide) hN1.1 (by omega), H3.out.2⟩
  case round =>
    clear H3
    obtain ⟨k, d, vs, hk, rfl, rfl, hd, hok, hle⟩ := hrel
    by_cases hlt : k < l.length
    · obtain ⟨b, off, rfl, hg⟩ := HI.out (by rintro rfl; simp at hlt)
      obtain ⟨cs, _, hc, v5, v6, v7, hcs, hP, hN⟩ := hg k hlt
      subst hcs
      have hp := hN.ok (fewS_at HF.out k hlt)
      have hltI : (k : Int) < (l.length : Int) := by omega
      generalize l[k] = x at *
      have HRNG := hide (step_range hle hc)
      have hok' := Dn.take_ok hok x.p hp x.src x.layer x.want x.muted
      have hsent := Dn.take_sent d x.p x.src x.layer x.want x.muted
      have HTK := hide (fun W (hW : Le wr W) => downTake_any (hd.le hW) hok (by omega) x.p hp v5 v6 v7 (PdAt.old hP (hle.trans hW).out HS.out) (by omega) x.src x.layer x.want x.muted)
      obtain ⟨A5, c5, rfl, _, _⟩ := id hP.csrc
      obtain ⟨A6, c6, rfl, _, _⟩ := id hP.exts
      obtain ⟨A7, c7, rfl, _, _⟩ := id hP.payload
      generalize d.take x.p x.src x.layer x.want x.muted = r at *
      obtain ⟨d', o, ask⟩ := r
      dsimp only at hok' hsent
      have hcnt := hok'.cnt
      have HOK := hide hok'
      have HLE := hide hle
      clear hc hg hP hN hp hd hok hok' hle
      obtain ⟨p, sr, la, wn, mu⟩ := x
      obtain ⟨ws, wl, wt⟩ := wn
      obtain ⟨mk, ty, sq, tm, ss, cs, ex, pl, pd⟩ := p
      simp only [Stp.cells, Pk.val, Wnt.val] at HRNG HTK
      go_upto_region 13 with (first | (refine wpList_load_mid rfl 50 (.tmp 35) rfl b (off + k * 15) rfl [.bool mk, .int .u8 ty, .int .u16 sq, .int .u32 tm, .int .u32 ss, .slice A5 cs.length c5, .slice A6 ex.length c6, .slice A7 pl.length c7, .int .i64 pd, .int .i64 sr, .int .i64 la, .int .i64 ws, .int .i64 wl, .int .i64 wt, .bool mu] _ HRNG.out Try.underlying50 rfl (by kernel_rfl) ?_) | (refine wpl_store_blk rfl 50 (.tmp 10) (.tmp 36) (cs := [.bool mk, .int .u8 ty, .int .u16 sq, .int .u32 tm, .int .u32 ss, .slice A5 cs.length c5, .slice A6 ex.length c6, .slice A7 pl.length c7, .int .i64 pd, .int .i64 sr, .int .i64 la, .int .i64 ws, .int .i64 wl, .int .i64 wt, .bool mu]) rfl rfl rfl (by kernel_rfl) (by simp [Value.oneCell']) (heap_alloc_new _ _) rfl ?_; intro wz hn hgz; have HZ := hide (And.intro hn (((Le.refl wr).alloc _).boxed hgz (Nat.le_refl _))); clear hn hgz))
      have HTZ := hide (HTK.out wz HZ.out.2)
      have y9 : wz.cell? ⟨wr.heap.size, 9, none⟩ = some (.int .i64 sr) := box_cell HZ.out.1 9 _ rfl _ (Le.refl _)
      have y10 : wz.cell? ⟨wr.heap.size, 10, none⟩ = some (.int .i64 la) := box_cell HZ.out.1 10 _ rfl _ (Le.refl _)
      have y14 : wz.cell? ⟨wr.heap.size, 14, none⟩ = some (.bool mu) := box_cell HZ.out.1 14 _ rfl _ (Le.refl _)
      generalize wr.heap.size = g at *
      clear HTK HRNG
      go_wp2_with (first | (refine wpl_load_in rfl 46 (.tmp 39) rfl [] [.bool mk, .int .u8 ty, .int .u16 sq, .int .u32 tm, .int .u32 ss, .slice A5 cs.length c5, .slice A6 ex.length c6, .slice A7 pl.length c7, .int .i64 pd] [.int .i64 sr, .int .i64 la, .int .i64 ws, .int .i64 wl, .int .i64 wt, .bool mu] _ rfl Try.underlying46 rfl (by kernel_rfl) HZ.out.1 ?_) | (refine wpl_load_in rfl 48 (.tmp 45) rfl [.bool mk, .int .u8 ty, .int .u16 sq, .int .u32 tm, .int .u32 ss, .slice A5 cs.length c5, .slice A6 ex.length c6, .slice A7 pl.length c7, .int .i64 pd, .int .i64 sr, .int .i64 la] [.int .i64 ws, .int .i64 wl, .int .i64 wt] [.bool mu] _ rfl Try.underlying48 rfl (by kernel_rfl) HZ.out.1 ?_))
      refine HTZ.out.mono ?_
      rintro e w9 ⟨v, vs9, rfl, hd9, hr9, hf9⟩
      have hle9 : Le w w9 := ⟨hf9.below (HLE.out.trans HZ.out.2).out (HLE.out.trans HZ.out.2).size HS.out⟩
      have H9 := hide (And.intro hd9 hle9)
      have HCN := hide (fun W (hW : Le w9 W) => downCount_any (hd9.le hW))
      clear y9 y10 y14 hd9 hr9 hf9 hle9 HTZ
      dsimp only at HCN H9 ⊢
      simp only [Dn.countV] at HCN
      obtain ⟨dss, dpk, dnm, dst, S, Lf, Dr, La, Ba⟩ := d'
      dsimp only at hcnt hsent HCN
      generalize o.isSome = is at *
      generalize hdS : d.sent = S0 at *
      clear hdS
      obtain ⟨T1, hT1⟩ : ∃ T1, T1 = S + Lf := ⟨_, rfl⟩
      obtain ⟨T2, hT2⟩ : ∃ T2, T2 = T1 + Dr := ⟨_, rfl⟩
      obtain ⟨T3, hT3⟩ : ∃ T3, T3 = T2 + La := ⟨_, rfl⟩
      have e1 : (S : Int) + (Lf : Int) = (T1 : Int) := by omega
      have e2 : (T1 : Int) + (Dr : Int) = (T2 : Int) := by omega
      have e3 : (T2 : Int) + (La : Int) = (T3 : Int) := by omega
      have e4 : (T3 : Int) + (Ba : Int) = (k : Int) + 1 := by omega
      have t1 : IntKind.i64.wrap (T1 : Int) = T1 := IntWalk.i64_in _ (by omega)
      have t2 : IntKind.i64.wrap (T2 : Int) = T2 := IntWalk.i64_in _ (by omega)
      have t3 : IntKind.i64.wrap (T3 : Int) = T3 := IntWalk.i64_in _ (by omega)
      have hS : S ≤ 121 := by omega
      clear hcnt hT1 hT2 hT3
      cases is
      · have hSS : S = S0 := by simpa using hsent
        subst hSS
        clear hsent
        go_wp2_with fail
        refine (HCN.out _ (Le.refl _)).mono ?_
        rintro e w10 ⟨rfl, hb10⟩
        have H10 := hide (And.intro (H9.out.1.le ⟨hb10⟩) (H9.out.2.trans ⟨hb10⟩))
        clear hb10 HCN H9
        go_wp2_with fail
        go_roundw
        case rel => exact ⟨k + 1, _, vs9, by omega, by go_num, rfl, H10.out.1.le ((Le.refl _).alloc _), HOK.out, H10.out.2.alloc _⟩
        case measure => simp [intOf]; omega
      · have hSS : S = S0 + 1 := by simpa using hsent
        have e5 : (S0 : Int) + 1 = (S : Int) := by omega
        have t5 : IntKind.i64.wrap (S : Int) = S := IntWalk.i64_in _ (by omega)
        clear hsent hSS
        go_wp2_with fail
        refine (HCN.out _ (Le.refl _)).mono ?_
        rintro e w10 ⟨rfl, hb10⟩
        have H10 := hide (And.intro (H9.out.1.le ⟨hb10⟩) (H9.out.2.trans ⟨hb10⟩))
        clear hb10 HCN H9
        go_wp2_with fail
        go_roundw
        case rel => exact ⟨k + 1, _, vs9, by omega, by go_num, rfl, H10.out.1.le ((Le.refl _).alloc _), HOK.out, H10.out.2.alloc _⟩
        case measure => simp [intOf]; omega
    · have hltI : ¬ (k : Int) < (l.length : Int) := by omega
      have HB := hide hle
      clear hd hok hle
      go_wp2_with fail
      go_ret
      exact ⟨rfl, HB.out.out⟩
end Go.Proofs.Ytekioihjfggmdaa

/- DownMutes: the walk. -/
namespace Go.Proofs.Ytekioihjfggmdaa
open Go.RowKit
set_option linter.unusedVariables false

theorem DnAt.apart {w w' : World} {L L2 : Dl} {c c2 : Nat} {d e : Dn} {vs vs2 : List Value} (h1 : DnAt w L c d vs) (h2 : DnAt w L2 c2 e vs2) (hf : Fp L.S w w') (hd : ∀ k, L.S k → ¬ L2.S k) : DnAt w' L2 c2 e vs2 := by
  have hk : ∀ {k : Nat} {o : Obj}, ¬ L.S k → w.heap[k]? = some o → w'.heap[k]? = some o := fun hne hk => hf.heap hk hne
  have n1 : ¬ L.S L2.db := fun h => hd _ h (.inl rfl)
  have n2 : ¬ L.S L2.sb := fun h => hd _ h (.inr (.inl rfl))
  have n3 : ¬ L.S L2.rb := fun h => hd _ h (.inr (.inr (.inl rfl)))
  have n4 : ¬ L.S L2.mb := fun h => hd _ h (.inr (.inr (.inr rfl)))
  exact ⟨hk n1 h2.hd, hk n2 h2.st.hs, hk n3 h2.st.hr, h2.st.len, fun i hi => (h2.st.bytes i hi).later hf h1.not8, h2.st.map.same (hf.block _ h2.st.map.lt n4)⟩
theorem DnAt.lt {w : World} {L : Dl} {c : Nat} {d : Dn} {vs : List Value} (h : DnAt w L c d vs) : ∀ k, L.S k → k < w.heap.size := by
  rintro k (rfl | rfl | rfl | rfl)
  · exact lt_of_heap h.hd
  · exact lt_of_heap h.st.hs
  · exact lt_of_heap h.st.hr
  · exact h.st.map.lt
theorem cnt_field (a b c d e : Int) (w : World) : (Instr.field 60 (.agg #[.int .i64 a, .int .i64 b, .int .i64 c, .int .i64 d, .int .i64 e]) 0).run Try.prog w = .ok (.int .i64 a) w := by kernel_rfl

set_option maxRecDepth 100000 in
set_option maxHeartbeats 8000000 in
theorem downMutes_walk (w : World) (room : Nat) (hroom : room < 256) (l : List Stp) (A : Option Addr) (n cap : Nat) (hr : RSl 15 RStp w l (.slice A n cap)) (hl : l.length ≤ 9223372036854775807) (m : List Stp) (A2 : Option Addr) (n2 cap2 : Nat) (hr2 : RSl 15 RStp w m (.slice A2 n2 cap2)) (hm : m.length ≤ 9223372036854775807) :
    Calls Try.prog 9 #[.int .u8 room, .slice A n cap, .slice A2 n2 cap2] w (Gives w (.bool true)) := by
  have HR := hide hr
  have HR2 := hide hr2
  obtain ⟨A', cap', hv, hcap, hi⟩ := hr
  injection hv with e1 e2 e3
  subst e1 e2 e3
  have HI := hide hi
  clear hi
  obtain ⟨A', cap', hv, hcap2, hi⟩ := hr2
  injection hv with e1 e2 e3
  subst e1 e2 e3
  have HI2 := hide hi
  clear hi
  have HFEW := hide (fun W (hW : Le w W) => few14_any l A cap W (hW.rsl keeps_stp HR.out) hl)
  have HFEW2 := hide (fun W (hW : Le w W) => few14_any m A2 cap2 W (hW.rsl keeps_stp HR2.out) hm)
  go_enter Try.func9, Try.ntmps9
  go_wp2_with fail
  refine (awake14 _).mono ?_
  rintro r w1 ⟨rfl, hb1⟩
  have HL1 := hide (show Le w w1 from ⟨hb1⟩)
  clear hb1
  go_wp2_with fail
  refine (HFEW.out _ HL1.out).mono ?_
  rintro r wa ⟨rfl, hba⟩
  have HLa := hide (HL1.out.trans ⟨hba⟩)
  clear hba HL1 HFEW
  go_wp2_with fail
  refine (HFEW2.out _ HLa.out).mono ?_
  rintro r w2 ⟨rfl, hb2⟩
  have HL2 := hide (HLa.out.trans ⟨hb2⟩)
  clear hb2 HLa HFEW2
  cases hf : fewS l
  · go_wp2_with fail
    go_ret
    exact ⟨rfl, HL2.out.out⟩
  cases hf2 : fewS m
  · go_wp2_with fail
    go_ret
    exact ⟨rfl, HL2.out.out⟩
  have hlen := fewS_len hf
  have hlen2 := fewS_len hf2
  have HF := hide hf
  have HF2 := hide hf2
  clear hf hf2
  obtain ⟨M, hM⟩ : ∃ M, M = room % 9 := ⟨_, rfl⟩
  obtain ⟨N, hN⟩ : ∃ N, N = M + 1 := ⟨_, rfl⟩
  have hN1 : 0 < N ∧ N ≤ 9 := by omega
  have HNEW := hide (fun W => downNew_any 3 N hN1.1 (by omega) W)
  have q1 : (room : Int).tmod 9 = (M : Int) := by rw [hM]; rfl
  have q2 : IntKind.u8.wrap (M : Int) = M := by simp [IntKind.wrap, IntKind.signed, IntKind.bits]; omega
  have q3 : (M : Int) + 1 = (N : Int) := by omega
  have q4 : IntKind.i64.wrap (N : Int) = N := IntWalk.i64_in _ (by omega)
  have q5 : IntKind.i64.wrap (M : Int) = M := IntWalk.i64_in _ (by omega)
  clear hM hN
  go_wp2_with fail
  refine (HNEW.out _).mono ?_
  rintro e w3 ⟨L, vs0, rfl, hd0, hS0, hb3⟩
  have HS := hide (fun k hk => Nat.le_trans HL2.out.size (hS0 k hk))
  have H3 := hide (And.intro hd0 (HL2.out.trans ⟨hb3⟩))
  clear hd0 hS0 hb3 q1 q2 q3 q4 q5
  go_wp2_with fail
  refine (HNEW.out _).mono ?_
  rintro e w4 ⟨L2, vs1, rfl, hd1, hS1, hb4⟩
  have HS2 := hide (fun k hk => Nat.le_trans H3.out.2.size (hS1 k hk))
  have HAP := hide (show ∀ k, L.S k → ¬ L2.S k from fun k h1 h2 => absurd (H3.out.1.lt k h1) (Nat.not_lt.2 (hS1 k h2)))
  have H4 := hide (And.intro (H3.out.1.le ⟨hb4⟩) (And.intro hd1 (H3.out.2.trans ⟨hb4⟩)))
  clear hd1 hS1 hb4 HNEW H3
  go_wp2_with fail
  go_loopw [13] (fun j wr => ∃ (k : Nat) (d : Dn) (vs vs' : List Value), k ≤ l.length ∧ j = .int .i64 k ∧ DnAt wr L k d vs ∧ DnAt wr L2 k d vs' ∧ d.Ok k ∧ Le w wr) (fun j _ => l.length - (intOf j).toNat)
  case atStart => exact ⟨0, Dn.new 3 N, vs0, vs1, Nat.zero_le _, rfl, H4.out.1, H4.out.2.1, Dn.new_ok (by decide) hN1.1 (by omega), H4.out.2.2⟩
  case round =>
    clear H4
    obtain ⟨k, d, vs, vs', hk, rfl, hd, hd2, hok, hle⟩ := hrel
    by_cases hlt : k < l.length
    · obtain ⟨b, off, rfl, hg⟩ := HI.out (by rintro rfl; simp at hlt)
      obtain ⟨cs, _, hc, v5, v6, v7, hcs, hP, hN⟩ := hg k hlt
      subst hcs
      have hp := hN.ok (fewS_at HF.out k hlt)
      have hltI : (k : Int) < (l.length : Int) := by omega
      generalize l[k] = x at *
      have HRNG := hide (step_range hle hc)
      have hok' := Dn.take_ok hok x.p hp x.src x.layer x.want x.muted
      have HTK := hide (fun W (hW : Le wr W) => downTake_any (hd.le hW) hok (by omega) x.p hp v5 v6 v7 (PdAt.old hP (hle.trans hW).out HS.out) (by omega) x.src x.layer x.want x.muted)
      have HTK2 := hide (fun W vs (hW : DnAt W L2 k d vs) (hl : Le w W) => downTake_any hW hok (by omega) x.p hp v5 v6 v7 (PdAt.old hP hl.out HS2.out) (by omega) x.src x.layer x.want x.muted)
      obtain ⟨A5, c5, rfl, _, _⟩ := id hP.csrc
      obtain ⟨A6, c6, rfl, _, _⟩ := id hP.exts
      obtain ⟨A7, c7, rfl, _, _⟩ := id hP.payload
      generalize d.take x.p x.src x.layer x.want x.muted = r at *
      obtain ⟨d', o, ask⟩ := r
      dsimp only at hok'
      have HOK := hide hok'
      have HLE := hide hle
      have HDD := hide (And.intro hd hd2)
      clear hc hg hP hN hp hd hd2 hok hok' hle
      obtain ⟨p, sr, la, wn, mu⟩ := x
      obtain ⟨ws, wl, wt⟩ := wn
      obtain ⟨mk, ty, sq, tm, ss, cs, ex, pl, pd⟩ := p
      simp only [Stp.cells, Pk.val, Wnt.val] at HRNG HTK HTK2
      go_upto_region 15 with (first | (refine wpList_load_mid rfl 50 (.tmp 53) rfl b (off + k * 15) rfl [.bool mk, .int .u8 ty, .int .u16 sq, .int .u32 tm, .int .u32 ss, .slice A5 cs.length c5, .slice A6 ex.length c6, .slice A7 pl.length c7, .int .i64 pd, .int .i64 sr, .int .i64 la, .int .i64 ws, .int .i64 wl, .int .i64 wt, .bool mu] _ HRNG.out Try.underlying50 rfl (by kernel_rfl) ?_) | (refine wpl_store_blk rfl 50 (.tmp 14) (.tmp 54) (cs := [.bool mk, .int .u8 ty, .int .u16 sq, .int .u32 tm, .int .u32 ss, .slice A5 cs.length c5, .slice A6 ex.length c6, .slice A7 pl.length c7, .int .i64 pd, .int .i64 sr, .int .i64 la, .int .i64 ws, .int .i64 wl, .int .i64 wt, .bool mu]) rfl rfl rfl (by kernel_rfl) (by simp [Value.oneCell']) (heap_alloc_new _ _) rfl ?_; intro wz hn hgz; have HZ := hide (And.intro hn (((Le.refl wr).alloc _).boxed hgz (Nat.le_refl _))); clear hn hgz))
      have HTZ := hide (HTK.out wz HZ.out.2)
      have HNS := hide ((HDD.out.1.le HZ.out.2).notS HZ.out.1 (by decide) (by decide) (by decide))
      have HD2 := hide (And.intro (HDD.out.1.le HZ.out.2) (HDD.out.2.le HZ.out.2))
      have HLZ := hide (HLE.out.trans HZ.out.2)
      generalize wr.heap.size = g at *
      have y9 : wz.cell? ⟨g, 9, none⟩ = some (.int .i64 sr) := box_cell HZ.out.1 9 _ rfl _ (Le.refl _)
      have y10 : wz.cell? ⟨g, 10, none⟩ = some (.int .i64 la) := box_cell HZ.out.1 10 _ rfl _ (Le.refl _)
      have y14 : wz.cell? ⟨g, 14, none⟩ = some (.bool mu) := box_cell HZ.out.1 14 _ rfl _ (Le.refl _)
      clear HTK HRNG HDD
      go_wp2_with (first | (refine wpl_load_in rfl 46 (.tmp 56) rfl [] [.bool mk, .int .u8 ty, .int .u16 sq, .int .u32 tm, .int .u32 ss, .slice A5 cs.length c5, .slice A6 ex.length c6, .slice A7 pl.length c7, .int .i64 pd] [.int .i64 sr, .int .i64 la, .int .i64 ws, .int .i64 wl, .int .i64 wt, .bool mu] _ rfl Try.underlying46 rfl (by kernel_rfl) HZ.out.1 ?_) | (refine wpl_load_in rfl 48 (.tmp 62) rfl [.bool mk, .int .u8 ty, .int .u16 sq, .int .u32 tm, .int .u32 ss, .slice A5 cs.length c5, .slice A6 ex.length c6, .slice A7 pl.length c7, .int .i64 pd, .int .i64 sr, .int .i64 la] [.int .i64 ws, .int .i64 wl, .int .i64 wt] [.bool mu] _ rfl Try.underlying48 rfl (by kernel_rfl) HZ.out.1 ?_))
      refine HTZ.out.mono ?_
      rintro e w9 ⟨v, vs9, rfl, hd9, hr9, hf9⟩
      have hle9 : Le w w9 := ⟨hf9.below HLZ.out.out HLZ.out.size HS.out⟩
      have HZ9 := hide (show w9.heap[g]? = some (.cells [.bool mk, .int .u8 ty, .int .u16 sq, .int .u32 tm, .int .u32 ss, .slice A5 cs.length c5, .slice A6 ex.length c6, .slice A7 pl.length c7, .int .i64 pd, .int .i64 sr, .int .i64 la, .int .i64 ws, .int .i64 wl, .int .i64 wt, .bool mu].toArray 50 (0, 0)) from hf9.heap HZ.out.1 HNS.out)
      have hd29 : DnAt w9 L2 k d vs' := HD2.out.1.apart HD2.out.2 hf9 HAP.out
      have HT2 := hide (HTK2.out w9 vs' hd29 hle9)
      have H9 := hide (And.intro hd9 (And.intro hd29 hle9))
      clear y9 y10 y14 hd9 hr9 hf9 hle9 hd29 HTZ HTK2 HNS HD2 HLZ HZ
      dsimp only at H9 ⊢
      have y9 : w9.cell? ⟨g, 9, none⟩ = some (.int .i64 sr) := box_cell HZ9.out 9 _ rfl _ (Le.refl _)
      have y10 : w9.cell? ⟨g, 10, none⟩ = some (.int .i64 la) := box_cell HZ9.out 10 _ rfl _ (Le.refl _)
      have y14 : w9.cell? ⟨g, 14, none⟩ = some (.bool mu) := box_cell HZ9.out 14 _ rfl _ (Le.refl _)
      go_wp2_with (first | (refine wpl_load_in rfl 46 (.tmp 68) rfl [] [.bool mk, .int .u8 ty, .int .u16 sq, .int .u32 tm, .int .u32 ss, .slice A5 cs.length c5, .slice A6 ex.length c6, .slice A7 pl.length c7, .int .i64 pd] [.int .i64 sr, .int .i64 la, .int .i64 ws, .int .i64 wl, .int .i64 wt, .bool mu] _ rfl Try.underlying46 rfl (by kernel_rfl) HZ9.out ?_) | (refine wpl_load_in rfl 48 (.tmp 74) rfl [.bool mk, .int .u8 ty, .int .u16 sq, .int .u32 tm, .int .u32 ss, .slice A5 cs.length c5, .slice A6 ex.length c6, .slice A7 pl.length c7, .int .i64 pd, .int .i64 sr, .int .i64 la] [.int .i64 ws, .int .i64 wl, .int .i64 wt] [.bool mu] _ rfl Try.underlying48 rfl (by kernel_rfl) HZ9.out ?_))
      refine HT2.out.mono ?_
      rintro e w10 ⟨v2, vs10, rfl, hd10, hr10, hf10⟩
      have hle10 : Le w w10 := ⟨hf10.below H9.out.2.2.out H9.out.2.2.size HS2.out⟩
      have hd1 : DnAt w10 L (k + 1) d' vs9 := H9.out.2.1.apart H9.out.1 hf10 (fun k h1 h2 => HAP.out k h2 h1)
      have H10 := hide (And.intro hd1 (And.intro hd10 hle10))
      clear y9 y10 y14 hd1 hd10 hr10 hf10 hle10 HT2 H9 HZ9
      go_wp2_with fail
      go_roundw
      case rel => exact ⟨k + 1, d', vs9, vs10, by omega, by go_num, H10.out.1, H10.out.2.1, HOK.out, H10.out.2.2⟩
      case measure => simp [intOf]; omega
    · have hltI : ¬ (k : Int) < (l.length : Int) := by omega
      have hke : k = l.length := by omega
      subst hke
      have H5 := hide (And.intro hd (And.intro hd2 (And.intro hok hle)))
      clear hd hd2 hok hle hlt hk hltI HI HF HR
      go_wp2_with fail
      go_loopw [15] (fun j wr => ∃ (k : Nat) (d1 : Dn) (vs vs' : List Value), k ≤ m.length ∧ j = .int .i64 k ∧ DnAt wr L (l.length + k) d1 vs ∧ DnAt wr L2 l.length d vs' ∧ Hd (d1.st = d.st) ∧ Hd (d1.sent = d.sent) ∧ d1.Ok (l.length + k) ∧ Le w wr) (fun j _ => m.length - (intOf j).toNat)
      case atStart => exact ⟨0, d, vs, vs', Nat.zero_le _, rfl, H5.out.1, H5.out.2.1, hide rfl, hide rfl, H5.out.2.2.1, H5.out.2.2.2⟩
      case round =>
        obtain ⟨k, d1, vs, vs', hk, rfl, hd, hd2, HST, HSN, hok, hle⟩ := hrel
        have HOKE := hide H5.out.2.2.1
        clear H5
        by_cases hlt : k < m.length
        · obtain ⟨b, off, rfl, hg⟩ := HI2.out (by rintro rfl; simp at hlt)
          obtain ⟨cs, _, hc, v5, v6, v7, hcs, hP, hN⟩ := hg k hlt
          subst hcs
          have hp := hN.ok (fewS_at HF2.out k hlt)
          have hltI : (k : Int) < (m.length : Int) := by omega
          generalize m[k] = x at *
          have HRNG := hide (step_range hle hc)
          have hok' := Dn.take_ok hok x.p hp x.src x.layer x.want true
          have HTK := hide (fun W (hW : Le wr W) => downTake_any (hd.le hW) hok (by omega) x.p hp v5 v6 v7 (PdAt.old hP (hle.trans hW).out HS.out) (by omega) x.src x.layer x.want true)
          rw [show d1.take x.p x.src x.layer x.want true = (d1.mute, none, false) from rfl] at HTK hok'
          have HAG := hide (fun W vs c (hW : DnAt W L c d1.mute vs) => (HST.out ▸ downAgain_any hW hok'.st x.p.seq hp.seq : Calls Try.prog 18 #[.pointer (some ⟨L.db, 0, none⟩), .int .u16 x.p.seq] W (GetP W (d.st.get x.p.seq))))
          have HAG2 := hide (fun W vs c (hW : DnAt W L2 c d vs) => downAgain_any hW HOKE.out.st x.p.seq hp.seq)
          obtain ⟨A5, c5, rfl, _, _⟩ := id hP.csrc
          obtain ⟨A6, c6, rfl, _, _⟩ := id hP.exts
          obtain ⟨A7, c7, rfl, _, _⟩ := id hP.payload
          have HOK := hide hok'
          have HLE := hide hle
          have HDD := hide (And.intro hd hd2)
          clear hc hg hP hN hp hd hd2 hok hok' hle
          obtain ⟨p, sr, la, wn, mu⟩ := x
          obtain ⟨ws, wl, wt⟩ := wn
          obtain ⟨mk, ty, sq, tm, ss, cs, ex, pl, pd⟩ := p
          simp only [Stp.cells, Pk.val, Wnt.val] at HRNG HTK HAG HAG2
          generalize d.st.get sq = G at *
          go_upto_region 21 with (first | (refine wpList_load_mid rfl 50 (.tmp 87) rfl b (off + k * 15) rfl [.bool mk, .int .u8 ty, .int .u16 sq, .int .u32 tm, .int .u32 ss, .slice A5 cs.length c5, .slice A6 ex.length c6, .slice A7 pl.length c7, .int .i64 pd, .int .i64 sr, .int .i64 la, .int .i64 ws, .int .i64 wl, .int .i64 wt, .bool mu] _ HRNG.out Try.underlying50 rfl (by kernel_rfl) ?_) | (refine wpl_store_blk rfl 50 (.tmp 16) (.tmp 88) (cs := [.bool mk, .int .u8 ty, .int .u16 sq, .int .u32 tm, .int .u32 ss, .slice A5 cs.length c5, .slice A6 ex.length c6, .slice A7 pl.length c7, .int .i64 pd, .int .i64 sr, .int .i64 la, .int .i64 ws, .int .i64 wl, .int .i64 wt, .bool mu]) rfl rfl rfl (by kernel_rfl) (by simp [Value.oneCell']) (heap_alloc_new _ _) rfl ?_; intro wz hn hgz; have HZ := hide (And.intro hn (((Le.refl wr).alloc _).boxed hgz (Nat.le_refl _))); clear hn hgz))
          have HTZ := hide (HTK.out wz HZ.out.2)
          have HNS := hide ((HDD.out.1.le HZ.out.2).notS HZ.out.1 (by decide) (by decide) (by decide))
          have HD2 := hide (And.intro (HDD.out.1.le HZ.out.2) (HDD.out.2.le HZ.out.2))
          have HLZ := hide (HLE.out.trans HZ.out.2)
          generalize wr.heap.size = g at *
          have y9 : wz.cell? ⟨g, 9, none⟩ = some (.int .i64 sr) := box_cell HZ.out.1 9 _ rfl _ (Le.refl _)
          have y10 : wz.cell? ⟨g, 10, none⟩ = some (.int .i64 la) := box_cell HZ.out.1 10 _ rfl _ (Le.refl _)
          clear HTK HRNG HDD
          go_wp2_with (first | (refine wpl_load_in rfl 46 (.tmp 91) rfl [] [.bool mk, .int .u8 ty, .int .u16 sq, .int .u32 tm, .int .u32 ss, .slice A5 cs.length c5, .slice A6 ex.length c6, .slice A7 pl.length c7, .int .i64 pd] [.int .i64 sr, .int .i64 la, .int .i64 ws, .int .i64 wl, .int .i64 wt, .bool mu] _ rfl Try.underlying46 rfl (by kernel_rfl) HZ.out.1 ?_) | (refine wpl_load_in rfl 48 (.tmp 97) rfl [.bool mk, .int .u8 ty, .int .u16 sq, .int .u32 tm, .int .u32 ss, .slice A5 cs.length c5, .slice A6 ex.length c6, .slice A7 pl.length c7, .int .i64 pd, .int .i64 sr, .int .i64 la] [.int .i64 ws, .int .i64 wl, .int .i64 wt] [.bool mu] _ rfl Try.underlying48 rfl (by kernel_rfl) HZ.out.1 ?_))
          refine HTZ.out.mono ?_
          rintro e w9 ⟨v, vs9, rfl, hd9, hr9, hf9⟩
          have hle9 : Le w w9 := ⟨hf9.below HLZ.out.out HLZ.out.size HS.out⟩
          have HZ9 := hide (show w9.heap[g]? = some (.cells [.bool mk, .int .u8 ty, .int .u16 sq, .int .u32 tm, .int .u32 ss, .slice A5 cs.length c5, .slice A6 ex.length c6, .slice A7 pl.length c7, .int .i64 pd, .int .i64 sr, .int .i64 la, .int .i64 ws, .int .i64 wl, .int .i64 wt, .bool mu].toArray 50 (0, 0)) from hf9.heap HZ.out.1 HNS.out)
          have hd29 : DnAt w9 L2 l.length d vs' := HD2.out.1.apart HD2.out.2 hf9 HAP.out
          have H9 := hide (And.intro (show DnAt w9 L (l.length + k + 1) d1.mute vs9 from hd9) (And.intro hd29 hle9))
          obtain ⟨Av, cv, rfl, _, _⟩ := (show RSl 1 RU8 w9 [] v from hr9)
          clear y9 y10 hd9 hr9 hf9 hle9 hd29 HTZ HNS HD2 HLZ HZ
          dsimp only [Option.isSome_none, List.length_nil] at H9 ⊢
          have y2 : w9.cell? ⟨g, 2, none⟩ = some (.int .u16 sq) := box_cell HZ9.out 2 _ rfl _ (Le.refl _)
          go_wp2_with fail
          refine (HAG.out _ _ _ H9.out.1).mono ?_
          rintro e w10 ⟨va, rfl, hba, hb10⟩
          have H10 := hide (And.intro (H9.out.1.le ⟨hb10⟩) (And.intro (H9.out.2.1.le ⟨hb10⟩) (H9.out.2.2.trans ⟨hb10⟩)))
          have z2 : w10.cell? ⟨g, 2, none⟩ = some (.int .u16 sq) := box_cell HZ9.out 2 _ rfl _ ⟨hb10⟩
          have hra := hba.rsl
          obtain ⟨Aa, ca, rfl, _, _⟩ := id hra
          have HRA := hide hra
          clear y2 hb10 hba hra HAG H9
          go_wp2_with fail
          refine (HAG2.out _ _ _ H10.out.2.1).mono ?_
          rintro e w11 ⟨vb, rfl, hbb, hb11⟩
          have H11 := hide (And.intro (H10.out.1.le ⟨hb11⟩) (And.intro (H10.out.2.1.le ⟨hb11⟩) (H10.out.2.2.trans ⟨hb11⟩)))
          have hrb := hbb.rsl
          obtain ⟨Ab, cb, rfl, _, _⟩ := id hrb
          have f1 := conv_le HRA.out w11 ⟨hb11⟩
          have f2 := conv_le hrb w11 (Le.refl _)
          clear z2 hb11 hbb hrb HAG2 H10
          go_wp2_with fail
          go_roundw
          case rel => exact ⟨k + 1, d1.mute, vs9, vs', by omega, by go_num, H11.out.1, H11.out.2.1, hide HST.out, hide HSN.out, HOK.out, H11.out.2.2⟩
          case measure => simp [intOf]; omega
        · have hltI : ¬ (k : Int) < (m.length : Int) := by omega
          have HC1 := hide (fun W (hW : Le wr W) => downCount_any (hd.le hW))
          have HC2 := hide (fun W (hW : Le wr W) => downCount_any (hd2.le hW))
          have HB := hide hle
          simp only [Dn.countV] at HC1 HC2
          rw [HSN.out] at HC1
          have fl := fun (a b c d e : Int) (W : World) => cnt_field a b c d e W
          clear hd hd2 hok hle
          go_wp2_with fail
          refine (HC1.out _ (Le.refl _)).mono ?_
          rintro e w5 ⟨rfl, hb5⟩
          have H5 := hide (Le.mk hb5)
          clear hb5
          go_wp2_with fail
          refine (HC2.out _ H5.out).mono ?_
          rintro e w6 ⟨rfl, hb6⟩
          have H6 := hide (HB.out.trans (H5.out.trans ⟨hb6⟩))
          clear hb6
          go_wp2_with fail
          go_ret
          exact ⟨by simp, H6.out.out⟩
end Go.Proofs.Ytekioihjfggmdaa

/- DownMutes: for every input the call returns true, and each argument reads behind it as it read before. No condition. -/
namespace Go.Proofs.Ytekioihjfggmdaa.downMutes
open Go.ChangeShapes Go.WideShapes Go.ChangeAt Go.RowKit
open Go.ChangeMaps (open_string shut_string)
set_option linter.unusedVariables false

theorem own : ownKnob Try.prog.godebug = none := by kernel_rfl
theorem laidOut : laidOutB Try.prog = true := by kernel_rfl

set_option maxRecDepth 100000 in
theorem lifted (os : Os) (started : os.Started) (H : Type) (enc : TypeId × Value → H) :
    ReturnsInHanded {} Try.checked os 9 .any (Rows.downMutesSpec.pre6 enc Try.prog Try.f9 Rows.downMutesRow.domain false) (Rows.downMutesSpec.post enc Try.prog Try.f9 false true false false) := by
  refine returnsInHanded_of_change (C := Try.checked) own started (by kernel_rfl) Try.func9
    (ChangeSpec.witness6 (enc := enc) (C := Try.checked) false ⟨#[], #[.int .u8 0, .slice none 0 0, .slice none 0 0], []⟩ 8 (by kernel_rfl) (by kernel_rfl) (by kernel_rfl) (by kernel_rfl)) ?_
  intro W base args ds gs before hval0 hW hcnd _
  have hval : ∀ (j : Nat) t v, Try.f9.params[j]? = some t → args[j]? = some v → Value.okWide Try.prog W .any base t v := hval0
  have hW' := hW
  obtain ⟨p, q, hA0, hV, rfl, hfz, hnd⟩ := hW
  have hA : DataW.TrodAll enc Try.prog W 0 (fun _ => true) true Try.f9.params.toList args.toList ds p := hA0
  rw [Try.params9] at hA hval
  obtain ⟨v0, vs0, d0, ds0, p0, q0, hargs, rfl, rfl, h0, r0⟩ := trodAll_cons hA
  obtain ⟨v1, vs1, d1, ds1, p1, q1, rfl, rfl, rfl, h1, r1⟩ := trodAll_cons r0
  obtain ⟨v2, vs2, d2, ds2, p2, q2, rfl, rfl, rfl, h2, r2⟩ := trodAll_cons r1
  obtain ⟨rfl, rfl, rfl⟩ := trodAll_nil r2
  obtain rfl : args = #[v0, v1, v2] := by cases args; simp_all
  obtain ⟨rfl, rfl⟩ := trodVars_none hV
  have lt0 : ∀ x ∈ p0, x.block < W.heap.size := by obtain ⟨m, hm⟩ := h0; exact DataW.trod_lt m _ _ _ hm
  have lt1 : ∀ x ∈ p1, x.block < W.heap.size := by obtain ⟨m, hm⟩ := h1; exact DataW.trod_lt m _ _ _ hm
  have lt2 : ∀ x ∈ p2, x.block < W.heap.size := by obtain ⟨m, hm⟩ := h2; exact DataW.trod_lt m _ _ _ hm
  obtain ⟨y0, hv0, _, _, wx0⟩ := open_int Try.underlying5 (hval 0 5 v0 rfl rfl) h0
  subst hv0
  obtain ⟨x0, rfl, w0⟩ := wf_u8 wx0
  obtain ⟨a1, n1, c1, rfl⟩ := okWide_slice Try.underlying23 (hval 1 23 v1 rfl rfl)
  obtain ⟨l1, w1, x1⟩ := open_steps14 h1
  obtain ⟨a2, n2, c2, rfl⟩ := okWide_slice Try.underlying23 (hval 2 23 v2 rfl rfl)
  obtain ⟨l2, w2, x2⟩ := open_steps14 h2
  clear hA0 hval0
  refine (downMutes_walk W x0 w0 l1 a1 n1 c1 w1 x1 l2 a2 n2 c2 w2 x2).mono fun e W' ⟨he, bel⟩ => ?_
  subst he
  exact ⟨_, rfl, _, _, _, [], _, [], hW', trodAll_mk1 (shut_bool Try.underlying4 _), (trodAll_cons_mk (Below.trod laidOut (by kernel_rfl) (of_decide_eq_true (by kernel_rfl)) h0 bel lt0) (trodAll_cons_mk (Below.trod laidOut (by kernel_rfl) (of_decide_eq_true (by kernel_rfl)) h1 bel lt1) (trodAll_cons_mk (Below.trod laidOut (by kernel_rfl) (of_decide_eq_true (by kernel_rfl)) h2 bel lt2) trodAll_mk0))), rfl, bel.frame _, fun h => by cases h⟩

theorem over : Rows.downMutesRow.holds Try.pinned (OpenSpec.ofChange Rows.downMutesSpec) :=
  OpenClaim.holds_of_wide 9 Try.f9 rfl rfl rfl rfl rfl rfl rfl ⟨rfl, rfl, rfl, rfl, rfl⟩ rfl rfl rfl rfl rfl (by kernel_rfl) Try.func9 (by kernel_rfl)
    (of_decide_eq_true (by kernel_rfl)) (by unfold Func.isWrapper; first | (rw [if_pos (by decide +kernel)]; kernel_rfl) | (rw [if_neg (by decide +kernel)]; exact ⟨rfl, rfl⟩))
    (fun os started H enc _ => lifted os started H enc)

/-- THE STATEMENT. -/
theorem proved : Rows.DownMutesSaid := over
#print axioms proved
end Go.Proofs.Ytekioihjfggmdaa.downMutes
