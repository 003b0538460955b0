/- Texts of one claim, laid together: DownJ DownCounts DownStreams DownK DownOrder RowDownOrder -/
import Derived.ShutString
import Derived.ChangeOld
import Derived.OpenShut
import Derived.Test.YtekioihjfggmdaaJo24
import Derived.Test.YtekioihjfggmdaaJo26
import Derived.Test.YtekioihjfggmdaaJo27
/- down: what is sent. -/
namespace Go.Proofs.Ytekioihjfggmdaa
open Go.RowKit
set_option linter.unusedVariables false

theorem vpWr_length {b : List UInt8} (h : vpE b = 0) (pic tl0 : Nat) : (vpWr b pic tl0).length = b.length := by
  rw [vpWr, if_pos h, wrT_len, wrP_len]
theorem renum_err {p : Pk} (hp : p.err = 0) (hv : vpE p.payload = 0) (n : Nm) (ssrc : Nat) : (p.renum n ssrc).err = 0 := by
  rw [← hp]
  simp only [Pk.err, Pk.may, Pk.size, Pk.renum, vpWr_length hv]
  rfl
theorem Dn.does_out {d : Dn} {p : Pk} {f l what : Int} {b : List UInt8} (hk : d.nums.Bd 1000) (hp : p.Ok) (h : (d.does p f l what).2 = some b) : ∃ n : Nm, n.Ok ∧ b = (p.renum n d.ssrc).out := by
  have hn := Pk.nm_ok hp
  unfold Dn.does at h
  split at h
  · cases h
  · split at h
    · cases h
    · split at h
      · injection h with h
        exact ⟨_, (hk.switch hn 3000).2, h.symm⟩
      · split at h
        · injection h with h
          exact ⟨_, (hk.send hn).2, h.symm⟩
        · cases h
theorem Dn.take_some {d : Dn} {i : Nat} (hk : d.Ok i) (hi : i ≤ 1000) {p : Pk} (hp : p.Ok) {f l : Int} {x : Wnt} {mu : Bool} {b : List UInt8} (h : (d.take p f l x mu).2.1 = some b) :
    mu = false ∧ vpE p.payload = 0 ∧ ∃ n : Nm, n.Ok ∧ (p.renum n d.ssrc).err = 0 ∧ b = (p.renum n d.ssrc).bytes := by
  cases mu
  · simp only [Dn.take, Bool.false_eq_true, if_false] at h
    by_cases hb : vpE p.payload ≠ 0 ∨ p.err ≠ 0
    · rw [Dn.take1, if_pos hb] at h
      cases h
    · rw [Dn.take1, if_neg hb] at h
      obtain ⟨hv, he⟩ := not_or.1 hb
      have hv' : vpE p.payload = 0 := Classical.not_not.1 hv
      have he' : p.err = 0 := Classical.not_not.1 he
      obtain ⟨n, hn, e⟩ := Dn.does_out (d := d.setPick (d.pick.take (p.inn f l) x).1) ⟨by have := hk.high; show _ ≤ d.nums.high ∧ d.nums.high ≤ _; omega, by have := hk.since; show _ ≤ d.nums.since ∧ d.nums.since ≤ _; omega, hk.off, hk.out⟩ hp h
      have er := renum_err he' hv' n d.ssrc
      refine ⟨rfl, hv', n, hn, er, ?_⟩
      rw [e]
      show (p.renum n d.ssrc).out = _
      rw [Pk.out, if_pos er]
  · simp [Dn.take] at h
end Go.Proofs.Ytekioihjfggmdaa

/- DownCounts: the walk. -/
namespace Go.Proofs.Ytekioihjfggmdaa
open Go.RowKit
set_option linter.unusedVariables false

theorem fewS_at {l : List Stp} (h : fewS l = true) (k : Nat) (hk : k < l.length) : l[k].p.few = true := by
  rw [fewS, Bool.and_eq_true] at h
  exact List.all_eq_true.1 h.1 _ (List.getElem_mem hk)
theorem fewS_len {l : List Stp} (h : fewS l = true) : l.length ≤ 120 := by
  rw [fewS, Bool.and_eq_true] at h
  simpa using h.2
theorem step_range {w wr : World} {b o : Nat} {x : Stp} {v5 v6 v7 : Value} (hl : Le w wr) (hc : ∀ j, j < 15 → w.cell? ⟨b, o + j, none⟩ = (x.cells v5 v6 v7)[j]?) : wr.rangeAt b o (x.cells v5 v6 v7) := fun j v hj => by
  refine hl.cell ?_
  have h15 : j < 15 := by
    have := (List.getElem?_eq_some_iff.1 hj).1
    simpa [Stp.cells] using this
  rw [hc j h15, hj]

set_option maxRecDepth 100000 in
set_option maxHeartbeats 4000000 in
theorem downCounts_walk (w : World) (room : Nat) (hroom : room < 256) (l : List Stp) (A : Option Addr) (n cap : Nat) (hr : RSl 15 RStp w l (.slice A n cap)) (hl : l.length ≤ 9223372036854775807) : Calls Try.prog 8 #[.int .u8 room, .slice A n cap] w (Gives w (.bool true)) := by
  have HR := hide hr
  obtain ⟨A', cap', hv, hcap, hi⟩ := hr
  injection hv with e1 e2 e3
  subst e1 e2 e3
  have HI := hide hi
  clear hi
  have HFEW := hide (fun W (hW : Le w W) => few14_any l A cap W (hW.rsl keeps_stp HR.out) hl)
  go_enter Try.func8, Try.ntmps8
  go_wp2_with fail
  refine (awake14 _).mono ?_
  rintro r w1 ⟨rfl, hb1⟩
  have HL1 := hide (show Le w w1 from ⟨hb1⟩)
  clear hb1
  go_wp2_with fail
  refine (HFEW.out _ HL1.out).mono ?_
  rintro r w2 ⟨rfl, hb2⟩
  have HL2 := hide (HL1.out.trans ⟨hb2⟩)
  clear hb2 HL1 HFEW
  cases hf : fewS l
  · go_wp2_with fail
    go_ret
    exact ⟨rfl, HL2.out.out⟩
  have hlen := fewS_len hf
  have HF := hide hf
  clear hf
  obtain ⟨M, hM⟩ : ∃ M, M = room % 9 := ⟨_, rfl⟩
  obtain ⟨N, hN⟩ : ∃ N, N = M + 1 := ⟨_, rfl⟩
  have hN1 : 0 < N ∧ N ≤ 9 := by omega
  have HNEW := hide (downNew_any 3 N hN1.1 (by omega) w2)
  have q1 : (room : Int).tmod 9 = (M : Int) := by rw [hM]; rfl
  have q2 : IntKind.u8.wrap (M : Int) = M := by simp [IntKind.wrap, IntKind.signed, IntKind.bits]; omega
  have q3 : (M : Int) + 1 = (N : Int) := by omega
  have q4 : IntKind.i64.wrap (N : Int) = N := IntWalk.i64_in _ (by omega)
  have q5 : IntKind.i64.wrap (M : Int) = M := IntWalk.i64_in _ (by omega)
  clear hM hN
  go_wp2_with fail
  refine HNEW.out.mono ?_
  rintro e w3 ⟨L, vs0, rfl, hd0, hS0, hb3⟩
  have HS := hide (fun k hk => Nat.le_trans HL2.out.size (hS0 k hk))
  have H3 := hide (And.intro hd0 (HL2.out.trans ⟨hb3⟩))
  clear hd0 hS0 hb3 HNEW q1 q2 q3 q4 q5
  go_wp2_with fail
  go_loopw [8, 9] (fun s j wr => ∃ (k : Nat) (d : Dn) (vs : List Value), k ≤ l.length ∧ j = .int .i64 k ∧ s = .int .i64 (d.sent : Nat) ∧ DnAt wr L k d vs ∧ d.Ok k ∧ Le w wr) (fun s j _ => l.length - (intOf j).toNat)
  case atStart => exact ⟨0, Dn.new 3 N, vs0, Nat.zero_le _, rfl, rfl, H3.out.1, Dn.new_ok (by decide) hN1.1 (by omega), H3.out.2⟩
  case round =>
    clear H3
    obtain ⟨k, d, vs, hk, rfl, rfl, hd, hok, hle⟩ := hrel
    by_cases hlt : k < l.length
    · obtain ⟨b, off, rfl, hg⟩ := HI.out (by rintro rfl; simp at hlt)
      obtain ⟨cs, _, hc, v5, v6, v7, hcs, hP, hN⟩ := hg k hlt
      subst hcs
      have hp := hN.ok (fewS_at HF.out k hlt)
      have hltI : (k : Int) < (l.length : Int) := by omega
      generalize l[k] = x at *
      have HRNG := hide (step_range hle hc)
      have hok' := Dn.take_ok hok x.p hp x.src x.layer x.want x.muted
      have hsent := Dn.take_sent d x.p x.src x.layer x.want x.muted
      have HTK := hide (fun W (hW : Le wr W) => downTake_any (hd.le hW) hok (by omega) x.p hp v5 v6 v7 (PdAt.old hP (hle.trans hW).out HS.out) (by omega) x.src x.layer x.want x.muted)
      obtain ⟨A5, c5, rfl, _, _⟩ := id hP.csrc
      obtain ⟨A6, c6, rfl, _, _⟩ := id hP.exts
      obtain ⟨A7, c7, rfl, _, _⟩ := id hP.payload
      generalize d.take x.p x.src x.layer x.want x.muted = r at *
      obtain ⟨d', o, ask⟩ := r
      dsimp only at hok' hsent
      have hcnt := hok'.cnt
      have HOK := hide hok'
      have HLE := hide hle
      clear hc hg hP hN hp hd hok hok' hle
      obtain ⟨p, sr, la, wn, mu⟩ := x
      obtain ⟨ws, wl, wt⟩ := wn
      obtain ⟨mk, ty, sq, tm, ss, cs, ex, pl, pd⟩ := p
      simp only [Stp.cells, Pk.val, Wnt.val] at HRNG HTK
      go_upto_region 13 with (first | (refine wpList_load_mid rfl 50 (.tmp 35) rfl b (off + k * 15) rfl [.bool mk, .int .u8 ty, .int .u16 sq, .int .u32 tm, .int .u32 ss, .slice A5 cs.length c5, .slice A6 ex.length c6, .slice A7 pl.length c7, .int .i64 pd, .int .i64 sr, .int .i64 la, .int .i64 ws, .int .i64 wl, .int .i64 wt, .bool mu] _ HRNG.out Try.underlying50 rfl (by kernel_rfl) ?_) | (refine wpl_store_blk rfl 50 (.tmp 10) (.tmp 36) (cs := [.bool mk, .int .u8 ty, .int .u16 sq, .int .u32 tm, .int .u32 ss, .slice A5 cs.length c5, .slice A6 ex.length c6, .slice A7 pl.length c7, .int .i64 pd, .int .i64 sr, .int .i64 la, .int .i64 ws, .int .i64 wl, .int .i64 wt, .bool mu]) rfl rfl rfl (by kernel_rfl) (by simp [Value.oneCell']) (heap_alloc_new _ _) rfl ?_; intro wz hn hgz; have HZ := hide (And.intro hn (((Le.refl wr).alloc _).boxed hgz (Nat.le_refl _))); clear hn hgz))
      have HTZ := hide (HTK.out wz HZ.out.2)
      have y9 : wz.cell? ⟨wr.heap.size, 9, none⟩ = some (.int .i64 sr) := box_cell HZ.out.1 9 _ rfl _ (Le.refl _)
      have y10 : wz.cell? ⟨wr.heap.size, 10, none⟩ = some (.int .i64 la) := box_cell HZ.out.1 10 _ rfl _ (Le.refl _)
      have y14 : wz.cell? ⟨wr.heap.size, 14, none⟩ = some (.bool mu) := box_cell HZ.out.1 14 _ rfl _ (Le.refl _)
      generalize wr.heap.size = g at *
      clear HTK HRNG
      go_wp2_with (first | (refine wpl_load_in rfl 46 (.tmp 39) rfl [] [.bool mk, .int .u8 ty, .int .u16 sq, .int .u32 tm, .int .u32 ss, .slice A5 cs.length c5, .slice A6 ex.length c6, .slice A7 pl.length c7, .int .i64 pd] [.int .i64 sr, .int .i64 la, .int .i64 ws, .int .i64 wl, .int .i64 wt, .bool mu] _ rfl Try.underlying46 rfl (by kernel_rfl) HZ.out.1 ?_) | (refine wpl_load_in rfl 48 (.tmp 45) rfl [.bool mk, .int .u8 ty, .int .u16 sq, .int .u32 tm, .int .u32 ss, .slice A5 cs.length c5, .slice A6 ex.length c6, .slice A7 pl.length c7, .int .i64 pd, .int .i64 sr, .int .i64 la] [.int .i64 ws, .int .i64 wl, .int .i64 wt] [.bool mu] _ rfl Try.underlying48 rfl (by kernel_rfl) HZ.out.1 ?_))
      refine HTZ.out.mono ?_
      rintro e w9 ⟨v, vs9, rfl, hd9, hr9, hf9⟩
      have hle9 : Le w w9 := ⟨hf9.below (HLE.out.trans HZ.out.2).out (HLE.out.trans HZ.out.2).size HS.out⟩
      have H9 := hide (And.intro hd9 hle9)
      have HCN := hide (fun W (hW : Le w9 W) => downCount_any (hd9.le hW))
      clear y9 y10 y14 hd9 hr9 hf9 hle9 HTZ
      dsimp only at HCN H9 ⊢
      simp only [Dn.countV] at HCN
      obtain ⟨dss, dpk, dnm, dst, S, Lf, Dr, La, Ba⟩ := d'
      dsimp only at hcnt hsent HCN
      generalize o.isSome = is at *
      generalize hdS : d.sent = S0 at *
      clear hdS
      obtain ⟨T1, hT1⟩ : ∃ T1, T1 = S + Lf := ⟨_, rfl⟩
      obtain ⟨T2, hT2⟩ : ∃ T2, T2 = T1 + Dr := ⟨_, rfl⟩
      obtain ⟨T3, hT3⟩ : ∃ T3, T3 = T2 + La := ⟨_, rfl⟩
      have e1 : (S : Int) + (Lf : Int) = (T1 : Int) := by omega
      have e2 : (T1 : Int) + (Dr : Int) = (T2 : Int) := by omega
      have e3 : (T2 : Int) + (La : Int) = (T3 : Int) := by omega
      have e4 : (T3 : Int) + (Ba : Int) = (k : Int) + 1 := by omega
      have t1 : IntKind.i64.wrap (T1 : Int) = T1 := IntWalk.i64_in _ (by omega)
      have t2 : IntKind.i64.wrap (T2 : Int) = T2 := IntWalk.i64_in _ (by omega)
      have t3 : IntKind.i64.wrap (T3 : Int) = T3 := IntWalk.i64_in _ (by omega)
      have hS : S ≤ 121 := by omega
      clear hcnt hT1 hT2 hT3
      cases is
      · have hSS : S = S0 := by simpa using hsent
        subst hSS
        clear hsent
        go_wp2_with fail
        refine (HCN.out _ (Le.refl _)).mono ?_
        rintro e w10 ⟨rfl, hb10⟩
        have H10 := hide (And.intro (H9.out.1.le ⟨hb10⟩) (H9.out.2.trans ⟨hb10⟩))
        clear hb10 HCN H9
        go_wp2_with fail
        go_roundw
        case rel => exact ⟨k + 1, _, vs9, by omega, by go_num, rfl, H10.out.1.le ((Le.refl _).alloc _), HOK.out, H10.out.2.alloc _⟩
        case measure => simp [intOf]; omega
      · have hSS : S = S0 + 1 := by simpa using hsent
        have e5 : (S0 : Int) + 1 = (S : Int) := by omega
        have t5 : IntKind.i64.wrap (S : Int) = S := IntWalk.i64_in _ (by omega)
        clear hsent hSS
        go_wp2_with fail
        refine (HCN.out _ (Le.refl _)).mono ?_
        rintro e w10 ⟨rfl, hb10⟩
        have H10 := hide (And.intro (H9.out.1.le ⟨hb10⟩) (H9.out.2.trans ⟨hb10⟩))
        clear hb10 HCN H9
        go_wp2_with fail
        go_roundw
        case rel => exact ⟨k + 1, _, vs9, by omega, by go_num, rfl, H10.out.1.le ((Le.refl _).alloc _), HOK.out, H10.out.2.alloc _⟩
        case measure => simp [intOf]; omega
    · have hltI : ¬ (k : Int) < (l.length : Int) := by omega
      have HB := hide hle
      clear hd hok hle
      go_wp2_with fail
      go_ret
      exact ⟨rfl, HB.out.out⟩
end Go.Proofs.Ytekioihjfggmdaa

/- DownStreams: the walk. -/
namespace Go.Proofs.Ytekioihjfggmdaa
open Go.RowKit
set_option linter.unusedVariables false

theorem Ch.is_iff {s : Ch} {f l : Int} : s.is f l = true ↔ s.on = true ∧ s.src = f ∧ s.layer = l := by
  simp only [Ch.is, Bool.and_eq_true, decide_eq_true_eq]
  constructor
  · rintro ⟨a, b, c⟩; exact ⟨a, b.symm, c.symm⟩
  · rintro ⟨a, b, c⟩; exact ⟨a, b.symm, c.symm⟩
theorem does_pick (d : Dn) (p : Pk) (f l what : Int) : (d.does p f l what).1.pick = d.pick := by
  unfold Dn.does
  split
  · rfl
  · split
    · rfl
    · split
      · rfl
      · split <;> rfl
theorem does_some {d : Dn} {p : Pk} {f l what : Int} (h : (d.does p f l what).2.isSome = true) : what ≠ 0 ∧ what ≠ 2 := by
  unfold Dn.does at h
  split at h
  · cases h
  · split at h
    · cases h
    · exact ⟨by assumption, by assumption⟩
/-- what is sent is of one stream until another one begins -/
theorem Dn.take_stream (d : Dn) (p : Pk) (f l : Int) (x : Wnt) (mu : Bool) :
    ((d.take p f l x mu).1.pick.on = true → mu = false ∧ (((d.take p f l x mu).2.1.isSome = true ∧ (d.take p f l x mu).1.pick.src = f ∧ (d.take p f l x mu).1.pick.layer = l) ∨ (d.pick.on = true ∧ (d.take p f l x mu).1.pick.src = d.pick.src ∧ (d.take p f l x mu).1.pick.layer = d.pick.layer))) ∧
    ((d.take p f l x mu).2.1.isSome = true → mu = false ∧ ((d.take p f l x mu).1.pick.on = true ∧ (d.take p f l x mu).1.pick.src = f ∧ (d.take p f l x mu).1.pick.layer = l) ∧ ((d.pick.on = true ∧ d.pick.src = f ∧ d.pick.layer = l) ∨ (vpW p.payload = true ∧ f = x.src ∧ l = x.layer ∧ (d.take p f l x mu).2.2 = false))) := by
  cases mu
  · by_cases hb : vpE p.payload ≠ 0 ∨ p.err ≠ 0
    · have e : d.take1 p f l x = ((if d.pick.is f l then d.setNums (d.nums.drop ⟨p.seq, 0, 0, 0⟩ false) else d).addBad, none) := by rw [Dn.take1, if_pos hb]
      have ep : (d.take1 p f l x).1.pick = d.pick := by rw [e]; dsimp only; split <;> rfl
      have e2 : (d.take1 p f l x).2 = none := by rw [e]
      simp only [Dn.take, ep, e2]
      simp
      intro h
      rw [ep] at h ⊢
      exact ⟨h, rfl, rfl⟩
    · have e : d.take1 p f l x = (d.setPick (d.pick.take (p.inn f l) x).1).does p f l (d.pick.take (p.inn f l) x).2 := by rw [Dn.take1, if_neg hb]
      have ep : (d.take1 p f l x).1.pick = (d.pick.take (p.inn f l) x).1 := by rw [e, does_pick]; rfl
      have hs : (d.take1 p f l x).2.isSome = true → (d.pick.take (p.inn f l) x).2 ≠ 0 ∧ (d.pick.take (p.inn f l) x).2 ≠ 2 := fun h => does_some (by rw [← e]; exact h)
      have h3 : (d.pick.take (p.inn f l) x).2 = 3 → (d.take1 p f l x).2.isSome = true := fun h => by rw [e, h]; rfl
      simp only [Dn.take, Bool.false_eq_true, if_false, ep]
      generalize (d.take1 p f l x).2.isSome = S at *
      clear e ep
      by_cases his : d.pick.is f l = true
      · have his' := Ch.is_iff.1 his
        have hp1 : (d.pick.take (p.inn f l) x).1.on = d.pick.on ∧ (d.pick.take (p.inn f l) x).1.src = d.pick.src ∧ (d.pick.take (p.inn f l) x).1.layer = d.pick.layer := by
          unfold Ch.take
          rw [if_pos (show d.pick.is (p.inn f l).src (p.inn f l).layer = true from his)]
          dsimp only
          split <;> exact ⟨rfl, rfl, rfl⟩
        refine ⟨fun _ => ⟨trivial, .inr ⟨his'.1, hp1.2.1, hp1.2.2⟩⟩, fun _ => ⟨trivial, ⟨hp1.1.trans his'.1, hp1.2.1.trans his'.2.1, hp1.2.2.trans his'.2.2⟩, .inl his'⟩⟩
      · by_cases hw : f = x.src ∧ l = x.layer ∧ (p.inn f l).begin_ = true ∧ (p.inn f l).whole = true
        · have et : d.pick.take (p.inn f l) x = (⟨true, x.src, x.layer, x.tid⟩, 3) := by
            unfold Ch.take
            rw [if_neg (show ¬ d.pick.is (p.inn f l).src (p.inn f l).layer = true from his), if_pos (show (p.inn f l).src = x.src ∧ (p.inn f l).layer = x.layer ∧ (p.inn f l).begin_ = true ∧ (p.inn f l).whole = true from hw)]
          rw [et] at h3 ⊢
          have hS := h3 rfl
          obtain ⟨w1, w2, w3, w4⟩ := hw
          refine ⟨fun _ => ⟨trivial, .inl ⟨hS, w1.symm, w2.symm⟩⟩, fun _ => ⟨trivial, ⟨rfl, w1.symm, w2.symm⟩, .inr ⟨w4, w1, w2, ?_⟩⟩⟩
          simp [Ch.asks, Ch.is]
        · have et : d.pick.take (p.inn f l) x = (d.pick, 0) := by
            unfold Ch.take
            rw [if_neg (show ¬ d.pick.is (p.inn f l).src (p.inn f l).layer = true from his), if_neg (show ¬ ((p.inn f l).src = x.src ∧ (p.inn f l).layer = x.layer ∧ (p.inn f l).begin_ = true ∧ (p.inn f l).whole = true) from hw)]
          rw [et] at hs ⊢
          refine ⟨fun h => ⟨trivial, .inr ⟨h, rfl, rfl⟩⟩, fun h => absurd rfl (hs h).1⟩
  · refine ⟨fun h => ?_, fun h => ?_⟩
    · simp [Dn.take, Dn.mute, Dn.addLeft, Dn.setPick] at h
    · simp [Dn.take] at h

set_option maxRecDepth 100000 in
set_option maxHeartbeats 4000000 in
theorem downStreams_walk (w : World) (l : List Stp) (A : Option Addr) (n cap : Nat) (hr : RSl 15 RStp w l (.slice A n cap)) (hl : l.length ≤ 9223372036854775807) : Calls Try.prog 6 #[.slice A n cap] w (Gives w (.bool true)) := by
  have HR := hide hr
  obtain ⟨A', cap', hv, hcap, hi⟩ := hr
  injection hv with e1 e2 e3
  subst e1 e2 e3
  have HI := hide hi
  clear hi
  have HFEW := hide (fun W (hW : Le w W) => few14_any l A cap W (hW.rsl keeps_stp HR.out) hl)
  go_enter Try.func6, Try.ntmps6
  go_wp2_with fail
  refine (awake14 _).mono ?_
  rintro r w1 ⟨rfl, hb1⟩
  have HL1 := hide (show Le w w1 from ⟨hb1⟩)
  clear hb1
  go_wp2_with fail
  refine (HFEW.out _ HL1.out).mono ?_
  rintro r w2 ⟨rfl, hb2⟩
  have HL2 := hide (HL1.out.trans ⟨hb2⟩)
  clear hb2 HL1 HFEW
  cases hf : fewS l
  · go_wp2_with fail
    go_ret
    exact ⟨rfl, HL2.out.out⟩
  have hlen := fewS_len hf
  have HF := hide hf
  clear hf
  have HNEW := hide (downNew_any 5 200 (by decide) (by decide) w2)
  go_wp2_with fail
  refine HNEW.out.mono ?_
  rintro e w3 ⟨L, vs0, rfl, hd0, hS0, hb3⟩
  have HS := hide (fun k hk => Nat.le_trans HL2.out.size (hS0 k hk))
  have H3 := hide (And.intro hd0 (HL2.out.trans ⟨hb3⟩))
  clear hd0 hS0 hb3 HNEW
  go_wp2_with fail
  go_loopw [6, 7, 8, 9] (fun on fr ly j wr => ∃ (k : Nat) (d : Dn) (vs : List Value) (o : Bool) (F Y : Int), k ≤ l.length ∧ j = .int .i64 k ∧ on = .bool o ∧ fr = .int .i64 F ∧ ly = .int .i64 Y ∧ DnAt wr L k d vs ∧ d.Ok k ∧ Hd (d.pick.on = true → o = true ∧ F = d.pick.src ∧ Y = d.pick.layer) ∧ Le w wr) (fun on fr ly j _ => l.length - (intOf j).toNat)
  case atStart => exact ⟨0, Dn.new 5 200, vs0, false, 0, 0, Nat.zero_le _, rfl, rfl, rfl, rfl, H3.out.1, Dn.new_ok (by decide) (by decide) (by decide), hide (fun h => by cases h), H3.out.2⟩
  case round =>
    clear H3
    obtain ⟨k, d, vs, o0, F, Y, hk, rfl, rfl, rfl, rfl, hd, hok, HJ, hle⟩ := hrel
    by_cases hlt : k < l.length
    · obtain ⟨b, off, rfl, hg⟩ := HI.out (by rintro rfl; simp at hlt)
      obtain ⟨cs, _, hc, v5, v6, v7, hcs, hP, hN⟩ := hg k hlt
      subst hcs
      have hp := hN.ok (fewS_at HF.out k hlt)
      have hltI : (k : Int) < (l.length : Int) := by omega
      generalize l[k] = x at *
      have HRNG := hide (step_range hle hc)
      have hok' := Dn.take_ok hok x.p hp x.src x.layer x.want x.muted
      have hstr := Dn.take_stream d x.p x.src x.layer x.want x.muted
      have HTK := hide (fun W (hW : Le wr W) => downTake_any (hd.le hW) hok (by omega) x.p hp v5 v6 v7 (PdAt.old hP (hle.trans hW).out HS.out) (by omega) x.src x.layer x.want x.muted)
      obtain ⟨A5, c5, rfl, _, _⟩ := id hP.csrc
      obtain ⟨A6, c6, rfl, _, _⟩ := id hP.exts
      obtain ⟨A7, c7, rfl, _, _⟩ := id hP.payload
      have HWH := hide (fun W (hW : Le w W) => whole_any A7 c7 x.p.payload W (hW.rsl keeps_u8 hP.payload) (by have := hp.np; omega) (vpD_ok x.p.payload).part)
      generalize d.take x.p x.src x.layer x.want x.muted = r at *
      obtain ⟨d', o, ask⟩ := r
      dsimp only at hok' hstr
      have HST := hide hstr
      have HOK := hide hok'
      have HLE := hide hle
      have HDD := hide hd
      clear hc hg hP hN hp hd hok hok' hle hstr
      obtain ⟨p, sr, la, wn, mu⟩ := x
      obtain ⟨ws, wl, wt⟩ := wn
      obtain ⟨mk, ty, sq, tm, ss, cs, ex, pl, pd⟩ := p
      simp only [Stp.cells, Pk.val, Wnt.val] at HRNG HTK HST HWH
      generalize d.pick = pk0 at *
      go_upto_region 15 with (first | (refine wpList_load_mid rfl 50 (.tmp 31) rfl b (off + k * 15) rfl [.bool mk, .int .u8 ty, .int .u16 sq, .int .u32 tm, .int .u32 ss, .slice A5 cs.length c5, .slice A6 ex.length c6, .slice A7 pl.length c7, .int .i64 pd, .int .i64 sr, .int .i64 la, .int .i64 ws, .int .i64 wl, .int .i64 wt, .bool mu] _ HRNG.out Try.underlying50 rfl (by kernel_rfl) ?_) | (refine wpl_store_blk rfl 50 (.tmp 10) (.tmp 32) (cs := [.bool mk, .int .u8 ty, .int .u16 sq, .int .u32 tm, .int .u32 ss, .slice A5 cs.length c5, .slice A6 ex.length c6, .slice A7 pl.length c7, .int .i64 pd, .int .i64 sr, .int .i64 la, .int .i64 ws, .int .i64 wl, .int .i64 wt, .bool mu]) rfl rfl rfl (by kernel_rfl) (by simp [Value.oneCell']) (heap_alloc_new _ _) rfl ?_; intro wz hn hgz; have HZ := hide (And.intro hn (((Le.refl wr).alloc _).boxed hgz (Nat.le_refl _))); clear hn hgz))
      have HTZ := hide (HTK.out wz HZ.out.2)
      have HNS := hide ((HDD.out.le HZ.out.2).notS HZ.out.1 (by decide) (by decide) (by decide))
      have y9 : wz.cell? ⟨wr.heap.size, 9, none⟩ = some (.int .i64 sr) := box_cell HZ.out.1 9 _ rfl _ (Le.refl _)
      have y10 : wz.cell? ⟨wr.heap.size, 10, none⟩ = some (.int .i64 la) := box_cell HZ.out.1 10 _ rfl _ (Le.refl _)
      have y14 : wz.cell? ⟨wr.heap.size, 14, none⟩ = some (.bool mu) := box_cell HZ.out.1 14 _ rfl _ (Le.refl _)
      generalize wr.heap.size = g at *
      clear HTK HRNG
      go_wp2_with (first | (refine wpl_load_in rfl 46 (.tmp 35) rfl [] [.bool mk, .int .u8 ty, .int .u16 sq, .int .u32 tm, .int .u32 ss, .slice A5 cs.length c5, .slice A6 ex.length c6, .slice A7 pl.length c7, .int .i64 pd] [.int .i64 sr, .int .i64 la, .int .i64 ws, .int .i64 wl, .int .i64 wt, .bool mu] _ rfl Try.underlying46 rfl (by kernel_rfl) HZ.out.1 ?_) | (refine wpl_load_in rfl 48 (.tmp 41) rfl [.bool mk, .int .u8 ty, .int .u16 sq, .int .u32 tm, .int .u32 ss, .slice A5 cs.length c5, .slice A6 ex.length c6, .slice A7 pl.length c7, .int .i64 pd, .int .i64 sr, .int .i64 la] [.int .i64 ws, .int .i64 wl, .int .i64 wt] [.bool mu] _ rfl Try.underlying48 rfl (by kernel_rfl) HZ.out.1 ?_))
      refine HTZ.out.mono ?_
      rintro e w9 ⟨v, vs9, rfl, hd9, hr9, hf9⟩
      have hle9 : Le w w9 := ⟨hf9.below (HLE.out.trans HZ.out.2).out (HLE.out.trans HZ.out.2).size HS.out⟩
      have hz9 : w9.heap[g]? = some (.cells [.bool mk, .int .u8 ty, .int .u16 sq, .int .u32 tm, .int .u32 ss, .slice A5 cs.length c5, .slice A6 ex.length c6, .slice A7 pl.length c7, .int .i64 pd, .int .i64 sr, .int .i64 la, .int .i64 ws, .int .i64 wl, .int .i64 wt, .bool mu].toArray 50 (0, 0)) := hf9.heap HZ.out.1 HNS.out
      have HZ9 := hide hz9
      have H9 := hide (And.intro hd9 hle9)
      clear y9 y10 y14 hd9 hr9 hf9 hle9 hz9 HTZ HDD HNS
      dsimp only at H9 ⊢
      generalize o.isSome = is at *
      have z7 : w9.cell? ⟨g, 7, none⟩ = some (.slice A7 pl.length c7) := box_cell HZ9.out 7 _ rfl _ (Le.refl _)
      have z9 : w9.cell? ⟨g, 9, none⟩ = some (.int .i64 sr) := box_cell HZ9.out 9 _ rfl _ (Le.refl _)
      have z10 : w9.cell? ⟨g, 10, none⟩ = some (.int .i64 la) := box_cell HZ9.out 10 _ rfl _ (Le.refl _)
      have z11 : w9.cell? ⟨g, 11, none⟩ = some (.int .i64 ws) := box_cell HZ9.out 11 _ rfl _ (Le.refl _)
      have z12 : w9.cell? ⟨g, 12, none⟩ = some (.int .i64 wl) := box_cell HZ9.out 12 _ rfl _ (Le.refl _)
      have z14 : w9.cell? ⟨g, 14, none⟩ = some (.bool mu) := box_cell HZ9.out 14 _ rfl _ (Le.refl _)
      cases is
      · have hj : d'.pick.on = true → mu = false ∧ (o0 = true ∧ F = d'.pick.src ∧ Y = d'.pick.layer) := fun h => by
          obtain ⟨h1, h2 | h2⟩ := HST.out.1 h
          · cases h2.1
          · obtain ⟨a, b, c⟩ := HJ.out h2.1
            exact ⟨h1, a, b.trans h2.2.1.symm, c.trans h2.2.2.symm⟩
        have HJ2 := hide hj
        clear hj
        cases mu
        · go_wp2_with fail
          go_roundw
          case rel => exact ⟨k + 1, d', vs9, o0, F, Y, by omega, by go_num, rfl, rfl, rfl, H9.out.1, HOK.out, hide (fun h => (HJ2.out h).2), H9.out.2⟩
          case measure => simp [intOf]; omega
        · go_wp2_with fail
          go_roundw
          case rel => exact ⟨k + 1, d', vs9, false, F, Y, by omega, by go_num, rfl, rfl, rfl, H9.out.1, HOK.out, hide (fun h => by cases (HJ2.out h).1), H9.out.2⟩
          case measure => simp [intOf]; omega
      · obtain ⟨rfl, hq, halt⟩ := HST.out.2 rfl
        have HQ := hide (show d'.pick.on = true → true = true ∧ sr = d'.pick.src ∧ la = d'.pick.layer from fun _ => ⟨rfl, hq.2.1.symm, hq.2.2.symm⟩)
        have hor : (o0 = true ∧ F = sr ∧ Y = la) ∨ (¬ (o0 = true ∧ F = sr ∧ Y = la) ∧ vpW pl = true ∧ sr = ws ∧ la = wl ∧ ask = false) := by
          by_cases hs : o0 = true ∧ F = sr ∧ Y = la
          · exact .inl hs
          · rcases halt with h | h
            · obtain ⟨a, b, c⟩ := HJ.out h.1
              exact absurd ⟨a, b.trans h.2.1, c.trans h.2.2⟩ hs
            · exact .inr ⟨hs, h⟩
        clear hq halt HST HJ
        rcases hor with ⟨rfl, rfl, rfl⟩ | ⟨hs, hw, rfl, rfl, rfl⟩
        · go_wp2_with fail
          go_roundw
          case rel => exact ⟨k + 1, d', vs9, true, _, _, by omega, by go_num, rfl, rfl, rfl, H9.out.1, HOK.out, hide (fun h => ⟨rfl, (HQ.out h).2⟩), H9.out.2⟩
          case measure => simp [intOf]; omega
        · rw [hw] at HWH
          clear hw
          have hth : o0 = false ∨ (o0 = true ∧ ¬ sr = F) ∨ (o0 = true ∧ F = sr ∧ ¬ la = Y) := by
            cases o0
            · exact .inl rfl
            · by_cases h1 : F = sr
              · exact .inr (.inr ⟨rfl, h1, fun h => hs ⟨rfl, h1, h.symm⟩⟩)
              · exact .inr (.inl ⟨rfl, fun h => h1 h.symm⟩)
          clear hs
          have HLW := hide (fun W (hW : Le w9 W) => H9.out.2.trans hW)
          rcases hth with rfl | ⟨rfl, h1⟩ | ⟨rfl, rfl, h1⟩
          all_goals
            try have h2 : (sr == F) = false := by rw [beq_eq_false_iff_ne]; exact h1
            try have h2 : (la == Y) = false := by rw [beq_eq_false_iff_ne]; exact h1
            go_wp2_with fail
            refine (HWH.out _ H9.out.2).mono ?_
            rintro e w11 ⟨rfl, hb11⟩
            have HB := hide (Le.mk hb11)
            clear hb11 z7 z9 z10 z11 z12 z14
            have x7 := box_cell HZ9.out 7 _ rfl _ HB.out
            have x9 := box_cell HZ9.out 9 _ rfl _ HB.out
            have x10 := box_cell HZ9.out 10 _ rfl _ HB.out
            have x11 := box_cell HZ9.out 11 _ rfl _ HB.out
            have x12 := box_cell HZ9.out 12 _ rfl _ HB.out
            have x14 := box_cell HZ9.out 14 _ rfl _ HB.out
            go_wp2_with fail
            go_roundw
            case rel => exact ⟨k + 1, d', vs9, true, _, _, by omega, by go_num, rfl, rfl, rfl, H9.out.1.le HB.out, HOK.out, hide (fun h => ⟨rfl, (HQ.out h).2⟩), H9.out.2.trans HB.out⟩
            case measure => simp [intOf]; omega
    · have hltI : ¬ (k : Int) < (l.length : Int) := by omega
      have HB := hide hle
      clear hd hok hle
      go_wp2_with fail
      go_ret
      exact ⟨rfl, HB.out.out⟩
end Go.Proofs.Ytekioihjfggmdaa

/- DownOrder: the plain law. -/
namespace Go.Proofs.Ytekioihjfggmdaa
open Go.RowKit
set_option linter.unusedVariables false

theorem near_next {h : Int} {x : Nat} (hx : x < 65536) (e : (h + 1) % 65536 = x) : near16 h x = h + 1 := by
  unfold near16 fromN
  have h1 : (((h % 65536).toNat : Nat) : Int) = h % 65536 := Int.toNat_of_nonneg (by omega)
  have h2 : ((x : Int) - ((h % 65536).toNat : Nat)) % ((65536 : Nat) : Int) = 1 := by omega
  rw [h2, if_neg (by decide)]
theorem less_self (a : Nat) : less32 a a = false := by
  simp [less32, fromN]
theorem less_step (a : Nat) (h : a < 4294967296) : less32 ((a + 3000) % 4294967296) a = false := by
  unfold less32 fromN
  rw [decide_eq_false_iff_not]
  split <;> omega

structure Jo (from_ i : Nat) (d : Dn) (any paused : Bool) (seq last : Nat) : Prop where
  pz : paused = !d.pick.on
  at0 : d.pick.on = true → d.pick.src = 0 ∧ d.pick.layer = 0
  any : any = d.nums.on
  last : d.nums.on = true → seq = d.nums.out.seq ∧ last = d.nums.out.time
  num : d.pick.on = true → d.nums.on = true ∧ (d.nums.high + 1) % 65536 = (((from_ + i) % 65536 : Nat) : Int) ∧ ((from_ + i) % 65536 + 65536 - d.nums.off.seq) % 65536 = (d.nums.out.seq + 1) % 65536

theorem jo_drop {s : Ms} {from_ i : Nat} {n : Nm} {b : Bool} (hn : n.seq = (from_ + i) % 65536) (ho : s.off.seq < 65536) (h1 : s.on = true) (h2 : (s.high + 1) % 65536 = (((from_ + i) % 65536 : Nat) : Int)) (h3 : ((from_ + i) % 65536 + 65536 - s.off.seq) % 65536 = (s.out.seq + 1) % 65536) :
    (s.drop n b).on = true ∧ (s.drop n b).out = s.out ∧ ((s.drop n b).high + 1) % 65536 = (((from_ + (i + 1)) % 65536 : Nat) : Int) ∧ ((from_ + (i + 1)) % 65536 + 65536 - (s.drop n b).off.seq) % 65536 = (s.out.seq + 1) % 65536 := by
  have hx : near16 s.high n.seq = s.high + 1 := near_next (by omega) (by rw [hn]; exact h2)
  simp only [Ms.drop]
  rw [if_neg (by rw [h1, hx]; intro h; rcases h with h | h; cases h; omega), hx]
  refine ⟨rfl, rfl, ?_, ?_⟩
  · dsimp only; omega
  · dsimp only; omega

theorem jo_send {s : Ms} {from_ i : Nat} {n : Nm} (hn : n.seq = (from_ + i) % 65536) (ho : s.off.seq < 65536) (h1 : s.on = true) (h2 : (s.high + 1) % 65536 = (((from_ + i) % 65536 : Nat) : Int)) (h3 : ((from_ + i) % 65536 + 65536 - s.off.seq) % 65536 = (s.out.seq + 1) % 65536) :
    (s.send n).2.2 = true ∧ (s.send n).1.on = true ∧ (s.send n).1.out = (s.send n).2.1 ∧ (s.send n).2.1.seq = (s.out.seq + 1) % 65536 ∧ less32 (s.send n).2.1.time s.out.time = false ∧ ((s.send n).1.high + 1) % 65536 = (((from_ + (i + 1)) % 65536 : Nat) : Int) ∧ ((from_ + (i + 1)) % 65536 + 65536 - (s.send n).1.off.seq) % 65536 = ((s.send n).2.1.seq + 1) % 65536 := by
  have hx : near16 s.high n.seq = s.high + 1 := near_next (by omega) (by rw [hn]; exact h2)
  simp only [Ms.send]
  rw [if_neg (by rw [h1, hx]; intro h; rcases h with h | h; cases h; omega), if_neg (by rw [hx]; omega), hx]
  have hq : (s.off.from n).seq = (s.out.seq + 1) % 65536 := by simp only [Nm.from, hn]; exact h3
  refine ⟨rfl, rfl, rfl, hq, ?_, ?_, ?_⟩
  · dsimp only
    by_cases hl : less32 (s.off.from n).time s.out.time = true
    · rw [if_pos hl]; exact less_self _
    · rw [if_neg hl]; simpa using hl
  · dsimp only; omega
  · dsimp only; rw [hq]; omega

theorem jo_switch {s : Ms} {from_ i : Nat} {n : Nm} (hn : n.seq = (from_ + i) % 65536) (ho : s.out.Ok) (hnt : n.Ok) :
    (s.switch n 3000).1.on = true ∧ (s.switch n 3000).1.out = (s.switch n 3000).2 ∧ (s.on = true → (s.switch n 3000).2.seq = (s.out.seq + 1) % 65536 ∧ less32 (s.switch n 3000).2.time s.out.time = false) ∧ ((s.switch n 3000).1.high + 1) % 65536 = (((from_ + (i + 1)) % 65536 : Nat) : Int) ∧ ((from_ + (i + 1)) % 65536 + 65536 - (s.switch n 3000).1.off.seq) % 65536 = ((s.switch n 3000).2.seq + 1) % 65536 := by
  have hs : (if s.on then s.out.next 3000 else n).seq < 65536 := by
    split
    · exact Nat.mod_lt _ (by decide)
    · exact hnt.seq
  simp only [Ms.switch]
  refine ⟨trivial, trivial, fun h => ?_, ?_, ?_⟩
  · rw [if_pos h]
    exact ⟨rfl, less_step _ ho.time⟩
  · omega
  · simp only [Nm.from, hn]
    generalize (if s.on then s.out.next 3000 else n).seq = q at *
    omega

theorem out_bytes' {p : Pk} (h : p.err = 0) : p.out = p.bytes := by rw [Pk.out, if_pos h]

theorem jo_step {from_ i i' : Nat} {d : Dn} {any paused : Bool} {seq last : Nat} (h : Jo from_ i d any paused seq last) (hk : d.Ok i') {p : Pk} (hp : p.Ok) (hseq : p.seq = (from_ + i) % 65536) (x : Wnt) (mu : Bool) :
    ((d.take p 0 0 x mu).2.1 = none ∧ Jo from_ (i + 1) (d.take p 0 0 x mu).1 any (mu || paused) seq last) ∨
    (∃ n : Nm, n.Ok ∧ mu = false ∧ (p.renum n d.ssrc).err = 0 ∧ (d.take p 0 0 x mu).2.1 = some (p.renum n d.ssrc).bytes ∧ (any = true → n.seq = (seq + 1) % 65536 ∧ less32 n.time last = false) ∧ (paused = true → vpW p.payload = true) ∧ Jo from_ (i + 1) (d.take p 0 0 x mu).1 true false n.seq n.time) := by
  have hoff := hk.off.seq
  have hn := Pk.nm_ok hp
  cases mu
  · rw [show d.take p 0 0 x false = ((d.take1 p 0 0 x).1, (d.take1 p 0 0 x).2, (d.take1 p 0 0 x).1.pick.asks x) from rfl]
    dsimp only
    rw [Bool.false_or]
    by_cases hb : vpE p.payload ≠ 0 ∨ p.err ≠ 0
    · refine .inl ?_
      rw [Dn.take1, if_pos hb]
      refine ⟨rfl, ?_⟩
      cases hon : d.pick.on
      · have his : d.pick.is 0 0 = false := by simp [Ch.is, hon]
        rw [his]
        exact ⟨by rw [h.pz, hon]; simp [Dn.addBad, hon], fun e => by simp [Dn.addBad, hon] at e, h.any, h.last, fun e => by simp [Dn.addBad, hon] at e⟩
      · have h0 := h.at0 hon
        have his : d.pick.is 0 0 = true := Ch.is_iff.2 ⟨hon, h0⟩
        rw [his]
        obtain ⟨n1, n2, n3⟩ := h.num hon
        obtain ⟨d1, d2, d3, d4⟩ := jo_drop (b := false) (n := ⟨p.seq, 0, 0, 0⟩) hseq hoff n1 n2 n3
        refine ⟨h.pz, h.at0, ?_, ?_, ?_⟩
        · rw [h.any, n1]; exact d1.symm
        · intro _
          have := h.last n1
          show seq = (d.nums.drop ⟨p.seq, 0, 0, 0⟩ false).out.seq ∧ last = (d.nums.drop ⟨p.seq, 0, 0, 0⟩ false).out.time
          rw [d2]; exact this
        · intro _
          refine ⟨d1, d3, ?_⟩
          show _ = ((d.nums.drop ⟨p.seq, 0, 0, 0⟩ false).out.seq + 1) % 65536
          rw [d2]; exact d4
    · have e : d.take1 p 0 0 x = (d.setPick (d.pick.take (p.inn 0 0) x).1).does p 0 0 (d.pick.take (p.inn 0 0) x).2 := by rw [Dn.take1, if_neg hb]
      obtain ⟨hv, he⟩ := not_or.1 hb
      have hv' : vpE p.payload = 0 := Classical.not_not.1 hv
      have he' : p.err = 0 := Classical.not_not.1 he
      have er := fun n => renum_err he' hv' n d.ssrc
      rw [e]
      clear e hb hv he
      cases hon : d.pick.on
      · have his : ¬ d.pick.is (p.inn 0 0).src (p.inn 0 0).layer = true := by simp [Ch.is, hon]
        by_cases hw : (p.inn 0 0).src = x.src ∧ (p.inn 0 0).layer = x.layer ∧ (p.inn 0 0).begin_ = true ∧ (p.inn 0 0).whole = true
        · have et : d.pick.take (p.inn 0 0) x = (⟨true, x.src, x.layer, x.tid⟩, 3) := by unfold Ch.take; rw [if_neg his, if_pos hw]
          rw [et]
          dsimp only
          rw [show (d.setPick ⟨true, x.src, x.layer, x.tid⟩).does p 0 0 3 = ((((d.setPick ⟨true, x.src, x.layer, x.tid⟩).setNums (d.nums.switch p.nm 3000).1).send p (d.nums.switch p.nm 3000).2).1, some (p.renum (d.nums.switch p.nm 3000).2 d.ssrc).out) from rfl]
          obtain ⟨s1, s2, s3, s4, s5⟩ := jo_switch (n := p.nm) hseq hk.out hn
          refine .inr ⟨(d.nums.switch p.nm 3000).2, (hk.bd.switch hn 3000).2, rfl, er _, ?_, ?_, fun _ => hw.2.2.2, ?_⟩
          · dsimp only; rw [out_bytes' (er _)]
          · intro ha
            rw [h.any] at ha
            obtain ⟨l1, l2⟩ := h.last ha
            rw [l1, l2]
            exact s3 ha
          · refine ⟨rfl, fun _ => ⟨hw.1.symm, hw.2.1.symm⟩, s1.symm, fun _ => ?_, fun _ => ⟨s1, s4, ?_⟩⟩
            · show _ = (d.nums.switch p.nm 3000).1.out.seq ∧ _ = (d.nums.switch p.nm 3000).1.out.time
              rw [s2]; exact ⟨rfl, rfl⟩
            · show _ = ((d.nums.switch p.nm 3000).1.out.seq + 1) % 65536
              rw [s2]; exact s5
        · have et : d.pick.take (p.inn 0 0) x = (d.pick, 0) := by unfold Ch.take; rw [if_neg his, if_neg hw]
          rw [et]
          refine .inl ⟨rfl, h.pz, h.at0, h.any, h.last, fun e => ?_⟩
          have : d.pick.on = true := e
          rw [hon] at this; cases this
      · have h0 := h.at0 hon
        have his : d.pick.is (p.inn 0 0).src (p.inn 0 0).layer = true := Ch.is_iff.2 ⟨hon, h0⟩
        obtain ⟨n1, n2, n3⟩ := h.num hon
        have et : ∃ t k, d.pick.take (p.inn 0 0) x = (⟨d.pick.on, d.pick.src, d.pick.layer, t⟩, k) ∧ (k = 1 ∨ k = 2) := by
          unfold Ch.take
          rw [if_pos his]
          dsimp only
          split
          · exact ⟨_, 2, rfl, .inr rfl⟩
          · exact ⟨_, 1, rfl, .inl rfl⟩
        obtain ⟨t, k, et, hk12⟩ := et
        rw [et]
        dsimp only
        rcases hk12 with rfl | rfl
        · obtain ⟨s0, s1, s2, s3, s4, s5, s6⟩ := jo_send (n := p.nm) hseq hoff n1 n2 n3
          rw [show (d.setPick ⟨d.pick.on, d.pick.src, d.pick.layer, t⟩).does p 0 0 1 = if (d.nums.send p.nm).2.2 then ((((d.setPick ⟨d.pick.on, d.pick.src, d.pick.layer, t⟩).setNums (d.nums.send p.nm).1).send p (d.nums.send p.nm).2.1).1, some (p.renum (d.nums.send p.nm).2.1 d.ssrc).out) else (((d.setPick ⟨d.pick.on, d.pick.src, d.pick.layer, t⟩).setNums (d.nums.send p.nm).1).addLate, none) from rfl, if_pos s0]
          have hl := h.last n1
          refine .inr ⟨(d.nums.send p.nm).2.1, (hk.bd.send hn).2, rfl, er _, ?_, ?_, ?_, ?_⟩
          · dsimp only; rw [out_bytes' (er _)]
          · intro _
            rw [hl.1, hl.2]
            exact ⟨s3, s4⟩
          · intro hpz
            rw [h.pz, hon] at hpz
            cases hpz
          · refine ⟨by show false = !d.pick.on; rw [hon]; rfl, fun _ => h0, s1.symm, fun _ => ?_, fun _ => ⟨s1, s5, ?_⟩⟩
            · show _ = (d.nums.send p.nm).1.out.seq ∧ _ = (d.nums.send p.nm).1.out.time
              rw [s2]; exact ⟨rfl, rfl⟩
            · show _ = ((d.nums.send p.nm).1.out.seq + 1) % 65536
              rw [s2]; exact s6
        · obtain ⟨d1, d2, d3, d4⟩ := jo_drop (b := (vpD p.payload).begins) (n := p.nm) hseq hoff n1 n2 n3
          refine .inl ⟨rfl, h.pz, fun _ => h0, ?_, ?_, ?_⟩
          · rw [h.any, n1]; exact d1.symm
          · intro _
            have := h.last n1
            show seq = (d.nums.drop p.nm (vpD p.payload).begins).out.seq ∧ last = (d.nums.drop p.nm (vpD p.payload).begins).out.time
            rw [d2]; exact this
          · intro _
            refine ⟨d1, d3, ?_⟩
            show _ = ((d.nums.drop p.nm (vpD p.payload).begins).out.seq + 1) % 65536
            rw [d2]; exact d4
  · refine .inl ⟨rfl, rfl, fun e => (by cases e), h.any, h.last, fun e => (by cases e)⟩
theorem jo_new (from_ : Nat) (ssrc room : Nat) : Jo from_ 0 (Dn.new ssrc room) false true 0 0 :=
  ⟨rfl, fun e => (by cases e), rfl, fun e => (by cases e), fun e => (by cases e)⟩
end Go.Proofs.Ytekioihjfggmdaa

/- DownOrder: the walk. -/
namespace Go.Proofs.Ytekioihjfggmdaa
open Go.RowKit
set_option linter.unusedVariables false

set_option maxRecDepth 100000 in
set_option maxHeartbeats 8000000 in
theorem downOrder_walk (w : World) (from_ : Nat) (hfrom : from_ < 65536) (time : Nat) (htime : time < 4294967296) (l : List Stp) (A : Option Addr) (n cap : Nat) (hr : RSl 15 RStp w l (.slice A n cap)) (hl : l.length ≤ 9223372036854775807) : Calls Try.prog 5 #[.int .u16 from_, .int .u32 time, .slice A n cap] w (Gives w (.bool true)) := by
  have HR := hide hr
  obtain ⟨A', cap', hv, hcap, hi⟩ := hr
  injection hv with e1 e2 e3
  subst e1 e2 e3
  have HI := hide hi
  clear hi
  have HFEW := hide (fun W (hW : Le w W) => few14_any l A cap W (hW.rsl keeps_stp HR.out) hl)
  go_enter Try.func5, Try.ntmps5
  go_wp2_with fail
  refine (awake14 _).mono ?_
  rintro r w1 ⟨rfl, hb1⟩
  have HL1 := hide (show Le w w1 from ⟨hb1⟩)
  clear hb1
  go_wp2_with fail
  refine (HFEW.out _ HL1.out).mono ?_
  rintro r w2 ⟨rfl, hb2⟩
  have HL2 := hide (HL1.out.trans ⟨hb2⟩)
  clear hb2 HL1 HFEW
  cases hf : fewS l
  · go_wp2_with fail
    go_ret
    exact ⟨rfl, HL2.out.out⟩
  have hlen := fewS_len hf
  have HF := hide hf
  clear hf
  have HNEW := hide (downNew_any 5 200 (by decide) (by decide) w2)
  go_wp2_with fail
  refine HNEW.out.mono ?_
  rintro e w3 ⟨L, vs0, rfl, hd0, hS0, hb3⟩
  have HS := hide (fun k hk => Nat.le_trans HL2.out.size (hS0 k hk))
  have H3 := hide (And.intro hd0 (HL2.out.trans ⟨hb3⟩))
  clear hd0 hS0 hb3 HNEW
  go_wp2_with fail
  go_loopw [10, 11, 12, 13, 14] (fun an pz sv lv j wr => ∃ (k : Nat) (d : Dn) (vs : List Value) (a q : Bool) (S0 T0 : Nat), k ≤ l.length ∧ j = .int .i64 k ∧ an = .bool a ∧ pz = .bool q ∧ sv = .int .u16 S0 ∧ lv = .int .u32 T0 ∧ S0 < 65536 ∧ T0 < 4294967296 ∧ DnAt wr L k d vs ∧ d.Ok k ∧ Jo from_ k d a q S0 T0 ∧ Le w wr) (fun an pz sv lv j _ => l.length - (intOf j).toNat)
  case atStart => exact ⟨0, Dn.new 5 200, vs0, false, true, 0, 0, Nat.zero_le _, rfl, rfl, rfl, rfl, rfl, by decide, by decide, H3.out.1, Dn.new_ok (by decide) (by decide) (by decide), jo_new _ _ _, H3.out.2⟩
  case round =>
    clear H3
    obtain ⟨k, d, vs, a, q, S0, T0, hk, rfl, rfl, rfl, rfl, rfl, hS0, hT0, hd, hok, hjo, hle⟩ := hrel
    by_cases hlt : k < l.length
    · obtain ⟨b, off, rfl, hg⟩ := HI.out (by rintro rfl; simp at hlt)
      obtain ⟨cs, _, hc, v5, v6, v7, hcs, hP, hN⟩ := hg k hlt
      subst hcs
      have hp := hN.ok (fewS_at HF.out k hlt)
      have hltI : (k : Int) < (l.length : Int) := by omega
      generalize l[k] = x at *
      have HRNG := hide (step_range hle hc)
      obtain ⟨SQ, hSQ⟩ : ∃ SQ, SQ = (from_ + k) % 65536 := ⟨_, rfl⟩
      obtain ⟨K2, hK2⟩ : ∃ K2, K2 = k / 2 := ⟨_, rfl⟩
      obtain ⟨K9, hK9⟩ : ∃ K9, K9 = K2 * 900 := ⟨_, rfl⟩
      obtain ⟨TM, hTM⟩ : ∃ TM, TM = (time + K9) % 4294967296 := ⟨_, rfl⟩
      have q1 : IntKind.u16.wrap (k : Int) = k := by simp [IntKind.wrap, IntKind.signed, IntKind.bits]; omega
      have q2 : IntKind.u16.wrap ((from_ : Int) + (k : Int)) = SQ := by simp [IntKind.wrap, IntKind.signed, IntKind.bits]; omega
      have q3 : (k : Int).tdiv 2 = (K2 : Int) := by rw [hK2]; rfl
      have q4 : IntKind.i64.wrap (K2 : Int) = K2 := IntWalk.i64_in _ (by omega)
      have q5 : IntKind.u32.wrap (K2 : Int) = K2 := by simp [IntKind.wrap, IntKind.signed, IntKind.bits]; omega
      have q6 : (K2 : Int) * 900 = (K9 : Int) := by omega
      have q7 : IntKind.u32.wrap (K9 : Int) = K9 := by simp [IntKind.wrap, IntKind.signed, IntKind.bits]; omega
      have q8 : IntKind.u32.wrap ((time : Int) + (K9 : Int)) = TM := by simp [IntKind.wrap, IntKind.signed, IntKind.bits]; omega
      have hp' : (Pk.mk x.p.mark x.p.type SQ TM x.p.ssrc x.p.csrc x.p.exts x.p.payload x.p.pad).Ok := ⟨hp.type, by show SQ < 65536; omega, by show TM < 4294967296; omega, hp.ssrc, hp.csrc, hp.nc, hp.ne, hp.np, hp.pad⟩
      have hP' : PkAt w (Pk.mk x.p.mark x.p.type SQ TM x.p.ssrc x.p.csrc x.p.exts x.p.payload x.p.pad) v5 v6 v7 := ⟨hP.csrc, hP.exts, hP.payload⟩
      have hok' := Dn.take_ok hok _ hp' 0 0 x.want x.muted
      have hst := jo_step hjo hok hp' hSQ x.want x.muted
      have HTK := hide (fun W (hW : Le wr W) => downTake_any (hd.le hW) hok (by omega) _ hp' v5 v6 v7 (PdAt.old hP' (hle.trans hW).out HS.out) (by omega) 0 0 x.want x.muted)
      obtain ⟨A5, c5, rfl, _, _⟩ := id hP.csrc
      obtain ⟨A6, c6, rfl, _, _⟩ := id hP.exts
      obtain ⟨A7, c7, rfl, _, _⟩ := id hP.payload
      have HWH := hide (fun W (hW : Le w W) => whole_any A7 c7 x.p.payload W (hW.rsl keeps_u8 hP.payload) (by have := hp.np; omega) (vpD_ok x.p.payload).part)
      have HPOK := hide (And.intro hp' hok.ssrc)
      generalize d.take (Pk.mk x.p.mark x.p.type SQ TM x.p.ssrc x.p.csrc x.p.exts x.p.payload x.p.pad) 0 0 x.want x.muted = r at *
      obtain ⟨d', o, ask⟩ := r
      dsimp only at hok' hst
      have HST := hide hst
      have HOK := hide hok'
      have HLE := hide hle
      have HDD := hide hd
      clear hc hg hP hP' hN hp hp' hd hok hok' hle hst hjo hSQ hK2 hK9 hTM
      obtain ⟨p, sr, la, wn, mu⟩ := x
      obtain ⟨ws, wl, wt⟩ := wn
      obtain ⟨mk, ty, sq, tm, ss, cs, ex, pl, pd⟩ := p
      simp only [Stp.cells, Pk.val, Wnt.val] at HRNG HTK HWH HST HPOK
      go_upto_region 16 with (first | (refine wpList_load_mid rfl 50 (.tmp 37) rfl b (off + k * 15) rfl [.bool mk, .int .u8 ty, .int .u16 sq, .int .u32 tm, .int .u32 ss, .slice A5 cs.length c5, .slice A6 ex.length c6, .slice A7 pl.length c7, .int .i64 pd, .int .i64 sr, .int .i64 la, .int .i64 ws, .int .i64 wl, .int .i64 wt, .bool mu] _ HRNG.out Try.underlying50 rfl (by kernel_rfl) ?_) | (refine wpl_store_blk rfl 50 (.tmp 15) (.tmp 38) (cs := [.bool mk, .int .u8 ty, .int .u16 sq, .int .u32 tm, .int .u32 ss, .slice A5 cs.length c5, .slice A6 ex.length c6, .slice A7 pl.length c7, .int .i64 pd, .int .i64 sr, .int .i64 la, .int .i64 ws, .int .i64 wl, .int .i64 wt, .bool mu]) rfl rfl rfl (by kernel_rfl) (by simp [Value.oneCell']) (heap_alloc_new _ _) rfl ?_; intro wz hn hgz; have HZ := hide (And.intro hn (((Le.refl wr).alloc _).boxed hgz (Nat.le_refl _))); clear hn hgz))
      have HLT := hide (show wr.heap.size ≤ wr.heap.size from Nat.le_refl _)
      have HH2 := hide (heap_set (i := 2) (.int .u16 (SQ : Nat)) HZ.out.1)
      have HH3 := hide (heap_set (i := 3) (.int .u32 (TM : Nat)) HH2.out)
      have HLQ := hide ((HZ.out.2.boxed (grown_cell wz wr.heap.size 2 (.int .u16 (SQ : Nat))) HLT.out).boxed (grown_cell _ wr.heap.size 3 (.int .u32 (TM : Nat))) HLT.out)
      have y2 := box_cell HZ.out.1 2 _ rfl _ (Le.refl _)
      have y3 := box_cell HZ.out.1 3 _ rfl _ (Le.refl _)
      have f2 := free_block HZ.out.1 2
      have f3 := free_block HZ.out.1 3
      generalize wr.heap.size = g at *
      go_upto_region 18 with fail
      have HQ := hide (And.intro (show ((wz.setCell ⟨g, 2, none⟩ (.int .u16 (SQ : Nat))).setCell ⟨g, 3, none⟩ (.int .u32 (TM : Nat))).heap[g]? = some (.cells [.bool mk, .int .u8 ty, .int .u16 SQ, .int .u32 TM, .int .u32 ss, .slice A5 cs.length c5, .slice A6 ex.length c6, .slice A7 pl.length c7, .int .i64 pd, .int .i64 sr, .int .i64 la, .int .i64 ws, .int .i64 wl, .int .i64 wt, .bool mu].toArray 50 (0, 0)) from HH3.out) HLQ.out)
      generalize (wz.setCell ⟨g, 2, none⟩ (.int .u16 (SQ : Nat))).setCell ⟨g, 3, none⟩ (.int .u32 (TM : Nat)) = wq at *
      have HTZ := hide (HTK.out wq HQ.out.2)
      have HNS := hide ((HDD.out.le HQ.out.2).notS HQ.out.1 (by decide) (by decide) (by decide))
      have y14 := box_cell HQ.out.1 14 _ rfl _ (Le.refl _)
      clear HTK HRNG HZ HH2 HH3 HLQ HDD y2 y3 f2 f3 q1 q2 q3 q4 q5 q6 q7 q8
      go_wp2_with (first | (refine wpl_load_in rfl 46 (.tmp 57) rfl [] [.bool mk, .int .u8 ty, .int .u16 SQ, .int .u32 TM, .int .u32 ss, .slice A5 cs.length c5, .slice A6 ex.length c6, .slice A7 pl.length c7, .int .i64 pd] [.int .i64 sr, .int .i64 la, .int .i64 ws, .int .i64 wl, .int .i64 wt, .bool mu] _ rfl Try.underlying46 rfl (by kernel_rfl) HQ.out.1 ?_) | (refine wpl_load_in rfl 48 (.tmp 59) rfl [.bool mk, .int .u8 ty, .int .u16 SQ, .int .u32 TM, .int .u32 ss, .slice A5 cs.length c5, .slice A6 ex.length c6, .slice A7 pl.length c7, .int .i64 pd, .int .i64 sr, .int .i64 la] [.int .i64 ws, .int .i64 wl, .int .i64 wt] [.bool mu] _ rfl Try.underlying48 rfl (by kernel_rfl) HQ.out.1 ?_))
      refine HTZ.out.mono ?_
      rintro e w9 ⟨v, vs9, rfl, hd9, hr9, hf9⟩
      have hle9 : Le w w9 := ⟨hf9.below (HLE.out.trans HQ.out.2).out (HLE.out.trans HQ.out.2).size HS.out⟩
      have HZ9 := hide (show w9.heap[g]? = some (.cells [.bool mk, .int .u8 ty, .int .u16 SQ, .int .u32 TM, .int .u32 ss, .slice A5 cs.length c5, .slice A6 ex.length c6, .slice A7 pl.length c7, .int .i64 pd, .int .i64 sr, .int .i64 la, .int .i64 ws, .int .i64 wl, .int .i64 wt, .bool mu].toArray 50 (0, 0)) from hf9.heap HQ.out.1 HNS.out)
      have H9 := hide (And.intro hd9 hle9)
      have HR9 := hide hr9
      clear y14 hd9 hr9 hf9 hle9 HTZ HNS HQ
      dsimp only at H9 HR9 ⊢
      have y14 := box_cell HZ9.out 14 _ rfl _ (Le.refl _)
      rcases HST.out with ⟨rfl, hjo⟩ | ⟨n, hn, rfl, her, rfl, hany, hpz, hjo⟩
      · have HJ := hide hjo
        clear hjo HST
        cases mu
        · go_wp2_with fail
          go_roundw
          case rel => exact ⟨k + 1, d', vs9, a, q, S0, T0, by omega, by go_num, rfl, rfl, rfl, rfl, hS0, hT0, H9.out.1, HOK.out, HJ.out, H9.out.2⟩
          case measure => simp [intOf]; omega
        · go_wp2_with fail
          go_roundw
          case rel => exact ⟨k + 1, d', vs9, a, true, S0, T0, by omega, by go_num, rfl, rfl, rfl, rfl, hS0, hT0, H9.out.1, HOK.out, HJ.out, H9.out.2⟩
          case measure => simp [intOf]; omega
      · have hq := Pk.renum_ok HPOK.out.1 hn HPOK.out.2
        simp only [Option.getD_some] at HR9
        simp only [Option.isSome_some]
        obtain ⟨Av, cv, rfl, _, _⟩ := id HR9.out
        have HPAR := hide (rtpParse_put _ hq her Av cv w9 HR9.out)
        have HJ := hide hjo
        have HN := hide hn
        clear hjo HST hq her HPOK hn
        generalize (Pk.renum ⟨mk, ty, SQ, TM, ss, cs, ex, pl, pd⟩ n d.ssrc).bytes = BB at *
        go_wp2_with fail
        refine HPAR.out.mono ?_
        rintro e w10 ⟨v5, v6, v7, rfl, hP10, hb10⟩
        obtain ⟨B5, e5, rfl, _, _⟩ := id hP10.csrc
        obtain ⟨B6, e6, rfl, _, _⟩ := id hP10.exts
        obtain ⟨B7, e7, rfl, _, _⟩ := id hP10.payload
        have HL10 := hide (Le.mk hb10)
        clear hP10 hb10 HPAR HR9
        simp only [Pk.val, Pk.renum]
        go_upto_region 23 with fail
        have HB2 := hide (heap_alloc_new w10 (.cells #[.bool mk, .int .u8 ty, .int .u16 (n.seq : Nat), .int .u32 (n.time : Nat), .int .u32 (d.ssrc : Nat), .slice B5 cs.length e5, .slice B6 ex.length e6, .slice B7 (vpWr pl n.pic n.tl0).length e7, .int .i64 pd] 46))
        have HL9 := hide (HL10.out.alloc (.cells #[.bool mk, .int .u8 ty, .int .u16 (n.seq : Nat), .int .u32 (n.time : Nat), .int .u32 (d.ssrc : Nat), .slice B5 cs.length e5, .slice B6 ex.length e6, .slice B7 (vpWr pl n.pic n.tl0).length e7, .int .i64 pd] 46))
        generalize w10.alloc (.cells #[.bool mk, .int .u8 ty, .int .u16 (n.seq : Nat), .int .u32 (n.time : Nat), .int .u32 (d.ssrc : Nat), .slice B5 cs.length e5, .slice B6 ex.length e6, .slice B7 (vpWr pl n.pic n.tl0).length e7, .int .i64 pd] 46) = w11 at *
        generalize w10.heap.size = g2 at *
        clear y14
        have z2 := box_cell HB2.out 2 _ rfl _ (Le.refl _)
        have z3 := box_cell HB2.out 3 _ rfl _ (Le.refl _)
        have y7 := box_cell HZ9.out 7 _ rfl _ HL9.out
        cases a
        · clear hany
          cases q
          · clear hpz
            go_wp2_with fail
            go_roundw
            case rel => exact ⟨k + 1, d', vs9, true, false, n.seq, n.time, by omega, by go_num, rfl, rfl, rfl, rfl, HN.out.seq, HN.out.time, H9.out.1.le HL9.out, HOK.out, HJ.out, H9.out.2.trans HL9.out⟩
            case measure => simp [intOf]; omega
          · have hw := hpz rfl
            rw [hw] at HWH
            go_wp2_with fail
            refine (HWH.out _ (H9.out.2.trans HL9.out)).mono ?_
            rintro e w12 ⟨rfl, hb12⟩
            have HB := hide (Le.mk hb12)
            have HL12 := hide (HL9.out.trans HB.out)
            clear hb12 z2 z3 y7
            have z2 := box_cell HB2.out 2 _ rfl _ HB.out
            have z3 := box_cell HB2.out 3 _ rfl _ HB.out
            go_wp2_with fail
            go_roundw
            case rel => exact ⟨k + 1, d', vs9, true, false, n.seq, n.time, by omega, by go_num, rfl, rfl, rfl, rfl, HN.out.seq, HN.out.time, H9.out.1.le HL12.out, HOK.out, HJ.out, H9.out.2.trans HL12.out⟩
            case measure => simp [intOf]; omega
        · obtain ⟨h1, h2⟩ := hany rfl
          have t1 : IntKind.u16.wrap ((S0 : Int) + 1) = (n.seq : Nat) := by simp [IntKind.wrap, IntKind.signed, IntKind.bits]; omega
          have HLS := hide (less32_any n.time T0 HN.out.time hT0)
          rw [h2] at HLS
          clear h1 h2 hany
          go_wp2_with fail
          refine (HLS.out _).mono ?_
          rintro e w12 ⟨rfl, rfl⟩
          cases q
          · clear hpz
            go_wp2_with fail
            go_roundw
            case rel => exact ⟨k + 1, d', vs9, true, false, n.seq, n.time, by omega, by go_num, rfl, rfl, rfl, rfl, HN.out.seq, HN.out.time, H9.out.1.le HL9.out, HOK.out, HJ.out, H9.out.2.trans HL9.out⟩
            case measure => simp [intOf]; omega
          · have hw := hpz rfl
            rw [hw] at HWH
            go_wp2_with fail
            refine (HWH.out _ (H9.out.2.trans HL9.out)).mono ?_
            rintro e w12 ⟨rfl, hb12⟩
            have HB := hide (Le.mk hb12)
            have HL12 := hide (HL9.out.trans HB.out)
            clear hb12 z2 z3 y7
            have z2 := box_cell HB2.out 2 _ rfl _ HB.out
            have z3 := box_cell HB2.out 3 _ rfl _ HB.out
            go_wp2_with fail
            go_roundw
            case rel => exact ⟨k + 1, d', vs9, true, false, n.seq, n.time, by omega, by go_num, rfl, rfl, rfl, rfl, HN.out.seq, HN.out.time, H9.out.1.le HL12.out, HOK.out, HJ.out, H9.out.2.trans HL12.out⟩
            case measure => simp [intOf]; omega
    · have hltI : ¬ (k : Int) < (l.length : Int) := by omega
      have HB := hide hle
      clear hd hok hle hjo
      go_wp2_with fail
      go_ret
      exact ⟨rfl, HB.out.out⟩
end Go.Proofs.Ytekioihjfggmdaa

/- DownOrder: for every input the call returns true, and each argument reads behind it as it read before. No condition. -/
namespace Go.Proofs.Ytekioihjfggmdaa.downOrder
open Go.ChangeShapes Go.WideShapes Go.ChangeAt Go.RowKit
open Go.ChangeMaps (open_string shut_string)
set_option linter.unusedVariables false

theorem own : ownKnob Try.prog.godebug = none := by kernel_rfl
theorem laidOut : laidOutB Try.prog = true := by kernel_rfl

set_option maxRecDepth 100000 in
theorem lifted (os : Os) (started : os.Started) (H : Type) (enc : TypeId × Value → H) :
    ReturnsInHanded {} Try.checked os 5 .any (Rows.downOrderSpec.pre6 enc Try.prog Try.f5 Rows.downOrderRow.domain false) (Rows.downOrderSpec.post enc Try.prog Try.f5 false true false false) := by
  refine returnsInHanded_of_change (C := Try.checked) own started (by kernel_rfl) Try.func5
    (ChangeSpec.witness6 (enc := enc) (C := Try.checked) false ⟨#[], #[.int .u16 0, .int .u32 0, .slice none 0 0], []⟩ 8 (by kernel_rfl) (by kernel_rfl) (by kernel_rfl) (by kernel_rfl)) ?_
  intro W base args ds gs before hval0 hW hcnd _
  have hval : ∀ (j : Nat) t v, Try.f5.params[j]? = some t → args[j]? = some v → Value.okWide Try.prog W .any base t v := hval0
  have hW' := hW
  obtain ⟨p, q, hA0, hV, rfl, hfz, hnd⟩ := hW
  have hA : DataW.TrodAll enc Try.prog W 0 (fun _ => true) true Try.f5.params.toList args.toList ds p := hA0
  rw [Try.params5] at hA hval
  obtain ⟨v0, vs0, d0, ds0, p0, q0, hargs, rfl, rfl, h0, r0⟩ := trodAll_cons hA
  obtain ⟨v1, vs1, d1, ds1, p1, q1, rfl, rfl, rfl, h1, r1⟩ := trodAll_cons r0
  obtain ⟨v2, vs2, d2, ds2, p2, q2, rfl, rfl, rfl, h2, r2⟩ := trodAll_cons r1
  obtain ⟨rfl, rfl, rfl⟩ := trodAll_nil r2
  obtain rfl : args = #[v0, v1, v2] := by cases args; simp_all
  obtain ⟨rfl, rfl⟩ := trodVars_none hV
  have lt0 : ∀ x ∈ p0, x.block < W.heap.size := by obtain ⟨m, hm⟩ := h0; exact DataW.trod_lt m _ _ _ hm
  have lt1 : ∀ x ∈ p1, x.block < W.heap.size := by obtain ⟨m, hm⟩ := h1; exact DataW.trod_lt m _ _ _ hm
  have lt2 : ∀ x ∈ p2, x.block < W.heap.size := by obtain ⟨m, hm⟩ := h2; exact DataW.trod_lt m _ _ _ hm
  obtain ⟨y0, hv0, _, _, wx0⟩ := open_int Try.underlying39 (hval 0 39 v0 rfl rfl) h0
  subst hv0
  obtain ⟨x0, rfl, w0⟩ := wf_u16 wx0
  obtain ⟨y1, hv1, _, _, wx1⟩ := open_int Try.underlying22 (hval 1 22 v1 rfl rfl) h1
  subst hv1
  obtain ⟨x1, rfl, w1⟩ := wf_u32 wx1
  obtain ⟨a2, n2, c2, rfl⟩ := okWide_slice Try.underlying23 (hval 2 23 v2 rfl rfl)
  obtain ⟨l2, w2, x2⟩ := open_steps14 h2
  clear hA0 hval0
  refine (downOrder_walk W x0 w0 x1 w1 l2 a2 n2 c2 w2 x2).mono fun e W' ⟨he, bel⟩ => ?_
  subst he
  exact ⟨_, rfl, _, _, _, [], _, [], hW', trodAll_mk1 (shut_bool Try.underlying4 _), (trodAll_cons_mk (Below.trod laidOut (by kernel_rfl) (of_decide_eq_true (by kernel_rfl)) h0 bel lt0) (trodAll_cons_mk (Below.trod laidOut (by kernel_rfl) (of_decide_eq_true (by kernel_rfl)) h1 bel lt1) (trodAll_cons_mk (Below.trod laidOut (by kernel_rfl) (of_decide_eq_true (by kernel_rfl)) h2 bel lt2) trodAll_mk0))), rfl, bel.frame _, fun h => by cases h⟩

theorem over : Rows.downOrderRow.holds Try.pinned (OpenSpec.ofChange Rows.downOrderSpec) :=
  OpenClaim.holds_of_wide 5 Try.f5 rfl rfl rfl rfl rfl rfl rfl ⟨rfl, rfl, rfl, rfl, rfl⟩ rfl rfl rfl rfl rfl (by kernel_rfl) Try.func5 (by kernel_rfl)
    (of_decide_eq_true (by kernel_rfl)) (by unfold Func.isWrapper; first | (rw [if_pos (by decide +kernel)]; kernel_rfl) | (rw [if_neg (by decide +kernel)]; exact ⟨rfl, rfl⟩))
    (fun os started H enc _ => lifted os started H enc)

/-- THE STATEMENT. -/
theorem proved : Rows.DownOrderSaid := over
#print axioms proved
end Go.Proofs.Ytekioihjfggmdaa.downOrder
