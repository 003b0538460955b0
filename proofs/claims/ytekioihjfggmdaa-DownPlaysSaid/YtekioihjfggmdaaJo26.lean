/- Texts of one claim, laid together: Law14 AwkL Awk14 Open OpenU8 OpenExt -/
import Derived.ProofKit
import Derived.Deep.Slices
import Derived.Deep.Fields
import Derived.Test.YtekioihjfggmdaaJo25
import Derived.Test.YtekioihjfggmdaaJo24
import Derived.Test.YtekioihjfggmdaaJo18
import Derived.Test.YtekioihjfggmdaaJo01
import Derived.Test.YtekioihjfggmdaaJo02
import Derived.Test.YtekioihjfggmdaaJo05
/- louverlaw14: steps in memory; few. -/
namespace Go.Proofs.Ytekioihjfggmdaa
open Go.RowKit
set_option linter.unusedVariables false

structure Stp where
  p : Pk
  src : Int
  layer : Int
  want : Wnt
  muted : Bool
/-- what a packet's cells can hold -/
structure Pk.Num (p : Pk) : Prop where
  type : p.type < 256
  seq : p.seq < 65536
  time : p.time < 4294967296
  ssrc : p.ssrc < 4294967296
  csrc : ∀ x ∈ p.csrc, x < 4294967296
  nc : p.csrc.length ≤ 9223372036854775807
  ne : p.exts.length ≤ 9223372036854775807
  np : p.payload.length ≤ 9223372036854775807
  pad : -9223372036854775808 ≤ p.pad ∧ p.pad ≤ 9223372036854775807
def Stp.cells (s : Stp) (v5 v6 v7 : Value) : List Value := [.bool s.p.mark, .int .u8 s.p.type, .int .u16 s.p.seq, .int .u32 s.p.time, .int .u32 s.p.ssrc, v5, v6, v7, .int .i64 s.p.pad, .int .i64 s.src, .int .i64 s.layer, .int .i64 s.want.src, .int .i64 s.want.layer, .int .i64 s.want.tid, .bool s.muted]
def RStp : Rd Stp := fun w s cs => ∃ v5 v6 v7, cs = s.cells v5 v6 v7 ∧ PkAt w s.p v5 v6 v7 ∧ s.p.Num
theorem keeps_stp : Keeps RStp := fun w w' x cs ⟨v5, v6, v7, h1, h2, h3⟩ hb => ⟨v5, v6, v7, h1, ⟨h2.csrc.keep (keeps_nat _) hb, h2.exts.keep keeps_item hb, h2.payload.keep keeps_u8 hb⟩, h3⟩
def Pk.few (p : Pk) : Bool := p.exts.all (fun x => decide (x.2.length ≤ 60)) && (decide (p.csrc.length ≤ 20) && (decide (p.exts.length ≤ 20) && decide (p.payload.length ≤ 200)))
def fewS (l : List Stp) : Bool := l.all (fun s => s.p.few) && decide (l.length ≤ 120)
theorem Pk.Num.ok {p : Pk} (h : p.Num) (hf : p.few = true) : p.Ok := by
  simp only [Pk.few, Bool.and_eq_true, decide_eq_true_eq] at hf
  exact ⟨h.type, h.seq, h.time, h.ssrc, h.csrc, by omega, by omega, by omega, h.pad⟩
theorem few_bad (p : Pk) (i : Nat) (h : i < p.exts.length) (hb : 60 < p.exts[i].2.length) : p.few = false := by
  rw [Pk.few, Bool.and_eq_false_iff]
  refine .inl ?_
  rw [List.all_eq_false]
  exact ⟨p.exts[i], List.getElem_mem h, by simp; omega⟩
theorem few_ok (p : Pk) (h : ∀ i (hi : i < p.exts.length), p.exts[i].2.length ≤ 60) : p.few = (decide (p.csrc.length ≤ 20) && (decide (p.exts.length ≤ 20) && decide (p.payload.length ≤ 200))) := by
  rw [Pk.few, List.all_eq_true.2 (fun x hx => by obtain ⟨i, hi, rfl⟩ := List.getElem_of_mem hx; simpa using h i hi), Bool.true_and]
theorem fewS_bad (l : List Stp) (k : Nat) (h : k < l.length) (hb : l[k].p.few = false) : fewS l = false := by
  rw [fewS, Bool.and_eq_false_iff]
  refine .inl ?_
  rw [List.all_eq_false]
  exact ⟨l[k], List.getElem_mem h, by simp [hb]⟩
theorem Le.boxed {w W W' : World} {g : Nat} (h : Le w W) (hg : W.grownBy W' (some g)) (hn : w.heap.size ≤ g) : Le w W' :=
  ⟨h.out.grown hg h.size (by rintro k e; injection e with e; omega)⟩

set_option maxRecDepth 100000 in
set_option maxHeartbeats 2000000 in
theorem few14_any (l : List Stp) (A : Option Addr) (cap : Nat) (w : World) (hr : RSl 15 RStp w l (.slice A l.length cap)) (hl : l.length ≤ 9223372036854775807) : Calls Try.prog 11 #[.slice A l.length cap] w (Gives w (.bool (fewS l))) := by
  obtain ⟨A', cap', hv, hcap, hi⟩ := hr
  injection hv with e1 e2 e3
  subst e1 e3
  have HI := hide hi
  clear hi e2
  go_enter Try.func11, Try.ntmps11
  go_wp2_with fail
  go_loopw [3] (fun j wr => ∃ k : Nat, k ≤ l.length ∧ j = .int .i64 k ∧ Hd (∀ i (h : i < l.length), i < k → l[i].p.few = true) ∧ Le w wr) (fun j _ => l.length - (intOf j).toNat)
  case atStart => exact ⟨0, Nat.zero_le _, rfl, hide (fun i _ h => by omega), Le.refl w⟩
  case round =>
    obtain ⟨k, hk, rfl, HN, hle⟩ := hrel
    have HL := hide hle
    clear hle
    by_cases hlt : k < l.length
    · obtain ⟨b, off, rfl, hg⟩ := HI.out (by rintro rfl; simp at hlt)
      obtain ⟨cs, _, hc, v5, v6, v7, hcs, hP, hN⟩ := hg k hlt
      subst hcs
      have HBAD := hide (fun hb => fewS_bad l k hlt hb)
      have HGOOD := hide (fun (h : l[k].p.few = true) => show ∀ i (h : i < l.length), i < k + 1 → l[i].p.few = true from fun i hi h' => by
        by_cases e : i = k
        · subst e; exact h
        · exact HN.out i hi (by omega))
      have hltI : (k : Int) < (l.length : Int) := by omega
      generalize l[k] = x at *
      have hPw := hP.le HL.out
      obtain ⟨A5, c5, rfl, _, _⟩ := id hP.csrc
      obtain ⟨A6, c6, rfl, _, h6⟩ := id hP.exts
      obtain ⟨A7, c7, rfl, _, _⟩ := id hP.payload
      have HRNG := hide (show wr.rangeAt b (off + k * 15) [.bool x.p.mark, .int .u8 x.p.type, .int .u16 x.p.seq, .int .u32 x.p.time, .int .u32 x.p.ssrc, .slice A5 x.p.csrc.length c5, .slice A6 x.p.exts.length c6, .slice A7 x.p.payload.length c7, .int .i64 x.p.pad] from fun j v hj => HL.out.cell (by
        have hj9 : j < 9 := by
          have := (List.getElem?_eq_some_iff.1 hj).1
          simpa using this
        rw [hc j (by omega), ← hj]
        have : j = 0 ∨ j = 1 ∨ j = 2 ∨ j = 3 ∨ j = 4 ∨ j = 5 ∨ j = 6 ∨ j = 7 ∨ j = 8 := by omega
        rcases this with rfl | rfl | rfl | rfl | rfl | rfl | rfl | rfl | rfl <;> rfl))
      have H6 := hide h6
      have HNUM := hide hN
      have n1 := hN.nc
      have n2 := hN.ne
      have n3 := hN.np
      clear hc hg hP hPw h6 hN
      go_wp2_with (first | (refine wpList_load_mid rfl 46 (.tmp 15) rfl b (off + k * 15) rfl [.bool x.p.mark, .int .u8 x.p.type, .int .u16 x.p.seq, .int .u32 x.p.time, .int .u32 x.p.ssrc, .slice A5 x.p.csrc.length c5, .slice A6 x.p.exts.length c6, .slice A7 x.p.payload.length c7, .int .i64 x.p.pad] _ HRNG.out Try.underlying46 rfl (by kernel_rfl) ?_) | (refine wpl_store_blk rfl 46 (.tmp 4) (.tmp 16) (cs := [.bool x.p.mark, .int .u8 x.p.type, .int .u16 x.p.seq, .int .u32 x.p.time, .int .u32 x.p.ssrc, .slice A5 x.p.csrc.length c5, .slice A6 x.p.exts.length c6, .slice A7 x.p.payload.length c7, .int .i64 x.p.pad]) rfl rfl rfl (by kernel_rfl) (by simp [Value.oneCell']) (heap_alloc_new _ _) rfl ?_; intro wz hn hgz; have HZ := hide (And.intro hn ((HL.out.alloc _).boxed hgz HL.out.size)); clear hn hgz))
      have y5 := box_cell HZ.out.1 5 _ rfl _ (Le.refl _)
      have y6 := box_cell HZ.out.1 6 _ rfl _ (Le.refl _)
      have y7 := box_cell HZ.out.1 7 _ rfl _ (Le.refl _)
      generalize wr.heap.size = g at *
      go_loop [5] (fun j => ∃ k2 : Nat, k2 ≤ x.p.exts.length ∧ j = .int .i64 k2 ∧ Hd (∀ i (h : i < x.p.exts.length), i < k2 → x.p.exts[i].2.length ≤ 60)) (fun j => x.p.exts.length - (intOf j).toNat)
      case atStart => exact ⟨0, Nat.zero_le _, rfl, hide (fun i _ h => by omega)⟩
      case round =>
        obtain ⟨k2, hk2, rfl, HM⟩ := hrel
        by_cases hlt2 : k2 < x.p.exts.length
        · obtain ⟨b6, o6, rfl, hg6⟩ := H6.out (by intro e; rw [e] at hlt2; simp at hlt2)
          obtain ⟨cs, _, hc, v, hcs, hv⟩ := hg6 k2 hlt2
          subst hcs
          obtain ⟨A1, cp1, hv1, _⟩ := id hv
          subst hv1
          have c1 := HZ.out.2.cell (show w.cell? ⟨b6, o6 + k2 * 2 + 1, none⟩ = some (.slice A1 x.p.exts[k2].2.length cp1) from hc 1 (by omega))
          have HX := hide (fun (h : x.p.exts[k2].2.length ≤ 60) => hide (show ∀ i (h : i < x.p.exts.length), i < k2 + 1 → x.p.exts[i].2.length ≤ 60 from fun i hi h' => by
            by_cases e : i = k2
            · subst e; exact h
            · exact HM.out i hi (by omega)))
          have HY := hide (fun (h : 60 < x.p.exts[k2].2.length) => HBAD.out (few_bad x.p k2 hlt2 h))
          generalize x.p.exts[k2] = y at *
          clear hc hg6 hv
          have hltI2 : (k2 : Int) < (x.p.exts.length : Int) := by omega
          by_cases h3 : 60 < y.2.length
          · have HE := hide (HY.out h3)
            have h3I : (60 : Int) < (y.2.length : Int) := by omega
            go_wp2_with fail
            go_ret
            exact ⟨by rw [HE.out]; rfl, HZ.out.2.out⟩
          · have HE := HX.out (by omega)
            have h3I : ¬ (60 : Int) < (y.2.length : Int) := by omega
            go_wp2_with fail
            go_round
            case rel => exact ⟨k2 + 1, by omega, by go_num, HE⟩
            case measure => simp [intOf]; omega
        · have HE := hide (few_ok x.p (fun i hi => HM.out i hi (by omega)))
          have hltI2 : ¬ (k2 : Int) < (x.p.exts.length : Int) := by omega
          by_cases h1 : 20 < x.p.csrc.length
          · have HF := hide (HBAD.out (by rw [HE.out]; simp; omega))
            have h1I : (20 : Int) < (x.p.csrc.length : Int) := by omega
            go_wp2_with fail
            go_ret
            exact ⟨by rw [HF.out]; rfl, HZ.out.2.out⟩
          · have h1I : ¬ (20 : Int) < (x.p.csrc.length : Int) := by omega
            by_cases h2 : 20 < x.p.exts.length
            · have HF := hide (HBAD.out (by rw [HE.out]; simp; omega))
              have h2I : (20 : Int) < (x.p.exts.length : Int) := by omega
              go_wp2_with fail
              go_ret
              exact ⟨by rw [HF.out]; rfl, HZ.out.2.out⟩
            · have h2I : ¬ (20 : Int) < (x.p.exts.length : Int) := by omega
              by_cases h3 : 200 < x.p.payload.length
              · have HF := hide (HBAD.out (by rw [HE.out]; simp; omega))
                have h3I : (200 : Int) < (x.p.payload.length : Int) := by omega
                go_wp2_with fail
                go_ret
                exact ⟨by rw [HF.out]; rfl, HZ.out.2.out⟩
              · have h3I : ¬ (200 : Int) < (x.p.payload.length : Int) := by omega
                have HF := hide (HGOOD.out (by rw [HE.out]; simp; omega))
                go_wp2_with fail
                go_roundw
                case rel => exact ⟨k + 1, by omega, by go_num, HF, HZ.out.2⟩
                case measure => simp [intOf]; omega
    · have hltI : ¬ (k : Int) < (l.length : Int) := by omega
      have HE := hide (show fewS l = decide (l.length ≤ 120) by
        rw [fewS, List.all_eq_true.2 (fun x hx => by
          obtain ⟨i, hi, rfl⟩ := List.getElem_of_mem hx
          exact HN.out i hi (by omega)), Bool.true_and])
      have HD := hide (show decide ((l.length : Int) ≤ 120) = decide (l.length ≤ 120) from decide_eq_decide.2 (by omega))
      go_wp2_with fail
      go_ret
      exact ⟨by rw [HE.out, ← HD.out]; rfl, HL.out.out⟩
end Go.Proofs.Ytekioihjfggmdaa

/- louverlaw14.awake: what it says, in plain Lean. -/
namespace Go.Proofs.Ytekioihjfggmdaa
open Go.RowKit
set_option linter.unusedVariables false

def pA : Pk := ⟨false, 0, 9, 0, 5, [], [], [16, 0], 0⟩
def wA : Wnt := ⟨0, 1, 3⟩
def qA : Pk := ⟨false, 0, 9, 0, 77, [], [], [16, 0], 0⟩
def dA14 : Dn := ((Dn.new 77 4).take pA 0 1 wA false).1
theorem pA_ok : pA.Ok := ⟨by decide, by decide, by decide, by decide, by decide, by decide, by decide, by decide, by decide⟩
theorem qA_ok : qA.Ok := ⟨by decide, by decide, by decide, by decide, by decide, by decide, by decide, by decide, by decide⟩
theorem qA_err : qA.err = 0 := by decide
theorem awk_take : ((Dn.new 77 4).take pA 0 1 wA false).2 = (some qA.bytes, false) := by decide
theorem awk_sent : dA14.sent = 1 ∧ dA14.left = 0 ∧ dA14.dropped = 0 ∧ dA14.late = 0 ∧ dA14.bad = 0 ∧ dA14.ssrc = 77 := by decide
theorem awk_cnt : dA14.countV = .agg #[.int .i64 1, .int .i64 0, .int .i64 0, .int .i64 0, .int .i64 0] := by
  obtain ⟨h1, h2, h3, h4, h5, _⟩ := awk_sent
  rw [Dn.countV, h1, h2, h3, h4, h5]
  rfl
theorem awk_get : dA14.st.get 9 = some qA.bytes := by decide
end Go.Proofs.Ytekioihjfggmdaa

/- louverlaw14.awake. -/
namespace Go.Proofs.Ytekioihjfggmdaa
open Go.RowKit
set_option linter.unusedVariables false

theorem cnt_st : (Try.prog).underlying 60 = some (.struct ((Try.prog).fieldsOf 60)) := by kernel_rfl
theorem cnt_held : (Try.prog).stoodInHeld 60 = false := by kernel_rfl
theorem cnt_guard : (Try.prog).eqGuardType (Try.prog).depth 60 = false := by kernel_rfl
theorem cnt_eq (a b c d e a' b' c' d' e' : Int) (w : World) : (Op.equalIn 10000 60 (.agg #[.int .i64 a, .int .i64 b, .int .i64 c, .int .i64 d, .int .i64 e]) (.agg #[.int .i64 a', .int .i64 b', .int .i64 c', .int .i64 d', .int .i64 e'])).run Try.prog w = .ok (decide (a = a') && (decide (b = b') && (decide (c = c') && (decide (d = d') && decide (e = e'))))) w := by
  rw [show (10000 : Nat) = 9999 + 1 from rfl, run_equalIn_agg w 9999 _ _ _ cnt_st cnt_held]
  simp only [Program.fieldsOf, Try.underlying60]
  go_simp
  simp only [ite_ok, Bool.and_true]
theorem cnt_eql (a b c d e : Int) (w : World) : (binOp .eql 60 (.agg #[.int .i64 a, .int .i64 b, .int .i64 c, .int .i64 d, .int .i64 e]) (.agg #[.int .i64 a, .int .i64 b, .int .i64 c, .int .i64 d, .int .i64 e])).run Try.prog w = .ok (.bool true) w := by
  rw [run_eql_struct, cnt_eq]
  simp [Result.andThen]

theorem pdA {w : World} {L : Dl} {c : Nat} {d : Dn} {vs : List Value} (h : DnAt w L c d vs) {g : Nat} (hg : w.heap[g]? = some (.cells #[.int .u8 16, .int .u8 0] 5 (0, 0))) : PdAt w L pA (.slice none 0 0) (.slice none 0 0) (.slice (some ⟨g, 0, none⟩) 2 2) := fun W hF =>
  ⟨RSl.nil, RSl.nil, D8.rsl ⟨some ⟨g, 0, none⟩, 2, rfl, by decide, fun _ => ⟨g, 0, _, _, rfl, hF.heap hg (h.notS hg (by decide) (by decide) (by decide)), fun j hj => by
    have hj2 : j < 2 := hj
    have : j = 0 ∨ j = 1 := by omega
    rcases this with rfl | rfl <;> rfl⟩⟩⟩

set_option maxRecDepth 100000 in
set_option maxHeartbeats 4000000 in
theorem awake14 (w : World) : Calls Try.prog 10 #[] w (Gives w (.bool true)) := by
  have HNEW := hide (downNew_any 77 4 (by decide) (by decide) w)
  go_enter Try.func10, Try.ntmps10
  go_wp2_with fail
  refine HNEW.out.mono ?_
  rintro e w1 ⟨L, vs, rfl, hd, hS, hb⟩
  have H1 := hide (And.intro hd (And.intro hS (Le.mk hb)))
  clear hd hS hb HNEW
  go_wp2_with fail
  have hg0 : ((w1.alloc (.cells #[.int .u8 16, .int .u8 0] 5)).alloc (.cells #[.bool false, .int .u8 0, .int .u16 9, .int .u32 0, .int .u32 5, .slice none 0 0, .slice none 0 0, .slice (some ⟨w1.heap.size, 0, none⟩) 2 2, .int .i64 0] 46)).heap[w1.heap.size]? = some (.cells #[.int .u8 16, .int .u8 0] 5 (0, 0)) := heap_alloc (heap_alloc_new w1 _)
  have hl0 := ((Le.refl w1).alloc (.cells #[.int .u8 16, .int .u8 0] 5)).alloc (.cells #[.bool false, .int .u8 0, .int .u16 9, .int .u32 0, .int .u32 5, .slice none 0 0, .slice none 0 0, .slice (some ⟨w1.heap.size, 0, none⟩) 2 2, .int .i64 0] 46)
  have hd1 := H1.out.1.le hl0
  have hpd := pdA hd1 hg0
  refine (downTake_any hd1 (Dn.new_ok (by decide) (by decide) (by decide)) (by decide) pA pA_ok _ _ _ hpd (by decide) 0 1 wA false).mono ?_
  rintro e w2 ⟨v, vs2, rfl, hd2, hr2, hf2⟩
  rw [awk_take] at hr2 ⊢
  have H2 := hide (And.intro (show DnAt w2 L 1 dA14 vs2 from hd2) (hf2.below (H1.out.2.2.trans hl0).out (H1.out.2.2.trans hl0).size H1.out.2.1))
  obtain ⟨A, cap, rfl, hcap, _⟩ := id hr2
  have HR := hide hr2
  have HPAR := hide (rtpParse_put qA qA_ok qA_err A cap w2 hr2)
  have hok := Dn.take_ok (Dn.new_ok (ssrc := 77) (room := 4) (by decide) (by decide) (by decide)) pA pA_ok 0 1 wA false
  have HAG := hide (fun W (hW : DnAt W L 1 dA14 vs2) => (awk_get ▸ downAgain_any hW hok.st 9 (by decide) : Calls Try.prog 18 #[.pointer (some ⟨L.db, 0, none⟩), .int .u16 ((9 : Nat) : Int)] W (GetP W (some qA.bytes))))
  have HSS := hide (fun W (hW : DnAt W L 1 dA14 vs2) => (show Calls Try.prog 17 #[.pointer (some ⟨L.db, 0, none⟩)] W (fun e w' => e = .returned (.int .u32 77) ∧ W = w') from by have h := downSSRC_any hW; rw [awk_sent.2.2.2.2.2] at h; exact h))
  have HCN := hide (fun W (hW : DnAt W L 1 dA14 vs2) => (awk_cnt ▸ downCount_any hW : Calls Try.prog 16 #[.pointer (some ⟨L.db, 0, none⟩)] W (Gives W (.agg #[.int .i64 1, .int .i64 0, .int .i64 0, .int .i64 0, .int .i64 0]))))
  clear hg0 hl0 hd1 hpd hd2 hr2 hf2 H1 hcap hok
  simp only [Option.getD_some, Option.isSome_some] at HR HPAR ⊢
  generalize qA.bytes = QB at *
  go_wp2_with fail
  refine HPAR.out.mono ?_
  rintro e w3 ⟨v5, v6, v7, rfl, hP3, hb3⟩
  obtain ⟨A5, c5, rfl, _, _⟩ := id hP3.csrc
  obtain ⟨A6, c6, rfl, _, _⟩ := id hP3.exts
  obtain ⟨A7, c7, rfl, _, _⟩ := id hP3.payload
  have H3 := hide (And.intro (Le.mk hb3) (show RSl 1 RU8 w3 [16, 0] (.slice A7 2 c7) from hP3.payload))
  clear hb3 HPAR hP3
  rw [show qA.val (.slice A5 qA.csrc.length c5) (.slice A6 qA.exts.length c6) (.slice A7 qA.payload.length c7) = .agg #[.bool false, .int .u8 0, .int .u16 9, .int .u32 0, .int .u32 77, .slice A5 0 c5, .slice A6 0 c6, .slice A7 2 c7, .int .i64 0] from rfl]
  go_wp2_with fail
  have hp0 := heap_alloc_new w3 (.cells #[.bool false, .int .u8 0, .int .u16 9, .int .u32 0, .int .u32 77, .slice A5 0 c5, .slice A6 0 c6, .slice A7 2 c7, .int .i64 0] 46)
  have hl3 := (Le.refl w3).alloc (.cells #[.bool false, .int .u8 0, .int .u16 9, .int .u32 0, .int .u32 77, .slice A5 0 c5, .slice A6 0 c6, .slice A7 2 c7, .int .i64 0] 46)
  generalize w3.alloc (.cells #[.bool false, .int .u8 0, .int .u16 9, .int .u32 0, .int .u32 77, .slice A5 0 c5, .slice A6 0 c6, .slice A7 2 c7, .int .i64 0] 46) = w4 at *
  generalize w3.heap.size = g6 at *
  have H4 := hide (And.intro hp0 hl3)
  clear hp0 hl3
  refine (HAG.out _ (H2.out.1.le (H3.out.1.trans H4.out.2))).mono ?_
  rintro e w5 ⟨vb, rfl, hb8, hb5⟩
  have hr5 := hb8.rsl
  obtain ⟨A8, c8, rfl, _, _⟩ := id hr5
  have H5 := hide (And.intro (Le.mk hb5) hr5)
  clear hb5 hb8 hr5
  simp only [Option.getD_some, Option.isSome_some] at H5 ⊢
  have HL5 := hide (H4.out.2.trans H5.out.1)
  have HL25 := hide (H3.out.1.trans HL5.out)
  have y2 : w5.cell? ⟨g6, 2, none⟩ = some (.int .u16 9) := box_cell H4.out.1 2 _ rfl _ H5.out.1
  have y4 : w5.cell? ⟨g6, 4, none⟩ = some (.int .u32 77) := box_cell H4.out.1 4 _ rfl _ H5.out.1
  have y7 : w5.cell? ⟨g6, 7, none⟩ = some (.slice A7 2 c7) := box_cell H4.out.1 7 _ rfl _ H5.out.1
  have f1 := conv_le H3.out.2 w5 HL5.out
  have f2 := conv_le HR.out w5 HL25.out
  have f3 := conv_le H5.out.2 w5 (Le.refl _)
  have f4 : str [16, 0] = ⟨#[16, 0]⟩ := rfl
  have b1 : ((⟨#[16, 0]⟩ : ByteArray) == ⟨#[16, 0]⟩) = true := by decide
  rw [f4] at f1
  clear f4
  go_wp2_with fail
  refine (HSS.out _ (H2.out.1.le HL25.out)).mono ?_
  rintro e w6 ⟨rfl, rfl⟩
  go_wp2_with fail
  refine (HCN.out _ (H2.out.1.le HL25.out)).mono ?_
  rintro e w7 ⟨rfl, hb7⟩
  have HB := hide (H2.out.2.trans ((HL25.out.trans ⟨hb7⟩).out.mono H2.out.2.size))
  have g1 := fun W => cnt_eql 1 0 0 0 0 W
  have g2 := cnt_guard
  clear f1 f2 f3 y2 y4 y7 hb7
  go_wp2_with fail
  go_ret
  exact ⟨rfl, HB.out⟩
end Go.Proofs.Ytekioihjfggmdaa

/- How an argument that was read as data opens to the words of memory. -/
namespace Go.Proofs.Ytekioihjfggmdaa
open Go.RowKit Go.ChangeShapes Go.WideShapes Go.Deep
set_option linter.unusedVariables false

section
variable {H : Type} {enc : TypeId × Value → H} {P : Program} {w : World} {base : Nat} {spare : Nat → Bool} {held : Bool}

theorem rsl_of_trod {α : Type} {size : Nat} {R : Rd α} {t e : TypeId} {fuel : Nat} {v : Value} {x : DataW H × List MemPlace} (ht : P.underlying t = some (.slice e)) (hC : P.cellsOf e = size) (hsz : 0 < size)
    (elem : ∀ n cs y, DataW.trod enc P w base spare held n e cs = some y → ∃ a : α, R w a cs) (h : DataW.trod enc P w base spare held fuel t [v] = some x) : ∃ l : List α, RSl size R w l v := by
  rcases open_slice ht h with ⟨hcs, _⟩ | ⟨a, len, cap, m, n, D, Pl, hcs, _, hl, _, hm, _, hi⟩
  · simp at hcs
    subst hcs
    exact ⟨[], RSl.nil⟩
  · simp at hcs
    subst hcs
    have hlm : len ≤ m := by rw [hm]; split <;> omega
    have hall : ∀ i : Fin len, ∃ p : α × List Value, p.2.length = size ∧ (∀ j, j < size → w.cell? ((a.add (i.1 * size)).add j) = p.2[j]?) ∧ R w p.1 p.2 := by
      intro i
      obtain ⟨cs, hc, htr⟩ := hi i.1 (by omega)
      rw [hC] at hc
      obtain ⟨_, hcl, hat⟩ := World.cells?_some hc
      obtain ⟨b, hb⟩ := elem n cs _ htr
      exact ⟨(b, cs), hcl, fun j hj => hat j hj, hb⟩
    let f : Fin len → α × List Value := fun i => Classical.choose (hall i)
    have hf : ∀ i : Fin len, (f i).2.length = size ∧ (∀ j, j < size → w.cell? ((a.add (i.1 * size)).add j) = (f i).2[j]?) ∧ R w (f i).1 (f i).2 := fun i => Classical.choose_spec (hall i)
    refine ⟨List.ofFn fun i => (f i).1, some a, cap, by simp, by simpa using hl, fun hne => ?_⟩
    have hpos : 0 < len := by
      rcases Nat.eq_zero_or_pos len with h0 | h0
      · subst h0; simp at hne
      · exact h0
    obtain ⟨b, off, spot⟩ := a
    have hspot : spot = none := by
      obtain ⟨h1, h2, _⟩ := hf ⟨0, hpos⟩
      have h3 := h2 0 hsz
      have h4 : ((f ⟨0, hpos⟩).2)[0]? = some (((f ⟨0, hpos⟩).2)[0]'(by omega)) := List.getElem?_eq_getElem _
      rw [h4] at h3
      have := World.cell?_spot h3
      simpa [Addr.add] using this
    subst hspot
    refine ⟨b, off, rfl, fun i hi' => ?_⟩
    have hi2 : i < len := by simpa using hi'
    obtain ⟨h1, h2, h3⟩ := hf ⟨i, hi2⟩
    refine ⟨(f ⟨i, hi2⟩).2, h1, fun j hj => ?_, by simpa using h3⟩
    have := h2 j hj
    rwa [addr_add, addr_add] at this

theorem st_open {e : TypeId} {fs : Array Field} {n : Nat} {cs : List Value} {x : DataW H × List MemPlace} (he : P.underlying e = some (.struct fs)) (hone : oneCellFields P fs = true) (hC : P.cellsOf e = fs.size)
    (h : DataW.trod enc P w base spare held n e cs = some x) : cs.length = fs.size ∧ ∀ (i : Nat) (f : Field), fs[i]? = some f → ∃ v y m, cs[i]? = some v ∧ DataW.trod enc P w base spare held m f.type [v] = some y := by
  obtain ⟨xs, m, _, _, hlen, hxl, hf⟩ := DataW.trod_struct he h
  rw [hC] at hlen
  refine ⟨hlen, fun i f hi => ?_⟩
  obtain ⟨ho, hk⟩ := hone_of hone i f hi
  have hil : i < fs.size := (Array.getElem?_eq_some_iff.1 hi).1
  have h1 := hf i f hi
  rw [ho, hk, List.drop_eq_getElem_cons (by omega)] at h1
  have h2 : xs[i]? = some (xs[i]'(by omega)) := List.getElem?_eq_getElem (by omega)
  rw [h2] at h1
  exact ⟨_, _, m, List.getElem?_eq_getElem (by omega), h1⟩

theorem int_open {t : TypeId} {k : IntKind} {n : Nat} {cs : List Value} {x : DataW H × List MemPlace} (ht : P.underlying t = some (.int k)) (h : DataW.trod enc P w base spare held n t cs = some x) : ∃ a : Int, cs = [.int k a] ∧ (Lit.int k a).wf = true := by
  obtain ⟨a, e, _, hw⟩ := DataW.trod_int ht h
  exact ⟨a, e, hw⟩

theorem u8_open {t : TypeId} {n : Nat} {cs : List Value} {x : DataW H × List MemPlace} (ht : P.underlying t = some (.int .u8)) (h : DataW.trod enc P w base spare held n t cs = some x) : ∃ a : UInt8, RU8 w a cs := by
  obtain ⟨a, rfl, hw⟩ := int_open ht h
  have hb : 0 ≤ a ∧ a ≤ 255 := by simpa [Lit.wf, IntKind.min, IntKind.max, IntKind.signed, IntKind.bits] using hw
  refine ⟨UInt8.ofNat a.toNat, ?_⟩
  have : ((UInt8.ofNat a.toNat).toNat : Int) = a := by rw [UInt8.toNat_ofNat']; omega
  show [Value.int .u8 a] = [Value.int .u8 ((UInt8.ofNat a.toNat).toNat : Int)]
  rw [this]
end

theorem wf_i64 {a : Int} (h : (Lit.int .i64 a).wf = true) : -9223372036854775808 ≤ a ∧ a ≤ 9223372036854775807 := by
  simpa [Lit.wf, IntKind.min, IntKind.max, IntKind.signed, IntKind.bits] using h
theorem wf_u32 {a : Int} (h : (Lit.int .u32 a).wf = true) : ∃ n : Nat, a = n ∧ n < 4294967296 := by
  have hb : 0 ≤ a ∧ a ≤ 4294967295 := by simpa [Lit.wf, IntKind.min, IntKind.max, IntKind.signed, IntKind.bits] using h
  exact ⟨a.toNat, by omega, by omega⟩
theorem wf_u16 {a : Int} (h : (Lit.int .u16 a).wf = true) : ∃ n : Nat, a = n ∧ n < 65536 := by
  have hb : 0 ≤ a ∧ a ≤ 65535 := by simpa [Lit.wf, IntKind.min, IntKind.max, IntKind.signed, IntKind.bits] using h
  exact ⟨a.toNat, by omega, by omega⟩
theorem wf_u8 {a : Int} (h : (Lit.int .u8 a).wf = true) : ∃ n : Nat, a = n ∧ n < 256 := by
  have hb : 0 ≤ a ∧ a ≤ 255 := by simpa [Lit.wf, IntKind.min, IntKind.max, IntKind.signed, IntKind.bits] using h
  exact ⟨a.toNat, by omega, by omega⟩
end Go.Proofs.Ytekioihjfggmdaa

/- A slice of bytes as an argument, opened. -/
namespace Go.Proofs.Ytekioihjfggmdaa
open Go.RowKit Go.ChangeShapes Go.WideShapes Go.Deep
set_option linter.unusedVariables false
end Go.Proofs.Ytekioihjfggmdaa

/- A slice of items as an argument, opened. -/
namespace Go.Proofs.Ytekioihjfggmdaa
open Go.RowKit Go.ChangeShapes Go.WideShapes Go.Deep
set_option linter.unusedVariables false
section
variable {H : Type} {enc : TypeId × Value → H} {w : World} {base : Nat} {spare : Nat → Bool} {held : Bool} {d : DataW H} {ps : List MemPlace}
theorem item_open (n : Nat) (cs : List Value) (y : DataW H × List MemPlace) (h : DataW.trod enc Try.prog w base spare held n 86 cs = some y) : ∃ p : It, RItem w p cs := by
  obtain ⟨hl, hf⟩ := st_open Try.underlying86 (by kernel_rfl) (by kernel_rfl) h
  obtain ⟨v0, y0, m0, e0, h0⟩ := hf 0 _ rfl
  obtain ⟨v1, y1, m1, e1, h1⟩ := hf 1 _ rfl
  obtain ⟨a0, g0⟩ := u8_open Try.underlying5 h0
  obtain ⟨l1, g1⟩ := rsl_of_trod (R := RU8) (size := 1) Try.underlying44 (by kernel_rfl) (by omega) (fun n cs y h => u8_open Try.underlying5 h) h1
  match cs, hl with
  | [c0, c1], _ =>
    simp only [RU8, List.cons.injEq, and_true] at g0
    simp at e0 e1
    subst e0 e1 g0
    exact ⟨(a0, l1), _, rfl, g1⟩
end
end Go.Proofs.Ytekioihjfggmdaa
