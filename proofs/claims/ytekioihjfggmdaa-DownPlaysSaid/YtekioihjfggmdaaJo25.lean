/- Texts of one claim, laid together: RtpR -/
import Derived.Deep.RegionLaw
import Derived.Test.YtekioihjfggmdaaJo24
/- rtp.Parse of what was put. -/
namespace Go.Proofs.Ytekioihjfggmdaa
open Go.RowKit
set_option linter.unusedVariables false

theorem put_ok {p : Pk} (h : p.err = 0) : p.may = true ∧ extErr p.exts = 0 ∧ ¬ (1500 : Int) < p.size + p.payload.length + p.pad := by
  have hm : p.may = true := by
    cases hm : p.may
    · rw [Pk.err, if_pos hm] at h; cases h
    · rfl
  have he : extErr p.exts = 0 := by
    by_cases he : extErr p.exts = 0
    · exact he
    · rw [Pk.err, if_neg (by rw [hm]; decide), if_pos he] at h; exact absurd h he
  refine ⟨hm, he, fun hb => ?_⟩
  rw [Pk.err, if_neg (by rw [hm]; decide), if_neg (by rw [he]; decide), if_pos hb] at h
  cases h
def Pk.T4 (p : Pk) : List UInt8 := p.payload ++ p.padB
def Pk.T3 (p : Pk) : List UInt8 := p.extP ++ p.T4
def Pk.T0 (p : Pk) : List UInt8 := csB p.csrc ++ p.T3
theorem bytes_eq (p : Pk) : p.bytes = be p.first 1 ++ (be p.second 1 ++ (be p.seq 2 ++ (be p.time 4 ++ (be p.ssrc 4 ++ p.T0)))) := by
  simp [Pk.bytes, Pk.head, puts, putOne, mayB, Pk.T0, Pk.T3, Pk.T4]
theorem out_bytes {p : Pk} (h : p.err = 0) : p.bytes.length ≤ 1500 := by
  have := out_len p
  rwa [Pk.out, if_pos h] at this

theorem sl32 : SlT Try.prog 40 22 (.int .u32 0) 1 4 := ⟨Try.underlying40, by kernel_rfl, rfl, by omega⟩
def u32s (l : List Nat) : List Value := l.map fun x => .int .u32 (x : Nat)
theorem csB_cons (x : Nat) (l : List Nat) : csB (x :: l) = be x 4 ++ csB l := by simp [csB]
theorem csB_drop (l t : List Nat) (r : List UInt8) (k : Nat) (h : k < l.length) : csB (l.drop k) ++ r = be l[k] 4 ++ (csB (l.drop (k + 1)) ++ r) := by
  rw [List.drop_eq_getElem_cons h, csB_cons, List.append_assoc]
/-- items in a row of their own, their bytes in blocks of bytes -/
def ItAt (w : World) (B : Nat) (out : List It) (v : Value) : Prop := ∃ vs, w.ownsRow B 86 2 v out.length (encI out vs) ∧ Datas w out vs
theorem ItAt.nil {w : World} {B : Nat} : ItAt w B [] (.slice none 0 0) := ⟨[], World.ownsRow_nil _ _ _ _, Datas.nil⟩
theorem ItAt.rsl {w : World} {B : Nat} {out : List It} {v : Value} (h : ItAt w B out v) : RSl 2 RItem w out v := by
  obtain ⟨vs, h1, h2⟩ := h
  exact rsl_items h1 h2
theorem ItAt.one {w w' : World} {B g : Nat} {out : List It} {v : Value} (h : ItAt w B out v) (hg : w.grownBy w' (some g)) {cs : Array Value} {T : TypeId} {fr : Nat × Nat} (hT : w.heap[g]? = some (.cells cs T fr)) (h1 : T ≠ 86) (h2 : T ≠ 5) : ItAt w' B out v := by
  obtain ⟨vs, h3, h4⟩ := h
  exact ⟨vs, h3.kept hg (Or.inr (own_ne h3 hT (fun e => h1 e.symm))), h4.grown hg (fun k cur fr' hk e => by injection e with e; subst e; exact blk_ne hT hk h2 rfl)⟩
theorem ItAt.le {w w' : World} {B : Nat} {out : List It} {v : Value} (h : ItAt w B out v) (hl : Le w w') : ItAt w' B out v := by
  obtain ⟨vs, h3, h4⟩ := h
  exact ⟨vs, hl.own h3, h4.keep hl.out⟩
theorem D8.one {w w' : World} {g : Nat} {l : List UInt8} {v : Value} (h : D8 w l v) (hg : w.grownBy w' (some g)) {cs : Array Value} {T : TypeId} {fr : Nat × Nat} (hT : w.heap[g]? = some (.cells cs T fr)) (h2 : T ≠ 5) : D8 w' l v :=
  h.grown hg (fun k cur fr' hk e => by injection e with e; subst e; exact blk_ne hT hk h2 rfl)
theorem own_rnat {w : World} {base n : Nat} {v : Value} {l : List Nat} (h : w.ownsRow base 22 1 v n (u32s l)) (hn : n = l.length) : RSl 1 (RNat .u32) w l v := by
  obtain ⟨A, cap, rfl, hcap, hc⟩ := own_slice h
  refine rsl_of_cells (enc := fun x => [.int .u32 (x : Nat)]) hn hcap (fun _ _ => rfl) (fun _ _ => rfl) (by omega) ?_
  have e : l.flatMap (fun x => [Value.int .u32 (x : Nat)]) = u32s l := by
    unfold u32s
    clear h hn hcap hc
    induction l with
    | nil => rfl
    | cons x l ih => rw [List.flatMap_cons, ih]; rfl
  rw [e]
  exact hc
theorem extB_four (l : List It) : 4 * ((extB l).length / 4) = (extB l).length := by
  unfold extB
  split
  · simp only [padB, List.length_append, List.length_replicate, padN]
    omega
  · rfl
theorem RdSt.own {w W W' : World} {g7 pc : Nat} {l : List UInt8} {cs : List Value} {v : Value} {n : Nat} {xs : List Value} (h : RdSt w W g7 pc l cs) (hg : W.grownBy W' (some pc)) (ho : W.ownsRow w.heap.size 22 1 v n xs) : W'.ownsRow w.heap.size 22 1 v n xs := by
  obtain ⟨ct, hct⟩ := h.cut.typ
  exact ho.kept hg (Or.inr (own_ne ho hct (by decide)))
theorem D8.pre {w : World} {l m : List UInt8} {A : Option Addr} {n cap : Nat} (h : D8 w (l ++ m) (.slice A n cap)) : D8 w l (.slice A l.length cap) := by
  obtain ⟨A', cap', e, hc, hd⟩ := h
  injection e with e1 e2 e3
  subst e1 e3
  rw [List.length_append] at hc
  refine ⟨A, cap, rfl, by omega, fun hne => ?_⟩
  obtain ⟨g, off, cur, fr, h1, h2, h3⟩ := hd (fun e => hne (List.append_eq_nil_iff.1 e).1)
  refine ⟨g, off, cur, fr, h1, h2, fun j hj => ?_⟩
  have := h3 j (by rw [List.length_append]; omega)
  rwa [List.getElem_append_left hj] at this
theorem rpar_ret {tmps : Array Value} {w W : World} {p : Pk} {v5 v6 v7 : Value} (ht : tmps.getD 2 undef = .pointer (some ⟨w.heap.size, 0, none⟩)) (hu : tmps.getD 3 undef = .int .i64 0)
    (hg : W.heap[w.heap.size]? = some (.cells #[.bool p.mark, .int .u8 p.type, .int .u16 p.seq, .int .u32 p.time, .int .u32 p.ssrc, v5, v6, v7, .int .i64 p.pad] 46 (0, 0))) (hp : PkAt W p v5 v6 v7 ∧ Below w.heap.size w W) :
    bodyPost Try.prog Try.f20 (fun e w' => ∃ v5 v6 v7, e = .returned (.tuple #[p.val v5 v6 v7, .int .i64 0]) ∧ PkAt w' p v5 v6 v7 ∧ Below w.heap.size w w') .ret { tmps := tmps, defers := [] } W := by
  have r1 := run_loadVar_row (P := Try.prog) W w.heap.size 46 46 _ (0, 0) _ hg Try.underlying46 rfl (by kernel_rfl)
  refine bodyPost_ret (v := .tuple #[p.val v5 v6 v7, .int .i64 0]) ?_ rfl ⟨v5, v6, v7, rfl, hp⟩
  rw [results_cell_tmp Try.results20, ht, hu]
  simp [asAddr, r1, Result.andThen, Pk.val]
theorem pad_last (p : Pk) (M pn : Nat) (h : p.pad = pn) (h0 : 0 < pn) (hb : pn ≤ 255) (hM : p.T4.length = M + 1) (hl : M < p.T4.length) : p.T4[M].toNat = pn := by
  have e : p.T4 = (p.payload ++ List.replicate (pn - 1) 0) ++ [UInt8.ofNat pn] := by
    rw [Pk.T4, Pk.padB, h, if_pos (by omega), Int.toNat_natCast, List.append_assoc]
  have hM' : M = (p.payload ++ List.replicate (pn - 1) 0).length := by rw [e] at hM; simp only [List.length_append, List.length_replicate, List.length_singleton] at hM ⊢; omega
  have : p.T4[M]? = some (UInt8.ofNat pn) := by rw [e, hM', List.getElem?_append_right (Nat.le_refl _)]; simp
  rw [List.getElem?_eq_getElem hl] at this
  rw [Option.some.inj this, UInt8.toNat_ofNat']
  exact Nat.mod_eq_of_lt (by omega)
theorem pad_len (p : Pk) (pn : Nat) (h : p.pad = pn) (h0 : 0 < pn) : p.T4.length = p.payload.length + pn := by
  rw [Pk.T4, Pk.padB, h, if_pos (by omega), Int.toNat_natCast]
  simp only [List.length_append, List.length_replicate, List.length_singleton]
  omega

set_option maxRecDepth 100000 in
set_option maxHeartbeats 4000000 in
theorem rtpParse_put (p : Pk) (hp : p.Ok) (he : p.err = 0) (A : Option Addr) (cap : Nat) (w : World) (hr : RSl 1 RU8 w p.bytes (.slice A p.bytes.length cap)) :
    Calls Try.prog 20 #[.slice A p.bytes.length cap] w (fun e w' => ∃ v5 v6 v7, e = .returned (.tuple #[p.val v5 v6 v7, .int .i64 0]) ∧ PkAt w' p v5 v6 v7 ∧ Below w.heap.size w w') := by
  have hbl := out_bytes he
  obtain ⟨hm, hee, hsz⟩ := put_ok he
  have hpm : 0 ≤ p.pad ∧ p.pad ≤ 255 ∧ p.csrc.length ≤ 15 ∧ p.type < 128 := by
    rw [Pk.may] at hm
    simp only [mayN, Bool.and_eq_true, decide_eq_true_eq] at hm
    omega
  have hbe := bytes_eq p
  have hlen : p.T0.length ≤ 1500 := by rw [hbe] at hbl; simp only [List.length_append, be_length] at hbl; omega
  have HNEW := hide (fun W (hW : Le w W) => new_any W A p.bytes.length cap p.bytes (hW.rsl keeps_u8 hr) (by omega))
  have HBE := hide hbe
  have HOK := hide hp
  have HE := hide he
  have HBL := hide hbl
  have hbl' : ¬ (1500 : Int) < (p.bytes.length : Int) := by omega
  clear hr hm hsz hbe he hp hbl
  generalize p.bytes.length = NB at *
  go_enter Try.func20, Try.ntmps20
  go_wp2_with fail
  refine (HNEW.out _ ((Le.refl w).alloc _)).mono ?_
  rintro e w1 ⟨pc, rfl, hc, hb⟩
  rw [HBE.out] at hc
  have hc1 := hc.base (base' := w.heap.size) (by simp)
  have h21 := (Le.mk hb).heap (heap_alloc_new w (.cells #[.bool false, .int .u8 0, .int .u16 0, .int .u32 0, .int .u32 0, .slice none 0 0, .slice none 0 0, .slice none 0 0, .int .i64 0] 46))
  have H1 := hide (And.intro hc1 (And.intro h21 (((Le.refl w).alloc (.cells #[.bool false, .int .u8 0, .int .u16 0, .int .u32 0, .int .u32 0, .slice none 0 0, .slice none 0 0, .slice none 0 0, .int .i64 0] 46)).trans ⟨hb⟩)))
  clear hc hc1 h21 hb HNEW
  have hF := p.first_eq
  obtain ⟨fb1, fb2, fb3, fb4⟩ := first_bits p.csrc.length hpm.2.2.1 (if 0 < p.pad then 1 else 0) (by split <;> omega) (if p.exts = [] then 0 else 1) (by split <;> omega)
  rw [← hF] at fb1 fb2 fb3 fb4
  have hF256 : p.first < 256 := by rw [hF]; split <;> split <;> omega
  have HFB := hide (And.intro fb1 (And.intro fb2 fb3))
  have hS256 : p.second < 256 := by unfold Pk.second; split <;> omega
  clear hF fb1 fb2 fb3
  go_wp2_with fail
  refine (num_be w1 w.heap.size pc p.first 1 _ (by omega) (by omega) (by omega) (by simp only [List.length_append, be_length]; omega) H1.out.1).mono ?_
  rintro e w2 ⟨rfl, hc2, hg2⟩
  obtain ⟨ct, hct⟩ := H1.out.1.typ
  have h22 := heap_grown hg2 H1.out.2.1 (by intro e; injection e with e; exact blk_ne H1.out.2.1 hct (by decide) e.symm)
  have hl2 : Le w w2 := ⟨H1.out.2.2.out.grown hg2 H1.out.2.2.size (by rintro k e; injection e with e; rw [← e]; exact H1.out.1.1)⟩
  have H2 := hide (And.intro hc2 (And.intro h22 hl2))
  have HERR := hide (hc2.err)
  clear hc2 hg2 hct h22 hl2
  generalize p.first = F at *
  have hsh : (F : Int) / 64 = 2 := by omega
  clear fb4
  go_wp2_with (go_at_call 40; refine HERR.out.mono ?_; rintro e w3 ⟨rfl, rfl⟩)
  have htl : (be p.seq 2 ++ (be p.time 4 ++ (be p.ssrc 4 ++ p.T0))).length ≤ 100000 := by simp only [List.length_append, be_length]; omega
  refine (num_be w2 w.heap.size pc p.second 1 _ (by omega) (by omega) (by omega) htl H2.out.1).mono ?_
  rintro e w4 ⟨rfl, hc4, hg4⟩
  obtain ⟨ct, hct⟩ := H2.out.1.typ
  have h24 := heap_grown hg4 H2.out.2.1 (by intro e; injection e with e; exact blk_ne H2.out.2.1 hct (by decide) e.symm)
  have hl4 : Le w w4 := ⟨H2.out.2.2.out.grown hg4 H2.out.2.2.size (by rintro k e; injection e with e; rw [← e]; exact H2.out.1.1)⟩
  have hsec := show p.second = p.type + (if p.mark then 128 else 0) from rfl
  have ht8 : IntKind.u8.wrap (p.type : Int) = p.type := by simp [IntKind.wrap, IntKind.signed, IntKind.bits]; omega
  have hmk : decide ((128 : Int) ≤ (p.second : Int)) = p.mark := by
    rw [hsec]
    cases p.mark
    · simp; omega
    · simp; omega
  have hty : bits .and .u64 (p.second : Int) 127 = (p.type : Int) := by
    rw [second_bits _ hS256, hsec]
    split <;> (congr 1; omega)
  have q2 : IntKind.u16.wrap (p.seq : Int) = p.seq := by have := HOK.out.seq; simp [IntKind.wrap, IntKind.signed, IntKind.bits]; omega
  have q3 : IntKind.u32.wrap (p.time : Int) = p.time := by have := HOK.out.time; simp [IntKind.wrap, IntKind.signed, IntKind.bits]; omega
  have q4 : IntKind.u32.wrap (p.ssrc : Int) = p.ssrc := by have := HOK.out.ssrc; simp [IntKind.wrap, IntKind.signed, IntKind.bits]; omega
  have hR5 : RdSt w (w4.alloc (.cells #[.bool p.mark, .int .u8 p.type, .int .u16 0, .int .u32 0, .int .u32 0, .slice none 0 0, .slice none 0 0, .slice none 0 0, .int .i64 0] 46)) w4.heap.size pc (be p.seq 2 ++ (be p.time 4 ++ (be p.ssrc 4 ++ p.T0))) [.bool p.mark, .int .u8 p.type, .int .u16 0, .int .u32 0, .int .u32 0, .slice none 0 0, .slice none 0 0, .slice none 0 0, .int .i64 0] :=
    ⟨hl4.alloc _, heap_alloc h24, heap_alloc_new w4 _, hc4.keep (((Le.refl w4).alloc _).out) (Nat.le_refl _), lt_of_heap h24⟩
  have H5 := hide hR5
  clear hc4 hg4 hct h24 hl4 hR5 hsec H1 H2 HERR htl
  generalize p.second = SEC at *
  go_wp2_with fail
  generalize w4.heap.size = g7 at *
  refine (num_be _ w.heap.size pc p.seq 2 _ (by omega) (by omega) (by have := HOK.out.seq; omega) (by simp only [List.length_append, be_length]; omega) H5.out.cut).mono ?_
  rintro e w6 ⟨rfl, hcq, hgq⟩
  have H6 := hide (H5.out.cutter hcq hgq)
  have y0 := H6.out.cell 2 (.int .u16 0) rfl
  have y1 := H6.out.free 2
  clear hcq hgq
  go_wp2_with fail
  clear y0 y1
  have H6s := hide (H6.out.set 2 (.int .u16 p.seq))
  simp only [List.set_cons_succ, List.set_cons_zero] at H6s
  refine (num_be _ w.heap.size pc p.time 4 _ (by omega) (by omega) (by have := HOK.out.time; omega) (by simp only [List.length_append, be_length]; omega) H6s.out.cut).mono ?_
  rintro e w7 ⟨rfl, hcq, hgq⟩
  have H7 := hide (H6s.out.cutter hcq hgq)
  have y0 := H7.out.cell 3 (.int .u32 0) rfl
  have y1 := H7.out.free 3
  clear hcq hgq
  go_wp2_with fail
  clear y0 y1
  have H7s := hide (H7.out.set 3 (.int .u32 p.time))
  simp only [List.set_cons_succ, List.set_cons_zero] at H7s
  refine (num_be _ w.heap.size pc p.ssrc 4 _ (by omega) (by omega) (by have := HOK.out.ssrc; omega) (by omega) H7s.out.cut).mono ?_
  rintro e w8 ⟨rfl, hcq, hgq⟩
  have H8 := hide (H7s.out.cutter hcq hgq)
  have y0 := H8.out.cell 4 (.int .u32 0) rfl
  have y1 := H8.out.free 4
  have fb1 := HFB.out.1
  clear hcq hgq H5 H6 H6s H7 H7s hmk hty ht8 q2 q3
  have H8s := hide (H8.out.set 4 (.int .u32 p.ssrc))
  simp only [List.set_cons_succ, List.set_cons_zero] at H8s
  go_wp2_with fail
  clear y0 y1 fb1 q4
  have hT0 : p.T0 = csB (p.csrc.drop 0) ++ p.T3 := by rw [List.drop_zero]; rfl
  rw [hT0] at H8s
  clear hT0 H8
  have hT3 : p.T3.length ≤ 1500 := by unfold Pk.T0 at hlen; rw [List.length_append] at hlen; omega
  go_loopw [60] (fun j wr => ∃ (k : Nat) (sv : Value), k ≤ p.csrc.length ∧ j = .int .u64 k ∧ RdSt w wr g7 pc (csB (p.csrc.drop k) ++ p.T3) [.bool p.mark, .int .u8 p.type, .int .u16 p.seq, .int .u32 p.time, .int .u32 p.ssrc, sv, .slice none 0 0, .slice none 0 0, .int .i64 0] ∧
    wr.ownsRow w.heap.size 22 1 sv k (u32s (p.csrc.take k))) (fun j _ => p.csrc.length - (intOf j).toNat)
  case atStart => exact ⟨0, .slice none 0 0, Nat.zero_le _, rfl, H8s.out, World.ownsRow_nil _ _ _ _⟩
  case round =>
    clear H8s
    obtain ⟨k, sv, hk, rfl, hR, hown⟩ := hrel
    have HR := hide hR
    have HO := hide hown
    clear hR hown
    by_cases hlt : k < p.csrc.length
    · have hx := HOK.out.csrc _ (List.getElem_mem hlt)
      have hdr : csB (p.csrc.drop k) ++ p.T3 = be p.csrc[k] 4 ++ (csB (p.csrc.drop (k + 1)) ++ p.T3) := csB_drop _ [] _ _ hlt
      have HTK := hide (show u32s (p.csrc.take (k + 1)) = u32s (p.csrc.take k) ++ [.int .u32 (p.csrc[k] : Nat)] by rw [u32s, u32s, List.take_succ_eq_append_getElem hlt, List.map_append]; rfl)
      have hcut := HR.out.cut
      rw [hdr] at hcut
      have hdl : (csB (p.csrc.drop (k + 1)) ++ p.T3).length ≤ 100000 := by rw [List.length_append, csB_len, List.length_drop]; omega
      generalize p.csrc[k] = x at *
      have HT := hide (num_be wr.drew w.heap.size pc x 4 _ (by omega) (by omega) (by omega) hdl (show CutAt wr.drew _ _ _ _ from hcut))
      have hwr : IntKind.u32.wrap (x : Int) = x := by simp [IntKind.wrap, IntKind.signed, IntKind.bits]; omega
      have z5 := HR.out.cell 5 sv rfl
      have HRD := hide (HR.out.later (Le.refl wr).drew)
      have HOD := hide (show wr.drew.ownsRow w.heap.size 22 1 sv k (u32s (p.csrc.take k)) from HO.out)
      obtain ⟨ct, hct⟩ := HRD.out.cut.typ
      have HNP := hide (own_ne HOD.out hct (by decide))
      have HN7 := hide (own_ne HOD.out HRD.out.h7 (by decide))
      clear hcut hdr hct hdl hx
      go_wp2_with fail
      go_region_law (first | (go_simp; go_at_call 39; refine HT.out.mono ?_; rintro e w2' ⟨rfl, hc2, hg2⟩; have HP2 := hide (HRD.out.cutter hc2 hg2); have HO2 := hide (HOD.out.kept hg2 (Or.inr HNP.out)); have y5 := HP2.out.cell 5 sv rfl; have y6 := fun o => (HP2.out.later ((Le.refl w2').alloc o)).cell 5 sv rfl; have HS2 := hide hg2.size; clear hc2 hg2) | (refine step_app rfl sl32 (.tmp 64) (.tmp 68) rfl (HO2.out.alloc _) (by simp [Act.eval]) (some ⟨_, 0, none⟩) 1 1 (by simp [Act.eval]) (news := [.int .u32 x]) (cells_new _ [.int .u32 x] _) rfl (by simp [Value.oneCell']) (by omega) (by omega) (le_alloc HP2.out.le.size) ?_; intro v3 w3 hown3 hg3 hat3; obtain ⟨A3, cap3, rfl, _, _⟩ := own_slice hown3; have HP3 := hide (HP2.out.app hg3 (HO2.out.alloc _)); have x5 := HP3.out.cell 5 sv rfl; have x6 := HP3.out.free 5; have HO3 := hide hown3; clear hown3 hg3 hat3))
      all_goals
        go_wp2_with fail
        go_roundw
        case rel =>
          have h9 := HP3.out.set 5 (.slice A3 (k + 1) cap3)
          refine ⟨k + 1, _, by omega, by go_num, h9, ?_⟩
          rw [HTK.out]
          exact ownsRow_setCell_other (a := ⟨g7, 5, none⟩) HO3.out (own_ne HO3.out HP3.out.h7 (by decide)) _
        case measure => simp [intOf]; omega
    · have hke : k = p.csrc.length := by omega
      subst hke
      have hR1 := HR.out
      have hO1 := HO.out
      rw [List.drop_length, show csB [] ++ p.T3 = p.T3 from rfl] at hR1
      rw [List.take_length] at hO1
      have H9 := hide (And.intro hR1 hO1)
      clear HR HO hR1 hO1 hlt hk
      have hbits : ∃ xb : Nat, bits .and .u64 (F : Int) 16 = (xb : Int) ∧ (p.exts = [] → xb = 0) ∧ (p.exts ≠ [] → xb = 16) := ⟨_, HFB.out.2.1, fun h => by rw [if_pos h], fun h => by rw [if_neg h]⟩
      obtain ⟨xb, hxb, hx0, hx1⟩ := hbits
      have HXB := hide (And.intro hx0 hx1)
      clear hx0 hx1
      go_upto_if 75 with fail
      clear hxb
      go_cut [] (fun wx => ∃ v6, RdSt w wx g7 pc p.T4 [.bool p.mark, .int .u8 p.type, .int .u16 p.seq, .int .u32 p.time, .int .u32 p.ssrc, sv, v6, .slice none 0 0, .int .i64 0] ∧ ItAt wx w.heap.size p.exts v6 ∧ wx.ownsRow w.heap.size 22 1 sv p.csrc.length (u32s p.csrc))
      case first =>
        by_cases hx : p.exts = []
        · have e := HXB.out.1 hx
          subst e
          have e3 : p.T3 = p.T4 := by rw [Pk.T3, Pk.extP, if_pos hx]; rfl
          have HX := hide hx
          have HE3 := hide e3
          clear hx e3
          go_wp2_with fail
          go_meet
          refine ⟨.slice none 0 0, ?_, ?_, H9.out.2⟩
          · rw [← HE3.out]; exact H9.out.1
          · rw [HX.out]; exact ItAt.nil
        · have e := HXB.out.2 hx
          subst e
          have HX := hide hx
          clear hx
          have e3 : p.T3 = be (extProf p.exts) 2 ++ (be ((extB p.exts).length / 4) 2 ++ (extB p.exts ++ p.T4)) := by
            rw [Pk.T3, Pk.extP, if_neg HX.out, puts_two]
            simp [putOne, mayB]
          have h4 := extB_four p.exts
          have HEB := hide (ext_back p.exts hee HX.out)
          have hpl := prof_lt p.exts
          have hc9 := H9.out.1.cut
          rw [e3] at hc9
          have hel : (extB p.exts).length ≤ 1500 ∧ p.T4.length ≤ 1500 := by rw [e3] at hT3; simp only [List.length_append, be_length] at hT3; omega
          generalize extProf p.exts = PR at *
          generalize extB p.exts = EB at *
          obtain ⟨Q, hQ⟩ : ∃ Q, Q = EB.length / 4 := ⟨_, rfl⟩
          rw [← hQ] at hc9 h4
          have hq1 : IntKind.u16.wrap (PR : Int) = PR := by simp [IntKind.wrap, IntKind.signed, IntKind.bits]; omega
          have hq2 : IntKind.i64.wrap (Q : Int) = Q := IntWalk.i64_in _ (by omega)
          have hq3 : (4 : Int) * (Q : Int) = (EB.length : Int) := by omega
          have hQl : Q < 65536 := by omega
          clear e3 hQ h4
          go_wp2_with fail
          refine (num_be _ w.heap.size pc PR 2 _ (by omega) (by omega) (by omega) (by simp only [List.length_append, be_length]; omega) hc9).mono ?_
          rintro e wa ⟨rfl, hca, hga⟩
          have Ha := hide (And.intro (H9.out.1.cutter hca hga) (H9.out.1.own hga H9.out.2))
          clear hca hga hc9
          go_wp2_with fail
          refine (num_be _ w.heap.size pc Q 2 _ (by omega) (by omega) (by omega) (by simp only [List.length_append]; omega) Ha.out.1.cut).mono ?_
          rintro e wb ⟨rfl, hca, hga⟩
          have Hb := hide (And.intro (Ha.out.1.cutter hca hga) (Ha.out.1.own hga Ha.out.2))
          clear hca hga Ha
          go_wp2_with fail
          refine (bytes_app _ w.heap.size pc EB p.T4 Hb.out.1.cut (by simp only [List.length_append]; omega)).mono ?_
          rintro e wc' ⟨ve, rfl, hca, hd8, hga⟩
          have Hc := hide (And.intro (Hb.out.1.cutter hca hga) (Hb.out.1.own hga Hb.out.2))
          obtain ⟨Ae, ce, rfl, hcape, hde⟩ := id hd8
          have HD8 := hide hd8.rsl
          have HERR := hide (Hc.out.1.cut.err)
          clear hca hga Hb hd8 hde hq3
          go_wp2_with fail
          refine HERR.out.mono ?_
          rintro e wd' ⟨rfl, rfl⟩
          have HPA := hide (extParseT_any PR EB Ae EB.length ce _ (by omega) HD8.out (by omega))
          rw [HEB.out] at HPA
          clear hq1 hq2 HERR
          go_wp2_with fail
          refine HPA.out.mono ?_
          rintro e we ⟨A6, c6, vs6, rfl, ho6, hd6, hb6⟩
          have He := hide (And.intro (Hc.out.1.later ⟨hb6⟩) (And.intro ((Le.mk hb6).own Hc.out.2) (show ItAt we w.heap.size p.exts (.slice A6 p.exts.length c6) from ⟨vs6, own_base ho6 Hc.out.1.le.size, hd6⟩)))
          have y0 := He.out.1.cell 6 (.slice none 0 0) rfl
          have y1 := He.out.1.free 6
          clear ho6 hd6 hb6 Hc HPA HD8
          go_wp2_with fail
          go_meet
          have hs := He.out.1.set 6 (.slice A6 p.exts.length c6)
          refine ⟨_, hs, ?_, ownsRow_setCell_other (a := ⟨g7, 6, none⟩) He.out.2.1 (own_ne He.out.2.1 He.out.1.h7 (by decide)) _⟩
          exact He.out.2.2.one (grown_set _) He.out.1.h7 (by decide) (by decide)
      case rest =>
        obtain ⟨v6, hR, h6, h5⟩ := hcut
        generalize wc = wf at *
        obtain ⟨A5, c5, rfl, _, _⟩ := own_slice h5
        obtain ⟨A6, c6, e6⟩ : ∃ A c, v6 = .slice A p.exts.length c := by
          obtain ⟨vs, ho, _⟩ := h6
          obtain ⟨A, c, e, _⟩ := own_slice ho
          exact ⟨A, c, e⟩
        subst e6
        have H := hide (And.intro hR (And.intro h6 h5))
        have HERR := hide hR.cut.err
        have HLEFT := hide hR.cut.left
        clear hR h6 h5 H9
        have hT4 : p.T4.length ≤ 1500 := by unfold Pk.T3 at hT3; rw [List.length_append] at hT3; omega
        go_wp2_with fail
        refine HERR.out.mono ?_
        rintro e w0' ⟨rfl, rfl⟩
        go_wp2_with fail
        refine HLEFT.out.mono ?_
        rintro e w0' ⟨rfl, rfl⟩
        go_wp2_with fail
        refine (bytes_app _ w.heap.size pc p.T4 [] (by rw [List.append_nil]; exact H.out.1.cut) (by rw [List.append_nil]; omega)).mono ?_
        rintro e wg ⟨v7, rfl, hca, hd8, hga⟩
        obtain ⟨ct, hct⟩ := H.out.1.cut.typ
        have Hg := hide (And.intro (H.out.1.cutter hca hga) (And.intro (H.out.1.own hga H.out.2.2) (And.intro (H.out.2.1.one hga hct (by decide) (by decide)) hd8)))
        obtain ⟨A7, c7, rfl, hc7, _⟩ := id hd8
        have y0 := Hg.out.1.cell 7 (.slice none 0 0) rfl
        have y1 := Hg.out.1.free 7
        clear hca hga hct H hd8 HERR HLEFT
        go_upto_region 32 with fail
        have hs := Hg.out.1.set 7 (.slice A7 p.T4.length c7)
        simp only [List.set_cons_succ, List.set_cons_zero] at hs
        have Hh := hide (And.intro hs (And.intro (ownsRow_setCell_other (a := ⟨g7, 7, none⟩) Hg.out.2.1 (own_ne Hg.out.2.1 Hg.out.1.h7 (by decide)) (.slice A7 p.T4.length c7)) (And.intro (Hg.out.2.2.1.one (grown_cell wg g7 7 (.slice A7 p.T4.length c7)) Hg.out.1.h7 (by decide) (by decide)) (Hg.out.2.2.2.one (grown_cell wg g7 7 (.slice A7 p.T4.length c7)) Hg.out.1.h7 (by decide)))))
        generalize wg.setCell ⟨g7, 7, none⟩ (.slice A7 p.T4.length c7) = wh at *
        clear hs Hg y0 y1
        have hbits : ∃ xb : Nat, bits .and .u64 (F : Int) 32 = (xb : Int) ∧ (¬ 0 < p.pad → xb = 0) ∧ (0 < p.pad → xb = 32) := ⟨_, HFB.out.2.2, fun h => by rw [if_neg h], fun h => by rw [if_pos h]⟩
        obtain ⟨xb2, hxb, hx0, hx1⟩ := hbits
        have HFIN : Hd (∀ (W : World) (A' : Option Addr) (c' : Nat), RdSt w W g7 pc [] [.bool p.mark, .int .u8 p.type, .int .u16 p.seq, .int .u32 p.time, .int .u32 p.ssrc, .slice A5 p.csrc.length c5, .slice A6 p.exts.length c6, .slice A' p.payload.length c', .int .i64 p.pad] → W.ownsRow w.heap.size 22 1 (.slice A5 p.csrc.length c5) p.csrc.length (u32s p.csrc) → ItAt W w.heap.size p.exts (.slice A6 p.exts.length c6) → D8 W p.payload (.slice A' p.payload.length c') →
            ∀ W', W.grownBy W' (some w.heap.size) → PkAt W' p (.slice A5 p.csrc.length c5) (.slice A6 p.exts.length c6) (.slice A' p.payload.length c') ∧ Below w.heap.size w W') := hide (fun W A' c' hR ho hi h8 W' hg => by
          refine ⟨⟨own_rnat (ho.kept hg (Or.inr (own_ne ho hR.h2 (by decide)))) rfl, (hi.one hg hR.h2 (by decide) (by decide)).rsl, (h8.one hg hR.h2 (by decide)).rsl⟩, hR.le.out.grown hg hR.le.size (by rintro k e; injection e with e; rw [← e]; exact Nat.le_refl _)⟩)
        by_cases hpad : 0 < p.pad
        · have e := hx1 hpad
          subst e
          obtain ⟨pn, hpn⟩ : ∃ pn : Nat, p.pad = pn := ⟨p.pad.toNat, by omega⟩
          have hpn1 : 0 < pn ∧ pn ≤ 255 := by omega
          have hl4 := pad_len p pn hpn hpn1.1
          obtain ⟨M, hM⟩ : ∃ M, p.T4.length = M + 1 := ⟨p.T4.length - 1, by omega⟩
          have HPRE := hide (D8.pre (l := p.payload) (m := p.padB) Hh.out.2.2.2)
          have HCL : Hd (∃ g8 o8, A7 = some ⟨g8, o8, none⟩ ∧ ∀ W, Le wh W → W.cell? ⟨g8, o8 + M, none⟩ = some (.int .u8 pn)) := by
            refine hide ?_
            obtain ⟨A', c', e, _, hd⟩ := Hh.out.2.2.2
            injection e with e1 e2 e3
            obtain ⟨g8, o8, cur, fr, eA, hg8, hj⟩ := hd (by intro h; rw [h] at hM; simp at hM)
            refine ⟨g8, o8, e1.trans eA, fun W hW => hW.cell ?_⟩
            have h1 := hj M (by omega)
            rw [pad_last p M pn hpn hpn1.1 hpn1.2 hM (by omega)] at h1
            rw [cell_block hg8]
            exact h1
          obtain ⟨g8, o8, rfl, hcl⟩ := HCL.out
          have HPN := hide hpn
          have hM1 : ((M + 1 : Nat) : Int) - 1 = M := by omega
          have hw1 : IntKind.i64.wrap (M : Int) = M := IntWalk.i64_in _ (by omega)
          rw [hM] at Hh hl4 hT4 hc7 ⊢
          have HL4 := hide hl4
          have m0 : (0 : Int) ≤ (M : Int) := by omega
          have m1 : (M : Int) < ((M + 1 : Nat) : Int) := by omega
          have m2 : (((M + 1 : Nat) : Int) == 0) = false := by rw [beq_eq_false_iff_ne]; omega
          have m3 : (((pn : Nat) : Int) == 0) = false := by rw [beq_eq_false_iff_ne]; omega
          have m4 : ¬ ((M + 1 : Nat) : Int) < (pn : Int) := by omega
          have m5 : ((M + 1 : Nat) : Int) - (pn : Int) = (p.payload.length : Int) := by omega
          have m6 : IntKind.i64.wrap (pn : Int) = pn := IntWalk.i64_in _ (by omega)
          have m7 : IntKind.i64.wrap (p.payload.length : Int) = p.payload.length := IntWalk.i64_in _ (by omega)
          have m8 : p.payload.length ≤ c7 := by omega
          have m9 : p.payload.length ≤ M + 1 := by omega
          clear hx0 hx1 hpad hpn hl4 hc7 hM
          generalize p.payload.length = PL at *
          generalize hN : M + 1 = N at *
          clear hN
          have y7 := Hh.out.1.cell 7 (.slice (some ⟨g8, o8, none⟩) N c7) rfl
          have y8 := hcl wh (Le.refl wh)
          have y1 := Hh.out.1.free 8
          have y2 := Hh.out.1.free 7
          clear hcl
          have y3 := Hh.out.1.cell 8 (.int .i64 0) rfl
          have h8 := (Hh.out.1.set 8 (.int .i64 pn)).set 7 (.slice (some ⟨g8, o8, none⟩) PL c7)
          simp only [List.set_cons_succ, List.set_cons_zero] at h8
          have g1 := grown_cell wh g7 8 (.int .i64 pn)
          have h7b := (Hh.out.1.set 8 (.int .i64 pn)).h7
          have g2 := grown_cell (wh.setCell ⟨g7, 8, none⟩ (.int .i64 pn)) g7 7 (.slice (some ⟨g8, o8, none⟩) PL c7)
          have o1 := ownsRow_setCell_other (a := ⟨g7, 7, none⟩) (ownsRow_setCell_other (a := ⟨g7, 8, none⟩) Hh.out.2.1 (own_ne Hh.out.2.1 Hh.out.1.h7 (by decide)) (.int .i64 pn)) (own_ne (ownsRow_setCell_other (a := ⟨g7, 8, none⟩) Hh.out.2.1 (own_ne Hh.out.2.1 Hh.out.1.h7 (by decide)) (.int .i64 pn)) h7b (by decide)) (.slice (some ⟨g8, o8, none⟩) PL c7)
          have HF := hide (HFIN.out _ _ c7 (by rw [HPN.out]; exact h8) o1 ((Hh.out.2.2.1.one g1 Hh.out.1.h7 (by decide) (by decide)).one g2 h7b (by decide) (by decide)) ((HPRE.out.one g1 Hh.out.1.h7 (by decide)).one g2 h7b (by decide)))
          have H8 := hide h8
          clear h8 g1 g2 h7b o1
          go_wp2_with (first | (refine wpl_load_blk rfl 46 (.tmp 7) rfl (cs := [.bool p.mark, .int .u8 p.type, .int .u16 p.seq, .int .u32 p.time, .int .u32 p.ssrc, .slice A5 p.csrc.length c5, .slice A6 p.exts.length c6, .slice (some ⟨g8, o8, none⟩) PL c7, .int .i64 (pn : Nat)]) _ rfl Try.underlying46 rfl (by kernel_rfl) H8.out.h7 ?_) | (refine wpl_store_blk rfl 46 (.tmp 2) (.tmp 160) (cs := [.bool p.mark, .int .u8 p.type, .int .u16 p.seq, .int .u32 p.time, .int .u32 p.ssrc, .slice A5 p.csrc.length c5, .slice A6 p.exts.length c6, .slice (some ⟨g8, o8, none⟩) PL c7, .int .i64 (pn : Nat)]) rfl rfl rfl (by kernel_rfl) (by simp [Value.oneCell']) H8.out.h2 rfl ?_; intro wz hn hg; have HZ := hide (And.intro hn hg); clear hn hg))
          exact rpar_ret rfl rfl (by rw [HPN.out]; exact HZ.out.1) (HF.out wz HZ.out.2)
        · have e := hx0 hpad
          subst e
          have e0 : p.pad = 0 := by omega
          have e4 : p.T4 = p.payload := by rw [Pk.T4, Pk.padB, if_neg hpad, List.append_nil]
          rw [e4] at Hh
          have HE0 := hide e0
          clear hx0 hx1 hpad e0
          rw [e4]
          have hf := HFIN.out wh A7 c7 (by rw [HE0.out]; exact Hh.out.1) Hh.out.2.1 Hh.out.2.2.1 Hh.out.2.2.2
          have HF := hide hf
          clear hf e4
          go_wp2_with (first | (refine wpl_load_blk rfl 46 (.tmp 7) rfl (cs := [.bool p.mark, .int .u8 p.type, .int .u16 p.seq, .int .u32 p.time, .int .u32 p.ssrc, .slice A5 p.csrc.length c5, .slice A6 p.exts.length c6, .slice A7 p.payload.length c7, .int .i64 0]) _ rfl Try.underlying46 rfl (by kernel_rfl) Hh.out.1.h7 ?_) | (refine wpl_store_blk rfl 46 (.tmp 2) (.tmp 160) (cs := [.bool p.mark, .int .u8 p.type, .int .u16 p.seq, .int .u32 p.time, .int .u32 p.ssrc, .slice A5 p.csrc.length c5, .slice A6 p.exts.length c6, .slice A7 p.payload.length c7, .int .i64 0]) rfl rfl rfl (by kernel_rfl) (by simp [Value.oneCell']) Hh.out.1.h2 rfl ?_; intro wz hn hg; have HZ := hide (And.intro hn hg); clear hn hg))
          exact rpar_ret rfl rfl (by rw [HE0.out]; exact HZ.out.1) (HF.out wz HZ.out.2)
end Go.Proofs.Ytekioihjfggmdaa
