/- Texts of one claim, laid together: ExtPar -/
import Derived.Test.YtekioihjfggmdaaJo05
/- ext.Parse. -/
namespace Go.Proofs.Ytekioihjfggmdaa
open Go.RowKit
set_option linter.unusedVariables false

theorem item1_any (a : Nat) (w : World) (ha : a < 256) : Calls Try.prog 73 #[.int .u8 a] w fun e w' => e = .returned (.tuple #[.int .u8 ((a : Int) / 16), .int .i64 ((a : Int) % 16 + 1)]) ∧ w = w' := by
  go_enter Try.func73, Try.ntmps73
  go_wp2
  go_ret2
  exact ⟨rfl, rfl⟩

theorem item2_any (a : Nat) (w : World) (base q p : Nat) (l : List UInt8) (hq : w.heap[q]? = some (.cells #[.pointer (some ⟨p, 0, none⟩)] 117 (0, 0))) (h : CutAt w base p l 0) (hl : l.length ≤ 2147483648) :
    Calls Try.prog 74 #[.int .u8 a, .pointer (some ⟨q, 0, none⟩)] w fun e w' => e = .returned (.tuple #[.int .u8 a, .int .i64 (val (cut l 0 1 (mayB 1)).2.2 : Nat)]) ∧ CutAt w' base p (cut l 0 1 (mayB 1)).1 (cut l 0 1 (mayB 1)).2.1 ∧ w.grownBy w' (some p) := by
  have HT := hide (num_any w base p l 0 1 h hl)
  have c0 : w.cell? ⟨q, 0, none⟩ = some (.pointer (some ⟨p, 0, none⟩)) := cell_block hq 0
  have hln : (cut l 0 1 (mayB 1)).2.2.length ≤ 1 := by
    unfold cut
    repeat' split
    all_goals first | (simp; done) | (simp; omega)
  have hv : val (cut l 0 1 (mayB 1)).2.2 < 256 := Nat.lt_of_lt_of_le (val_lt _) (Nat.le_trans (Nat.pow_le_pow_right (by omega) hln) (by decide))
  clear hq h hln
  go_enter Try.func74, Try.ntmps74
  go_wp2_with fail
  refine HT.out.mono ?_
  rintro e w' ⟨hr, hc, hg⟩
  obtain rfl : e = .returned (.int .u64 (val (cut l 0 1 (mayB 1)).2.2 : Nat)) := hr
  have HC := hide hc; have HG := hide hg
  clear hc hg HT c0
  obtain ⟨x, hx⟩ : ∃ x, val (cut l 0 1 (mayB 1)).2.2 = x := ⟨_, rfl⟩
  rw [hx] at hv ⊢
  have HX := hide hx
  clear hx
  go_wp2_with fail
  go_ret2
  exact ⟨by rw [HX.out]; rfl, HC.out, HG.out⟩

/-- the same, with the blocks: items in a row of their own, bytes in blocks of bytes -/
def ParT (w : World) (out : List It) (err : Int) (e : Ending) (w' : World) : Prop :=
  ∃ A cap vs, e = .returned (.tuple #[.slice A out.length cap, .int .i64 err]) ∧ w'.ownsRow w.heap.size 86 2 (.slice A out.length cap) out.length (encI out vs) ∧ Datas w' out vs ∧ Below w.heap.size w w'
theorem parT_mk {w w' : World} {R : List It × Int} {out : List It} {err : Int} {A : Option Addr} {n cap : Nat} {vs : List Value} (hR : R = (out, err)) (hn : n = out.length) (ho : w'.ownsRow w.heap.size 86 2 (.slice A n cap) n (encI out vs)) (hd : Datas w' out vs) (hb : Below w.heap.size w w') :
    ParT w R.1 R.2 (.returned (.tuple #[.slice A n cap, .int .i64 err])) w' := by
  subst hR hn
  exact ⟨A, cap, vs, rfl, ho, hd, hb⟩
theorem cut_heap {w : World} {base p : Nat} {l : List UInt8} {e : Int} (h : CutAt w base p l e) : w.heap[p]? = some (.cells #[.slice h.2.choose l.length h.2.choose_spec.choose, .int .i64 e] 171 (0, 0)) := h.2.choose_spec.choose_spec.1
theorem cut_cell {w : World} {base p : Nat} {l : List UInt8} {e : Int} (h : CutAt w base p l e) : ∃ A cap, w.cell? ⟨p, 0, none⟩ = some (.slice A l.length cap) := by
  obtain ⟨_, A, cap, hp, _⟩ := h
  exact ⟨A, cap, cell_block hp 0⟩
theorem cut_ne {w : World} {base p : Nat} {l : List UInt8} {e : Int} (h : CutAt w base p l e) {g : Nat} {cs : Array Value} {t : TypeId} {fr : Nat × Nat} (hg : w.heap[g]? = some (.cells cs t fr)) (ht : t ≠ 171) : some p ≠ some g := by
  intro e'
  injection e' with e'
  subst e'
  obtain ⟨_, A, cap, hp, _⟩ := h
  rw [hg] at hp
  injection hp with hp
  injection hp with _ hp _
  exact ht hp
theorem cut_grown {w w' : World} {base p : Nat} {l : List UInt8} {e : Int} (h : CutAt w base p l e) {row : Option Nat} (hg : w.grownBy w' row) (hne : ∀ g cs t fr, w.heap[g]? = some (.cells cs t fr) → t ≠ 86 → row ≠ some g) : CutAt w' base p l e := by
  obtain ⟨h1, A, cap, hp, hc, hd⟩ := h
  refine ⟨h1, A, cap, heap_grown hg hp (hne _ _ _ _ hp (by decide)), hc, fun hn => ?_⟩
  obtain ⟨g, off, cur, h3, h4, h5, h6⟩ := hd hn
  exact ⟨g, off, cur, h3, h4, heap_grown hg h5 (hne _ _ _ _ h5 (by decide)), h6⟩
theorem slItem : SlT Try.prog 41 86 (.agg #[.int .u8 0, .slice none 0 0]) 2 32 := ⟨Try.underlying41, by kernel_rfl, rfl, by omega⟩

set_option maxRecDepth 100000 in
set_option maxHeartbeats 4000000 in
theorem extParseT_any (pr : Nat) (l : List UInt8) (A : Option Addr) (n cap : Nat) (w : World) (hp : pr < 65536) (hr : RSl 1 RU8 w l (.slice A n cap)) (hl : l.length ≤ 100000) :
    Calls Try.prog 42 #[.int .u16 pr, .slice A n cap] w (ParT w (extParse pr l).1 (extParse pr l).2) := by
  have HR := hide hr
  obtain ⟨A', cap', hv, hcap, _⟩ := hr
  injection hv with e1 e2 e3
  subst e1 e2 e3
  have hk : profK pr = 0 ∨ profK pr = 1 ∨ profK pr = 2 := by unfold profK; split <;> (try split) <;> simp
  go_enter Try.func42, Try.ntmps42
  go_wp2_with fail
  refine (new_any w A l.length cap l HR.out (by omega)).mono ?_
  rintro e w1 ⟨p, rfl, hc1, hb1⟩
  have hq := heap_alloc_new w1 (.cells #[.pointer (some ⟨p, 0, none⟩)] 117)
  have hl2 : Le w (w1.alloc (.cells #[.pointer (some ⟨p, 0, none⟩)] 117)) := (Le.mk hb1).alloc _
  have hc2 := hc1.keep ((Le.refl w1).alloc (.cells #[.pointer (some ⟨p, 0, none⟩)] 117)).out (Nat.le_refl _)
  have hqc := cell_block hq 0
  rcases hk with hk | hk | hk
  · have HE := hide (show extParse pr l = ([], 0) by rw [extParse, if_pos hk])
    obtain ⟨R, hR⟩ : ∃ R, extParse pr l = R := ⟨_, rfl⟩
    rw [hR] at HE
    have HRR := hide hR
    have hne : ((pr : Int) != 48862) = true := by
      rw [bne_iff_ne]; unfold profK at hk; intro h
      rw [if_neg (by omega), if_pos (by omega)] at hk
      omega
    have hlg : pr < 4096 ∨ 4112 ≤ pr := by
      unfold profK at hk
      by_cases h : 4096 ≤ pr ∧ pr < 4112
      · rw [if_pos h] at hk; omega
      · omega
    have HK := hide hk
    clear hk hR hq hc2 hc1 hb1 hqc
    rcases hlg with h | h
    · have hI : ¬ (4096 : Int) ≤ (pr : Int) := by omega
      clear h
      go_wp2_with fail
      go_ret2
      exact parT_mk (HRR.out.trans HE.out) rfl (World.ownsRow_nil _ _ _ _) Datas.nil hl2.out
    · have hI : (4096 : Int) ≤ (pr : Int) := by omega
      have hI2 : ¬ (pr : Int) < 4112 := by omega
      clear h
      go_wp2_with fail
      go_ret2
      exact parT_mk (HRR.out.trans HE.out) rfl (World.ownsRow_nil _ _ _ _) Datas.nil hl2.out
  · have hR := (show extParse pr l = parseF true l.length [] l by rw [extParse, if_neg (by omega), hk]; rfl)
    have hpe : pr = 48862 := by
      unfold profK at hk
      by_cases h : 4096 ≤ pr ∧ pr < 4112
      · rw [if_pos h] at hk; omega
      · rw [if_neg h] at hk
        by_cases h2 : pr = 48862
        · exact h2
        · rw [if_neg h2] at hk; omega
    subst hpe
    obtain ⟨R, hRR⟩ : ∃ R, extParse 48862 l = R := ⟨_, rfl⟩
    rw [hRR] at hR
    have HRR := hide hRR
    have HR0 := hide hR.symm
    have HK := hide hk
    go_wp2_with fail
    generalize w1.alloc (.cells #[.pointer (some ⟨p, 0, none⟩)] 117) = w2 at *
    generalize w1.heap.size = q at *
    have HC0 := hide hc2; have HQ0 := hide hq; have HLE0 := hl2
    clear hk hR hRR hq hc2 hc1 hb1 hqc hl2
    go_loopw [7] (fun v wr => ∃ (f : Nat) (L : List UInt8) (out : List It) (vs : List Value), L.length ≤ f ∧ L.length ≤ 100000 ∧ Hd (parseF true f out L = R) ∧ out.length ≤ 14 ∧ Hd (CutAt wr w.heap.size p L 0) ∧ Hd (wr.heap[q]? = some (.cells #[.pointer (some ⟨p, 0, none⟩)] 117 (0, 0))) ∧ Hd (wr.ownsRow w.heap.size 86 2 v out.length (encI out vs)) ∧ Hd (Datas wr out vs) ∧ Le w wr)
        (fun v wr => match wr.cell? ⟨p, 0, none⟩ with | some (.slice _ n _) => n | _ => 0)
    case atStart => exact ⟨l.length, l, [], [], Nat.le_refl _, hl, HR0, by simp, HC0, HQ0, hide (World.ownsRow_nil _ _ _ _), hide Datas.nil, HLE0⟩
    case round =>
      clear HR0 HC0 HQ0 HLE0
      obtain ⟨f, L, out, vs, hf, hL, HF, ho, HC, HQ, HO, HD, hle⟩ := hrel
      have q0 := cell_block HQ.out 0
      simp only [List.getElem?_toArray, List.getElem?_cons_zero] at q0
      have hm0 := cut_cell HC.out
      obtain ⟨Am0, cm0, hm0⟩ := hm0
      obtain ⟨A, cap, rfl, _, _⟩ := own_slice HO.out
      rcases L with _ | ⟨a, L⟩
      · have HE := hide (show R = (out, 0) by rw [← HF.out, parseF_nil])
        go_wp2_with (go_at_call 43; refine HC.out.left.mono ?_; rintro r w4 ⟨rfl, rfl⟩)
        go_ret2
        exact parT_mk (HRR.out.trans HE.out) rfl HO.out HD.out hle.out
      obtain ⟨f, rfl⟩ : ∃ f', f = f' + 1 := ⟨f - 1, by simp at hf; omega⟩
      have hf' : L.length ≤ f := by simpa using hf
      have hL' : L.length + 1 ≤ 100000 := by simpa using hL
      clear hf hL
      have ha := a.toNat_lt
      have hpos : (0 : Int) < (((a :: L).length : Nat) : Int) := by rw [List.length_cons]; omega
      go_wp2_with (go_at_call 43; refine HC.out.left.mono ?_; rintro r w4 ⟨rfl, rfl⟩)
      have hnum := num_any wr w.heap.size p (a :: L) 0 1 HC.out (by simp; omega)
      rw [show cut (a :: L) 0 1 (mayB 1) = (L, 0, [a]) by rw [cut, if_neg (by simp), if_neg (by decide), if_neg (by simp; omega)]; rfl] at hnum
      refine hnum.mono ?_
      clear hnum
      rintro r w2 ⟨hr, hc2, hg2⟩
      obtain rfl : r = .returned (.int .u64 (a.toNat : Nat)) := by rw [hr]; simp [val]
      have HC2 := hide (show CutAt w2 w.heap.size p L 0 from hc2)
      have HQ2 := hide (heap_grown hg2 HQ.out (cut_ne HC.out HQ.out (by decide)))
      have HO2 := hide (HO.out.kept hg2 (Or.inr (own_ne HO.out (cut_heap HC.out) (by decide))))
      have HD2 := hide (HD.out.grown hg2 (fun g cur fr h => cut_ne HC.out h (by decide)))
      have HLE2 : Le w w2 := ⟨below_row hle.out hg2 HC.out.1 hle.size⟩
      have q2 := cell_block HQ2.out 0
      simp only [List.getElem?_toArray, List.getElem?_cons_zero] at q2
      clear hc2 hg2 hle q0
      have hwa : IntKind.u8.wrap (a.toNat : Int) = a.toNat := IntWalk.u8_in _ (by omega)
      by_cases ha0 : a.toNat = 0
      · have HF2 := hide (show parseF true f out L = R by rw [← HF.out, parseF_zero ha0])
        have ha0I : ((a.toNat : Int) == 0) = true := by rw [beq_iff_eq]; omega
        clear ha0
        go_wp2_with fail
        go_roundw
        case rel => exact ⟨f, L, out, vs, hf', by omega, HF2, ho, HC2, HQ2, HO2, HD2, HLE2⟩
        case measure =>
          obtain ⟨Am, cm, hm2⟩ := cut_cell HC2.out
          rw [hm2, hm0]
          simp
      have ha0I : ((a.toNat : Int) == 0) = false := by rw [beq_eq_false_iff_ne]; omega
      have HFS := hide (HF.out.symm.trans (parseF_short ha0))
      clear ha0
      go_wp2_with fail
      refine (item1_any a.toNat w2 ha).mono ?_
      rintro r w4 ⟨rfl, rfl⟩
      by_cases h15 : a.toNat / 16 = 15
      · have HF2 := hide (show R = (out, 0) by rw [HFS.out, if_pos h15])
        have h15I : (((a.toNat : Int) / 16) == 15) = true := by rw [beq_iff_eq]; omega
        clear h15
        go_wp2_with fail
        go_ret2
        exact parT_mk (HRR.out.trans HF2.out) rfl HO2.out HD2.out HLE2.out
      have h15I : (((a.toNat : Int) / 16) == 15) = false := by rw [beq_eq_false_iff_ne]; omega
      by_cases hid : a.toNat / 16 = 0
      · have HF2 := hide (show R = ([], 11) by rw [HFS.out, if_neg h15, if_pos hid])
        have hidI : (((a.toNat : Int) / 16) == 0) = true := by rw [beq_iff_eq]; omega
        clear h15 hid
        go_wp2_with fail
        go_ret2
        exact parT_mk (HRR.out.trans HF2.out) rfl (World.ownsRow_nil _ _ _ _) Datas.nil HLE2.out
      have hidI : (((a.toNat : Int) / 16) == 0) = false := by rw [beq_eq_false_iff_ne]; omega
      have HFB := hide (show bodyX out (UInt8.ofNat (a.toNat / 16)) (a.toNat % 16 + 1) L (parseF true f) = R by rw [HFS.out, if_neg h15, if_neg hid])
      obtain ⟨y, hy⟩ : ∃ y, UInt8.ofNat (a.toNat / 16) = y := ⟨_, rfl⟩
      have hyI : (a.toNat : Int) / 16 = (y.toNat : Int) := by rw [← hy, UInt8.toNat_ofNat']; omega
      obtain ⟨m, hm⟩ : ∃ m, a.toNat % 16 + 1 = m := ⟨_, rfl⟩
      have hmI : (a.toNat : Int) % 16 + 1 = (m : Int) := by omega
      have hm16 : m ≤ 16 := by omega
      rw [hy, hm] at HFB
      rw [hyI] at h15I hidI
      rw [hyI, hmI]
      clear h15 hid hy hyI hm hmI
      go_wp2_with fail
      refine (bytes_any w2 w.heap.size p L 0 (m : Int) HC2.out (by omega)).mono ?_
      rintro r w3 ⟨v3, rfl, hc3, hd3, hg3⟩
      have HQ3 := hide (heap_grown hg3 HQ2.out (cut_ne HC2.out HQ2.out (by decide)))
      have HO3 := hide (HO2.out.kept hg3 (Or.inr (own_ne HO2.out (cut_heap HC2.out) (by decide))))
      have HD3 := hide (HD2.out.grown hg3 (fun g cur fr h => cut_ne HC2.out h (by decide)))
      have HLE3 : Le w w3 := ⟨below_row HLE2.out hg3 HC2.out.1 HLE2.size⟩
      have q3 := cell_block HQ3.out 0
      simp only [List.getElem?_toArray, List.getElem?_cons_zero] at q3
      clear hg3
      by_cases hsh : L.length < m
      · have hcut : cut L 0 (m : Int) (decide (0 ≤ (m : Int))) = (L, 10, []) := by
          rw [cut, if_neg (by simp), if_neg (by simp), if_pos (by omega)]
        rw [hcut] at hc3 hd3
        have HF3 := hide (show R = ([], 10) by rw [← HFB.out, bodyX_short hsh])
        have HC3 := hide hc3
        clear hc3 hd3 hcut
        go_wp2_with fail
        refine HC3.out.err.mono ?_
        rintro r w4 ⟨rfl, rfl⟩
        go_wp2_with fail
        go_ret2
        exact parT_mk (HRR.out.trans HF3.out) rfl (World.ownsRow_nil _ _ _ _) Datas.nil HLE3.out
      have hcut : cut L 0 (m : Int) (decide (0 ≤ (m : Int))) = (L.drop m, 0, L.take m) := by
        rw [cut, if_neg (by simp), if_neg (by simp), if_neg (by omega)]
        rw [show ((m : Int) : Int).toNat = m by omega]
      rw [hcut] at hc3 hd3
      have HC3 := hide (show CutAt w3 w.heap.size p (L.drop m) 0 from hc3)
      have hd3' : D8 w3 (L.take m) v3 := hd3
      clear hc3 hcut hd3
      have hln : (L.take m).length = m := by simp; omega
      obtain ⟨A3, cap3, rfl, hcp3, _⟩ := id hd3'
      rw [hln] at hd3' hcp3 ⊢
      have HDX := hide hd3'
      have HLN := hide hln
      clear hd3' hln
      by_cases h14 : out.length = 14
      · have HF3 := hide (show R = ([], 13) by rw [← HFB.out, bodyX_big hsh h14])
        have h14I : ((out.length : Int) == 14) = true := by rw [beq_iff_eq]; omega
        clear h14
        go_wp2_with (go_at_call 40; refine HC3.out.err.mono ?_; rintro r w4 ⟨rfl, rfl⟩)
        go_ret2
        exact parT_mk (HRR.out.trans HF3.out) rfl (World.ownsRow_nil _ _ _ _) Datas.nil HLE3.out
      have h14I : ((out.length : Int) == 14) = false := by rw [beq_eq_false_iff_ne]; omega
      have HF3 := hide (show parseF true f (out ++ [(y, L.take m)]) (L.drop m) = R by rw [← HFB.out, bodyX_on hsh h14])
      have hol : out.length + 1 ≤ 14 := by omega
      have HDV := hide HD3.out.1
      have HNE := hide (fun (g : Nat) (cs : Array Value) (t : TypeId) (fr : Nat × Nat) (h : (w3.alloc (.cells #[.int .u8 (y.toNat : Int), .slice A3 m cap3] 86)).heap[g]? = some (.cells cs t fr)) (ht : 86 ≠ t) => own_ne (HO3.out.alloc (.cells #[.int .u8 (y.toNat : Int), .slice A3 m cap3] 86)) h ht)
      clear h14
      go_wp2_with (first
        | (go_at_call 40; refine HC3.out.err.mono ?_; rintro r w4 ⟨rfl, rfl⟩)
        | (at_builtin; go_must (refine wpl_app rfl slItem (.tmp 61) (.tmp 65) rfl (HO3.out.alloc _) rfl rfl (news := [.int .u8 (y.toNat : Int), .slice A3 m cap3]) (cells_new _ _ _) rfl (by simp [Value.oneCell']) (by omega) (by omega) (le_alloc HLE3.size) ?_); intro v5 w5 ho5 hg5 hat5; have HG5 := hide hg5; have HO5 := hide ho5; clear hg5 ho5 hat5))
      go_roundw
      case rel =>
        have hld : (L.drop m).length ≤ L.length := by simp
        refine ⟨f, L.drop m, out ++ [(y, L.take m)], vs ++ [.slice A3 m cap3], by omega, by omega, HF3, by simp; omega, hide ?_, hide ?_, hide ?_, hide ?_, ⟨below_grown (HLE3.out.alloc HLE3.size _) (HO3.out.alloc _) HG5.out (Nat.le_refl _) (le_alloc HLE3.size)⟩⟩
        · exact cut_grown (HC3.out.keep ((Le.refl w3).alloc _).out (Nat.le_refl _)) HG5.out (fun g cs t fr h ht => HNE.out g cs t fr h (Ne.symm ht))
        · exact heap_grown HG5.out (heap_alloc HQ3.out) (HNE.out _ _ _ _ (heap_alloc HQ3.out) (by decide))
        · rw [encI_snoc _ _ _ _ HDV.out, List.length_append]
          exact HO5.out
        · exact Datas.snoc ((HD3.out.keep ((Le.refl w3).alloc _).out).grown HG5.out (fun g cur fr h => HNE.out g cur _ fr h (by decide))) ((HDX.out.keep ((Le.refl w3).alloc _).out).grown HG5.out (fun g cur fr h => HNE.out g cur _ fr h (by decide)))
      case measure =>
        have hm5 := cut_cell (cut_grown (HC3.out.keep ((Le.refl w3).alloc _).out (Nat.le_refl _)) HG5.out (fun g cs t fr h ht => HNE.out g cs t fr h (Ne.symm ht)))
        obtain ⟨Am, cm, hm5⟩ := hm5
        rw [hm5, hm0]
        simp only [List.length_drop, List.length_cons]
        omega

  · have hR := (show extParse pr l = parseF false l.length [] l by rw [extParse, if_neg (by omega), hk]; rfl)
    have hlg : 4096 ≤ pr ∧ pr < 4112 := by
      unfold profK at hk
      by_cases h : 4096 ≤ pr ∧ pr < 4112
      · exact h
      · rw [if_neg h] at hk
        by_cases h2 : pr = 48862
        · rw [if_pos h2] at hk; omega
        · rw [if_neg h2] at hk; omega
    have hI : (4096 : Int) ≤ (pr : Int) := by omega
    have hI2 : (pr : Int) < 4112 := by omega
    have hne : ((pr : Int) == 48862) = false := by rw [beq_eq_false_iff_ne]; omega
    have hne2 : ((pr : Int) != 48862) = true := by rw [bne_iff_ne]; omega
    clear hlg
    obtain ⟨R, hRR⟩ : ∃ R, extParse pr l = R := ⟨_, rfl⟩
    rw [hRR] at hR
    have HRR := hide hRR
    have HR0 := hide hR.symm
    have HK := hide hk
    go_wp2_with fail
    generalize w1.alloc (.cells #[.pointer (some ⟨p, 0, none⟩)] 117) = w2 at *
    generalize w1.heap.size = q at *
    have HC0 := hide hc2; have HQ0 := hide hq; have HLE0 := hl2
    clear hk hR hRR hq hc2 hc1 hb1 hqc hl2
    go_loopw [7] (fun v wr => ∃ (f : Nat) (L : List UInt8) (out : List It) (vs : List Value), L.length ≤ f ∧ L.length ≤ 100000 ∧ Hd (parseF false f out L = R) ∧ out.length ≤ 14 ∧ Hd (CutAt wr w.heap.size p L 0) ∧ Hd (wr.heap[q]? = some (.cells #[.pointer (some ⟨p, 0, none⟩)] 117 (0, 0))) ∧ Hd (wr.ownsRow w.heap.size 86 2 v out.length (encI out vs)) ∧ Hd (Datas wr out vs) ∧ Le w wr)
        (fun v wr => match wr.cell? ⟨p, 0, none⟩ with | some (.slice _ n _) => n | _ => 0)
    case atStart => exact ⟨l.length, l, [], [], Nat.le_refl _, hl, HR0, by simp, HC0, HQ0, hide (World.ownsRow_nil _ _ _ _), hide Datas.nil, HLE0⟩
    case round =>
      clear HR0 HC0 HQ0 HLE0
      obtain ⟨f, L, out, vs, hf, hL, HF, ho, HC, HQ, HO, HD, hle⟩ := hrel
      have q0 := cell_block HQ.out 0
      simp only [List.getElem?_toArray, List.getElem?_cons_zero] at q0
      have hm0 := cut_cell HC.out
      obtain ⟨Am0, cm0, hm0⟩ := hm0
      obtain ⟨A, cap, rfl, _, _⟩ := own_slice HO.out
      rcases L with _ | ⟨a, L⟩
      · have HE := hide (show R = (out, 0) by rw [← HF.out, parseF_nil])
        go_wp2_with (go_at_call 43; refine HC.out.left.mono ?_; rintro r w4 ⟨rfl, rfl⟩)
        go_ret2
        exact parT_mk (HRR.out.trans HE.out) rfl HO.out HD.out hle.out
      obtain ⟨f, rfl⟩ : ∃ f', f = f' + 1 := ⟨f - 1, by simp at hf; omega⟩
      have hf' : L.length ≤ f := by simpa using hf
      have hL' : L.length + 1 ≤ 100000 := by simpa using hL
      clear hf hL
      have ha := a.toNat_lt
      have hpos : (0 : Int) < (((a :: L).length : Nat) : Int) := by rw [List.length_cons]; omega
      go_wp2_with (go_at_call 43; refine HC.out.left.mono ?_; rintro r w4 ⟨rfl, rfl⟩)
      have hnum := num_any wr w.heap.size p (a :: L) 0 1 HC.out (by simp; omega)
      rw [show cut (a :: L) 0 1 (mayB 1) = (L, 0, [a]) by rw [cut, if_neg (by simp), if_neg (by decide), if_neg (by simp; omega)]; rfl] at hnum
      refine hnum.mono ?_
      clear hnum
      rintro r w2 ⟨hr, hc2, hg2⟩
      obtain rfl : r = .returned (.int .u64 (a.toNat : Nat)) := by rw [hr]; simp [val]
      have HC2 := hide (show CutAt w2 w.heap.size p L 0 from hc2)
      have HQ2 := hide (heap_grown hg2 HQ.out (cut_ne HC.out HQ.out (by decide)))
      have HO2 := hide (HO.out.kept hg2 (Or.inr (own_ne HO.out (cut_heap HC.out) (by decide))))
      have HD2 := hide (HD.out.grown hg2 (fun g cur fr h => cut_ne HC.out h (by decide)))
      have HLE2 : Le w w2 := ⟨below_row hle.out hg2 HC.out.1 hle.size⟩
      have q2 := cell_block HQ2.out 0
      simp only [List.getElem?_toArray, List.getElem?_cons_zero] at q2
      clear hc2 hg2 hle q0
      have hwa : IntKind.u8.wrap (a.toNat : Int) = a.toNat := IntWalk.u8_in _ (by omega)
      by_cases ha0 : a.toNat = 0
      · have HF2 := hide (show parseF false f out L = R by rw [← HF.out, parseF_zero ha0])
        have ha0I : ((a.toNat : Int) == 0) = true := by rw [beq_iff_eq]; omega
        clear ha0
        go_wp2_with fail
        go_roundw
        case rel => exact ⟨f, L, out, vs, hf', by omega, HF2, ho, HC2, HQ2, HO2, HD2, HLE2⟩
        case measure =>
          obtain ⟨Am, cm, hm2⟩ := cut_cell HC2.out
          rw [hm2, hm0]
          simp
      have ha0I : ((a.toNat : Int) == 0) = false := by rw [beq_eq_false_iff_ne]; omega
      go_wp2_with fail
      refine (item2_any a.toNat w2 w.heap.size q p L HQ2.out HC2.out (by omega)).mono ?_
      rcases L with _ | ⟨b, L⟩
      · have HF2 := hide (show R = ([], 10) by rw [← HF.out, parseF_long1 ha0])
        rw [show cut [] 0 1 (mayB 1) = ([], 10, []) by decide]
        rintro r w3 ⟨hr, hc3, hg3⟩
        obtain rfl : r = .returned (.tuple #[.int .u8 (a.toNat : Nat), .int .i64 (0 : Nat)]) := hr
        have HLE3 : Le w w3 := ⟨below_row HLE2.out hg3 HC2.out.1 HLE2.size⟩
        have q3 := cell_block (heap_grown hg3 HQ2.out (cut_ne HC2.out HQ2.out (by decide))) 0
        simp only [List.getElem?_toArray, List.getElem?_cons_zero] at q3
        have HC3 := hide (show CutAt w3 w.heap.size p [] 10 from hc3)
        have HG3 := hide hg3
        clear hc3 hg3 q2
        go_wp2_with fail
        refine (bytes_any w3 w.heap.size p [] 10 0 HC3.out (by simp)).mono ?_
        rw [show cut [] 10 0 (decide ((0 : Int) ≤ 0)) = ([], 10, []) by decide]
        rintro r w4 ⟨v4, rfl, hc4, hd4, hg4⟩
        have HLE4 : Le w w4 := ⟨below_row HLE3.out hg4 HC3.out.1 HLE3.size⟩
        have q4 := cell_block (heap_grown hg4 (heap_grown HG3.out HQ2.out (cut_ne HC2.out HQ2.out (by decide))) (cut_ne HC3.out (heap_grown HG3.out HQ2.out (cut_ne HC2.out HQ2.out (by decide))) (by decide))) 0
        simp only [List.getElem?_toArray, List.getElem?_cons_zero] at q4
        have HC4 := hide (show CutAt w4 w.heap.size p [] 10 from hc4)
        clear hc4 hg4 hd4 q3
        go_wp2_with (go_at_call 40; refine HC4.out.err.mono ?_; rintro r w5 ⟨rfl, rfl⟩)
        go_ret2
        exact parT_mk (HRR.out.trans HF2.out) rfl (World.ownsRow_nil _ _ _ _) Datas.nil HLE4.out
      have HFB := hide (show bodyX out a b.toNat L (parseF false f) = R by rw [← HF.out, parseF_long ha0])
      rw [show cut (b :: L) 0 1 (mayB 1) = (L, 0, [b]) by rw [cut, if_neg (by simp), if_neg (by decide), if_neg (by simp; omega)]; rfl]
      rintro r w6 ⟨hr, hc6, hg6⟩
      have hbl := b.toNat_lt
      obtain rfl : r = .returned (.tuple #[.int .u8 (a.toNat : Nat), .int .i64 (b.toNat : Nat)]) := by rw [hr]; simp [val]
      have HC6 := hide (show CutAt w6 w.heap.size p L 0 from hc6)
      have HQ6 := hide (heap_grown hg6 HQ2.out (cut_ne HC2.out HQ2.out (by decide)))
      have HO6 := hide (HO2.out.kept hg6 (Or.inr (own_ne HO2.out (cut_heap HC2.out) (by decide))))
      have HD6 := hide (HD2.out.grown hg6 (fun g cur fr h => cut_ne HC2.out h (by decide)))
      have HLE6 : Le w w6 := ⟨below_row HLE2.out hg6 HC2.out.1 HLE2.size⟩
      have q6 := cell_block HQ6.out 0
      simp only [List.getElem?_toArray, List.getElem?_cons_zero] at q6
      have hLb : L.length + 1 ≤ f := by simpa using hf'
      have hLc : L.length + 2 ≤ 100000 := by simpa using hL'
      obtain ⟨m, hm⟩ : ∃ m, b.toNat = m := ⟨_, rfl⟩
      rw [hm] at HFB hbl
      rw [hm]
      have hx9 : a.toNat = 0 → False := fun h => ha0 h
      clear hc6 hg6 ha0 hm q2 hf' hL'
      go_wp2_with fail
      refine (bytes_any w6 w.heap.size p L 0 (m : Int) HC6.out (by omega)).mono ?_
      rintro r w3 ⟨v3, rfl, hc3, hd3, hg3⟩
      have HQ3 := hide (heap_grown hg3 HQ6.out (cut_ne HC6.out HQ6.out (by decide)))
      have HO3 := hide (HO6.out.kept hg3 (Or.inr (own_ne HO6.out (cut_heap HC6.out) (by decide))))
      have HD3 := hide (HD6.out.grown hg3 (fun g cur fr h => cut_ne HC6.out h (by decide)))
      have HLE3 : Le w w3 := ⟨below_row HLE6.out hg3 HC6.out.1 HLE6.size⟩
      have q3 := cell_block HQ3.out 0
      simp only [List.getElem?_toArray, List.getElem?_cons_zero] at q3
      clear hg3
      by_cases hsh : L.length < m
      · have hcut : cut L 0 (m : Int) (decide (0 ≤ (m : Int))) = (L, 10, []) := by
          rw [cut, if_neg (by simp), if_neg (by simp), if_pos (by omega)]
        rw [hcut] at hc3 hd3
        have HF3 := hide (show R = ([], 10) by rw [← HFB.out, bodyX_short hsh])
        have HC3 := hide hc3
        clear hc3 hd3 hcut
        go_wp2_with fail
        refine HC3.out.err.mono ?_
        rintro r w4 ⟨rfl, rfl⟩
        go_wp2_with fail
        go_ret2
        exact parT_mk (HRR.out.trans HF3.out) rfl (World.ownsRow_nil _ _ _ _) Datas.nil HLE3.out
      have hcut : cut L 0 (m : Int) (decide (0 ≤ (m : Int))) = (L.drop m, 0, L.take m) := by
        rw [cut, if_neg (by simp), if_neg (by simp), if_neg (by omega)]
        rw [show ((m : Int) : Int).toNat = m by omega]
      rw [hcut] at hc3 hd3
      have HC3 := hide (show CutAt w3 w.heap.size p (L.drop m) 0 from hc3)
      have hd3' : D8 w3 (L.take m) v3 := hd3
      clear hc3 hcut hd3
      have hln : (L.take m).length = m := by simp; omega
      obtain ⟨A3, cap3, rfl, hcp3, _⟩ := id hd3'
      rw [hln] at hd3' hcp3 ⊢
      have HDX := hide hd3'
      have HLN := hide hln
      clear hd3' hln
      by_cases h14 : out.length = 14
      · have HF3 := hide (show R = ([], 13) by rw [← HFB.out, bodyX_big hsh h14])
        have h14I : ((out.length : Int) == 14) = true := by rw [beq_iff_eq]; omega
        clear h14
        go_wp2_with (go_at_call 40; refine HC3.out.err.mono ?_; rintro r w4 ⟨rfl, rfl⟩)
        go_ret2
        exact parT_mk (HRR.out.trans HF3.out) rfl (World.ownsRow_nil _ _ _ _) Datas.nil HLE3.out
      have h14I : ((out.length : Int) == 14) = false := by rw [beq_eq_false_iff_ne]; omega
      have HF3 := hide (show parseF false f (out ++ [(a, L.take m)]) (L.drop m) = R by rw [← HFB.out, bodyX_on hsh h14])
      have hol : out.length + 1 ≤ 14 := by omega
      have HDV := hide HD3.out.1
      have HNE := hide (fun (g : Nat) (cs : Array Value) (t : TypeId) (fr : Nat × Nat) (h : (w3.alloc (.cells #[.int .u8 (a.toNat : Int), .slice A3 m cap3] 86)).heap[g]? = some (.cells cs t fr)) (ht : 86 ≠ t) => own_ne (HO3.out.alloc (.cells #[.int .u8 (a.toNat : Int), .slice A3 m cap3] 86)) h ht)
      clear h14
      go_wp2_with (first
        | (go_at_call 40; refine HC3.out.err.mono ?_; rintro r w4 ⟨rfl, rfl⟩)
        | (at_builtin; go_must (refine wpl_app rfl slItem (.tmp 61) (.tmp 65) rfl (HO3.out.alloc _) rfl rfl (news := [.int .u8 (a.toNat : Int), .slice A3 m cap3]) (cells_new _ _ _) rfl (by simp [Value.oneCell']) (by omega) (by omega) (le_alloc HLE3.size) ?_); intro v5 w5 ho5 hg5 hat5; have HG5 := hide hg5; have HO5 := hide ho5; clear hg5 ho5 hat5))
      go_roundw
      case rel =>
        have hld : (L.drop m).length ≤ L.length := by simp
        refine ⟨f, L.drop m, out ++ [(a, L.take m)], vs ++ [.slice A3 m cap3], by omega, by omega, HF3, by simp; omega, hide ?_, hide ?_, hide ?_, hide ?_, ⟨below_grown (HLE3.out.alloc HLE3.size _) (HO3.out.alloc _) HG5.out (Nat.le_refl _) (le_alloc HLE3.size)⟩⟩
        · exact cut_grown (HC3.out.keep ((Le.refl w3).alloc _).out (Nat.le_refl _)) HG5.out (fun g cs t fr h ht => HNE.out g cs t fr h (Ne.symm ht))
        · exact heap_grown HG5.out (heap_alloc HQ3.out) (HNE.out _ _ _ _ (heap_alloc HQ3.out) (by decide))
        · rw [encI_snoc _ _ _ _ HDV.out, List.length_append]
          exact HO5.out
        · exact Datas.snoc ((HD3.out.keep ((Le.refl w3).alloc _).out).grown HG5.out (fun g cur fr h => HNE.out g cur _ fr h (by decide))) ((HDX.out.keep ((Le.refl w3).alloc _).out).grown HG5.out (fun g cur fr h => HNE.out g cur _ fr h (by decide)))
      case measure =>
        have hm5 := cut_cell (cut_grown (HC3.out.keep ((Le.refl w3).alloc _).out (Nat.le_refl _)) HG5.out (fun g cs t fr h ht => HNE.out g cs t fr h (Ne.symm ht)))
        obtain ⟨Am, cm, hm5⟩ := hm5
        rw [hm5, hm0]
        simp only [List.length_drop, List.length_cons]
        omega

end Go.Proofs.Ytekioihjfggmdaa
