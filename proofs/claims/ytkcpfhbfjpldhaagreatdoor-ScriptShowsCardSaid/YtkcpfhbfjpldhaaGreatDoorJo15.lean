/- Texts of one claim, laid together: ScrF DecL AwkP -/
import Derived.Lib.ItoaNum
import Derived.Test.YtkcpfhbfjpldhaaGreatDoorJo14
import Derived.Test.YtkcpfhbfjpldhaaGreatDoorJo11
/- louverlaw24: few, steps; louverref24.Same. (Written by gen_scf.py.) -/
namespace Go.Proofs.YtkcpfhbfjpldhaaGreatDoor
open Go.RowKit
set_option linter.unusedVariables false

def fewP (l : List Sp) : Bool := l.all (fun x => decide (x.b.length ≤ 200)) && decide (l.length ≤ 300)
theorem fewP_parts {l : List Sp} (h : fewP l = true) : (∀ x ∈ l, x.b.length ≤ 200) ∧ l.length ≤ 300 := by
  simp only [fewP, Bool.and_eq_true, List.all_eq_true, decide_eq_true_eq] at h
  exact h

set_option maxHeartbeats 1000000 in
theorem few24_any (l : List Sp) (A : Option Addr) (n cap : Nat) (w : World) (hr : RSl 3 RSp w l (.slice A n cap)) (hl : l.length ≤ 9223372036854775807) : Calls Tryz.prog 12 #[.slice A n cap] w (Gives w (.bool (fewP l))) := by
  obtain ⟨A', cap', hv, hcap, hi⟩ := hr
  injection hv with e1 e2 e3
  subst e1 e2 e3
  have HI := hide hi
  clear hi
  go_enter Tryz.func12, Tryz.ntmps12
  go_wp2_with fail
  go_loop [3] (fun j => ∃ k : Nat, k ≤ l.length ∧ j = .int .i64 k ∧ Hd (∀ i (h : i < l.length), i < k → l[i].b.length ≤ 200)) (fun j => l.length - (intOf j).toNat)
  case atStart => exact ⟨0, Nat.zero_le _, rfl, hide (fun i _ h => by omega)⟩
  case round =>
    obtain ⟨k, hk, rfl, HN⟩ := hrel
    by_cases hlt : k < l.length
    · obtain ⟨b, off, rfl, hg⟩ := HI.out (by rintro rfl; simp at hlt)
      obtain ⟨cs, _, hc, v, hcs, hv, _⟩ := hg k hlt
      subst hcs
      obtain ⟨A1, cp1, hv1, _⟩ := id hv
      subst hv1
      have c1 := (show w.cell? ⟨b, off + k * 3 + 2, none⟩ = some (.slice A1 l[k].b.length cp1) from hc 2 (by omega))
      have HX := hide (fun (h : l[k].b.length ≤ 200) => hide (show ∀ i (h : i < l.length), i < k + 1 → l[i].b.length ≤ 200 from fun i hi h' => by
        by_cases e : i = k
        · subst e; exact h
        · exact HN.out i hi (by omega)))
      have HY := hide (fun (h : 200 < l[k].b.length) => show fewP l = false by
        rw [fewP, Bool.and_eq_false_iff]
        refine .inl ?_
        rw [List.all_eq_false]
        exact ⟨l[k], List.getElem_mem hlt, by simp; omega⟩)
      generalize l[k] = x at *
      clear hc hg hv
      have hltI : (k : Int) < (l.length : Int) := by omega
      by_cases h3 : 200 < x.b.length
      · have HE := hide (HY.out h3)
        have h3I : (200 : Int) < (x.b.length : Int) := by omega
        go_wp2_with fail
        go_ret
        exact ⟨by rw [HE.out]; rfl, Below.refl _ _⟩
      · have HE := HX.out (by omega)
        have h3I : ¬ (200 : Int) < (x.b.length : Int) := by omega
        go_wp2_with fail
        go_round
        case rel => exact ⟨k + 1, by omega, by go_num, HE⟩
        case measure => simp [intOf]; omega
    · have hltI : ¬ (k : Int) < (l.length : Int) := by omega
      have HE := hide (show fewP l = decide (l.length ≤ 300) by
        rw [fewP, List.all_eq_true.2 (fun x hx => by
          obtain ⟨i, hi, rfl⟩ := List.getElem_of_mem hx
          simpa using HN.out i hi (by omega)), Bool.true_and])
      have HD := hide (show decide ((l.length : Int) ≤ 300) = decide (l.length ≤ 300) from decide_eq_decide.2 (by omega))
      go_wp2_with fail
      go_ret
      exact ⟨by rw [HE.out, ← HD.out]; rfl, Below.refl _ _⟩

theorem slSR : SlT Tryz.prog 31 83 (.agg #[.int .i64 0, .int .i64 0, .string ByteArray.empty]) 3 32 := ⟨Tryz.underlying31, by kernel_rfl, rfl, by omega⟩

set_option maxRecDepth 100000 in
set_option maxHeartbeats 4000000 in
theorem steps_any (l : List Sp) (A : Option Addr) (n cap : Nat) (w : World) (hr : RSl 3 RSp w l (.slice A n cap)) (hl : l.length ≤ 200000) :
    Calls Tryz.prog 15 #[.slice A n cap] w fun e w' => ∃ A' cap', e = .returned (.slice A' l.length cap') ∧ RSl 3 RSr w' l (.slice A' l.length cap') ∧ Below w.heap.size w w' := by
  obtain ⟨A', cap', hv, hcap, hi⟩ := hr
  injection hv with e1 e2 e3
  subst e1 e2 e3
  have HI := hide hi
  clear hi
  go_enter Tryz.func15, Tryz.ntmps15
  go_wp2_with fail
  go_loopw [3, 4] (fun v j wr => ∃ k : Nat, k ≤ l.length ∧ j = .int .i64 k ∧ Hd (wr.ownsRow w.heap.size 83 3 v k (encR (l.take k))) ∧ Le w wr) (fun _ j _ => l.length - (intOf j).toNat)
  case atStart => exact ⟨0, Nat.zero_le _, rfl, hide (World.ownsRow_nil _ _ _ _), Le.refl _⟩
  case round =>
    obtain ⟨k, hk, rfl, HO, hle⟩ := hrel
    obtain ⟨A2, cap2, rfl, _, _⟩ := own_slice HO.out
    by_cases hlt : k < l.length
    · obtain ⟨b, off, rfl, hg⟩ := HI.out (by rintro rfl; simp at hlt)
      obtain ⟨cs, _, hc, v, hcs, hv, _⟩ := hg k hlt
      subst hcs
      obtain ⟨A1, cp1, hv1, _⟩ := id hv
      subst hv1
      have c0 := hle.cell (show w.cell? ⟨b, off + k * 3, none⟩ = some (.int .i64 l[k].op) from hc 0 (by omega))
      have c1 := hle.cell (show w.cell? ⟨b, off + k * 3 + 1, none⟩ = some (.int .i64 l[k].shard) from hc 1 (by omega))
      have c2 := hle.cell (show w.cell? ⟨b, off + k * 3 + 2, none⟩ = some (.slice A1 l[k].b.length cp1) from hc 2 (by omega))
      have hdk := hle.rsl keeps_u8 hv
      have HT := hide (show encR (l.take (k + 1)) = encR (l.take k) ++ [.int .i64 l[k].op, .int .i64 l[k].shard, .string (str l[k].b)] by rw [List.take_succ_eq_append_getElem hlt, encR_snoc])
      generalize l[k] = x at *
      obtain ⟨op, sh, xd⟩ := x
      simp only at c0 c1 c2 hdk HT
      clear hc hg hv
      have hltI : (k : Int) < (l.length : Int) := by omega
      have h0I : (0 : Int) ≤ (k : Int) := by omega
      have C0 : ∀ W, Le wr W → W.cell? ⟨b, off + k * 3, none⟩ = some (.int .i64 op) := fun W h => h.cell c0
      have C1 : ∀ W, Le wr W → W.cell? ⟨b, off + k * 3 + 1, none⟩ = some (.int .i64 sh) := fun W h => h.cell c1
      have C2 : ∀ W, Le wr W → W.cell? ⟨b, off + k * 3 + 2, none⟩ = some (.slice A1 xd.length cp1) := fun W h => h.cell c2
      have hle0 := (Le.refl wr).drew
      have HLE := hide hle
      clear hle c0 c1 c2
      go_wp2_with fail
      refine' wp_region_tail 19 19 11 Le (Is _ :: Is _ :: Is _ :: Is _ :: Is _ :: Is _ :: Is _ :: Is _ :: Is _ :: Is _ :: Is _ :: Is _ :: Is _ :: Is _ :: Is _ :: Is _ :: Is _ :: Is _ :: (fun v w => ∃ g : Nat, v = .slice (some ⟨g, 0, none⟩) 1 1 ∧ w.heap[g]? = some (.cells #[.int .i64 op, .int .i64 sh, .string (str xd)] 83 (0, 0))) :: []) ([] :: [] :: [] :: [1, 2] :: [3] :: [4] :: [] :: [] :: [6, 7] :: [8] :: [9] :: [] :: [] :: [11, 12] :: [13] :: [14] :: [15] :: [5, 10, 16] :: [17] :: []) (by kernel_rfl) (by kernel_rfl) (by rfl) (by kernel_rfl) (by kernel_rfl) Le.refl (fun _ _ _ h h' => h.trans h') ⟨St.is, St.is, St.is, St.is, St.is, St.is, St.is, St.is, St.is, St.is, St.is, St.is, St.is, St.is, St.is, St.is, St.is, St.is, fun v w w' h ⟨g, e1, e2⟩ => ⟨g, e1, h.heap e2⟩, trivial⟩ ?m5
      case m5 =>
        simp (maxSteps := 100000000) only [AllV, Obl2, Leans, factAt, allFacts, actOf, putAll, putRow, List.set_cons_succ, List.set_cons_zero, List.getElem?_cons_zero, List.getElem?_cons_succ, List.take_succ_cons, List.take_zero, List.drop_succ_cons, List.drop_zero, List.cons_append, List.nil_append, List.length_cons, List.length_nil, Nat.reduceAdd]
        intro x0 x1 x2 x3 x4 x5 x6 x7 x8 x9 x10 x11 x12 x13 x14 x15 x16 x17 x18
        refine ⟨⟨?_, ?_, ?_, ?_, ?_, ?_, ?_, ?_, ?_, ?_, ?_, ?_, ?_, ?_, ?_, ?_, ?_, ?_, ?_, trivial⟩, ?_⟩
        -- 0: 11 := Op.move t3
        · intro w hw  K hK; have hlw := hle0.trans hw; go_simp; exact hK _ _ (Le.refl _) (Is.mk _ _)
        -- 1: 12 := Op.move t0
        · intro w hw  K hK; have hlw := hle0.trans hw; go_simp; exact hK _ _ (Le.refl _) (Is.mk _ _)
        -- 2: 13 := Op.move t4
        · intro w hw  K hK; have hlw := hle0.trans hw; go_simp; exact hK _ _ (Le.refl _) (Is.mk _ _)
        -- 3: 14 := Op.indexAddr 22 t12 t13
        · intro w hw h1 h2 K hK; cases h1; cases h2; have hlw := hle0.trans hw; go_simp; exact hK _ _ (Le.refl _) (Is.mk _ _)
        -- 4: 15 := Op.fieldAddr 70 t14 0
        · intro w hw h3 K hK; cases h3; have hlw := hle0.trans hw; go_simp; exact hK _ _ (Le.refl _) (Is.mk _ _)
        -- 5: 16 := Op.load 3 t15
        · intro w hw h4 K hK; cases h4; have hlw := hle0.trans hw; go_simp; exact hK _ _ (Le.refl _) (Is.mk _ _)
        -- 6: 17 := Op.move t0
        · intro w hw  K hK; have hlw := hle0.trans hw; go_simp; exact hK _ _ (Le.refl _) (Is.mk _ _)
        -- 7: 18 := Op.move t4
        · intro w hw  K hK; have hlw := hle0.trans hw; go_simp; exact hK _ _ (Le.refl _) (Is.mk _ _)
        -- 8: 19 := Op.indexAddr 22 t17 t18
        · intro w hw h6 h7 K hK; cases h6; cases h7; have hlw := hle0.trans hw; go_simp; exact hK _ _ (Le.refl _) (Is.mk _ _)
        -- 9: 20 := Op.fieldAddr 70 t19 1
        · intro w hw h8 K hK; cases h8; have hlw := hle0.trans hw; go_simp; exact hK _ _ (Le.refl _) (Is.mk _ _)
        -- 10: 21 := Op.load 3 t20
        · intro w hw h9 K hK; cases h9; have hlw := hle0.trans hw; go_simp; exact hK _ _ (Le.refl _) (Is.mk _ _)
        -- 11: 22 := Op.move t0
        · intro w hw  K hK; have hlw := hle0.trans hw; go_simp; exact hK _ _ (Le.refl _) (Is.mk _ _)
        -- 12: 23 := Op.move t4
        · intro w hw  K hK; have hlw := hle0.trans hw; go_simp; exact hK _ _ (Le.refl _) (Is.mk _ _)
        -- 13: 24 := Op.indexAddr 22 t22 t23
        · intro w hw h11 h12 K hK; cases h11; cases h12; have hlw := hle0.trans hw; go_simp; exact hK _ _ (Le.refl _) (Is.mk _ _)
        -- 14: 25 := Op.fieldAddr 70 t24 2
        · intro w hw h13 K hK; cases h13; have hlw := hle0.trans hw; go_simp; exact hK _ _ (Le.refl _) (Is.mk _ _)
        -- 15: 26 := Op.load 25 t25
        · intro w hw h14 K hK; cases h14; have hlw := hle0.trans hw; go_simp; exact hK _ _ (Le.refl _) (Is.mk _ _)
        -- 16: 27 := Op.convert 25 9 t26
        · intro w hw h15 K hK; cases h15; have hlw := hle0.trans hw; have hc := conv_le hdk _ (hle0.trans hw); go_simp; exact hK _ _ (Le.refl _) (Is.mk _ _)
        -- 17: 28 := Op.build 83 #[(0, t16), (1, t21), (2, t27)]
        · intro w hw h5 h10 h16 K hK; cases h5; cases h10; cases h16; have hlw := hle0.trans hw; go_simp; exact hK _ _ (Le.refl _) (Is.mk _ _)
        -- 18: 29 := Op.buildSlice 31 1 #[(0, t28)]
        · intro w hw h17 K hK; cases h17; have hlw := hle0.trans hw; go_simp; exact hK _ _ ((Le.refl _).alloc _) ⟨_, rfl, heap_alloc_new _ _⟩
        · intro wz hz h0 h1 h2 h3 h4 h5 h6 h7 h8 h9 h10 h11 h12 h13 h14 h15 h16 h17 h18; cases h0; cases h1; cases h2; cases h3; cases h4; cases h5; cases h6; cases h7; cases h8; cases h9; cases h10; cases h11; cases h12; cases h13; cases h14; cases h15; cases h16; cases h17; obtain ⟨g, rfl, hg⟩ := h18; skip
          clear C0 C1 C2
          have hz2 : Le wr wz := hle0.trans hz
          have HZ := hide (HLE.out.trans hz2)
          have HOZ := hide (hz2.own HO.out)
          have hcz : Cells wz (some ⟨g, 0, none⟩) [.int .i64 op, .int .i64 sh, .string (str xd)] := fun _ => ⟨g, 0, rfl, fun j u hu => by rw [Nat.zero_add, cell_block hg]; simpa using hu⟩
          clear hz hz2
          go_wp2_with (at_builtin; go_must (refine wpl_app rfl slSR (.tmp 11) (.tmp 29) rfl HOZ.out rfl rfl hcz rfl (by simp [Value.oneCell']) (by omega) (by omega) HZ.out.size ?_); intro v5 w5 ho5 hg5 hat5; have HO5 := hide ho5; have hb5 := below_grown HZ.out.out HOZ.out hg5 (Nat.le_refl _) HZ.out.size; clear ho5 hg5 hat5)
          go_roundw
          case rel => exact ⟨k + 1, by omega, by go_num, hide (by rw [HT.out]; exact HO5.out), ⟨hb5⟩⟩
          case measure => simp [intOf]; omega
    · have hltI : ¬ (k : Int) < (l.length : Int) := by omega
      obtain rfl : k = l.length := by omega
      have HO2 := HO.out
      rw [List.take_length] at HO2
      have HO3 := hide HO2
      clear HO2 HO
      go_wp2_with fail
      go_ret
      exact ⟨A2, cap2, rfl, rsl_refs HO3.out, hle.out⟩

set_option maxHeartbeats 4000000 in
theorem rsame24_any (a b : List Sp) (A : Option Addr) (n cap : Nat) (B : Option Addr) (m bap : Nat) (w : World) (ha : RSl 3 RSr w a (.slice A n cap)) (hb : RSl 3 RSr w b (.slice B m bap)) (hl : a.length ≤ 200000) :
    Calls Tryz.prog 18 #[.slice A n cap, .slice B m bap] w (Gives w (.bool (decide (a = b)))) := by
  obtain ⟨A', cap', hv, hcap, hia⟩ := ha
  injection hv with e1 e2 e3
  subst e1 e2 e3
  obtain ⟨A', cap', hv, hbap, hib⟩ := hb
  injection hv with e1 e2 e3
  subst e1 e2 e3
  have HIA := hide hia; have HIB := hide hib
  clear hia hib
  by_cases hab : a.length = b.length
  · have hd : (((a.length : Nat) : Int) != (b.length : Int)) = false := by rw [hab]; simp
    have hl1 : a.length ≤ b.length := by omega
    have HAB := hide hab
    clear hab
    go_enter Tryz.func18, Tryz.ntmps18
    go_wp2_with fail
    go_loopw [5] (fun j wr => ∃ k : Nat, k ≤ a.length ∧ j = .int .i64 k ∧ Hd (a.take k = b.take k) ∧ Le w wr) (fun j _ => a.length - (intOf j).toNat)
    case atStart => exact ⟨0, Nat.zero_le _, rfl, hide rfl, Le.refl _⟩
    case round =>
      obtain ⟨k, hk, rfl, HT, hle⟩ := hrel
      by_cases hlt : k < a.length
      · obtain ⟨b1, off1, rfl, hi1⟩ := HIA.out (by rintro rfl; simp at hlt)
        obtain ⟨cs1, _, hc1, hR1⟩ := hi1 k hlt
        subst hR1
        have hlt2 : k < b.length := by omega
        obtain ⟨b2, off2, rfl, hi2⟩ := HIB.out (by rintro rfl; simp at hlt2)
        obtain ⟨cs2, _, hc2, hR2⟩ := hi2 k hlt2
        subst hR2
        have c1 := hle.cell (show w.cell? ⟨b1, off1 + k * 3, none⟩ = some (.int .i64 a[k].op) from hc1 0 (by omega))
        have c2 := hle.cell (show w.cell? ⟨b1, off1 + k * 3 + 1, none⟩ = some (.int .i64 a[k].shard) from hc1 1 (by omega))
        have c3 := hle.cell (show w.cell? ⟨b1, off1 + k * 3 + 2, none⟩ = some (.string (str a[k].b)) from hc1 2 (by omega))
        have c4 := hle.cell (show w.cell? ⟨b2, off2 + k * 3, none⟩ = some (.int .i64 b[k].op) from hc2 0 (by omega))
        have c5 := hle.cell (show w.cell? ⟨b2, off2 + k * 3 + 1, none⟩ = some (.int .i64 b[k].shard) from hc2 1 (by omega))
        have c6 := hle.cell (show w.cell? ⟨b2, off2 + k * 3 + 2, none⟩ = some (.string (str b[k].b)) from hc2 2 (by omega))
        have HT1 := hide (fun (h : a[k] = b[k]) => show a.take (k + 1) = b.take (k + 1) by rw [List.take_succ_eq_append_getElem hlt, List.take_succ_eq_append_getElem hlt2, HT.out, h])
        have HN := hide (fun (h : a[k] ≠ b[k]) => show decide (a = b) = false from decide_eq_false (fun e => h (by simp only [e])))
        generalize a[k] = x1 at *
        generalize b[k] = x2 at *
        obtain ⟨i1, s1, d1⟩ := x1
        obtain ⟨i2, s2, d2⟩ := x2
        simp only at c1 c2 c3 c4 c5 c6
        have h0k : (0 : Int) ≤ (k : Int) := by omega
        have h1k : (k : Int) < (a.length : Int) := by omega
        have h2k : (k : Int) < (b.length : Int) := by omega
        clear hc1 hc2 hi1 hi2
        by_cases hx : i1 = i2 ∧ s1 = s2 ∧ d1 = d2
        · obtain ⟨rfl, rfl, rfl⟩ := hx
          have HE := hide (HT1.out rfl)
          have e1 : ((i1 : Int) == i1) = true := by simp
          have e3 : ((s1 : Int) == s1) = true := by simp
          have e2 : (d1 == d1) = true := by simp
          go_wp2_with fail
          go_quiet (fail)
          go_wp2_with fail
          go_roundw
          case rel => exact ⟨k + 1, by omega, by go_num, HE, hle.drewN _⟩
          case measure => simp [intOf]; omega
        · have HE := hide (HN.out (by simpa using hx))
          by_cases hi12 : i1 = i2
          · subst hi12
            have e1 : ((i1 : Int) == i1) = true := by simp
            by_cases hs12 : s1 = s2
            · subst hs12
              have e3 : ((s1 : Int) == s1) = true := by simp
              have e2 : (d1 == d2) = false := by rw [beq_eq_false_iff_ne]; exact fun e => hx ⟨rfl, rfl, e⟩
              clear hx
              go_wp2_with fail
              go_quiet (fail)
              go_wp2_with fail
              go_ret
              exact ⟨by rw [HE.out]; rfl, (hle.drewN _).out⟩
            · have e3 : ((s1 : Int) == s2) = false := by rw [beq_eq_false_iff_ne]; exact hs12
              clear hx hs12
              go_wp2_with fail
              go_quiet (fail)
              go_wp2_with fail
              go_ret
              exact ⟨by rw [HE.out]; rfl, (hle.drewN _).out⟩
          · have e1 : ((i1 : Int) == i2) = false := by rw [beq_eq_false_iff_ne]; exact hi12
            clear hx hi12
            go_wp2_with fail
            go_quiet (fail)
            go_wp2_with fail
            go_ret
            exact ⟨by rw [HE.out]; rfl, (hle.drewN _).out⟩
      · have hltI : ¬ (k : Int) < (a.length : Int) := by omega
        have HE := hide (show decide (a = b) = true from decide_eq_true (by
          have := HT.out
          rw [List.take_of_length_le (by omega), List.take_of_length_le (by have := HAB.out; omega)] at this
          exact this))
        go_wp2_with fail
        go_ret
        exact ⟨by rw [HE.out]; rfl, hle.out⟩
  · have hd : (((a.length : Nat) : Int) != (b.length : Int)) = true := by rw [bne_iff_ne]; omega
    have HE := hide (show decide (a = b) = false from decide_eq_false (by rintro rfl; exact hab rfl))
    clear hab
    go_enter Tryz.func18, Tryz.ntmps18
    go_wp2_with fail
    go_ret
    exact ⟨by rw [HE.out]; rfl, Below.refl _ _⟩
end Go.Proofs.YtkcpfhbfjpldhaaGreatDoor

/- A number's digits, in plain Lean: as the document's Number makes them, from the last one on. -/
namespace Go.Proofs.YtkcpfhbfjpldhaaGreatDoor
open Go
set_option linter.unusedVariables false

/-- the digits of what is left; none of nought -/
def digs (n : Nat) : List UInt8 := if n = 0 then [] else Lib.decDigits n
theorem digs_zero : digs 0 = [] := rfl
theorem digs_step {n : Nat} (h : 0 < n) (s : List UInt8) : digs (n / 10) ++ (UInt8.ofNat (48 + n % 10) :: s) = digs n ++ s := by
  have hn : ¬ n = 0 := by omega
  by_cases h10 : n < 10
  · have e : n / 10 = 0 := by omega
    have e2 : n % 10 = n := by omega
    rw [e, e2, digs_zero, digs, if_neg hn, Lib.decDigits, dif_pos h10]
    rfl
  · have e : ¬ n / 10 = 0 := by omega
    rw [digs, if_neg e, digs, if_neg hn]
    conv => rhs; rw [Lib.decDigits, dif_neg h10]
    simp
theorem digs_pos {n : Nat} (h : 0 < n) : digs n = Lib.decDigits n := if_neg (by omega)
theorem digs_ne {n : Nat} (h : 0 < n) : digs n ≠ [] := by
  rw [digs_pos h]
  intro e
  have := Lib.decDigits_length n
  rw [e] at this
  unfold Lib.nDigits at this
  split at this <;> simp at this
theorem dec_zero : Lib.decDigits 0 = [48] := by rw [Lib.decDigits, dif_pos (by decide)]; rfl
/-- a word, and numbers -/
def txt (word : List UInt8) (l : List Nat) : List UInt8 := word ++ l.flatMap fun n => 32 :: Lib.decDigits n
end Go.Proofs.YtkcpfhbfjpldhaaGreatDoor

/- awake24: Play, small numbers as text. -/
namespace Go.Proofs.YtkcpfhbfjpldhaaGreatDoor
open Go.RowKit
set_option linter.unusedVariables false

theorem stb_own {w : World} {base k : Nat} {v : Value} {xs : List Value} (h : w.ownsRow base 70 3 v k xs) (hk : 0 < k) : ∃ G cap, v = .slice (some ⟨G, 0, none⟩) k cap ∧ StB w G xs := by
  rcases h.2 with ⟨_, h0⟩ | ⟨g, cap, cur, rfl, hb, hh, _, _, _, ht⟩
  · omega
  · refine ⟨g, cap, rfl, cur, hh, fun j u hu => ?_⟩
    rw [← ht, List.getElem?_take] at hu
    split at hu
    · simpa using hu
    · cases hu
set_option maxRecDepth 100000 in
set_option maxHeartbeats 4000000 in
theorem play_awk (w : World) (A : Option Addr) (cap : Nat) (hr : RSl 1 RU8 w [0, 0, 1, 7, 4] (.slice A 5 cap)) :
    Calls Tryz.prog 34 #[.agg #[.int .i64 2, .int .i64 4, .int .i64 20, .int .i64 4, .int .i64 6, .int .i64 4, .int .i64 4, .int .i64 8, .int .i64 6, .int .i64 3, .int .i64 8], .slice A 5 cap] w (fun e w' => ∃ G cap', e = .returned (.tuple #[.slice (some ⟨G, 0, none⟩) 2 cap', .int .i64 0]) ∧ Two2 w' G [7] ∧ Le w w') := by
  have HR := hide hr
  clear hr
  go_enter Tryz.func34, Tryz.ntmps34
  go_wp2_with fail
  have HL := hide ((Le.refl w).alloc (.cells #[.int .i64 2, .int .i64 4, .int .i64 20, .int .i64 4, .int .i64 6, .int .i64 4, .int .i64 4, .int .i64 8, .int .i64 6, .int .i64 3, .int .i64 8] 61))
  have HX := hide (heap_alloc_new w (.cells #[.int .i64 2, .int .i64 4, .int .i64 20, .int .i64 4, .int .i64 6, .int .i64 4, .int .i64 4, .int .i64 8, .int .i64 6, .int .i64 3, .int .i64 8] 61))
  generalize w.heap.size = gc at HX ⊢
  generalize w.alloc _ = w1 at *
  refine (scParse_any [0, 0, 1, 7, 4] A 5 cap w1 (HL.out.rsl keeps_u8 HR.out) (by simp)).mono ?_
  have hp : parseS [0, 0, 1, 7, 4] [] = ([⟨0, 0, [7]⟩, ⟨4, 0, []⟩], 0) := by decide
  rw [hp]
  rintro r w2 ⟨A2, cap2, vs, rfl, ho, hd, _, hb⟩
  obtain ⟨hv, hd⟩ := hd
  obtain ⟨v0, v1, rfl⟩ : ∃ v0 v1, vs = [v0, v1] := by
    match vs, hv with
    | [a, b], _ => exact ⟨a, b, rfl⟩
  have hd0 := hd 0 (by simp) (by simp)
  have hd1 := hd 1 (by simp) (by simp)
  simp only [List.getElem_cons_zero, List.getElem_cons_succ] at hd0 hd1
  obtain ⟨A0, c0, rfl, _, _⟩ := id hd0
  obtain ⟨A9, c9, rfl, _, _⟩ := id hd1
  obtain ⟨G, cap3, he, hst⟩ := stb_own ho (by simp)
  injection he with e1 e2 e3
  subst e1 e3
  have HST := hide hst
  have HD := hide hd0
  have HL2 := hide (HL.out.trans (Le.mk hb))
  have HX2 := hide ((Le.mk hb).heap HX.out)
  clear ho hd hd0 hd1 hst hb hp hv
  simp only [List.length_cons, List.length_nil, Nat.reduceAdd] at HST HD ⊢
  go_wp2_with (refine wpl_load_blk rfl 61 (.tmp 2) rfl (cs := [.int .i64 2, .int .i64 4, .int .i64 20, .int .i64 4, .int .i64 6, .int .i64 4, .int .i64 4, .int .i64 8, .int .i64 6, .int .i64 3, .int .i64 8]) _ rfl Tryz.underlying61 rfl (by kernel_rfl) HX2.out ?_)
  refine (run_two w2 G cap2 A0 c0 A9 c9 [7] (by simp) (by decide) HST.out HD.out).mono ?_
  rintro r w3 ⟨G3, cap3, rfl, hT, hle⟩
  have H3 := hide (And.intro hT hle)
  clear hT hle
  go_wp2_with fail
  go_ret2
  exact ⟨G3, cap3, rfl, H3.out.1, HL2.out.trans H3.out.2⟩

set_option maxRecDepth 100000 in
theorem small_c (i : Int) (s : ByteArray) (h : (i = 0 ∧ s = str [48]) ∨ (i = 1 ∧ s = str [49]) ∨ (i = 7 ∧ s = str [55]) ∨ (i = 10 ∧ s = str [49, 48])) (w : World) : Calls Tryz.prog 172 #[.int .i64 i] w (fun e w' => e = .returned (.string s) ∧ w = w') := by
  rcases h with ⟨rfl, rfl⟩ | ⟨rfl, rfl⟩ | ⟨rfl, rfl⟩ | ⟨rfl, rfl⟩
  all_goals
    go_enter Tryz.func172, Tryz.ntmps172
    go_wp2_with fail
    go_ret
    exact ⟨congrArg (fun s => Ending.returned (Value.string s)) (by decide +kernel), rfl⟩
/-- a number's digits come back -/
def FmtP (n : Nat) : Prop := ∀ w : World, Calls Tryz.prog 73 #[.int .u64 n, .int .i64 10] w (Gives w (.string (str (Lib.decDigits n))))
theorem fmt_small (n : Nat) (s : ByteArray) (hs : s = str (Lib.decDigits n)) (h100 : n < 100) (h : ∀ w : World, Calls Tryz.prog 172 #[.int .i64 n] w (fun e w' => e = .returned (.string s) ∧ w = w')) : FmtP n := by
  intro w
  have q1 : (n : Int) < 100 := by omega
  have q2 : IntKind.i64.wrap (n : Int) = n := IntWalk.i64_in _ (by omega)
  have HS := hide hs
  clear hs
  go_enter Tryz.func73, Tryz.ntmps73
  go_wp2_with (first | (go_at_call 172; refine (h _).mono ?_; rintro e w' ⟨rfl, rfl⟩) | go_in)
  go_ret
  exact ⟨by rw [HS.out]; rfl, Below.refl _ _⟩
theorem fmt0 : FmtP 0 := fmt_small 0 (str [48]) (by rw [dec_zero]) (by omega) (small_c 0 _ (.inl ⟨rfl, rfl⟩))
theorem fmt1 : FmtP 1 := fmt_small 1 (str [49]) (by simp [Lib.decDigits]) (by omega) (small_c 1 _ (.inr (.inl ⟨rfl, rfl⟩)))
theorem fmt7 : FmtP 7 := fmt_small 7 (str [55]) (by simp [Lib.decDigits]) (by omega) (small_c 7 _ (.inr (.inr (.inl ⟨rfl, rfl⟩))))
theorem fmt10 : FmtP 10 := fmt_small 10 (str [49, 48]) (by simp [Lib.decDigits]) (by omega) (small_c 10 _ (.inr (.inr (.inr ⟨rfl, rfl⟩))))

def RNum : Rd Nat := fun _ n cs => cs = [.int .u64 n]
theorem keeps_num : Keeps RNum := fun _ _ _ _ h _ => h
theorem dec_len_pow : ∀ (k n : Nat), n < 10 ^ (k + 1) → Lib.nDigits n ≤ k + 1
  | 0, n, h => by rw [Lib.nDigits_small (by simpa using h)]; omega
  | k + 1, n, h => by
    by_cases h10 : n < 10
    · rw [Lib.nDigits_small h10]; omega
    · rw [Lib.nDigits_big h10]
      have := dec_len_pow k (n / 10) (by rw [Nat.pow_succ] at h; omega)
      omega
theorem dec_len (n : Nat) (h : n < 18446744073709551616) : (Lib.decDigits n).length ≤ 20 := by
  rw [Lib.decDigits_length]
  exact dec_len_pow 19 n (by omega)
set_option maxRecDepth 100000 in
set_option maxHeartbeats 2000000 in
theorem text_any (word : List UInt8) (hw : word.length ≤ 100) (l : List Nat) (hl : l.length ≤ 10) (hn : ∀ n ∈ l, FmtP n ∧ n < 18446744073709551616) (A : Option Addr) (n cap : Nat) (w : World) (hr : RSl 1 RNum w l (.slice A n cap)) :
    Calls Tryz.prog 45 #[.string (str word), .slice A n cap] w (Gives w (.string (str (txt word l)))) := by
  obtain ⟨A', cap', hv, hcap, hi⟩ := hr
  injection hv with e1 e2 e3
  subst e1 e2 e3
  have HI := hide hi
  have HN := hide hn
  clear hi hn
  go_enter Tryz.func45, Tryz.ntmps45
  go_wp2_with fail
  go_loopw [0, 6, 9] (fun s0 s6 j wr => ∃ k : Nat, k ≤ l.length ∧ j = .int .i64 k ∧ s0 = .string (str (txt word (l.take k))) ∧ Hd ((txt word (l.take k)).length ≤ 100 + 21 * k) ∧ Le w wr) (fun _ _ j _ => l.length - (intOf j).toNat)
  case atStart => exact ⟨0, by omega, rfl, by simp [txt], hide (by simp [txt]; omega), Le.refl _⟩
  case round =>
    obtain ⟨k, hk, rfl, rfl, HT, hle⟩ := hrel
    by_cases hlt : k < l.length
    · obtain ⟨b, off, rfl, hg⟩ := HI.out (by rintro rfl; simp at hlt)
      obtain ⟨cs, _, hc, hcs⟩ := hg k hlt
      subst hcs
      have c0 := hle.cell (show w.cell? ⟨b, off + k, none⟩ = some (.int .u64 l[k]) from by simpa using hc 0 (by omega))
      have HX := hide (show txt word (l.take (k + 1)) = txt word (l.take k) ++ (32 :: Lib.decDigits l[k]) by rw [txt, txt, List.take_succ_eq_append_getElem hlt, List.flatMap_append, List.flatMap_singleton, List.append_assoc])
      have HF := hide (HN.out l[k] (List.getElem_mem hlt))
      have hD := dec_len l[k] HF.out.2
      have hT := HT.out
      have hltI : (k : Int) < (l.length : Int) := by omega
      generalize l[k] = x at *
      generalize txt word (l.take k) = S at *
      clear hc hg HT
      go_wp2_with fail
      refine (HF.out.1 wr).mono ?_
      rintro r w2 ⟨rfl, hb2⟩
      have hle2 := hle.trans ⟨hb2⟩
      clear hb2
      generalize Lib.decDigits x = D at *
      go_wp2_with fail
      go_roundw
      case rel => exact ⟨k + 1, by omega, by go_num, by rw [HX.out]; rfl, hide (by rw [HX.out]; simp; omega), hle2⟩
      case measure => simp [intOf]; omega
    · obtain rfl : k = l.length := by omega
      have hltI : ¬ ((l.length : Nat) : Int) < (l.length : Int) := by omega
      rw [List.take_length]
      go_wp2_with fail
      go_ret
      exact ⟨rfl, hle.out⟩
end Go.Proofs.YtkcpfhbfjpldhaaGreatDoor
