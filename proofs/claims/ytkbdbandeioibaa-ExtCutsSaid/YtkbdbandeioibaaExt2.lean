/- ext.Find; few, plain of louverlaw05. -/
import Derived.Test.YtkbdbandeioibaaExtPar
namespace Go.Proofs.Ytkbdbandeioibaa
open Go.RowKit
set_option linter.unusedVariables false

def findD (i : Nat) (l : List It) : Option (List UInt8) := if h : l.findIdx (idB i) < l.length then some (l[l.findIdx (idB i)]).2 else none
def FindP (w : World) (d : Option (List UInt8)) (e : Ending) (w' : World) : Prop :=
  ∃ A cap, e = .returned (.tuple #[.slice A (d.getD []).length cap, .bool d.isSome]) ∧ RSl 1 RU8 w' (d.getD []) (.slice A (d.getD []).length cap) ∧ Below w.heap.size w w'

set_option maxHeartbeats 1000000 in
theorem extFind_any (l : List It) (i : Nat) (A : Option Addr) (n cap : Nat) (w : World) (hr : RSl 2 RItem w l (.slice A n cap)) (hl : l.length ≤ 100000) (hd : ∀ x ∈ l, x.2.length ≤ 2147483648) :
    Calls Try.prog 24 #[.slice A n cap, .int .u8 i] w (FindP w (findD i l)) := by
  have HR := hide hr; have HD := hide hd
  obtain ⟨A', cap', hv, hcap, hi⟩ := hr
  injection hv with e1 e2 e3
  subst e1 e2 e3
  have HI := hide hi
  have hl1 : Le w (w.alloc (.cells #[.int .u8 i] 5)) := (Le.refl w).alloc _
  have hc := cell_block (heap_alloc_new w (.cells #[.int .u8 i] 5)) 0
  simp only [List.getElem?_toArray, List.getElem?_cons_zero] at hc
  have HT := hide (index3 l A l.length cap (w.alloc (.cells #[.int .u8 i] 5)) w.heap.size i hc (hl1.rsl keeps_item HR.out) hl)
  clear hi hd hc
  go_enter Try.func24, Try.ntmps24
  go_wp2_with fail
  refine HT.out.mono ?_
  clear HT
  rintro r w2 ⟨rfl, hb2⟩
  have hl2 := hl1.trans ⟨hb2⟩
  clear hb2 hl1
  by_cases hf : l.findIdx (idB i) < l.length
  · have hx : idx (idB i) l = (l.findIdx (idB i) : Nat) := by rw [idx, if_pos hf]
    rw [hx]
    have HF := hide (show findD i l = some (l[l.findIdx (idB i)]).2 by rw [findD, dif_pos hf])
    clear hx
    generalize l.findIdx (idB i) = k at *
    obtain ⟨b, off, rfl, hg⟩ := HI.out (by rintro rfl; simp at hf)
    obtain ⟨cs, _, hc, v, hcs, hv⟩ := hg k hf
    subst hcs
    obtain ⟨A1, cp1, hv1, _⟩ := id hv
    subst hv1
    have hlx := HD.out l[k] (List.getElem_mem hf)
    have c1 := hl2.cell (show w.cell? ⟨b, off + k * 2 + 1, none⟩ = some (.slice A1 l[k].2.length cp1) from hc 1 (by omega))
    have HV := hide (hl2.rsl keeps_u8 hv)
    generalize l[k] = x at *
    have hk0 : ¬ (k : Int) < 0 := by omega
    have hk1 : (k : Int) < (l.length : Int) := by omega
    clear hc hg hv
    go_wp2_with fail
    refine (clone_any w2 A1 x.2.length cp1 x.2 HV.out hlx).mono ?_
    rintro r w3 ⟨v3, rfl, ho3, hb3⟩
    have hl3 := hl2.trans ⟨hb3⟩
    obtain ⟨A3, cap3, rfl, _, _⟩ := own_slice ho3
    have HR3 := hide (rsl_of_own ho3)
    clear ho3 hb3
    go_wp2_with fail
    go_ret2
    rw [HF.out]
    exact ⟨A3, cap3, rfl, HR3.out, hl3.out⟩
  · have HF := hide (show findD i l = none by rw [findD, dif_neg hf])
    rw [show idx (idB i) l = -1 by rw [idx, if_neg hf]]
    clear hf
    go_wp2_with fail
    go_ret2
    rw [HF.out]
    exact ⟨none, 0, rfl, RSl.nil, hl2.out⟩

def fewB (l : List It) : Bool := l.all (fun x => decide (x.2.length ≤ 300)) && decide (l.length ≤ 20)
theorem few_parts {l : List It} (h : fewB l = true) : (∀ x ∈ l, x.2.length ≤ 300) ∧ l.length ≤ 20 := by
  simp only [fewB, Bool.and_eq_true, List.all_eq_true, decide_eq_true_eq] at h
  exact h

set_option maxHeartbeats 1000000 in
theorem few_any (l : List It) (A : Option Addr) (n cap : Nat) (w : World) (hr : RSl 2 RItem w l (.slice A n cap)) (hl : l.length ≤ 9223372036854775807) : Calls Try.prog 17 #[.slice A n cap] w (Gives w (.bool (fewB l))) := by
  obtain ⟨A', cap', hv, hcap, hi⟩ := hr
  injection hv with e1 e2 e3
  subst e1 e2 e3
  have HI := hide hi
  clear hi
  go_enter Try.func17, Try.ntmps17
  go_wp2_with fail
  go_loop [3] (fun j => ∃ k : Nat, k ≤ l.length ∧ j = .int .i64 k ∧ Hd (∀ i (h : i < l.length), i < k → l[i].2.length ≤ 300)) (fun j => l.length - (intOf j).toNat)
  case atStart => exact ⟨0, Nat.zero_le _, rfl, hide (fun i _ h => by omega)⟩
  case round =>
    obtain ⟨k, hk, rfl, HN⟩ := hrel
    by_cases hlt : k < l.length
    · obtain ⟨b, off, rfl, hg⟩ := HI.out (by rintro rfl; simp at hlt)
      obtain ⟨cs, _, hc, v, hcs, hv⟩ := hg k hlt
      subst hcs
      obtain ⟨A1, cp1, hv1, _⟩ := id hv
      subst hv1
      have c1 := (show w.cell? ⟨b, off + k * 2 + 1, none⟩ = some (.slice A1 l[k].2.length cp1) from hc 1 (by omega))
      have HX := hide (fun (h : l[k].2.length ≤ 300) => hide (show ∀ i (h : i < l.length), i < k + 1 → l[i].2.length ≤ 300 from fun i hi h' => by
        by_cases e : i = k
        · subst e; exact h
        · exact HN.out i hi (by omega)))
      have HY := hide (fun (h : 300 < l[k].2.length) => show fewB l = false by
        rw [fewB, Bool.and_eq_false_iff]
        refine .inl ?_
        rw [List.all_eq_false]
        exact ⟨l[k], List.getElem_mem hlt, by simp; omega⟩)
      generalize l[k] = x at *
      clear hc hg hv
      have hltI : (k : Int) < (l.length : Int) := by omega
      by_cases h3 : 300 < x.2.length
      · have HE := hide (HY.out h3)
        have h3I : (300 : Int) < (x.2.length : Int) := by omega
        go_wp2_with fail
        go_ret
        exact ⟨by rw [HE.out]; rfl, Below.refl _ _⟩
      · have HE := HX.out (by omega)
        have h3I : ¬ (300 : Int) < (x.2.length : Int) := by omega
        go_wp2_with fail
        go_round
        case rel => exact ⟨k + 1, by omega, by go_num, HE⟩
        case measure => simp [intOf]; omega
    · have hltI : ¬ (k : Int) < (l.length : Int) := by omega
      have HE := hide (show fewB l = decide (l.length ≤ 20) by
        rw [fewB, List.all_eq_true.2 (fun x hx => by
          obtain ⟨i, hi, rfl⟩ := List.getElem_of_mem hx
          simpa using HN.out i hi (by omega)), Bool.true_and])
      have HD := hide (show decide ((l.length : Int) ≤ 20) = decide (l.length ≤ 20) from decide_eq_decide.2 (by omega))
      go_wp2_with fail
      go_ret
      exact ⟨by rw [HE.out, ← HD.out]; rfl, Below.refl _ _⟩

/-- items as the reference has them -/
def encR (x : It) : List Value := [.int .u8 x.1.toNat, .string (str x.2)]
def RI : Rd It := fun _ x cs => cs = encR x
theorem keeps_ri : Keeps RI := fun _ _ _ _ h _ => h
theorem slRI : SlT Try.prog 32 42 (.agg #[.int .u8 0, .string ByteArray.empty]) 2 24 := ⟨Try.underlying32, by kernel_rfl, rfl, by omega⟩
theorem rsl_ri {w : World} {base : Nat} {v : Value} {l : List It} (h : w.ownsRow base 42 2 v l.length (l.flatMap encR)) : RSl 2 RI w l v := by
  obtain ⟨A, cap, rfl, hc, hcl⟩ := own_slice h
  exact rsl_of_cells rfl hc (fun _ _ => rfl) (fun _ _ => rfl) (by omega) hcl

set_option maxRecDepth 100000 in
set_option maxHeartbeats 2000000 in
theorem plain_any (l : List It) (A : Option Addr) (n cap : Nat) (w : World) (hr : RSl 2 RItem w l (.slice A n cap)) (hl : l.length ≤ 100000) :
    Calls Try.prog 20 #[.slice A n cap] w fun e w' => ∃ A' cap', e = .returned (.slice A' l.length cap') ∧ RSl 2 RI w' l (.slice A' l.length cap') ∧ Below w.heap.size w w' := by
  have HR := hide hr
  obtain ⟨A', cap', hv, hcap, hi⟩ := hr
  injection hv with e1 e2 e3
  subst e1 e2 e3
  have HI := hide hi
  clear hi
  go_enter Try.func20, Try.ntmps20
  go_wp2_with fail
  go_loopw [3, 4] (fun v j wr => ∃ k : Nat, k ≤ l.length ∧ j = .int .i64 k ∧ Hd (wr.ownsRow w.heap.size 42 2 v k ((l.take k).flatMap encR)) ∧ Le w wr) (fun _ j _ => l.length - (intOf j).toNat)
  case atStart => exact ⟨0, Nat.zero_le _, rfl, hide (World.ownsRow_nil _ _ _ _), Le.refl _⟩
  case round =>
    obtain ⟨k, hk, rfl, HO, hle⟩ := hrel
    obtain ⟨A2, cap2, rfl, _, _⟩ := own_slice HO.out
    by_cases hlt : k < l.length
    · obtain ⟨b, off, rfl, hg⟩ := HI.out (by rintro rfl; simp at hlt)
      obtain ⟨cs, _, hc, v, hcs, hv⟩ := hg k hlt
      subst hcs
      obtain ⟨A1, cp1, hv1, _⟩ := id hv
      subst hv1
      have c0 := hle.cell (show w.cell? ⟨b, off + k * 2, none⟩ = some (.int .u8 (l[k].1.toNat : Nat)) from hc 0 (by omega))
      have c1 := hle.cell (show w.cell? ⟨b, off + k * 2 + 1, none⟩ = some (.slice A1 l[k].2.length cp1) from hc 1 (by omega))
      have hdk := hle.rsl keeps_u8 hv
      have HT := hide (show (l.take (k + 1)).flatMap encR = (l.take k).flatMap encR ++ encR l[k] by rw [List.take_succ_eq_append_getElem hlt, List.flatMap_append]; simp)
      generalize l[k] = x at *
      obtain ⟨xi, xd⟩ := x
      simp only at c0 c1 hdk
      clear hc hg hv
      have hltI : (k : Int) < (l.length : Int) := by omega
      have h0I : (0 : Int) ≤ (k : Int) := by omega
      have C0 : ∀ W, Le wr W → W.cell? ⟨b, off + k * 2, none⟩ = some (.int .u8 (xi.toNat : Nat)) := fun W h => h.cell c0
      have C1 : ∀ W, Le wr W → W.cell? ⟨b, off + k * 2 + 1, none⟩ = some (.slice A1 xd.length cp1) := fun W h => h.cell c1
      have hle0 := (Le.refl wr).drew
      have HLE := hide hle
      clear hle c0 c1
      go_wp2_with fail
      refine' wp_region_tail 14 14 11 Le (Is _ :: Is _ :: Is _ :: Is _ :: Is _ :: Is _ :: Is _ :: Is _ :: Is _ :: Is _ :: Is _ :: Is _ :: Is _ :: (fun v w => ∃ g : Nat, v = .slice (some ⟨g, 0, none⟩) 1 1 ∧ w.heap[g]? = some (.cells #[.int .u8 (xi.toNat : Nat), .string (str xd)] 42 (0, 0))) :: []) ([] :: [] :: [] :: [1, 2] :: [3] :: [4] :: [] :: [] :: [6, 7] :: [8] :: [9] :: [10] :: [5, 11] :: [12] :: []) (by kernel_rfl) (by kernel_rfl) rfl (by kernel_rfl) (by kernel_rfl) Le.refl (fun _ _ _ h h' => h.trans h') ⟨St.is, St.is, St.is, St.is, St.is, St.is, St.is, St.is, St.is, St.is, St.is, St.is, St.is, fun v w w' h ⟨g, e1, e2⟩ => ⟨g, e1, h.heap e2⟩, trivial⟩ ?m5
      case m5 =>
        simp (maxSteps := 100000000) only [AllV, Obl2, Leans, factAt, allFacts, actOf, putAll, putRow, List.set_cons_succ, List.set_cons_zero, List.getElem?_cons_zero, List.getElem?_cons_succ, List.take_succ_cons, List.take_zero, List.drop_succ_cons, List.drop_zero, List.cons_append, List.nil_append, List.length_cons, List.length_nil, Nat.reduceAdd]
        intro x0 x1 x2 x3 x4 x5 x6 x7 x8 x9 x10 x11 x12 x13
        refine ⟨⟨?_, ?_, ?_, ?_, ?_, ?_, ?_, ?_, ?_, ?_, ?_, ?_, ?_, ?_, trivial⟩, ?_⟩
        -- 0: 11 := Op.move t3
        · intro w hw  K hK; have hlw := hle0.trans hw; go_simp; exact hK _ _ (Le.refl _) (Is.mk _ _)
        -- 1: 12 := Op.move t0
        · intro w hw  K hK; have hlw := hle0.trans hw; go_simp; exact hK _ _ (Le.refl _) (Is.mk _ _)
        -- 2: 13 := Op.move t4
        · intro w hw  K hK; have hlw := hle0.trans hw; go_simp; exact hK _ _ (Le.refl _) (Is.mk _ _)
        -- 3: 14 := Op.indexAddr 22 t12 t13
        · intro w hw h1 h2 K hK; have hlw := hle0.trans hw; cases h1; cases h2; go_simp; exact hK _ _ (Le.refl _) (Is.mk _ _)
        -- 4: 15 := Op.fieldAddr 46 t14 0
        · intro w hw h3 K hK; have hlw := hle0.trans hw; cases h3; go_simp; exact hK _ _ (Le.refl _) (Is.mk _ _)
        -- 5: 16 := Op.load 5 t15
        · intro w hw h4 K hK; have hlw := hle0.trans hw; cases h4; go_simp; exact hK _ _ (Le.refl _) (Is.mk _ _)
        -- 6: 17 := Op.move t0
        · intro w hw  K hK; have hlw := hle0.trans hw; go_simp; exact hK _ _ (Le.refl _) (Is.mk _ _)
        -- 7: 18 := Op.move t4
        · intro w hw  K hK; have hlw := hle0.trans hw; go_simp; exact hK _ _ (Le.refl _) (Is.mk _ _)
        -- 8: 19 := Op.indexAddr 22 t17 t18
        · intro w hw h6 h7 K hK; have hlw := hle0.trans hw; cases h6; cases h7; go_simp; exact hK _ _ (Le.refl _) (Is.mk _ _)
        -- 9: 20 := Op.fieldAddr 46 t19 1
        · intro w hw h8 K hK; have hlw := hle0.trans hw; cases h8; go_simp; exact hK _ _ (Le.refl _) (Is.mk _ _)
        -- 10: 21 := Op.load 26 t20
        · intro w hw h9 K hK; have hlw := hle0.trans hw; cases h9; go_simp; exact hK _ _ (Le.refl _) (Is.mk _ _)
        -- 11: 22 := Op.convert 26 9 t21
        · intro w hw h10 K hK; have hlw := hle0.trans hw; cases h10; have hc := conv_le hdk _ ((hle0.trans hw)); go_simp; exact hK _ _ (Le.refl _) (Is.mk _ _)
        -- 12: 23 := Op.build 42 #[(0, t16), (1, t22)]
        · intro w hw h5 h11 K hK; have hlw := hle0.trans hw; cases h5; cases h11; go_simp; exact hK _ _ (Le.refl _) (Is.mk _ _)
        -- 13: 24 := Op.buildSlice 32 1 #[(0, t23)]
        · intro w hw h12 K hK; have hlw := hle0.trans hw; cases h12; go_simp; exact hK _ _ ((Le.refl _).alloc _) ⟨_, rfl, heap_alloc_new _ _⟩
        · intro wz hz h0 h1 h2 h3 h4 h5 h6 h7 h8 h9 h10 h11 h12 h13; cases h0; cases h1; cases h2; cases h3; cases h4; cases h5; cases h6; cases h7; cases h8; cases h9; cases h10; cases h11; cases h12; obtain ⟨g, rfl, hg⟩ := h13; skip
          clear C0 C1
          have hz2 : Le wr wz := hle0.trans hz
          have HZ := hide (HLE.out.trans hz2)
          have HOZ := hide (hz2.own HO.out)
          have hcz : Cells wz (some ⟨g, 0, none⟩) (encR (xi, xd)) := fun _ => ⟨g, 0, rfl, fun j u hu => by rw [Nat.zero_add, cell_block hg]; simpa [encR] using hu⟩
          clear hz hz2
          go_wp2_with (at_builtin; go_must (refine wpl_app rfl slRI (.tmp 11) (.tmp 24) rfl HOZ.out rfl rfl hcz rfl (by simp [encR, Value.oneCell']) (by omega) (by omega) HZ.out.size ?_); intro v5 w5 ho5 hg5 hat5; have HO5 := hide ho5; have hb5 := below_grown HZ.out.out HOZ.out hg5 (Nat.le_refl _) HZ.out.size; clear ho5 hg5 hat5)
          go_roundw
          case rel => exact ⟨k + 1, by omega, by go_num, hide (by rw [HT.out]; exact HO5.out), ⟨hb5⟩⟩
          case measure => simp [intOf]; omega
    · have hltI : ¬ (k : Int) < (l.length : Int) := by omega
      obtain rfl : k = l.length := by omega
      have HO2 := HO.out
      rw [List.take_length] at HO2
      have HO3 := hide HO2
      clear HO2 HO
      go_wp2_with fail
      go_ret
      exact ⟨A2, cap2, rfl, rsl_ri HO3.out, hle.out⟩
end Go.Proofs.Ytkbdbandeioibaa
