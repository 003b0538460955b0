/- ExtSizes: the law's walk. -/
import Derived.Test.YtkbdbandeioibaaLaw05
import Derived.Test.YtkbdbandeioibaaExtRPut
namespace Go.Proofs.Ytkbdbandeioibaa
open Go.RowKit
set_option linter.unusedVariables false

def sumD (l : List It) : Nat := (l.map fun x => x.2.length).sum
theorem sumD_take (l : List It) (k : Nat) (h : k < l.length) : sumD (l.take (k + 1)) = sumD (l.take k) + l[k].2.length := by
  rw [sumD, sumD, List.take_succ_eq_append_getElem h, List.map_append, List.sum_append]
  simp
theorem sumD_le (m : Nat) : ∀ (l : List It) (h : ∀ x ∈ l, x.2.length ≤ m), sumD l ≤ m * l.length
  | [], _ => by simp [sumD]
  | x :: l, h => by
    have h2 := h x (by simp)
    have h3 := sumD_le m l (fun y hy => h y (by simp [hy]))
    have e : sumD (x :: l) = x.2.length + sumD l := by simp [sumD]
    rw [e, List.length_cons, Nat.mul_succ]
    omega
theorem body_sum (s : Bool) : ∀ l : List It, (bodyB s l).length = sumD l + (if s then 1 else 2) * l.length
  | [] => by simp [bodyB, sumD]
  | x :: l => by
    have h3 := body_sum s l
    have e : bodyB s (x :: l) = itemB s x ++ bodyB s l := by simp [bodyB]
    have e2 : sumD (x :: l) = x.2.length + sumD l := by simp [sumD]
    rw [e, List.length_append, h3, e2, List.length_cons]
    cases s <;> simp [itemB] <;> omega
theorem pad_len (l : List UInt8) : (padB l).length = (l.length + 3) / 4 * 4 := by
  unfold padB padN
  rw [List.length_append, List.length_replicate]
  omega

set_option maxRecDepth 100000 in
set_option maxHeartbeats 2000000 in
theorem extSizes_walk (w : World) (l : List It) (A : Option Addr) (n cap : Nat) (hr : RSl 2 RItem w l (.slice A n cap)) (hl : l.length ≤ 9223372036854775807) :
    Calls Try.prog 7 #[.slice A n cap] w (Gives w (.bool true)) := by
  have HR := hide hr
  obtain ⟨A', cap', hv, hcap, _⟩ := hr
  injection hv with e1 e2 e3
  subst e1 e2 e3
  have HLN := hide hl
  clear hl
  go_enter Try.func7, Try.ntmps7
  go_wp2_with fail
  refine (awake05 _).mono ?_
  rintro r w1 ⟨rfl, hb1⟩
  have hl1 : Le w w1 := ⟨hb1⟩
  clear hb1
  go_wp2_with fail
  have hf := few_any l A l.length cap w1 (hl1.rsl keeps_item HR.out) HLN.out
  cases hfw : fewB l
  · rw [hfw] at hf
    refine hf.mono ?_
    rintro r w2 ⟨rfl, hb2⟩
    have hl2 := hl1.trans ⟨hb2⟩
    clear hb2 hf
    go_wp2_with fail
    go_ret
    exact ⟨rfl, hl2.out⟩
  rw [hfw] at hf
  refine hf.mono ?_
  rintro r w2 ⟨rfl, hb2⟩
  have hl2 := hl1.trans ⟨hb2⟩
  have HF := hide (few_parts hfw)
  have hll : l.length ≤ 20 := HF.out.2
  clear hb2 hf hfw hl1
  go_wp2_with fail
  refine (extPut_any l A l.length cap w2 (hl2.rsl keeps_item HR.out) (by omega)).mono ?_
  by_cases herr : extErr l = 0
  case neg =>
    have heI : (extErr l != 0) = true := by simpa using herr
    have HER := hide herr
    clear herr
    generalize extErr l = E at *
    rintro r w3 ⟨v3, rfl, ho3, hb3⟩
    have hl3 := hl2.trans ⟨hb3⟩
    obtain ⟨A3, cap3, rfl, _, _⟩ := own_slice ho3
    clear ho3 hb3 hl2
    go_wp2_with fail
    go_ret
    exact ⟨rfl, hl3.out⟩
  have hX : extB l = padB (bodyB (shortB l) l) := by rw [extB, if_pos herr]
  have hP : extProf l = if shortB l then 48862 else 4096 := by rw [extProf, if_pos herr]
  have hgd : l.any badB = false := by
    unfold extErr at herr
    by_cases h : 14 < l.length
    · rw [if_pos h] at herr; omega
    · rw [if_neg h] at herr
      cases hb : l.any badB
      · rfl
      · rw [hb] at herr; simp at herr
  have HGD := hide hgd
  have hbl : (extB l).length = (sumD l + (if shortB l then 1 else 2) * l.length + 3) / 4 * 4 := by rw [hX, pad_len, body_sum]
  rw [herr]
  have HBL := hide hbl
  have HPR := hide hP
  generalize extProf l = PR at *
  clear hX hP hgd hbl herr
  generalize extB l = B at *
  rintro r w3 ⟨v3, rfl, ho3, hb3⟩
  obtain ⟨A3, cap3, rfl, _, _⟩ := own_slice ho3
  have hl3 := hl2.trans ⟨hb3⟩
  obtain ⟨A', cap', hv, _, hi⟩ := hl3.rsl keeps_item HR.out
  injection hv with e1 e2 e3
  subst e1 e3
  have HI := hide hi
  clear ho3 hb3 hl2 hi
  go_wp2_with fail
  go_loop [8, 9, 10] (fun s v j => ∃ k : Nat, k ≤ l.length ∧ j = .int .i64 k ∧ v = .bool ((l.take k).all smallB) ∧ s = .int .i64 (sumD (l.take k) : Nat)) (fun _ _ j => l.length - (intOf j).toNat)
  case atStart => exact ⟨0, Nat.zero_le _, rfl, rfl, rfl⟩
  case round =>
    obtain ⟨k, hk, rfl, rfl, rfl⟩ := hrel
    by_cases hlt : k < l.length
    · obtain ⟨b, off, rfl, hg⟩ := HI.out (by rintro rfl; simp at hlt)
      obtain ⟨cs, _, hc, v, hcs, hv⟩ := hg k hlt
      subst hcs
      obtain ⟨A1, cp1, hv1, _⟩ := id hv
      subst hv1
      have c0 := (show w3.cell? ⟨b, off + k * 2, none⟩ = some (.int .u8 (l[k].1.toNat : Nat)) from hc 0 (by omega))
      have c1 := (show w3.cell? ⟨b, off + k * 2 + 1, none⟩ = some (.slice A1 l[k].2.length cp1) from hc 1 (by omega))
      have HA := hide (show (l.take (k + 1)).all smallB = ((l.take k).all smallB && smallB l[k]) by rw [List.take_succ_eq_append_getElem hlt, List.all_append]; simp)
      have HSD := hide (sumD_take l k hlt)
      have hsl := sumD_le 300 (l.take k) (fun x hx => HF.out.1 x (List.mem_of_mem_take hx))
      have htk : (l.take k).length ≤ k := List.length_take_le _ _
      have hgk := good_all HGD.out l[k] (List.getElem_mem hlt)
      have hsb : sumD (l.take k) ≤ 6000 := by omega
      generalize sumD (l.take k) = S at *
      generalize l[k] = x at *
      obtain ⟨xi, xd⟩ := x
      simp only at c0 c1 hgk
      have hxi := xi.toNat_lt
      have hltI : (k : Int) < (l.length : Int) := by omega
      clear hc hg hv hsl htk
      have hS : ∀ c : Bool, (c = true ↔ (xi.toNat < 15 ∧ 0 < xd.length ∧ xd.length < 17)) → c = smallB (xi, xd) := fun c h => by
        rw [Bool.eq_iff_iff, h]; simp only [smallB, smallN, Bool.and_eq_true, decide_eq_true_eq]; omega
      have HS := hide hS
      clear hS
      cases hb : (l.take k).all smallB
      · rw [hb] at HA
        have HB := hide hb
        clear hb
        go_wp2_with fail
        go_round
        case rel => exact ⟨k + 1, by omega, by go_num, by rw [HA.out]; rfl, by rw [HSD.out]; go_num⟩
        case measure => simp [intOf]; omega
      · rw [hb] at HA
        have HB := hide hb
        clear hb
        go_wp2
        all_goals
          go_round
          case rel =>
            refine ⟨k + 1, by omega, by go_num, ?_, by rw [HSD.out]; go_num⟩
            rw [HA.out, Bool.true_and, ← HS.out _ ?_]
            simp
            omega
          case measure => simp [intOf]; omega
    · have hltI : ¬ (k : Int) < (l.length : Int) := by omega
      obtain rfl : k = l.length := by omega
      have hsl := sumD_le 300 l HF.out.1
      have hsb : sumD l ≤ 6000 := by omega
      rw [show l.take l.length = l from List.take_length, ← short_of]
      generalize sumD l = S at *
      have hB := HBL.out
      clear hsl
      cases hs : shortB l
      all_goals
        rw [hs] at hB
        have HS := hide hs
        clear hs
      · have hq : (((B.length : Nat) : Int) == ((S : Int) + 2 * (l.length : Int) + 3) / 4 * 4) = true := by rw [beq_iff_eq, hB]; simp
        clear hB
        obtain rfl : PR = 4096 := by rw [HPR.out, HS.out]; rfl
        go_wp2_with fail
        go_ret
        exact ⟨rfl, hl3.out⟩
      · have hq : (((B.length : Nat) : Int) == ((S : Int) + (l.length : Int) + 3) / 4 * 4) = true := by rw [beq_iff_eq, hB]; simp
        clear hB
        obtain rfl : PR = 48862 := by rw [HPR.out, HS.out]; rfl
        go_wp2_with fail
        go_ret
        exact ⟨rfl, hl3.out⟩
end Go.Proofs.Ytkbdbandeioibaa
