/- louverref05.Put. -/
import Derived.Test.YtkbdbandeioibaaExt2
namespace Go.Proofs.Ytkbdbandeioibaa
open Go.RowKit
set_option linter.unusedVariables false

theorem conv_pair (w : World) (x y : Int) (a b : UInt8) (hx : x = (a.toNat : Int)) (hy : y = (b.toNat : Int)) :
    (convert 26 9 (.slice (some ⟨w.heap.size, 0, none⟩) 2 2)).run Try.prog (w.alloc (.cells #[.int .u8 x, .int .u8 y] 5)) = .ok (.string (str [a, b])) (w.alloc (.cells #[.int .u8 x, .int .u8 y] 5)) := by
  subst hx hy
  refine run_convert_bytes_back _ _ _ 5 _ 2 [a, b] Try.underlying26 Try.underlying5 Try.underlying9 (fun j hj => ?_)
  rw [addr_add, cell_block (heap_alloc_new w _)]
  obtain rfl | rfl : j = 0 ∨ j = 1 := by simp at hj; omega
  all_goals rfl
theorem short_of {l : List It} : shortB l = l.all smallB := by
  unfold shortB
  induction l with
  | nil => rfl
  | cons x l ih =>
    rw [List.any_cons, List.all_cons, Bool.not_or, ih]
    simp [bigB]

set_option maxRecDepth 100000 in
set_option maxHeartbeats 4000000 in
theorem rextPut_any (l : List It) (A : Option Addr) (n cap : Nat) (w : World) (hr : RSl 2 RI w l (.slice A n cap)) (hl : l.length ≤ 100000) :
    Calls Try.prog 19 #[.slice A n cap] w (Gives w (.tuple #[.int .u16 (extProf l : Nat), .string (str (extB l)), .int .i64 (extErr l)])) := by
  obtain ⟨A', cap', hv, hcap, hi⟩ := hr
  injection hv with e1 e2 e3
  subst e1 e2 e3
  have HI := hide hi
  clear hi
  have hbadv : ∀ err : Int, extErr l = err → err ≠ 0 → extProf l = 0 ∧ extB l = [] := fun err h hne => ⟨by rw [extProf, if_neg (by omega)], by rw [extB, if_neg (by omega)]⟩
  have HBV := hide hbadv
  clear hbadv
  by_cases hbig : 14 < l.length
  · have HE := hide (show extErr l = 13 by rw [extErr, if_pos hbig])
    go_enter Try.func19, Try.ntmps19
    go_wp2_with fail
    go_ret3
    exact ⟨by rw [(HBV.out 13 HE.out (by omega)).1, (HBV.out 13 HE.out (by omega)).2, HE.out]; rfl, Below.refl _ _⟩
  have hbigI : ¬ (14 : Int) < (l.length : Int) := by omega
  have HBIG := hide hbig
  clear hbig
  go_enter Try.func19, Try.ntmps19
  go_wp2_with fail
  go_loop [5, 6, 7] (fun v j _ => ∃ k : Nat, k ≤ l.length ∧ j = .int .i64 k ∧ v = .bool ((l.take k).all smallB) ∧ Hd (∀ i (h : i < l.length), i < k → badB l[i] = false)) (fun _ j _ => l.length - (intOf j).toNat)
  case atStart => exact ⟨0, Nat.zero_le _, rfl, rfl, hide (fun i _ h => by omega)⟩
  case round =>
    obtain ⟨k, hk, rfl, rfl, HN⟩ := hrel
    by_cases hlt : k < l.length
    · obtain ⟨b, off, rfl, hg⟩ := HI.out (by rintro rfl; simp at hlt)
      obtain ⟨cs, _, hc, hR⟩ := hg k hlt
      rw [show cs = encR l[k] from hR] at hc
      have c0 := (show w.cell? ⟨b, off + k * 2, none⟩ = some (.int .u8 (l[k].1.toNat : Nat)) from hc 0 (by omega))
      have c1 := (show w.cell? ⟨b, off + k * 2 + 1, none⟩ = some (.string (str l[k].2)) from hc 1 (by omega))
      have HX := hide (fun (h : badB l[k] = false) => (hide (show ∀ i (h : i < l.length), i < k + 1 → badB l[i] = false from fun i hi h' => by
        by_cases e : i = k
        · subst e; exact h
        · exact HN.out i hi (by omega))))
      have HY := hide (fun (h : badB l[k] = true) => show extErr l = 1 by rw [extErr, if_neg HBIG.out, if_pos (List.any_eq_true.2 ⟨l[k], List.getElem_mem hlt, h⟩)])
      have HA := hide (show (l.take (k + 1)).all smallB = ((l.take k).all smallB && smallB l[k]) by rw [List.take_succ_eq_append_getElem hlt, List.all_append]; simp)
      generalize l[k] = x at *
      obtain ⟨xi, xd⟩ := x
      simp only at c0 c1
      have hxi := xi.toNat_lt
      have hltI : (k : Int) < (l.length : Int) := by omega
      clear hc hg hR
      by_cases h0 : xi.toNat = 0
      · have HE := hide (HY.out (by simp [badB, badN, h0]))
        have h0I : ((xi.toNat : Int) == 0) = true := by rw [beq_iff_eq]; omega
        clear h0
        go_wp2_with fail
        go_ret3
        exact ⟨by rw [(HBV.out 1 HE.out (by omega)).1, (HBV.out 1 HE.out (by omega)).2, HE.out]; rfl, Below.refl _ _⟩
      have h0I : ((xi.toNat : Int) == 0) = false := by rw [beq_eq_false_iff_ne]; omega
      by_cases h255 : 255 < xd.length
      · have HE := hide (HY.out (by simp [badB, badN]; omega))
        have hI : (255 : Int) < (xd.length : Int) := by omega
        clear h0
        go_wp2_with fail
        go_ret3
        exact ⟨by rw [(HBV.out 1 HE.out (by omega)).1, (HBV.out 1 HE.out (by omega)).2, HE.out]; rfl, Below.refl _ _⟩
      have hI : ¬ (255 : Int) < (xd.length : Int) := by omega
      have HE := HX.out (by simp only [badB, badN]; simp [h0]; omega)
      have hS : ∀ c : Bool, (c = true ↔ (xi.toNat < 15 ∧ 0 < xd.length ∧ xd.length < 17)) → c = smallB (xi, xd) := fun c h => by
        rw [Bool.eq_iff_iff, h]; simp only [smallB, smallN, Bool.and_eq_true, decide_eq_true_eq]; omega
      have HS := hide hS
      clear h0 hS
      cases hb : (l.take k).all smallB
      · rw [hb] at HA
        have HB := hide hb
        clear hb
        go_wp2_with fail
        go_round
        case rel => exact ⟨k + 1, by omega, by go_num, by rw [HA.out]; rfl, HE⟩
        case measure => simp [intOf]; omega
      · rw [hb] at HA
        have HB := hide hb
        clear hb
        go_wp2
        all_goals
          go_round
          case rel =>
            refine ⟨k + 1, by omega, by go_num, ?_, HE⟩
            rw [HA.out, Bool.true_and, ← HS.out _ ?_]
            simp
            omega
          case measure => simp [intOf]; omega
    · have hltI : ¬ (k : Int) < (l.length : Int) := by omega
      obtain rfl : k = l.length := by omega
      have hgd : l.any badB = false := by
        rw [List.any_eq_false]
        intro x hx
        obtain ⟨i, hi, rfl⟩ := List.getElem_of_mem hx
        rw [HN.out i hi hi]; simp
      have HE0 := hide (show extErr l = 0 by rw [extErr, if_neg HBIG.out, hgd]; rfl)
      have HGD := hide hgd
      rw [show l.take l.length = l from List.take_length, ← short_of]
      clear hgd HN
      cases hsh : l.any bigB
      · have hs : shortB l = true := by rw [shortB, hsh]; rfl
        rw [hs]
        have HSH := hide hsh
        clear hsh hs
        go_wp2_with fail
        go_loopw [8, 9] (fun v j wr => ∃ k : Nat, k ≤ l.length ∧ j = .int .i64 k ∧ v = .string (str (bodyB true (l.take k))) ∧ Le w wr) (fun _ j _ => l.length - (intOf j).toNat)
        case atStart => exact ⟨0, Nat.zero_le _, rfl, rfl, Le.refl _⟩
        case round =>
          obtain ⟨k, hk, rfl, rfl, hle⟩ := hrel
          by_cases hlt : k < l.length
          · obtain ⟨b, off, rfl, hg⟩ := HI.out (by rintro rfl; simp at hlt)
            obtain ⟨cs, _, hc, hR⟩ := hg k hlt
            rw [show cs = encR l[k] from hR] at hc
            have c0 := hle.cell (show w.cell? ⟨b, off + k * 2, none⟩ = some (.int .u8 (l[k].1.toNat : Nat)) from hc 0 (by omega))
            have c1 := hle.cell (show w.cell? ⟨b, off + k * 2 + 1, none⟩ = some (.string (str l[k].2)) from hc 1 (by omega))
            have hsm := short_all HSH.out l[k] (List.getElem_mem hlt)
            have hgd := good_all HGD.out l[k] (List.getElem_mem hlt)
            have HT := hide (bodyB_take true l k hlt)
            have hbl := bodyB_len true 255 (l.take k) (fun x hx => (good_all HGD.out x (List.mem_of_mem_take hx)).2)
            have htk : (l.take k).length ≤ k := List.length_take_le _ _
            have hbb : (bodyB true (l.take k)).length ≤ 4000 := by omega
            generalize bodyB true (l.take k) = S at *
            generalize l[k] = x at *
            obtain ⟨xi, xd⟩ := x
            simp only at c0 c1 hgd hsm
            have hxi := xi.toNat_lt
            have hltI : (k : Int) < (l.length : Int) := by omega
            clear hc hg hbl htk hR
            have hcv := conv_one (P := Try.prog) wr 26 9 5 5 ((xi.toNat : Int) * 16 + (xd.length : Int) - 1) Try.underlying26 Try.underlying5 Try.underlying9 (by omega) (by omega)
            rw [show ((xi.toNat : Int) * 16 + (xd.length : Int) - 1).toNat = 16 * xi.toNat + xd.length - 1 by omega] at hcv
            have c1a : ∀ o, (wr.alloc o).cell? ⟨b, off + k * 2 + 1, none⟩ = some (.string (str xd)) := fun o => (World.cell?_alloc_lt wr o _ (block_lt c1)).trans c1
            have hs1 : ¬ 9223372036854775807 < S.length + 1 := by omega
            have hs2 : ¬ 9223372036854775807 < S.length + 1 + xd.length := by omega
            have HLE := hide (hle.alloc (.cells #[.int .u8 ((xi.toNat : Int) * 16 + (xd.length : Int) - 1)] 5))
            go_wp2_with fail
            go_roundw
            case rel =>
              refine ⟨k + 1, by omega, by go_num, ?_, HLE.out⟩
              rw [HT.out]
              simp [itemB]
            case measure => simp [intOf]; omega
          · have hltI : ¬ (k : Int) < (l.length : Int) := by omega
            obtain rfl : k = l.length := by omega
            have hbl := bodyB_len true 255 l (fun x hx => (good_all HGD.out x hx).2)
            have hS : (bodyB true l).length ≤ 4000 := by omega
            have HX := hide (show extB l = padB (bodyB true l) by rw [extB, if_pos HE0.out]; simp only [shortB]; rw [HSH.out]; rfl)
            have HP := hide (show extProf l = 48862 by rw [extProf, if_pos HE0.out]; rw [shortB, HSH.out]; rfl)
            rw [show l.take l.length = l from List.take_length]
            generalize bodyB true l = S at *
            have HLE := hide hle
            clear hbl hle
            go_wp2_with fail
            go_loopw [8] (fun v wr => ∃ m : Nat, m ≤ padN S.length ∧ v = .string (str (S ++ List.replicate m 0)) ∧ Le w wr) (fun v _ => match v with | .string s => (4 - s.size % 4) % 4 | _ => 0)
            case atStart => exact ⟨0, Nat.zero_le _, by simp, HLE.out⟩
            case round =>
              clear HLE
              obtain ⟨m, hm, rfl, hle⟩ := hrel
              have hm3 : m ≤ 3 := by unfold padN at hm; omega
              have hrl : (S ++ List.replicate m (0 : UInt8)).length = S.length + m := by simp
              by_cases hz : (S.length + m) % 4 = 0
              · have hme : m = padN S.length := by unfold padN at hm ⊢; omega
                have HM := hide hme
                obtain ⟨T, hT⟩ : ∃ T, S ++ List.replicate m (0 : UInt8) = T := ⟨_, rfl⟩
                rw [hT] at hrl ⊢
                have HT := hide hT
                have hzI : (((T.length : Nat) : Int) % 4 != 0) = false := by rw [bne_eq_false_iff_eq]; omega
                clear hm hme hz hT hrl
                go_wp2_with fail
                go_ret3
                refine ⟨?_, hle.out⟩
                rw [HX.out, HP.out, HE0.out, padB, ← HM.out, HT.out]
                rfl
              · have hlt : m < padN S.length := by unfold padN at hm ⊢; omega
                have HLT := hide hlt
                have HZ := hide hz
                obtain ⟨T, hT⟩ : ∃ T, S ++ List.replicate m (0 : UInt8) = T := ⟨_, rfl⟩
                rw [hT] at hrl ⊢
                have HT := hide hT
                have HRL := hide hrl
                have hzI : (((T.length : Nat) : Int) % 4 != 0) = true := by rw [bne_iff_ne]; omega
                have hs9 : ¬ 9223372036854775807 < T.length + 1 := by omega
                have hcc : str T ++ (⟨#[0]⟩ : ByteArray) = str (T ++ [0]) := str_app T [0]
                clear hz hm hlt hT hrl
                go_wp2_with fail
                go_roundw
                case rel =>
                  refine ⟨m + 1, HLT.out, ?_, hle⟩
                  rw [List.replicate_succ', ← List.append_assoc, HT.out]
                case measure =>
                  have h1 := HZ.out
                  have h2 := HRL.out
                  simp only [str_size, List.length_append, List.length_cons, List.length_nil]
                  omega

      · have hs : shortB l = false := by rw [shortB, hsh]; rfl
        rw [hs]
        have HSH := hide hsh
        clear hsh hs
        go_wp2_with fail
        go_loopw [8, 9] (fun v j wr => ∃ k : Nat, k ≤ l.length ∧ j = .int .i64 k ∧ v = .string (str (bodyB false (l.take k))) ∧ Le w wr) (fun _ j _ => l.length - (intOf j).toNat)
        case atStart => exact ⟨0, Nat.zero_le _, rfl, rfl, Le.refl _⟩
        case round =>
          obtain ⟨k, hk, rfl, rfl, hle⟩ := hrel
          by_cases hlt : k < l.length
          · obtain ⟨b, off, rfl, hg⟩ := HI.out (by rintro rfl; simp at hlt)
            obtain ⟨cs, _, hc, hR⟩ := hg k hlt
            rw [show cs = encR l[k] from hR] at hc
            have c0 := hle.cell (show w.cell? ⟨b, off + k * 2, none⟩ = some (.int .u8 (l[k].1.toNat : Nat)) from hc 0 (by omega))
            have c1 := hle.cell (show w.cell? ⟨b, off + k * 2 + 1, none⟩ = some (.string (str l[k].2)) from hc 1 (by omega))
            have hgd := good_all HGD.out l[k] (List.getElem_mem hlt)
            have HT := hide (bodyB_take false l k hlt)
            have hbl := bodyB_len false 255 (l.take k) (fun x hx => (good_all HGD.out x (List.mem_of_mem_take hx)).2)
            have htk : (l.take k).length ≤ k := List.length_take_le _ _
            have hbb : (bodyB false (l.take k)).length ≤ 4000 := by omega
            generalize bodyB false (l.take k) = S at *
            generalize l[k] = x at *
            obtain ⟨xi, xd⟩ := x
            simp only at c0 c1 hgd
            have hxi := xi.toNat_lt
            have hltI : (k : Int) < (l.length : Int) := by omega
            clear hc hg hbl htk hR
            have hcv := conv_pair wr (xi.toNat : Int) (xd.length : Int) xi (UInt8.ofNat xd.length) rfl (by rw [UInt8.toNat_ofNat']; omega)
            have c1a : ∀ o, (wr.alloc o).cell? ⟨b, off + k * 2 + 1, none⟩ = some (.string (str xd)) := fun o => (World.cell?_alloc_lt wr o _ (block_lt c1)).trans c1
            have hs1 : ¬ 9223372036854775807 < S.length + 2 := by omega
            have hs2 : ¬ 9223372036854775807 < S.length + 2 + xd.length := by omega
            have HLE := hide (hle.alloc (.cells #[.int .u8 (xi.toNat : Int), .int .u8 (xd.length : Int)] 5))
            go_wp2_with fail
            go_roundw
            case rel =>
              refine ⟨k + 1, by omega, by go_num, ?_, HLE.out⟩
              rw [HT.out]
              simp [itemB]
            case measure => simp [intOf]; omega
          · have hltI : ¬ (k : Int) < (l.length : Int) := by omega
            obtain rfl : k = l.length := by omega
            have hbl := bodyB_len false 255 l (fun x hx => (good_all HGD.out x hx).2)
            have hS : (bodyB false l).length ≤ 4000 := by omega
            have HX := hide (show extB l = padB (bodyB false l) by rw [extB, if_pos HE0.out]; simp only [shortB]; rw [HSH.out]; rfl)
            have HP := hide (show extProf l = 4096 by rw [extProf, if_pos HE0.out]; rw [shortB, HSH.out]; rfl)
            rw [show l.take l.length = l from List.take_length]
            generalize bodyB false l = S at *
            have HLE := hide hle
            clear hbl hle
            go_wp2_with fail
            go_loopw [8] (fun v wr => ∃ m : Nat, m ≤ padN S.length ∧ v = .string (str (S ++ List.replicate m 0)) ∧ Le w wr) (fun v _ => match v with | .string s => (4 - s.size % 4) % 4 | _ => 0)
            case atStart => exact ⟨0, Nat.zero_le _, by simp, HLE.out⟩
            case round =>
              clear HLE
              obtain ⟨m, hm, rfl, hle⟩ := hrel
              have hm3 : m ≤ 3 := by unfold padN at hm; omega
              have hrl : (S ++ List.replicate m (0 : UInt8)).length = S.length + m := by simp
              by_cases hz : (S.length + m) % 4 = 0
              · have hme : m = padN S.length := by unfold padN at hm ⊢; omega
                have HM := hide hme
                obtain ⟨T, hT⟩ : ∃ T, S ++ List.replicate m (0 : UInt8) = T := ⟨_, rfl⟩
                rw [hT] at hrl ⊢
                have HT := hide hT
                have hzI : (((T.length : Nat) : Int) % 4 != 0) = false := by rw [bne_eq_false_iff_eq]; omega
                clear hm hme hz hT hrl
                go_wp2_with fail
                go_ret3
                refine ⟨?_, hle.out⟩
                rw [HX.out, HP.out, HE0.out, padB, ← HM.out, HT.out]
                rfl
              · have hlt : m < padN S.length := by unfold padN at hm ⊢; omega
                have HLT := hide hlt
                have HZ := hide hz
                obtain ⟨T, hT⟩ : ∃ T, S ++ List.replicate m (0 : UInt8) = T := ⟨_, rfl⟩
                rw [hT] at hrl ⊢
                have HT := hide hT
                have HRL := hide hrl
                have hzI : (((T.length : Nat) : Int) % 4 != 0) = true := by rw [bne_iff_ne]; omega
                have hs9 : ¬ 9223372036854775807 < T.length + 1 := by omega
                have hcc : str T ++ (⟨#[0]⟩ : ByteArray) = str (T ++ [0]) := str_app T [0]
                clear hz hm hlt hT hrl
                go_wp2_with fail
                go_roundw
                case rel =>
                  refine ⟨m + 1, HLT.out, ?_, hle⟩
                  rw [List.replicate_succ', ← List.append_assoc, HT.out]
                case measure =>
                  have h1 := HZ.out
                  have h2 := HRL.out
                  simp only [str_size, List.length_append, List.length_cons, List.length_nil]
                  omega

end Go.Proofs.Ytkbdbandeioibaa
