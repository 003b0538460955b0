/- ext.Put. -/
import Derived.Test.YtkbdbandeioibaaExtL
namespace Go.Proofs.Ytkbdbandeioibaa
open Go.RowKit
set_option linter.unusedVariables false

/-- a profile, bytes in a row of their own, an error -/
def PutP (w : World) (p : Nat) (l : List UInt8) (err : Int) (e : Ending) (w' : World) : Prop :=
  ∃ v, e = .returned (.tuple #[.int .u16 p, v, .int .i64 err]) ∧ w'.ownsRow w.heap.size 5 1 v l.length (u8s l) ∧ Below w.heap.size w w'
theorem putP_bad {w w' : World} {l : List It} {err : Int} (h : extErr l = err) (hne : err ≠ 0) (hb : Below w.heap.size w w') :
    PutP w (extProf l) (extB l) (extErr l) (.returned (.tuple #[.int .u16 (0 : Nat), .slice none 0 0, .int .i64 err])) w' := by
  have h1 : extProf l = 0 := by rw [extProf, if_neg (by omega)]
  have h2 : extB l = [] := by rw [extB, if_neg (by omega)]
  rw [h1, h2, h]
  exact ⟨_, rfl, World.ownsRow_nil _ _ _ _, hb⟩

set_option maxRecDepth 100000 in
set_option maxHeartbeats 2000000 in
theorem extPut_any (l : List It) (A : Option Addr) (n cap : Nat) (w : World) (hr : RSl 2 RItem w l (.slice A n cap)) (hl : l.length ≤ 100000) :
    Calls Try.prog 18 #[.slice A n cap] w (PutP w (extProf l) (extB l) (extErr l)) := by
  have HR := hide hr
  obtain ⟨A', cap', hv, hcap, hi⟩ := hr
  injection hv with e1 e2 e3
  subst e1 e2 e3
  have HI := hide hi
  clear hi
  by_cases hbig : 14 < l.length
  · have HE := hide (show extErr l = 13 by rw [extErr, if_pos hbig])
    go_enter Try.func18, Try.ntmps18
    go_wp2_with fail
    go_ret3
    exact putP_bad HE.out (by omega) (Below.refl _ _)
  have hbigI : ¬ (14 : Int) < (l.length : Int) := by omega
  cases hbad : l.any badB with
  | true =>
    have HE := hide (show extErr l = 1 by rw [extErr, if_neg hbig, hbad]; rfl)
    have HBAD := hide hbad
    clear hbad
    go_enter Try.func18, Try.ntmps18
    go_wp2_with fail
    have hcn := contains1 l A l.length cap w HR.out hl
    rw [HBAD.out] at hcn
    refine hcn.mono ?_
    clear hcn
    rintro r w1 ⟨rfl, hb1⟩
    go_wp2_with fail
    go_ret3
    exact putP_bad HE.out (by omega) hb1
  | false =>
  have HE0 := hide (show extErr l = 0 by rw [extErr, if_neg hbig, hbad]; rfl)
  have HGD := hide hbad
  clear hbad
  go_enter Try.func18, Try.ntmps18
  go_wp2_with fail
  have hcn := contains1 l A l.length cap w HR.out hl
  rw [HGD.out] at hcn
  refine hcn.mono ?_
  clear hcn
  rintro r w1 ⟨rfl, hb1⟩
  have hl1 : Le w w1 := ⟨hb1⟩
  clear hb1
  go_wp2_with fail
  have hcn := contains2 l A l.length cap w1 (hl1.rsl keeps_item HR.out) hl
  cases hsh : l.any bigB
  all_goals
    rw [hsh] at hcn
    refine hcn.mono ?_
    clear hcn
    rintro r w2 ⟨rfl, hb2⟩
    have HL3 := hide (hl1.trans ⟨hb2⟩).out
    have HSH := hide hsh
    clear hb2 hsh hl1
  · go_wp2_with fail
    go_loopw [6, 18] (fun v j wr => ∃ k : Nat, k ≤ l.length ∧ j = .int .i64 k ∧ wr.ownsRow w.heap.size 5 1 v (bodyB true (l.take k)).length (u8s (bodyB true (l.take k))) ∧ Below w.heap.size w wr) (fun _ j _ => l.length - (intOf j).toNat)
    case atStart => exact ⟨0, Nat.zero_le _, rfl, by simpa [bodyB, u8s] using World.ownsRow_nil _ _ _ 1, HL3.out⟩
    case round =>
      obtain ⟨k, hk, rfl, hown, hb⟩ := hrel
      by_cases hlt : k < l.length
      · obtain ⟨b, off, rfl, hg⟩ := HI.out (by rintro rfl; simp at hlt)
        obtain ⟨cs, _, hc, v, hcs, hv⟩ := hg k hlt
        subst hcs
        obtain ⟨A1, cp1, hv1, _⟩ := id hv
        subst hv1
        have c0 := (Le.mk hb).cell (show w.cell? ⟨b, off + k * 2, none⟩ = some (.int .u8 (l[k].1.toNat : Nat)) from hc 0 (by omega))
        have c1 := (Le.mk hb).cell (show w.cell? ⟨b, off + k * 2 + 1, none⟩ = some (.slice A1 l[k].2.length cp1) from hc 1 (by omega))
        have hsm := short_all HSH.out l[k] (List.getElem_mem hlt)
        have hgd := good_all HGD.out l[k] (List.getElem_mem hlt)
        have HT := hide (bodyB_take true l k hlt)
        have hbl := bodyB_len true 255 (l.take k) (fun x hx => (good_all HGD.out x (List.mem_of_mem_take hx)).2)
        have htk : (l.take k).length ≤ k := List.length_take_le _ _
        have hbb : (bodyB true (l.take k)).length ≤ 4000 := by omega
        generalize bodyB true (l.take k) = S at *
        generalize l[k] = x at *
        obtain ⟨xi, xd⟩ := x
        simp only at c0 c1 hgd hsm
        have HXD := hide hv
        have hxi := xi.toNat_lt
        have hltI : (k : Int) < (l.length : Int) := by omega
        clear hc hg hbl htk hv
        have hor := first_short xi.toNat xd.length hsm.1 hsm.2.1 hsm.2.2.1 hsm.2.2.2
        go_wp2_with (first
            | (at_builtin; (refine wpl_app rfl sl8 (.tmp 24) (.tmp 34) rfl ((hown.alloc _).alloc _) rfl rfl (news := [Value.int .u8 (((16 * xi.toNat + xd.length - 1 : Nat) : Int) % 256)]) (cells_at (alloc_size _ _)) rfl (by simp [Value.oneCell']) (by omega) (by omega) (le_alloc (le_alloc hb.size)) ?_); intro v2 w2 ho2 hg2 hat2; obtain ⟨A2, cap2, rfl, _, _⟩ := own_slice ho2; have hb2 := below_grown ((hb.alloc hb.size _).alloc (le_alloc hb.size) _) ((hown.alloc _).alloc _) hg2 (Nat.le_refl _) (le_alloc (le_alloc hb.size)); have hbx2 := heap_grown hg2 (heap_alloc (heap_alloc_new wr (.cells #[.int .u8 (xi.toNat : Nat), .slice A1 xd.length cp1] 46))) (own_ne (hown.alloc _) (heap_alloc_new wr (.cells #[.int .u8 (xi.toNat : Nat), .slice A1 xd.length cp1] 46)) (by decide)); have x1 := cell_block hbx2 1; simp only [List.getElem?_toArray, List.getElem?_cons_zero, List.getElem?_cons_succ] at x1; have hd2 := Le.mk hb2 |>.rsl keeps_u8 HXD.out; have hcs2 := cells_of_rsl hd2; rw [show [Value.int .u8 (((16 * xi.toNat + xd.length - 1 : Nat) : Int) % 256)] = u8s [UInt8.ofNat (16 * xi.toNat + xd.length - 1)] by simp [u8s, UInt8.toNat_ofNat']] at ho2; rw [← u8s_append] at ho2; have HG2 := hide hg2; clear hg2 hat2)
            | (at_builtin; (refine wpl_app rfl sl8 (.tmp 45) (.tmp 47) rfl ho2 rfl rfl hcs2 (by simp [u8s]) u8s_one (by omega) (by omega) hb2.size ?_); intro v3 w3 ho3 hg3 hat3; obtain ⟨A3, cap3, rfl, _, _⟩ := own_slice ho3; have hb3 := below_grown hb2 ho2 hg3 (Nat.le_refl _) hb2.size; rw [← u8s_append] at ho3; clear hg3 hat3))
        go_roundw
        case rel =>
          refine ⟨k + 1, by omega, by go_num, ?_, hb3⟩
          rw [HT.out]
          have e : S ++ [UInt8.ofNat (16 * xi.toNat + xd.length - 1)] ++ xd = S ++ itemB true (xi, xd) := by simp [itemB]
          rw [e] at ho3
          have hln : (S ++ itemB true (xi, xd)).length = S.length + 1 + xd.length := by rw [← e]; simp; omega
          rw [hln]
          exact ho3
        case measure => simp [intOf]; omega
      · have hltI : ¬ (k : Int) < (l.length : Int) := by omega
        obtain rfl : k = l.length := by omega
        rw [List.take_length] at hown
        have hbl := bodyB_len true 255 l (fun x hx => (good_all HGD.out x hx).2)
        have hS : (bodyB true l).length ≤ 4000 := by omega
        have HX := hide (show extB l = padB (bodyB true l) by rw [extB, if_pos HE0.out]; rw [shortB, HSH.out]; rfl)
        have HP := hide (show extProf l = 48862 by rw [extProf, if_pos HE0.out]; rw [shortB, HSH.out]; rfl)
        generalize bodyB true l = S at *
        have HB := hide hb
        clear hbl hb
        go_wp2_with fail
        go_loopw [6] (fun v wr => ∃ m : Nat, m ≤ padN S.length ∧ wr.ownsRow w.heap.size 5 1 v (S.length + m) (u8s (S ++ List.replicate m 0)) ∧ Below w.heap.size w wr) (fun v _ => match v with | .slice _ n _ => (4 - n % 4) % 4 | _ => 0)
        case atStart => exact ⟨0, Nat.zero_le _, by simpa using hown, HB.out⟩
        case round =>
          clear hown
          obtain ⟨m, hm, hown, hb⟩ := hrel
          obtain ⟨A5, cap5, rfl, _, _⟩ := own_slice hown
          have hm3 : m ≤ 3 := by unfold padN at hm; omega
          by_cases hz : (S.length + m) % 4 = 0
          · have hme : m = padN S.length := by unfold padN at hm ⊢; omega
            have HM := hide hme
            have hzI : ¬ (0 : Int) < ((S.length + m : Nat) : Int) % 4 := by omega
            clear hm hme hz
            go_wp2_with fail
            go_ret3
            rw [HX.out, HP.out, HE0.out]
            have e : padB S = S ++ List.replicate m 0 := by rw [padB, ← HM.out]
            rw [e]
            refine ⟨_, rfl, ?_, hb⟩
            have hln : (S ++ List.replicate m (0 : UInt8)).length = S.length + m := by simp
            rw [hln]
            exact hown
          · have hlt : m < padN S.length := by unfold padN at hm ⊢; omega
            have hzI : (0 : Int) < ((S.length + m : Nat) : Int) % 4 := by omega
            have HLT := hide hlt
            have HZ := hide hz
            clear hz hm hlt
            go_wp2_with (at_builtin; go_must (refine wpl_app rfl sl8 (.tmp 54) (.tmp 55) rfl (hown.alloc _) rfl rfl (news := [Value.int .u8 0]) (cells_new _ _ _) rfl (by simp [Value.oneCell']) (by omega) (by omega) (le_alloc hb.size) ?_); intro v6 w6 ho6 hg6 hat6; obtain ⟨A6, cap6, rfl, _, _⟩ := own_slice ho6; have hb6 := below_grown (hb.alloc hb.size _) (hown.alloc _) hg6 (Nat.le_refl _) (le_alloc hb.size); clear hg6 hat6)
            go_roundw
            case rel =>
              refine ⟨m + 1, HLT.out, ?_, hb6⟩
              rw [show ([Value.int .u8 0] : List Value) = u8s [0] from rfl, ← u8s_append, List.append_assoc, ← List.replicate_succ'] at ho6
              exact ho6
            case measure => have := HZ.out; simp only; omega
  · go_wp2_with fail
    go_loopw [6, 18] (fun v j wr => ∃ k : Nat, k ≤ l.length ∧ j = .int .i64 k ∧ wr.ownsRow w.heap.size 5 1 v (bodyB false (l.take k)).length (u8s (bodyB false (l.take k))) ∧ Below w.heap.size w wr) (fun _ j _ => l.length - (intOf j).toNat)
    case atStart => exact ⟨0, Nat.zero_le _, rfl, by simpa [bodyB, u8s] using World.ownsRow_nil _ _ _ 1, HL3.out⟩
    case round =>
      obtain ⟨k, hk, rfl, hown, hb⟩ := hrel
      by_cases hlt : k < l.length
      · obtain ⟨b, off, rfl, hg⟩ := HI.out (by rintro rfl; simp at hlt)
        obtain ⟨cs, _, hc, v, hcs, hv⟩ := hg k hlt
        subst hcs
        obtain ⟨A1, cp1, hv1, _⟩ := id hv
        subst hv1
        have c0 := (Le.mk hb).cell (show w.cell? ⟨b, off + k * 2, none⟩ = some (.int .u8 (l[k].1.toNat : Nat)) from hc 0 (by omega))
        have c1 := (Le.mk hb).cell (show w.cell? ⟨b, off + k * 2 + 1, none⟩ = some (.slice A1 l[k].2.length cp1) from hc 1 (by omega))
        have hgd := good_all HGD.out l[k] (List.getElem_mem hlt)
        have HT := hide (bodyB_take false l k hlt)
        have hbl := bodyB_len false 255 (l.take k) (fun x hx => (good_all HGD.out x (List.mem_of_mem_take hx)).2)
        have htk : (l.take k).length ≤ k := List.length_take_le _ _
        have hbb : (bodyB false (l.take k)).length ≤ 4000 := by omega
        generalize bodyB false (l.take k) = S at *
        generalize l[k] = x at *
        obtain ⟨xi, xd⟩ := x
        simp only at c0 c1 hgd
        have HXD := hide hv
        have hxi := xi.toNat_lt
        have hltI : (k : Int) < (l.length : Int) := by omega
        clear hc hg hbl htk hv
        have hcv := wrap_u8 xd.length
        go_wp2_with (first
            | (at_builtin; (refine wpl_app rfl sl8 (.tmp 36) (.tmp 43) rfl ((hown.alloc _).alloc _) rfl rfl (news := [Value.int .u8 (xi.toNat : Nat), Value.int .u8 ((xd.length : Int) % 256)]) (cells_at (alloc_size _ _)) rfl (by simp [Value.oneCell']) (by omega) (by omega) (le_alloc (le_alloc hb.size)) ?_); intro v2 w2 ho2 hg2 hat2; obtain ⟨A2, cap2, rfl, _, _⟩ := own_slice ho2; have hb2 := below_grown ((hb.alloc hb.size _).alloc (le_alloc hb.size) _) ((hown.alloc _).alloc _) hg2 (Nat.le_refl _) (le_alloc (le_alloc hb.size)); have hbx2 := heap_grown hg2 (heap_alloc (heap_alloc_new wr (.cells #[.int .u8 (xi.toNat : Nat), .slice A1 xd.length cp1] 46))) (own_ne (hown.alloc _) (heap_alloc_new wr (.cells #[.int .u8 (xi.toNat : Nat), .slice A1 xd.length cp1] 46)) (by decide)); have x1 := cell_block hbx2 1; simp only [List.getElem?_toArray, List.getElem?_cons_zero, List.getElem?_cons_succ] at x1; have hd2 := Le.mk hb2 |>.rsl keeps_u8 HXD.out; have hcs2 := cells_of_rsl hd2; rw [show [Value.int .u8 (xi.toNat : Nat), Value.int .u8 ((xd.length : Int) % 256)] = u8s [xi, UInt8.ofNat xd.length] by simp [u8s, UInt8.toNat_ofNat']] at ho2; rw [← u8s_append] at ho2; have HG2 := hide hg2; clear hg2 hat2)
            | (at_builtin; (refine wpl_app rfl sl8 (.tmp 45) (.tmp 47) rfl ho2 rfl rfl hcs2 (by simp [u8s]) u8s_one (by omega) (by omega) hb2.size ?_); intro v3 w3 ho3 hg3 hat3; obtain ⟨A3, cap3, rfl, _, _⟩ := own_slice ho3; have hb3 := below_grown hb2 ho2 hg3 (Nat.le_refl _) hb2.size; rw [← u8s_append] at ho3; clear hg3 hat3))
        go_roundw
        case rel =>
          refine ⟨k + 1, by omega, by go_num, ?_, hb3⟩
          rw [HT.out]
          have e : S ++ [xi, UInt8.ofNat xd.length] ++ xd = S ++ itemB false (xi, xd) := by simp [itemB]
          rw [e] at ho3
          have hln : (S ++ itemB false (xi, xd)).length = S.length + 2 + xd.length := by rw [← e]; simp; omega
          rw [hln]
          exact ho3
        case measure => simp [intOf]; omega
      · have hltI : ¬ (k : Int) < (l.length : Int) := by omega
        obtain rfl : k = l.length := by omega
        rw [List.take_length] at hown
        have hbl := bodyB_len false 255 l (fun x hx => (good_all HGD.out x hx).2)
        have hS : (bodyB false l).length ≤ 4000 := by omega
        have HX := hide (show extB l = padB (bodyB false l) by rw [extB, if_pos HE0.out]; rw [shortB, HSH.out]; rfl)
        have HP := hide (show extProf l = 4096 by rw [extProf, if_pos HE0.out]; rw [shortB, HSH.out]; rfl)
        generalize bodyB false l = S at *
        have HB := hide hb
        clear hbl hb
        go_wp2_with fail
        go_loopw [6] (fun v wr => ∃ m : Nat, m ≤ padN S.length ∧ wr.ownsRow w.heap.size 5 1 v (S.length + m) (u8s (S ++ List.replicate m 0)) ∧ Below w.heap.size w wr) (fun v _ => match v with | .slice _ n _ => (4 - n % 4) % 4 | _ => 0)
        case atStart => exact ⟨0, Nat.zero_le _, by simpa using hown, HB.out⟩
        case round =>
          clear hown
          obtain ⟨m, hm, hown, hb⟩ := hrel
          obtain ⟨A5, cap5, rfl, _, _⟩ := own_slice hown
          have hm3 : m ≤ 3 := by unfold padN at hm; omega
          by_cases hz : (S.length + m) % 4 = 0
          · have hme : m = padN S.length := by unfold padN at hm ⊢; omega
            have HM := hide hme
            have hzI : ¬ (0 : Int) < ((S.length + m : Nat) : Int) % 4 := by omega
            clear hm hme hz
            go_wp2_with fail
            go_ret3
            rw [HX.out, HP.out, HE0.out]
            have e : padB S = S ++ List.replicate m 0 := by rw [padB, ← HM.out]
            rw [e]
            refine ⟨_, rfl, ?_, hb⟩
            have hln : (S ++ List.replicate m (0 : UInt8)).length = S.length + m := by simp
            rw [hln]
            exact hown
          · have hlt : m < padN S.length := by unfold padN at hm ⊢; omega
            have hzI : (0 : Int) < ((S.length + m : Nat) : Int) % 4 := by omega
            have HLT := hide hlt
            have HZ := hide hz
            clear hz hm hlt
            go_wp2_with (at_builtin; go_must (refine wpl_app rfl sl8 (.tmp 54) (.tmp 55) rfl (hown.alloc _) rfl rfl (news := [Value.int .u8 0]) (cells_new _ _ _) rfl (by simp [Value.oneCell']) (by omega) (by omega) (le_alloc hb.size) ?_); intro v6 w6 ho6 hg6 hat6; obtain ⟨A6, cap6, rfl, _, _⟩ := own_slice ho6; have hb6 := below_grown (hb.alloc hb.size _) (hown.alloc _) hg6 (Nat.le_refl _) (le_alloc hb.size); clear hg6 hat6)
            go_roundw
            case rel =>
              refine ⟨m + 1, HLT.out, ?_, hb6⟩
              rw [show ([Value.int .u8 0] : List Value) = u8s [0] from rfl, ← u8s_append, List.append_assoc, ← List.replicate_succ'] at ho6
              exact ho6
            case measure => have := HZ.out; simp only; omega
end Go.Proofs.Ytkbdbandeioibaa
