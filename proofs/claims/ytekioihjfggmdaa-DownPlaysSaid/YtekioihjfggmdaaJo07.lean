/- Texts of one claim, laid together: ExtPut Zeros Vp8L -/
import Derived.Lib.AppendZerosOnto
import Derived.Laws.OwnMore
import Derived.Test.YtekioihjfggmdaaJo05
import Derived.Test.YtekioihjfggmdaaJo04
/- ext.Put. -/
namespace Go.Proofs.Ytekioihjfggmdaa
open Go.RowKit
set_option linter.unusedVariables false

/-- a profile, bytes in a row of their own, an error -/
def PutP (w : World) (p : Nat) (l : List UInt8) (err : Int) (e : Ending) (w' : World) : Prop :=
  ∃ v, e = .returned (.tuple #[.int .u16 p, v, .int .i64 err]) ∧ w'.ownsRow w.heap.size 5 1 v l.length (u8s l) ∧ Below w.heap.size w w'
theorem putP_bad {w w' : World} {l : List It} {err : Int} (h : extErr l = err) (hne : err ≠ 0) (hb : Below w.heap.size w w') :
    PutP w (extProf l) (extB l) (extErr l) (.returned (.tuple #[.int .u16 (0 : Nat), .slice none 0 0, .int .i64 err])) w' := by
  have h1 : extProf l = 0 := by rw [extProf, if_neg (by omega)]
  have h2 : extB l = [] := by rw [extB, if_neg (by omega)]
  rw [h1, h2, h]
  exact ⟨_, rfl, World.ownsRow_nil _ _ _ _, hb⟩

set_option maxRecDepth 100000 in
set_option maxHeartbeats 2000000 in
theorem extPut_any (l : List It) (A : Option Addr) (n cap : Nat) (w : World) (hr : RSl 2 RItem w l (.slice A n cap)) (hl : l.length ≤ 100000) :
    Calls Try.prog 80 #[.slice A n cap] w (PutP w (extProf l) (extB l) (extErr l)) := by
  have HR := hide hr
  obtain ⟨A', cap', hv, hcap, hi⟩ := hr
  injection hv with e1 e2 e3
  subst e1 e2 e3
  have HI := hide hi
  clear hi
  by_cases hbig : 14 < l.length
  · have HE := hide (show extErr l = 13 by rw [extErr, if_pos hbig])
    go_enter Try.func80, Try.ntmps80
    go_wp2_with fail
    go_ret3
    exact putP_bad HE.out (by omega) (Below.refl _ _)
  have hbigI : ¬ (14 : Int) < (l.length : Int) := by omega
  cases hbad : l.any badB with
  | true =>
    have HE := hide (show extErr l = 1 by rw [extErr, if_neg hbig, hbad]; rfl)
    have HBAD := hide hbad
    clear hbad
    go_enter Try.func80, Try.ntmps80
    go_wp2_with fail
    have hcn := contains1 l A l.length cap w HR.out hl
    rw [HBAD.out] at hcn
    refine hcn.mono ?_
    clear hcn
    rintro r w1 ⟨rfl, hb1⟩
    go_wp2_with fail
    go_ret3
    exact putP_bad HE.out (by omega) hb1
  | false =>
  have HE0 := hide (show extErr l = 0 by rw [extErr, if_neg hbig, hbad]; rfl)
  have HGD := hide hbad
  clear hbad
  go_enter Try.func80, Try.ntmps80
  go_wp2_with fail
  have hcn := contains1 l A l.length cap w HR.out hl
  rw [HGD.out] at hcn
  refine hcn.mono ?_
  clear hcn
  rintro r w1 ⟨rfl, hb1⟩
  have hl1 : Le w w1 := ⟨hb1⟩
  clear hb1
  go_wp2_with fail
  have hcn := contains2 l A l.length cap w1 (hl1.rsl keeps_item HR.out) hl
  cases hsh : l.any bigB
  all_goals
    rw [hsh] at hcn
    refine hcn.mono ?_
    clear hcn
    rintro r w2 ⟨rfl, hb2⟩
    have HL3 := hide (hl1.trans ⟨hb2⟩).out
    have HSH := hide hsh
    clear hb2 hsh hl1
  · go_wp2_with fail
    go_loopw [6, 18] (fun v j wr => ∃ k : Nat, k ≤ l.length ∧ j = .int .i64 k ∧ wr.ownsRow w.heap.size 5 1 v (bodyB true (l.take k)).length (u8s (bodyB true (l.take k))) ∧ Below w.heap.size w wr) (fun _ j _ => l.length - (intOf j).toNat)
    case atStart => exact ⟨0, Nat.zero_le _, rfl, by simpa [bodyB, u8s] using World.ownsRow_nil _ _ _ 1, HL3.out⟩
    case round =>
      obtain ⟨k, hk, rfl, hown, hb⟩ := hrel
      by_cases hlt : k < l.length
      · obtain ⟨b, off, rfl, hg⟩ := HI.out (by rintro rfl; simp at hlt)
        obtain ⟨cs, _, hc, v, hcs, hv⟩ := hg k hlt
        subst hcs
        obtain ⟨A1, cp1, hv1, _⟩ := id hv
        subst hv1
        have c0 := (Le.mk hb).cell (show w.cell? ⟨b, off + k * 2, none⟩ = some (.int .u8 (l[k].1.toNat : Nat)) from hc 0 (by omega))
        have c1 := (Le.mk hb).cell (show w.cell? ⟨b, off + k * 2 + 1, none⟩ = some (.slice A1 l[k].2.length cp1) from hc 1 (by omega))
        have hsm := short_all HSH.out l[k] (List.getElem_mem hlt)
        have hgd := good_all HGD.out l[k] (List.getElem_mem hlt)
        have HT := hide (bodyB_take true l k hlt)
        have hbl := bodyB_len true 255 (l.take k) (fun x hx => (good_all HGD.out x (List.mem_of_mem_take hx)).2)
        have htk : (l.take k).length ≤ k := List.length_take_le _ _
        have hbb : (bodyB true (l.take k)).length ≤ 4000 := by omega
        generalize bodyB true (l.take k) = S at *
        generalize l[k] = x at *
        obtain ⟨xi, xd⟩ := x
        simp only at c0 c1 hgd hsm
        have HXD := hide hv
        have hxi := xi.toNat_lt
        have hltI : (k : Int) < (l.length : Int) := by omega
        clear hc hg hbl htk hv
        have hor := first_short xi.toNat xd.length hsm.1 hsm.2.1 hsm.2.2.1 hsm.2.2.2
        go_wp2_with (first
            | (at_builtin; (refine wpl_app rfl sl8 (.tmp 24) (.tmp 34) rfl ((hown.alloc _).alloc _) rfl rfl (news := [Value.int .u8 (((16 * xi.toNat + xd.length - 1 : Nat) : Int) % 256)]) (cells_at (alloc_size _ _)) rfl (by simp [Value.oneCell']) (by omega) (by omega) (le_alloc (le_alloc hb.size)) ?_); intro v2 w2 ho2 hg2 hat2; obtain ⟨A2, cap2, rfl, _, _⟩ := own_slice ho2; have hb2 := below_grown ((hb.alloc hb.size _).alloc (le_alloc hb.size) _) ((hown.alloc _).alloc _) hg2 (Nat.le_refl _) (le_alloc (le_alloc hb.size)); have hbx2 := heap_grown hg2 (heap_alloc (heap_alloc_new wr (.cells #[.int .u8 (xi.toNat : Nat), .slice A1 xd.length cp1] 86))) (own_ne (hown.alloc _) (heap_alloc_new wr (.cells #[.int .u8 (xi.toNat : Nat), .slice A1 xd.length cp1] 86)) (by decide)); have x1 := cell_block hbx2 1; simp only [List.getElem?_toArray, List.getElem?_cons_zero, List.getElem?_cons_succ] at x1; have hd2 := Le.mk hb2 |>.rsl keeps_u8 HXD.out; have hcs2 := cells_of_rsl hd2; rw [show [Value.int .u8 (((16 * xi.toNat + xd.length - 1 : Nat) : Int) % 256)] = u8s [UInt8.ofNat (16 * xi.toNat + xd.length - 1)] by simp [u8s, UInt8.toNat_ofNat']] at ho2; rw [← u8s_append] at ho2; have HG2 := hide hg2; clear hg2 hat2)
            | (at_builtin; (refine wpl_app rfl sl8 (.tmp 45) (.tmp 47) rfl ho2 rfl rfl hcs2 (by simp [u8s]) u8s_one (by omega) (by omega) hb2.size ?_); intro v3 w3 ho3 hg3 hat3; obtain ⟨A3, cap3, rfl, _, _⟩ := own_slice ho3; have hb3 := below_grown hb2 ho2 hg3 (Nat.le_refl _) hb2.size; rw [← u8s_append] at ho3; clear hg3 hat3))
        go_roundw
        case rel =>
          refine ⟨k + 1, by omega, by go_num, ?_, hb3⟩
          rw [HT.out]
          have e : S ++ [UInt8.ofNat (16 * xi.toNat + xd.length - 1)] ++ xd = S ++ itemB true (xi, xd) := by simp [itemB]
          rw [e] at ho3
          have hln : (S ++ itemB true (xi, xd)).length = S.length + 1 + xd.length := by rw [← e]; simp; omega
          rw [hln]
          exact ho3
        case measure => simp [intOf]; omega
      · have hltI : ¬ (k : Int) < (l.length : Int) := by omega
        obtain rfl : k = l.length := by omega
        rw [List.take_length] at hown
        have hbl := bodyB_len true 255 l (fun x hx => (good_all HGD.out x hx).2)
        have hS : (bodyB true l).length ≤ 4000 := by omega
        have HX := hide (show extB l = padB (bodyB true l) by rw [extB, if_pos HE0.out]; rw [shortB, HSH.out]; rfl)
        have HP := hide (show extProf l = 48862 by rw [extProf, if_pos HE0.out]; rw [shortB, HSH.out]; rfl)
        generalize bodyB true l = S at *
        have HB := hide hb
        clear hbl hb
        go_wp2_with fail
        go_loopw [6] (fun v wr => ∃ m : Nat, m ≤ padN S.length ∧ wr.ownsRow w.heap.size 5 1 v (S.length + m) (u8s (S ++ List.replicate m 0)) ∧ Below w.heap.size w wr) (fun v _ => match v with | .slice _ n _ => (4 - n % 4) % 4 | _ => 0)
        case atStart => exact ⟨0, Nat.zero_le _, by simpa using hown, HB.out⟩
        case round =>
          clear hown
          obtain ⟨m, hm, hown, hb⟩ := hrel
          obtain ⟨A5, cap5, rfl, _, _⟩ := own_slice hown
          have hm3 : m ≤ 3 := by unfold padN at hm; omega
          by_cases hz : (S.length + m) % 4 = 0
          · have hme : m = padN S.length := by unfold padN at hm ⊢; omega
            have HM := hide hme
            have hzI : ¬ (0 : Int) < ((S.length + m : Nat) : Int) % 4 := by omega
            clear hm hme hz
            go_wp2_with fail
            go_ret3
            rw [HX.out, HP.out, HE0.out]
            have e : padB S = S ++ List.replicate m 0 := by rw [padB, ← HM.out]
            rw [e]
            refine ⟨_, rfl, ?_, hb⟩
            have hln : (S ++ List.replicate m (0 : UInt8)).length = S.length + m := by simp
            rw [hln]
            exact hown
          · have hlt : m < padN S.length := by unfold padN at hm ⊢; omega
            have hzI : (0 : Int) < ((S.length + m : Nat) : Int) % 4 := by omega
            have HLT := hide hlt
            have HZ := hide hz
            clear hz hm hlt
            go_wp2_with (at_builtin; go_must (refine wpl_app rfl sl8 (.tmp 54) (.tmp 55) rfl (hown.alloc _) rfl rfl (news := [Value.int .u8 0]) (cells_new _ _ _) rfl (by simp [Value.oneCell']) (by omega) (by omega) (le_alloc hb.size) ?_); intro v6 w6 ho6 hg6 hat6; obtain ⟨A6, cap6, rfl, _, _⟩ := own_slice ho6; have hb6 := below_grown (hb.alloc hb.size _) (hown.alloc _) hg6 (Nat.le_refl _) (le_alloc hb.size); clear hg6 hat6)
            go_roundw
            case rel =>
              refine ⟨m + 1, HLT.out, ?_, hb6⟩
              rw [show ([Value.int .u8 0] : List Value) = u8s [0] from rfl, ← u8s_append, List.append_assoc, ← List.replicate_succ'] at ho6
              exact ho6
            case measure => have := HZ.out; simp only; omega
  · go_wp2_with fail
    go_loopw [6, 18] (fun v j wr => ∃ k : Nat, k ≤ l.length ∧ j = .int .i64 k ∧ wr.ownsRow w.heap.size 5 1 v (bodyB false (l.take k)).length (u8s (bodyB false (l.take k))) ∧ Below w.heap.size w wr) (fun _ j _ => l.length - (intOf j).toNat)
    case atStart => exact ⟨0, Nat.zero_le _, rfl, by simpa [bodyB, u8s] using World.ownsRow_nil _ _ _ 1, HL3.out⟩
    case round =>
      obtain ⟨k, hk, rfl, hown, hb⟩ := hrel
      by_cases hlt : k < l.length
      · obtain ⟨b, off, rfl, hg⟩ := HI.out (by rintro rfl; simp at hlt)
        obtain ⟨cs, _, hc, v, hcs, hv⟩ := hg k hlt
        subst hcs
        obtain ⟨A1, cp1, hv1, _⟩ := id hv
        subst hv1
        have c0 := (Le.mk hb).cell (show w.cell? ⟨b, off + k * 2, none⟩ = some (.int .u8 (l[k].1.toNat : Nat)) from hc 0 (by omega))
        have c1 := (Le.mk hb).cell (show w.cell? ⟨b, off + k * 2 + 1, none⟩ = some (.slice A1 l[k].2.length cp1) from hc 1 (by omega))
        have hgd := good_all HGD.out l[k] (List.getElem_mem hlt)
        have HT := hide (bodyB_take false l k hlt)
        have hbl := bodyB_len false 255 (l.take k) (fun x hx => (good_all HGD.out x (List.mem_of_mem_take hx)).2)
        have htk : (l.take k).length ≤ k := List.length_take_le _ _
        have hbb : (bodyB false (l.take k)).length ≤ 4000 := by omega
        generalize bodyB false (l.take k) = S at *
        generalize l[k] = x at *
        obtain ⟨xi, xd⟩ := x
        simp only at c0 c1 hgd
        have HXD := hide hv
        have hxi := xi.toNat_lt
        have hltI : (k : Int) < (l.length : Int) := by omega
        clear hc hg hbl htk hv
        have hcv := wrap_u8 xd.length
        go_wp2_with (first
            | (at_builtin; (refine wpl_app rfl sl8 (.tmp 36) (.tmp 43) rfl ((hown.alloc _).alloc _) rfl rfl (news := [Value.int .u8 (xi.toNat : Nat), Value.int .u8 ((xd.length : Int) % 256)]) (cells_at (alloc_size _ _)) rfl (by simp [Value.oneCell']) (by omega) (by omega) (le_alloc (le_alloc hb.size)) ?_); intro v2 w2 ho2 hg2 hat2; obtain ⟨A2, cap2, rfl, _, _⟩ := own_slice ho2; have hb2 := below_grown ((hb.alloc hb.size _).alloc (le_alloc hb.size) _) ((hown.alloc _).alloc _) hg2 (Nat.le_refl _) (le_alloc (le_alloc hb.size)); have hbx2 := heap_grown hg2 (heap_alloc (heap_alloc_new wr (.cells #[.int .u8 (xi.toNat : Nat), .slice A1 xd.length cp1] 86))) (own_ne (hown.alloc _) (heap_alloc_new wr (.cells #[.int .u8 (xi.toNat : Nat), .slice A1 xd.length cp1] 86)) (by decide)); have x1 := cell_block hbx2 1; simp only [List.getElem?_toArray, List.getElem?_cons_zero, List.getElem?_cons_succ] at x1; have hd2 := Le.mk hb2 |>.rsl keeps_u8 HXD.out; have hcs2 := cells_of_rsl hd2; rw [show [Value.int .u8 (xi.toNat : Nat), Value.int .u8 ((xd.length : Int) % 256)] = u8s [xi, UInt8.ofNat xd.length] by simp [u8s, UInt8.toNat_ofNat']] at ho2; rw [← u8s_append] at ho2; have HG2 := hide hg2; clear hg2 hat2)
            | (at_builtin; (refine wpl_app rfl sl8 (.tmp 45) (.tmp 47) rfl ho2 rfl rfl hcs2 (by simp [u8s]) u8s_one (by omega) (by omega) hb2.size ?_); intro v3 w3 ho3 hg3 hat3; obtain ⟨A3, cap3, rfl, _, _⟩ := own_slice ho3; have hb3 := below_grown hb2 ho2 hg3 (Nat.le_refl _) hb2.size; rw [← u8s_append] at ho3; clear hg3 hat3))
        go_roundw
        case rel =>
          refine ⟨k + 1, by omega, by go_num, ?_, hb3⟩
          rw [HT.out]
          have e : S ++ [xi, UInt8.ofNat xd.length] ++ xd = S ++ itemB false (xi, xd) := by simp [itemB]
          rw [e] at ho3
          have hln : (S ++ itemB false (xi, xd)).length = S.length + 2 + xd.length := by rw [← e]; simp; omega
          rw [hln]
          exact ho3
        case measure => simp [intOf]; omega
      · have hltI : ¬ (k : Int) < (l.length : Int) := by omega
        obtain rfl : k = l.length := by omega
        rw [List.take_length] at hown
        have hbl := bodyB_len false 255 l (fun x hx => (good_all HGD.out x hx).2)
        have hS : (bodyB false l).length ≤ 4000 := by omega
        have HX := hide (show extB l = padB (bodyB false l) by rw [extB, if_pos HE0.out]; rw [shortB, HSH.out]; rfl)
        have HP := hide (show extProf l = 4096 by rw [extProf, if_pos HE0.out]; rw [shortB, HSH.out]; rfl)
        generalize bodyB false l = S at *
        have HB := hide hb
        clear hbl hb
        go_wp2_with fail
        go_loopw [6] (fun v wr => ∃ m : Nat, m ≤ padN S.length ∧ wr.ownsRow w.heap.size 5 1 v (S.length + m) (u8s (S ++ List.replicate m 0)) ∧ Below w.heap.size w wr) (fun v _ => match v with | .slice _ n _ => (4 - n % 4) % 4 | _ => 0)
        case atStart => exact ⟨0, Nat.zero_le _, by simpa using hown, HB.out⟩
        case round =>
          clear hown
          obtain ⟨m, hm, hown, hb⟩ := hrel
          obtain ⟨A5, cap5, rfl, _, _⟩ := own_slice hown
          have hm3 : m ≤ 3 := by unfold padN at hm; omega
          by_cases hz : (S.length + m) % 4 = 0
          · have hme : m = padN S.length := by unfold padN at hm ⊢; omega
            have HM := hide hme
            have hzI : ¬ (0 : Int) < ((S.length + m : Nat) : Int) % 4 := by omega
            clear hm hme hz
            go_wp2_with fail
            go_ret3
            rw [HX.out, HP.out, HE0.out]
            have e : padB S = S ++ List.replicate m 0 := by rw [padB, ← HM.out]
            rw [e]
            refine ⟨_, rfl, ?_, hb⟩
            have hln : (S ++ List.replicate m (0 : UInt8)).length = S.length + m := by simp
            rw [hln]
            exact hown
          · have hlt : m < padN S.length := by unfold padN at hm ⊢; omega
            have hzI : (0 : Int) < ((S.length + m : Nat) : Int) % 4 := by omega
            have HLT := hide hlt
            have HZ := hide hz
            clear hz hm hlt
            go_wp2_with (at_builtin; go_must (refine wpl_app rfl sl8 (.tmp 54) (.tmp 55) rfl (hown.alloc _) rfl rfl (news := [Value.int .u8 0]) (cells_new _ _ _) rfl (by simp [Value.oneCell']) (by omega) (by omega) (le_alloc hb.size) ?_); intro v6 w6 ho6 hg6 hat6; obtain ⟨A6, cap6, rfl, _, _⟩ := own_slice ho6; have hb6 := below_grown (hb.alloc hb.size _) (hown.alloc _) hg6 (Nat.le_refl _) (le_alloc hb.size); clear hg6 hat6)
            go_roundw
            case rel =>
              refine ⟨m + 1, HLT.out, ?_, hb6⟩
              rw [show ([Value.int .u8 0] : List Value) = u8s [0] from rfl, ← u8s_append, List.append_assoc, ← List.replicate_succ'] at ho6
              exact ho6
            case measure => have := HZ.out; simp only; omega
end Go.Proofs.Ytekioihjfggmdaa

/- append(b, make([]byte, n)...): noughts behind bytes of one's own. -/
namespace Go.Proofs.Ytekioihjfggmdaa
open Go.RowKit
set_option linter.unusedVariables false

def z8 (k : Nat) : List Value := List.replicate k (.int .u8 0)
theorem z8_u8s (k : Nat) : z8 k = u8s (List.replicate k 0) := by simp [z8, u8s]
theorem zeroCells_u8 (k : Nat) : Builtin.zeroCells (Value.int .u8 0).cells k = (z8 k).toArray := by
  apply Array.ext
  · simp [Builtin.zeroCells, z8, Value.cells]
  · intro i h1 h2
    simp [z8, Builtin.zeroCells, Value.cells, Nat.mod_one]
theorem run_app_zeros {w : World} {base g n cap : Nat} {xs : List Value} (hown : w.ownsRow base 5 1 (.slice (some ⟨g, 0, none⟩) n cap) n xs) (m : Nat) (hm : n + m ≤ 100000000) (hbase : base ≤ w.heap.size) (ty : TypeId) :
    ∃ v' w', (Builtin.append_ #[44, 3] ty #[.slice (some ⟨g, 0, none⟩) n cap, .int .i64 m]).run Try.prog w = .ok v' w' ∧ w'.ownsRow base 5 1 v' (n + m) (xs ++ z8 m) ∧ w.grownBy w' (some g) ∧ (v'.ownBlock = some g ∨ v'.ownBlock = some w.heap.size) := by
  obtain ⟨i, hi, hz, hsz, hby⟩ := info_parts sl8.info
  have ht := Try.underlying44
  have htn := Try.underlying3
  have hlen : (xs ++ z8 m).length = (n + m) * 1 := by rw [List.length_append, hown.1, z8, List.length_replicate]; omega
  have hw : IntKind.i64.wrap (m : Int) = m := IntWalk.i64_in _ (by omega)
  have hneg : ¬ ((m : Int) < 0) := by omega
  have h48 : ¬ (281474976710656 < (m : Int) * (i.bytes : Int)) := by rw [hby]; omega
  rcases hown.2 with ⟨hv, _⟩ | ⟨g', cap', cur, hv, hbg, hg, hnc, hcm, hcs, htake⟩
  · cases hv
  · injection hv with e1 e2 e3
    injection e1 with e1
    injection e1 with e1 _ _
    subst e1 e3
    by_cases hm0 : m = 0
    · subst hm0
      refine ⟨.slice (some ⟨g, 0, none⟩) n cap, w, ?_, by simpa [z8] using hown, ⟨rfl, rfl, rfl, Nat.le_refl _, fun _ _ _ => rfl⟩, .inl rfl⟩
      simp [Builtin.append_, run_underlying ht, run_underlying htn, sizeOf, typeInfo, hi, asInt, asIntOf, storeCells]
      simp at hw
      simp [hw]
      intro hh
      omega
    · by_cases hroom : n + m ≤ cap
      · have hst := run_storeCells_at Try.prog g (n * 1) 5 (z8 m) 0 cur w hg (by rw [hcs, z8, List.length_replicate]; omega) (by intro v hv; simp only [z8, List.mem_replicate] at hv; rw [hv.2]; rfl)
        simp only [Nat.add_zero] at hst
        have hr : (Builtin.append_ #[44, 3] ty #[.slice (some ⟨g, 0, none⟩) n cap, .int .i64 m]).run Try.prog w = .ok (.slice (some ⟨g, 0, none⟩) (n + m) cap) (w.setRow g (cur.toList.take (n * 1) ++ z8 m ++ cur.toList.drop (n * 1 + (z8 m).length)).toArray) := by
          simp [Builtin.append_, run_underlying ht, run_underlying htn, sizeOf, typeInfo, zeroValue, hi, hz, hsz, asInt, asIntOf, hw, hneg, h48, hm0, hroom, zeroCells_u8, Addr.add_lit]
          simp at hst
          rw [hst]
          rfl
        refine ⟨_, _, hr, ⟨hlen, .inr ⟨g, cap, _, rfl, hbg, setRow_heap w g cur _ 5 _ hg, hroom, hcm, ?_, ?_⟩⟩, ⟨rfl, rfl, rfl, by simp, fun k _ hk => setRow_other w g k _ (fun e => hk (by simp [e]))⟩, .inl rfl⟩
        · simp only [List.size_toArray, List.length_append, List.length_take, List.length_drop, Array.length_toList, z8, List.length_replicate]
          omega
        · rw [htake, ← hlen]
          exact List.take_left
      · have holds : ∀ j u, xs[j]? = some u → w.cell? ((⟨g, 0, none⟩ : Addr).add j) = some u := hown.cells (g := g) rfl
        have hf := run_firstCells_some (P := Try.prog) w.drew i.size n ⟨g, 0, none⟩ n cap xs (by rw [hsz]; exact hown.1) holds
        have hr := Lib.run_append_grow_zeros (P := Try.prog) (ty := ty) w _ _ _ i _ .i64 _ ht htn hi hz (some ⟨g, 0, none⟩) n cap xs hf m (by omega) (by omega) (by omega) (by omega) (by rw [hby]; omega) (growslice_fits (by omega) (by rw [hby]; omega))
        have hge := grownCap_ge w (n + m) cap 5
        have hcm2 : grownCap w (n + m) cap 5 ≤ maxLen := grownCap_le_maxLen w (n + m) cap 5 (by simp only [maxLen]; omega)
        rw [zeroCells_u8, zeroCells_u8] at hr
        refine ⟨_, _, hr, ⟨hlen, .inr ⟨w.heap.size, _, _, rfl, hbase, heap_alloc_new w.drew _, hge, hcm2, ?_, ?_⟩⟩, ⟨rfl, rfl, rfl, by simp, fun k hk _ => heap_alloc_old w.drew _ hk⟩, .inr rfl⟩
        · have := hown.1
          simp [z8]
          omega
        · rw [← hlen]
          simp only [List.append_toArray]
          exact List.take_left
theorem wpl_app_zeros {ops : Array Oper} {rest : List Oper} {o : Oper} {a : Act} {w : World} {Q : Exit → Act → World → Prop} (hgd : o.guard = none)
    (s x : Operand) (ho : o.op = .call { callee := .builtin .append, args := #[s, x], argTypes := #[44, 3] })
    {base g n cap : Nat} {xs : List Value} (hown : w.ownsRow base 5 1 (.slice (some ⟨g, 0, none⟩) n cap) n xs) (hs : a.eval s = .slice (some ⟨g, 0, none⟩) n cap) {m : Nat} (hx : a.eval x = .int .i64 m)
    (hm : n + m ≤ 100000000) (hbase : base ≤ w.heap.size)
    (h : ∀ v' w', w'.ownsRow base 5 1 v' (n + m) (xs ++ z8 m) → w.grownBy w' (some g) → (v'.ownBlock = some g ∨ v'.ownBlock = some w.heap.size) → wpList Try.prog ops Q rest (a.put o.dst v') w') : wpList Try.prog ops Q (o :: rest) a w := by
  refine wpList_plain hgd fun K hK => ?_
  obtain ⟨v', w', hr, h2, h3, h4⟩ := run_app_zeros hown m hm hbase o.type
  unfold Oper.wp execOp
  simp only [ho, resolve, invoke, builtin, Sem.run_bind, Sem.run_pure, Result.andThen_ok, List.map_toArray, List.map_cons, List.map_nil, hs, hx]
  have hr' : Sem.run Try.prog (Builtin.append_ #[44, 3] o.type #[.slice (some ⟨g, 0, none⟩) n cap, .int .i64 m]) w = .ok v' w' := hr
  rw [hr']
  exact hK _ _ (h v' w' h2 h3 h4)
end Go.Proofs.Ytekioihjfggmdaa

/- vp8 descriptors, in plain Lean. -/
namespace Go.Proofs.Ytekioihjfggmdaa
open Go.RowKit
set_option linter.unusedVariables false

structure Dsc where
  more : Bool
  lone : Bool
  start : Bool
  part : Nat
  hasPic : Bool
  wide : Bool
  pic : Nat
  hasTl0 : Bool
  tl0 : Nat
  hasTid : Bool
  tid : Nat
  sync : Bool
  hasKey : Bool
  key : Nat
  deriving DecidableEq
/-- as the program has it -/
def Dsc.val (d : Dsc) : Value := .agg #[.bool d.more, .bool d.lone, .bool d.start, .int .u8 d.part, .bool d.hasPic, .bool d.wide, .int .u16 d.pic, .bool d.hasTl0, .int .u8 d.tl0, .bool d.hasTid, .int .u8 d.tid, .bool d.sync, .bool d.hasKey, .int .u8 d.key]
/-- as the reference has it -/
def Dsc.ref (d : Dsc) : Value := .agg #[.bool d.more, .bool d.lone, .bool d.start, .int .i64 d.part, .bool d.hasPic, .bool d.wide, .int .i64 d.pic, .bool d.hasTl0, .int .i64 d.tl0, .bool d.hasTid, .int .i64 d.tid, .bool d.sync, .bool d.hasKey, .int .i64 d.key]
/-- its numbers are as wide as their types -/
structure Dsc.Ok (d : Dsc) : Prop where
  part : d.part < 256
  pic : d.pic < 65536
  tl0 : d.tl0 < 256
  tid : d.tid < 256
  key : d.key < 256
def Dsc.zero : Dsc := ⟨false, false, false, 0, false, false, 0, false, 0, false, 0, false, false, 0⟩
def Dsc.begins (d : Dsc) : Bool := d.start && decide (d.part = 0)
def Dsc.clean (d : Dsc) : Dsc :=
  if d.more = false then { Dsc.zero with lone := d.lone, start := d.start, part := d.part }
  else
    let d := if d.hasPic then d else { d with wide := false, pic := 0 }
    let d := if d.hasTl0 then d else { d with tl0 := 0 }
    let d := if d.hasTid then d else { d with tid := 0, sync := false }
    if d.hasKey then d else { d with key := 0 }
def Dsc.right (d : Dsc) : Bool :=
  decide (d = d.clean) && (decide (d.part ≤ 7) && (decide (d.pic ≤ if d.wide then 32767 else 127) && (decide (d.tid ≤ 3) && decide (d.key ≤ 31))))
/-- bytes in a row of their own, and an error -/
def PutV (w : World) (l : List UInt8) (err : Int) (e : Ending) (w' : World) : Prop :=
  ∃ v, e = .returned (.tuple #[v, .int .i64 err]) ∧ w'.ownsRow w.heap.size 5 1 v l.length (u8s l) ∧ Below w.heap.size w w'
def bitN (b : Bool) (x : Nat) : Nat := if b then x else 0

set_option maxHeartbeats 1000000 in
theorem begins_any (d : Dsc) (h : d.part < 256) (w : World) : Calls Try.prog 47 #[d.val] w (Gives w (.bool d.begins)) := by
  obtain ⟨more, lone, start, part, hasPic, wide, pic, hasTl0, tl0, hasTid, tid, sync, hasKey, key⟩ := d
  simp only [Dsc.val, Dsc.begins] at *
  have hl := (Le.refl w).alloc
  go_enter Try.func47, Try.ntmps47
  cases start
  · go_wp2_with fail
    go_ret
    exact ⟨rfl, (hl _).out⟩
  · by_cases hp : part = 0
    · subst hp
      go_wp2_with fail
      go_ret
      exact ⟨rfl, (hl _).out⟩
    · have hpI : ((part : Int) == 0) = false := by rw [beq_eq_false_iff_ne]; omega
      have hd : (decide (part = 0)) = false := by simpa using hp
      rw [hd]
      go_wp2_with fail
      go_ret
      exact ⟨rfl, (hl _).out⟩
end Go.Proofs.Ytekioihjfggmdaa
