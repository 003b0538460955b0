/- OctetPuts: the law's walk. -/
import Derived.Test.YtlfomilalkkbeaaLaw1
import Derived.Deep.RegionHeld3
namespace Go.Proofs.Ytlfomilalkkbeaa
open Go.RowKit
set_option linter.unusedVariables false

set_option maxRecDepth 100000 in
set_option maxHeartbeats 4000000 in
theorem octetPuts_walk (w : World) (l : List (Nat × Int)) (A : Option Addr) (n cap : Nat) (hr : RSl 2 RPart w l (.slice A n cap)) :
    Calls Try.prog 3 #[.slice A n cap] w (Gives w (.bool true)) := by
  have hr0 := hide hr
  obtain ⟨A', cap', hv, hcap, hi⟩ := hr
  injection hv with e1 e2 e3
  subst e1 e2 e3
  have HI := hide hi; clear hi
  by_cases hbig : 100 < l.length
  · go_enter Try.func3, Try.ntmps3
    go_wp2_with (go_at_call 15; refine (awake1 _).mono ?_; rintro e w' ⟨rfl, hb⟩)
    go_ret
    exact ⟨rfl, hb⟩
  · go_enter Try.func3, Try.ntmps3
    go_wp2_with (go_at_call 15; refine (awake1 _).mono ?_; rintro e w1 ⟨rfl, hb1⟩)
    go_loopw [4, 5, 6] (fun s v j wr => ∃ k : Nat, k ≤ l.length ∧ j = .int .i64 k ∧ s = .string (str (puts (l.take k))) ∧ wr.ownsRow w.heap.size 5 1 v (puts (l.take k)).length (u8s (puts (l.take k))) ∧ Below w.heap.size w wr) (fun _ _ j _ => l.length - (intOf j).toNat)
    case atStart => exact ⟨0, Nat.zero_le _, rfl, rfl, by simpa [puts, u8s] using World.ownsRow_nil _ _ _ 1, hb1⟩
    case round =>
      obtain ⟨k, hk, rfl, rfl, hown, hb⟩ := hrel
      by_cases hlt : k < l.length
      · obtain ⟨b, off, rfl, hi⟩ := HI.out (by rintro rfl; simp at hlt)
        obtain ⟨cs, _, hc, hR, hx⟩ := hi k hlt
        subst hR
        have c0 := cell_later hb (show w.cell? ⟨b, off + k * 2, none⟩ = some (.int .u64 l[k].1) from hc 0 (by omega))
        have c1 := cell_later hb (show w.cell? ⟨b, off + k * 2 + 1, none⟩ = some (.int .i64 l[k].2) from hc 1 (by omega))
        have HT := hide (puts_take l k hlt)
        have hll := puts_length (l.take k)
        have htk : (l.take k).length ≤ k := List.length_take_le _ _
        have hp1 := putOne_length l[k]
        generalize puts (l.take k) = s at *
        generalize l[k] = p at *
        obtain ⟨x, z⟩ := p
        simp only at c0 c1 hx
        have HX := hide hx
        clear hc hi hx
        have HN := hide (fun w => rnum_any x z w HX.out)
        obtain ⟨q, hq⟩ : ∃ q, putOne (x, z) = q := ⟨_, rfl⟩
        rw [hq] at HT HN hp1
        have HQ := hide hq; clear hq
        have hsum : s.length + q.length ≤ 9223372036854775807 := by omega
        have hsum2 : ¬ 9223372036854775807 < s.length + q.length := by omega
        go_wp2_with fail
        go_region_held3 (fun w' => w'.cell? ⟨b, off + k * 2, none⟩ = some (.int .u64 x) ∧ w'.cell? ⟨b, off + k * 2 + 1, none⟩ = some (.int .i64 z)) (first | exact ⟨c0, c1⟩ | exact ⟨cell_later hb3 c0, cell_later hb3 c1⟩)
          (first | (go_at_call 16; refine (HN.out _).mono ?_; rintro e w3 ⟨rfl, hb3⟩))
        have d0 := cell_later hb3 (show wr.drew.cell? ⟨b, off + k * 2, none⟩ = _ from c0)
        have d1 := cell_later hb3 (show wr.drew.cell? ⟨b, off + k * 2 + 1, none⟩ = _ from c1)
        have hb3' : Below w.heap.size w w3 := hb.drew.trans (hb3.mono hb.size)
        have hown3 := own_below hown.drew hb3 (Nat.le_refl _)
        clear c0 c1
        have hN := hide (rsl_parts (w := w3.alloc (.cells (List.flatMap encPart [(x, z)]).toArray 28)) (l := [(x, z)]) (A := some ⟨w3.heap.size, 0, none⟩) (n := 1) (cap := 1) rfl (by simp) (by simpa using HX.out) (cells_new _ _ _))
        clear hown hb3
        go_wp2_with fail
        refine (put_any _ _ _ [(x, z)] _ hN.out (by simp)).mono ?_
        rintro r w4 ⟨v4, rfl, hown4, hb4⟩
        rw [show puts [(x, z)] = q by rw [puts_cons, HQ.out]; simp [puts]] at hown4
        obtain ⟨A4, cap4, rfl, hcap4, hc4⟩ := own_slice hown4
        have hown5 := own_below (hown3.alloc (.cells (List.flatMap encPart [(x, z)]).toArray 28)) hb4 (Nat.le_refl _)
        have hb5 : Below w.heap.size w w4 := (hb3'.alloc hb3'.size _).trans (hb4.mono (le_alloc hb3'.size))
        clear hown4 hown3 hb4 hb3'
        go_wp2_with (first | (at_builtin; go_must (refine wpl_app rfl sl8 (.tmp 32) (.tmp 38) rfl hown5 rfl rfl hc4 (by simp [u8s]) u8s_one (by omega) (by omega) hb5.size ?_); intro v' w' hown2 hg2 hat2))
        go_roundw
        case rel =>
          refine ⟨k + 1, by omega, by go_num, by rw [HT.out], ?_, below_grown hb5 hown5 hg2 (Nat.le_refl _) hb5.size⟩
          rw [HT.out, u8s_append, List.length_append]
          exact hown2
        case measure => simp [intOf]; omega
      · have hke : k = l.length := by omega
        have HK := hide (show l.take k = l by rw [hke]; exact List.take_length); clear hke
        rw [HK.out] at hown ⊢
        have HW := hide (hr0.out.below keeps_part hb (Nat.le_refl _))
        obtain ⟨A5, cap5, rfl, hcap5, _⟩ := own_slice hown
        have hr5 := rsl_of_own hown
        clear hown
        go_wp2_with fail
        refine (put_any _ _ _ l _ HW.out (by omega)).mono ?_
        rintro r w4 ⟨v4, rfl, hown4, hb4⟩
        obtain ⟨A4, cap4, rfl, hcap4, _⟩ := own_slice hown4
        have hv4 := conv_str (P := Try.prog) w4 24 9 5 A4 _ cap4 _ Try.underlying24 Try.underlying5 Try.underlying9 (rsl_of_own hown4)
        have hv5 := conv_str (P := Try.prog) w4 24 9 5 A5 _ cap5 _ Try.underlying24 Try.underlying5 Try.underlying9 (hr5.below keeps_u8 hb4 (Nat.le_refl _))
        clear hown4 hr5
        go_wp2
        go_ret
        exact ⟨rfl, hb.trans (hb4.mono hb.size)⟩
end Go.Proofs.Ytlfomilalkkbeaa
