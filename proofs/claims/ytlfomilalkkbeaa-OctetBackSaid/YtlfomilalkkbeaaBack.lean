/- OctetBack: the law's walk. -/
import Derived.Test.YtlfomilalkkbeaaLaw1
import Derived.Test.YtlfomilalkkbeaaHeld
namespace Go.Proofs.Ytlfomilalkkbeaa
open Go.RowKit
set_option linter.unusedVariables false

set_option maxRecDepth 100000 in
set_option maxHeartbeats 2000000 in
theorem octetBack_walk (w : World) (l : List (Nat × Int)) (A : Option Addr) (n cap : Nat) (hr : RSl 2 RPart w l (.slice A n cap)) (at' : Nat) (hat : at' < 65536) :
    Calls Try.prog 6 #[.slice A n cap, .int .u16 at'] w (Gives w (.bool true)) := by
  have hr0 := hide hr
  obtain ⟨A', cap', hv, hcap, hi⟩ := hr
  injection hv with e1 e2 e3
  subst e1 e2 e3
  have HI := hide hi; clear hi
  by_cases hbig : 60 < l.length
  · go_enter Try.func6, Try.ntmps6
    go_wp2_with (go_at_call 15; refine (awake1 _).mono ?_; rintro e w' ⟨rfl, hb⟩)
    go_ret
    exact ⟨rfl, hb⟩
  go_enter Try.func6, Try.ntmps6
  go_wp2_with (go_at_call 15; refine (awake1 _).mono ?_; rintro e w1 ⟨rfl, hb1⟩)
  go_loopw [6, 7] (fun nv j wr => ∃ k : Nat, k ≤ l.length ∧ j = .int .i64 k ∧ nv = .int .i64 (puts (l.take k)).length ∧ (∀ p ∈ l.take k, okPart p) ∧ Below w.heap.size w wr) (fun _ j _ => l.length - (intOf j).toNat)
  case atStart => exact ⟨0, Nat.zero_le _, rfl, rfl, by simp, hb1⟩
  case round =>
    obtain ⟨k, hk, rfl, rfl, hok, hb⟩ := hrel
    by_cases hlt : k < l.length
    · obtain ⟨b, off, rfl, hi⟩ := HI.out (by rintro rfl; simp at hlt)
      obtain ⟨cs, _, hcc, hR, hx⟩ := hi k hlt
      subst hR
      have c0 := cell_later hb (show w.cell? ⟨b, off + k * 2, none⟩ = some (.int .u64 l[k].1) from hcc 0 (by omega))
      have c1 := cell_later hb (show w.cell? ⟨b, off + k * 2 + 1, none⟩ = some (.int .i64 l[k].2) from hcc 1 (by omega))
      have HT := hide (puts_take l k hlt)
      have HT2 := hide (show l.take (k + 1) = l.take k ++ [l[k]] from List.take_succ_eq_append_getElem hlt)
      have hll := puts_length (l.take k)
      have htk : (l.take k).length ≤ k := List.length_take_le _ _
      have HO := hide hok
      generalize puts (l.take k) = s at *
      generalize l[k] = q at *
      obtain ⟨x, z⟩ := q
      simp only at c0 c1 hx
      have HX := hide hx
      clear hcc hi hx hok
      by_cases hz1 : z < 1
      · go_wp2_with fail
        go_quiet (fail)
        go_wp2
        go_ret
        exact ⟨rfl, below_drewN hb _⟩
      have hd1 : decide (z < 1) = false := by simp; omega
      have hz1' : 1 ≤ z := by omega
      clear hz1
      by_cases hz8 : 8 < z
      · go_wp2_with fail
        go_quiet (fail)
        go_wp2
        go_ret
        exact ⟨rfl, below_drewN hb _⟩
      have hd8 : decide (8 < z) = false := by simp; omega
      have hz8' : z ≤ 8 := by omega
      clear hz8
      have HF := hide (fun (h : okPart (x, z)) (W : World) (hW : Below w.heap.size w W) => (show ∃ k' : Nat, k' ≤ l.length ∧ Value.int .i64 ((k : Int) + 1) = .int .i64 k' ∧ Value.int .i64 ((s.length : Int) + z) = .int .i64 (puts (l.take k')).length ∧ (∀ p ∈ l.take k', okPart p) ∧ Below w.heap.size w W from by
        refine ⟨k + 1, by omega, by go_num, ?_, ?_, hW⟩
        · rw [HT.out, List.length_append, show ((s.length + (putOne (x, z)).length : Nat) : Int) = s.length + z by have := ok_length _ h; simp only at this; omega]
        · rw [HT2.out]
          intro p hp
          rcases List.mem_append.1 hp with hp | hp
          · exact HO.out p hp
          · obtain rfl := List.mem_singleton.1 hp
            exact h))
      by_cases he8 : z = 8
      · subst he8
        have HK := hide (show okPart (x, 8) from ⟨by simp, by simp, by show x / 2 ^ (8 * 8) = 0; rw [show (2 : Nat) ^ (8 * 8) = 18446744073709551616 by decide]; exact Nat.div_eq_of_lt (by have := HX.out; omega)⟩)
        go_wp2_with fail
        go_quiet (fail)
        go_wp2
        go_roundw
        case rel => exact HF.out HK.out _ (below_drewN hb _)
        case measure => simp [intOf]; omega
      obtain ⟨m, rfl⟩ := Int.eq_ofNat_of_zero_le (show 0 ≤ z by omega)
      have hlt8 : (m : Int) < 8 := by omega
      clear he8
      have hcast : ((2 : Int) ^ (8 * m)) = ((2 ^ (8 * m) : Nat) : Int) := by rw [Int.natCast_pow]; rfl
      by_cases hbad : x / 2 ^ (8 * m) = 0
      · have hz : ((x : Int) / 2 ^ (8 * m)) = 0 := by rw [hcast, ← Int.natCast_ediv, hbad]; rfl
        have HK := hide (show okPart (x, (m : Int)) from ⟨hz1', hz8', by simpa using hbad⟩)
        clear hcast hbad
        go_wp2_with fail
        go_quiet (fail)
        go_wp2
        go_roundw
        case rel => exact HF.out HK.out _ (below_drewN hb _)
        case measure => simp [intOf]; omega
      · have hz : 0 < ((x : Int) / 2 ^ (8 * m)) := by rw [hcast, ← Int.natCast_ediv]; exact Int.ofNat_lt.2 (Nat.pos_of_ne_zero hbad)
        clear hcast hbad
        go_wp2_with fail
        go_quiet (fail)
        go_wp2
        go_ret
        exact ⟨rfl, below_drewN hb _⟩
    · have hke : k = l.length := by omega
      have HK := hide (show l.take k = l by rw [hke]; exact List.take_length); clear hke
      rw [HK.out] at hok ⊢
      have HO := hide hok
      have hll := puts_length l
      have HW := hide (hr0.out.below keeps_part hb (Nat.le_refl _))
      clear hok HK
      go_wp2_with fail
      refine (put_any _ _ _ l _ HW.out (by omega)).mono ?_
      rintro r w4 ⟨v4, rfl, hown4, hb4⟩
      obtain ⟨A4, cap4, rfl, hcap4, _⟩ := own_slice hown4
      have hr4 := rsl_of_own hown4
      have hb5 := hb.trans (hb4.mono hb.size)
      have b1 : (((puts l).length : Int) != ((puts l).length : Int)) = false := by simp
      clear hown4 hb4 HW
      go_wp2_with fail
      refine (new_any _ _ _ _ _ hr4 (by omega)).mono ?_
      rintro r w5 ⟨p, rfl, hc5, hb6⟩
      have hr5 := hr4.below keeps_u8 hb6 (Nat.le_refl _)
      have hb7 := hb5.trans (hb6.mono hb5.size)
      have hc5' := hc5.base hb5.size
      clear hr4 hb6 hc5 hb5
      generalize hL : puts l = L at hc5' hr5 hcap4 hll b1 ⊢
      have HL := hide hL; clear hL
      by_cases hn0 : L.length = 0
      · have hn0' : ¬ (0 : Int) < (L.length : Int) := by omega
        have hr6 := rsl_take (k := 0) hr5 (Nat.zero_le _)
        have Hn := hide hn0; clear hn0
        go_wp2_with fail
        refine (new_any _ _ _ _ _ hr6 (by simp)).mono ?_
        rintro r w6 ⟨p2, rfl, hc6, hb6⟩
        have hpp := Nat.ne_of_lt (Nat.lt_of_lt_of_le hc5'.lt hc6.1)
        have hc5b := hc5'.keep hb6 (Nat.le_refl _)
        have hc6b := hc6.base hb7.size
        have hb8 := hb7.trans (hb6.mono hb7.size)
        clear hb6 hc6 hr6 hr5 hc5' hb7
        rw [← HL.out] at hc5b
        go_wp2_with fail
        go_loopw [12] (fun j wr => ∃ (i : Nat) (ld : List UInt8) (ed : Int), i ≤ l.length ∧ j = .int .i64 i ∧ ld.length ≤ 480 ∧ CutAt wr w.heap.size p (puts (l.drop i)) 0 ∧ CutAt wr w.heap.size p2 ld ed ∧ ((ed = 0 ∧ ld.length + (puts (l.take i)).length = 0) ∨ ed = 10) ∧ Below w.heap.size w wr) (fun j _ => l.length - (intOf j).toNat)
        case atStart => exact ⟨0, _, 0, Nat.zero_le _, rfl, by first | (simp; done) | (simp; omega), by simpa using hc5b, hc6b, .inl ⟨rfl, by simp [puts]; try omega⟩, hb8⟩
        case round =>
          clear hc5b hc6b hb8
          obtain ⟨i, ld, ed, hi, rfl, hld, hcp, hcd, hed, hb⟩ := hrel
          have HE := hide hed; clear hed
          have hdl := puts_length (l.drop i)
          have hdl2 : (l.drop i).length ≤ l.length := by simp
          by_cases hlt : i < l.length
          · obtain ⟨b, off, rfl, hii⟩ := HI.out (by rintro rfl; simp at hlt)
            obtain ⟨cs, _, hcc, hR, hx⟩ := hii i hlt
            subst hR
            have c0 : w.cell? ⟨b, off + i * 2, none⟩ = some (.int .u64 l[i].1) := hcc 0 (by omega)
            have c1 : w.cell? ⟨b, off + i * 2 + 1, none⟩ = some (.int .i64 l[i].2) := hcc 1 (by omega)
            have hok := HO.out l[i] (List.getElem_mem hlt)
            have HD : Hid (puts (l.drop i) = putOne l[i] ++ puts (l.drop (i + 1))) := hide (by rw [List.drop_eq_getElem_cons hlt, puts_cons])
            have HT := hide (puts_take l i hlt)
            generalize l[i] = q at *
            rw [HD.out] at hcp hdl
            have HN := hide (fun (W : World) (h : CutAt W w.heap.size p (putOne q ++ puts (l.drop (i + 1))) 0) => (num_any W _ p _ 0 q.2 h (by omega)))
            rw [ok_cut q hok] at HN
            have hsh := ok_short q hok ld
            have hvl := ok_val q hok
            have HSH := hide hsh; have HV := hide hvl
            have hcl := cut_left ld ed q.2 (mayB q.2)
            obtain ⟨x, z⟩ := q
            simp only at c0 c1
            have hxx : (((x : Nat) : Int) != (x : Int)) = false := by simp
            have d0 := cell_later hb c0
            have d1 := cell_later hb c1
            clear hcc hii hok hsh hvl hx
            go_upto_region 24 with fail
            go_region_held3 (fun w' => Below w.heap.size w w' ∧ w'.cell? ⟨b, off + i * 2, none⟩ = some (.int .u64 x) ∧ w'.cell? ⟨b, off + i * 2 + 1, none⟩ = some (.int .i64 z))
              ((refine held2 ?_ c0 c1; first | exact hb.drew | exact below_row hb.drew hg8 hcp.1 hb.size))
              (first | (go_at_call 22; refine (HN.out wr.drew hcp).mono ?_; rintro r w8 ⟨hr8, hc8, hg8⟩; obtain rfl : r = .returned (.int .u64 x) := by rw [hr8]; simp only; rw [HV.out]))
            have hd8 := CutAt.other (w := wr.drew) hcd hcp hpp.symm hg8
            have hb8 := below_row hb.drew hg8 hcp.1 hb.size
            have e1 := cell_later hb8 c1
            clear d0 d1 c0 c1 hcp hcd hb hg8 HN
            go_wp2_with fail
            refine (num_any _ _ _ _ _ _ hd8 (by omega)).mono ?_
            rintro r w9 ⟨rfl, hc9, hg9⟩
            have hc10 := hc8.other hd8 hpp hg9
            have hb10 := below_row hb8 hg9 hd8.1 hb8.size
            clear e1 hc8 hd8 hg9 hb8
            go_wp2_with fail
            go_roundw
            case rel =>
              refine ⟨i + 1, _, _, by omega, by go_num, by omega, hc10, hc9, ?_, hb10⟩
              rw [HT.out, List.length_append]
              rcases HE.out with ⟨h1, h2⟩ | h1
              · subst h1
                rcases HSH.out with ⟨h3, h4⟩ | h3
                · exact .inl ⟨h3, by omega⟩
                · exact .inr h3
              · exact .inr (by rw [cut_bad _ _ _ _ (by omega)]; exact h1)
            case measure => simp [intOf]; omega
          · have hie : i = l.length := by omega
            have HK := hide (show l.drop i = [] by rw [hie]; simp)
            have HK2 := hide (show l.take i = l by rw [hie]; exact List.take_length)
            rw [HK.out] at hcp
            rw [HK2.out, HL.out] at HE
            clear hie
            have hcp0 : CutAt wr w.heap.size p [] 0 := hcp
            clear hcp
            have hz0 : ((L.length : Int) == 0) = true := by rw [beq_iff_eq]; omega
            go_wp2_with (first | (go_at_call 23; refine hcp0.left.mono ?_; rintro e w' ⟨rfl, rfl⟩) | (go_at_call 24; first | (refine hcp0.err.mono ?_; rintro e w' ⟨rfl, rfl⟩)))
            go_ret
            exact ⟨rfl, hb⟩
      · obtain ⟨kk, hkk, hk1⟩ : ∃ kk : Nat, (at' : Int) % (L.length : Int) = kk ∧ kk < L.length := ⟨at' % L.length, by rw [Int.natCast_emod], Nat.mod_lt _ (by omega)⟩
        have hn0' : (0 : Int) < (L.length : Int) := by omega
        have hr6 := rsl_take (k := kk) hr5 (by omega)
        have hne : ((L.length : Int) == 0) = false := by rw [beq_eq_false_iff_ne]; omega
        clear hn0
        go_wp2_with fail
        refine (new_any _ _ _ _ _ hr6 (by simp; omega)).mono ?_
        rintro r w6 ⟨p2, rfl, hc6, hb6⟩
        have hpp := Nat.ne_of_lt (Nat.lt_of_lt_of_le hc5'.lt hc6.1)
        have hc5b := hc5'.keep hb6 (Nat.le_refl _)
        have hc6b := hc6.base hb7.size
        have hb8 := hb7.trans (hb6.mono hb7.size)
        clear hb6 hc6 hr6 hr5 hc5' hb7
        rw [← HL.out] at hc5b
        go_wp2_with fail
        go_loopw [12] (fun j wr => ∃ (i : Nat) (ld : List UInt8) (ed : Int), i ≤ l.length ∧ j = .int .i64 i ∧ ld.length ≤ 480 ∧ CutAt wr w.heap.size p (puts (l.drop i)) 0 ∧ CutAt wr w.heap.size p2 ld ed ∧ ((ed = 0 ∧ ld.length + (puts (l.take i)).length = kk) ∨ ed = 10) ∧ Below w.heap.size w wr) (fun j _ => l.length - (intOf j).toNat)
        case atStart => exact ⟨0, _, 0, Nat.zero_le _, rfl, by first | (simp; done) | (simp; omega), by simpa using hc5b, hc6b, .inl ⟨rfl, by simp [puts]; try omega⟩, hb8⟩
        case round =>
          clear hc5b hc6b hb8
          obtain ⟨i, ld, ed, hi, rfl, hld, hcp, hcd, hed, hb⟩ := hrel
          have HE := hide hed; clear hed
          have hdl := puts_length (l.drop i)
          have hdl2 : (l.drop i).length ≤ l.length := by simp
          by_cases hlt : i < l.length
          · obtain ⟨b, off, rfl, hii⟩ := HI.out (by rintro rfl; simp at hlt)
            obtain ⟨cs, _, hcc, hR, hx⟩ := hii i hlt
            subst hR
            have c0 : w.cell? ⟨b, off + i * 2, none⟩ = some (.int .u64 l[i].1) := hcc 0 (by omega)
            have c1 : w.cell? ⟨b, off + i * 2 + 1, none⟩ = some (.int .i64 l[i].2) := hcc 1 (by omega)
            have hok := HO.out l[i] (List.getElem_mem hlt)
            have HD : Hid (puts (l.drop i) = putOne l[i] ++ puts (l.drop (i + 1))) := hide (by rw [List.drop_eq_getElem_cons hlt, puts_cons])
            have HT := hide (puts_take l i hlt)
            generalize l[i] = q at *
            rw [HD.out] at hcp hdl
            have HN := hide (fun (W : World) (h : CutAt W w.heap.size p (putOne q ++ puts (l.drop (i + 1))) 0) => (num_any W _ p _ 0 q.2 h (by omega)))
            rw [ok_cut q hok] at HN
            have hsh := ok_short q hok ld
            have hvl := ok_val q hok
            have HSH := hide hsh; have HV := hide hvl
            have hcl := cut_left ld ed q.2 (mayB q.2)
            obtain ⟨x, z⟩ := q
            simp only at c0 c1
            have hxx : (((x : Nat) : Int) != (x : Int)) = false := by simp
            have d0 := cell_later hb c0
            have d1 := cell_later hb c1
            clear hcc hii hok hsh hvl hx
            go_upto_region 24 with fail
            go_region_held3 (fun w' => Below w.heap.size w w' ∧ w'.cell? ⟨b, off + i * 2, none⟩ = some (.int .u64 x) ∧ w'.cell? ⟨b, off + i * 2 + 1, none⟩ = some (.int .i64 z))
              ((refine held2 ?_ c0 c1; first | exact hb.drew | exact below_row hb.drew hg8 hcp.1 hb.size))
              (first | (go_at_call 22; refine (HN.out wr.drew hcp).mono ?_; rintro r w8 ⟨hr8, hc8, hg8⟩; obtain rfl : r = .returned (.int .u64 x) := by rw [hr8]; simp only; rw [HV.out]))
            have hd8 := CutAt.other (w := wr.drew) hcd hcp hpp.symm hg8
            have hb8 := below_row hb.drew hg8 hcp.1 hb.size
            have e1 := cell_later hb8 c1
            clear d0 d1 c0 c1 hcp hcd hb hg8 HN
            go_wp2_with fail
            refine (num_any _ _ _ _ _ _ hd8 (by omega)).mono ?_
            rintro r w9 ⟨rfl, hc9, hg9⟩
            have hc10 := hc8.other hd8 hpp hg9
            have hb10 := below_row hb8 hg9 hd8.1 hb8.size
            clear e1 hc8 hd8 hg9 hb8
            go_wp2_with fail
            go_roundw
            case rel =>
              refine ⟨i + 1, _, _, by omega, by go_num, by omega, hc10, hc9, ?_, hb10⟩
              rw [HT.out, List.length_append]
              rcases HE.out with ⟨h1, h2⟩ | h1
              · subst h1
                rcases HSH.out with ⟨h3, h4⟩ | h3
                · exact .inl ⟨h3, by omega⟩
                · exact .inr h3
              · exact .inr (by rw [cut_bad _ _ _ _ (by omega)]; exact h1)
            case measure => simp [intOf]; omega
          · have hie : i = l.length := by omega
            have HK := hide (show l.drop i = [] by rw [hie]; simp)
            have HK2 := hide (show l.take i = l by rw [hie]; exact List.take_length)
            rw [HK.out] at hcp
            rw [HK2.out, HL.out] at HE
            clear hie
            have hcp0 : CutAt wr w.heap.size p [] 0 := hcp
            clear hcp
            obtain rfl : ed = 10 := by
              rcases HE.out with ⟨h1, h2⟩ | h1
              · omega
              · exact h1
            go_wp2_with fail
            refine hcp0.left.mono ?_; rintro e w' ⟨rfl, rfl⟩
            go_wp2_with fail
            refine hcp0.err.mono ?_; rintro e w' ⟨rfl, rfl⟩
            go_wp2_with fail
            refine hcd.err.mono ?_; rintro e w' ⟨rfl, rfl⟩
            go_wp2_with fail
            go_ret
            exact ⟨rfl, hb⟩
end Go.Proofs.Ytlfomilalkkbeaa
