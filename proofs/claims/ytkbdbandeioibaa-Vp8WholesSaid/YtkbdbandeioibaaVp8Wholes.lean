/- Vp8Wholes: the law's walk. -/
import Derived.Test.YtkbdbandeioibaaVp8Back
namespace Go.Proofs.Ytkbdbandeioibaa
open Go.RowKit
set_option linter.unusedVariables false

theorem vpW_more (d : Dsc) (B : List UInt8) (m : UInt8) (t : List UInt8) (pp tp : Int) (h : vpParse (B ++ m :: t) = ⟨d, pp, tp, (m :: t, 0)⟩) : vpW (B ++ m :: t) = (d.begins && decide (m.toNat % 2 = 0)) ∧ vpD (B ++ m :: t) = d := by
  have hE : vpE (B ++ m :: t) = 0 := by rw [vpE, h]
  have hD : vpD (B ++ m :: t) = d := by rw [vpD, hE, h]; rfl
  have hN : vpN (B ++ m :: t) = (B.length : Int) := by
    rw [vpN, hE, h]
    simp
  refine ⟨?_, hD⟩
  have hlt : (B.length : Int) < (B.length : Int) + ((t.length : Int) + 1) := by omega
  rw [vpW, hE, hD, hN]
  simp [hlt]
theorem vpW_none (d : Dsc) (B : List UInt8) (pp tp : Int) (h : vpParse B = ⟨d, pp, tp, ([], 0)⟩) : vpW B = false ∧ vpD B = d := by
  have hE : vpE B = 0 := by rw [vpE, h]
  have hD : vpD B = d := by rw [vpD, hE, h]; rfl
  have hN : vpN B = (B.length : Int) := by
    rw [vpN, hE, h]
    simp
  refine ⟨?_, hD⟩
  rw [vpW, hE, hD, hN]
  simp

set_option maxRecDepth 100000 in
set_option maxHeartbeats 4000000 in
theorem vp8Wholes_walk (w : World) (d : Dsc) (hd : d.Ok) (l : List UInt8) (A : Option Addr) (n cap : Nat) (hr : RSl 1 RU8 w l (.slice A n cap)) (x : Nat) (hx : x < 256) :
    Calls Try.prog 15 #[d.val, .slice A n cap, .int .u8 x] w (Gives w (.bool true)) := by
  have HR := hide hr
  obtain ⟨A', cap', hv, hcap, hi⟩ := hr
  injection hv with e1 e2 e3
  subst e1 e2 e3
  have HI := hide hi
  clear hi
  have hput := fun w => put_any8 d w hd
  have hgood : d.right = true → vpB d = puts d.ps4 ∧ vpF d = 0 ∧ 0 < (puts d.ps4).length ∧ (puts d.ps4).length ≤ 40 := by
    intro h
    refine ⟨by rw [vpB, h]; rfl, by rw [vpF, h]; rfl, ?_, ?_⟩
    · rw [ps4_len d h]; unfold szN; repeat' split
      all_goals simp only
      all_goals repeat' split
      all_goals omega
    · rw [ps4_len d h]; unfold szN; repeat' split
      all_goals simp only
      all_goals repeat' split
      all_goals omega
  have hbad : d.right = false → vpB d = [] ∧ vpF d = 1 := by
    intro h
    exact ⟨by rw [vpB, h]; rfl, by rw [vpF, h]; rfl⟩
  have hpp := put_parse d
  have HD := hide hd
  have HPP := hide (fun h => hpp h hd)
  have HGB := hide (And.intro hgood hbad)
  have HPUT := hide hput
  clear hput hgood hbad hpp
  have hcs : d.right = true ∨ d.right = false := by cases d.right <;> simp
  generalize hL : puts d.ps4 = L at *
  clear hL
  have HDV := hide (rfl : d = d)
  obtain ⟨R, hR⟩ : ∃ R, R = d.right := ⟨_, rfl⟩
  rw [← hR] at hcs HPP HGB
  clear hR
  generalize vpB d = B at *
  generalize vpF d = E at *
  have hwm := vpW_more d
  have hwn := vpW_none d
  have hpt := hd.part
  have hbge : d.begins = (d.start && decide (d.part = 0)) := rfl
  have hdp : ∀ b, vpD b = d → (vpD b).part < 256 := fun b h => by rw [h]; exact hpt
  obtain ⟨more, lone, start, part, hasPic, wide, pic, hasTl0, tl0, hasTid, tid, sync, hasKey, key⟩ := d
  rw [Dsc.val] at HPUT ⊢
  simp only at HPUT ⊢
  have HWM := hide hwm
  have HWN := hide hwn
  have HDP := hide hdp
  simp only at hpt hbge
  generalize hbg : Dsc.begins ⟨more, lone, start, part, hasPic, wide, pic, hasTl0, tl0, hasTid, tid, sync, hasKey, key⟩ = bg at *
  have HBG := hide hbge
  clear HD HDV hd hwm hwn hdp hbge hbg
  have hy := heap_alloc_new w (.cells (#[.bool more, .bool lone, .bool start, .int .u8 part, .bool hasPic, .bool wide, .int .u16 pic, .bool hasTl0, .int .u8 tl0, .bool hasTid, .int .u8 tid, .bool sync, .bool hasKey, .int .u8 key] : Array Value) 49)
  have HLW := hide ((Le.refl w).alloc (.cells (#[.bool more, .bool lone, .bool start, .int .u8 part, .bool hasPic, .bool wide, .int .u16 pic, .bool hasTl0, .int .u8 tl0, .bool hasTid, .int .u8 tid, .bool sync, .bool hasKey, .int .u8 key] : Array Value) 49))
  have HY0 := hide (box_cell hy 0 (.bool more) rfl)
  have HY1 := hide (box_cell hy 1 (.bool lone) rfl)
  have HY2 := hide (box_cell hy 2 (.bool start) rfl)
  have HY3 := hide (box_cell hy 3 (.int .u8 part) rfl)
  have HY4 := hide (box_cell hy 4 (.bool hasPic) rfl)
  have HY5 := hide (box_cell hy 5 (.bool wide) rfl)
  have HY6 := hide (box_cell hy 6 (.int .u16 pic) rfl)
  have HY7 := hide (box_cell hy 7 (.bool hasTl0) rfl)
  have HY8 := hide (box_cell hy 8 (.int .u8 tl0) rfl)
  have HY9 := hide (box_cell hy 9 (.bool hasTid) rfl)
  have HY10 := hide (box_cell hy 10 (.int .u8 tid) rfl)
  have HY11 := hide (box_cell hy 11 (.bool sync) rfl)
  have HY12 := hide (box_cell hy 12 (.bool hasKey) rfl)
  have HY13 := hide (box_cell hy 13 (.int .u8 key) rfl)
  clear hy
  go_enter Try.func15, Try.ntmps15
  go_wp2_with fail
  generalize w.alloc (.cells (#[.bool more, .bool lone, .bool start, .int .u8 part, .bool hasPic, .bool wide, .int .u16 pic, .bool hasTl0, .int .u8 tl0, .bool hasTid, .int .u8 tid, .bool sync, .bool hasKey, .int .u8 key] : Array Value) 49) = W at *
  generalize w.heap.size = p at *
  refine (awake07 _).mono ?_
  rintro r w1 ⟨rfl, hb1⟩
  have hl1 : Le W w1 := ⟨hb1⟩
  clear hb1
  have c0 := HY0.out w1 hl1
  have c1 := HY1.out w1 hl1
  have c2 := HY2.out w1 hl1
  have c3 := HY3.out w1 hl1
  have c4 := HY4.out w1 hl1
  have c5 := HY5.out w1 hl1
  have c6 := HY6.out w1 hl1
  have c7 := HY7.out w1 hl1
  have c8 := HY8.out w1 hl1
  have c9 := HY9.out w1 hl1
  have c10 := HY10.out w1 hl1
  have c11 := HY11.out w1 hl1
  have c12 := HY12.out w1 hl1
  have c13 := HY13.out w1 hl1
  go_wp2_with fail
  refine (HPUT.out _).mono ?_
  rintro r w2 ⟨v2, rfl, ho2, hb2⟩
  have hl2 : Le W w2 := hl1.trans ⟨hb2⟩
  have HO2 := hide (own_base ho2 hl1.size)
  obtain ⟨A2, cap2, rfl, hcap2, _⟩ := own_slice ho2
  clear hb2 ho2 hl1 c0 c1 c2 c3 c4 c5 c6 c7 c8 c9 c10 c11 c12 c13 HPUT
  rcases hcs with rfl | rfl
  · obtain ⟨rfl, rfl, hpos, h40⟩ := HGB.out.1 rfl
    by_cases h0 : l = []
    · have hl0 : l.length = 0 := by rw [h0]; rfl
      have hl0I : ((l.length : Int) == 0) = true := by rw [hl0]; rfl
      have hl0E : (l.length : Int) = 0 := by omega
      clear h0 hl0
      go_wp2_with fail
      go_ret
      exact ⟨rfl, (HLW.out.trans hl2).out⟩
    obtain ⟨m, t, rfl⟩ : ∃ m t, l = m :: t := by
      cases l with
      | nil => exact absurd rfl h0
      | cons m t => exact ⟨m, t, rfl⟩
    have e0 := hide (show (m :: t)[0]? = some m from rfl)
    generalize hmt : m :: t = l at *
    have hl1' : 0 < l.length := by rw [← hmt]; simp
    have hl0I : ((l.length : Int) == 0) = false := by rw [beq_eq_false_iff_ne]; omega
    have hl0E : ¬ l.length = 0 := by omega
    by_cases hbig : 100 < l.length
    · have hbI : (100 : Int) < (l.length : Int) := by omega
      go_wp2_with fail
      go_ret
      exact ⟨rfl, (HLW.out.trans hl2).out⟩
    have hbI : ¬ (100 : Int) < (l.length : Int) := by omega
    have HCL := hide (cells_of_rsl ((HLW.out.trans hl2).rsl keeps_u8 HR.out))
    have HL2 := hide hl2
    clear hl2
    go_wp2_with (at_builtin; go_must (refine wpl_app rfl sl8 (.tmp 36) (.tmp 37) rfl HO2.out rfl rfl HCL.out (by simp [u8s]) u8s_one (by omega) (by omega) HL2.out.size ?_); intro v5 w5 ho5 hg5 hat5; obtain ⟨A5, cap5, rfl, _, _⟩ := own_slice ho5; have HL5 := hide (Le.mk (below_grown HL2.out.out HO2.out hg5 (Nat.le_refl _) HL2.out.size)); rw [← u8s_append] at ho5; have HO5 := hide ho5; clear ho5 hg5 hat5)
    obtain ⟨g, rfl⟩ : ∃ g, A5 = some ⟨g, 0, none⟩ := by
      rcases HO5.out.2 with ⟨hv, h0⟩ | ⟨g, c', cur, hv, _⟩
      · omega
      · injection hv with e1 e2 e3
        exact ⟨g, e1⟩
    have hg0 := (HO5.out.lt g rfl).1
    have hm8 := m.toNat_lt
    have hxr := u8_xor_nat m.toNat x (by omega) hx
    obtain ⟨V, hV⟩ : ∃ V, V = m.toNat ^^^ x := ⟨_, rfl⟩
    rw [← hV] at hxr
    have hV8 : V < 256 := by rw [hV]; exact Nat.xor_lt_two_pow (n := 8) (by omega) (by omega)
    have hVn := nat_u8 V hV8
    clear hV
    have hll : (B ++ l).length = B.length + l.length := List.length_append
    obtain ⟨pp, tp, hpa⟩ := HPP.out trivial l
    rw [← hmt] at hpa
    obtain ⟨ha, haD⟩ := HWM.out B m t pp tp hpa
    rw [hmt] at ha haD
    obtain ⟨pp2, tp2, hpc⟩ := HPP.out trivial (UInt8.ofNat V :: t)
    obtain ⟨hc, hcD⟩ := HWM.out B (UInt8.ofNat V) t pp2 tp2 hpc
    rw [hVn] at hc
    obtain ⟨pp3, tp3, hpb⟩ := HPP.out trivial []
    rw [List.append_nil] at hpb
    obtain ⟨hb, hbD⟩ := HWN.out B pp3 tp3 hpb
    clear hpa hpc hpb
    have hset : (B ++ l).set B.length (UInt8.ofNat V) = B ++ UInt8.ofNat V :: t := by
      rw [← hmt, List.set_append_right _ _ (Nat.le_refl _), Nat.sub_self]
      rfl
    have hw5 := whole_any (some ⟨g, 0, none⟩) cap5 (B ++ l) w5 (by rw [hll]; exact rsl_of_own HO5.out) (by omega) (HDP.out _ haD)
    rw [hll, ha] at hw5
    obtain ⟨a, hae⟩ : ∃ a, a = (bg && decide (m.toNat % 2 = 0)) := ⟨_, rfl⟩
    rw [← hae] at hw5
    refine hw5.mono ?_
    rintro r w6 ⟨rfl, hb6⟩
    have hl56 := Le.mk hb6
    have HO6 := hide (hl56.own HO5.out)
    have HL6 := hide (HL5.out.trans hl56)
    have cn : w6.cell? ⟨g, B.length, none⟩ = some (.int .u8 (m.toNat : Nat)) := by
      rw [HO6.out.cellAt B.length (by omega), ← hmt]
      simp [u8s]
    have fn := HO6.out.frozenAt B.length
    have HAE := hide hae
    clear hw5 hb6 ha haD hl56 hae
    have hnl : (B.length : Int) < (B.length : Int) + (l.length : Int) := by omega
    go_upto_region 11 with fail
    have ho7 := own_put HO6.out B.length (V : Nat) V rfl hV8
    rw [hset] at ho7
    have HL7 := hide (Le.mk (HL6.out.out.setCell (p := ⟨g, B.length, none⟩) hg0 (.int .u8 (V : Nat))))
    generalize w6.setCell ⟨g, B.length, none⟩ (.int .u8 (V : Nat)) = w7 at *
    have HO7 := hide ho7
    clear ho7 cn fn
    have hlc : (B ++ UInt8.ofNat V :: t).length = B.length + l.length := by rw [← hset, List.length_set, hll]
    have hw7 := whole_any (some ⟨g, 0, none⟩) cap5 (B ++ UInt8.ofNat V :: t) w7 (by rw [hlc]; exact rsl_of_own HO7.out) (by omega) (HDP.out _ hcD)
    rw [hlc, hc] at hw7
    obtain ⟨c, hce⟩ : ∃ c, c = (bg && decide (V % 2 = 0)) := ⟨_, rfl⟩
    rw [← hce] at hw7
    go_wp2_with fail
    refine hw7.mono ?_
    rintro r w8 ⟨rfl, hb8⟩
    have HO8 := hide ((Le.mk hb8).own HO7.out)
    have HL8 := hide (HL7.out.trans (Le.mk hb8))
    have HCE := hide hce
    clear hw7 hb8 hc hcD hce
    have HTK := hide (by
      have := own_take HO8.out hlc.symm (show B.length ≤ B.length + l.length by omega)
      rwa [List.take_left] at this)
    obtain ⟨bm, om, rfl, hi⟩ := HI.out h0
    obtain ⟨cs, _, hcm, hRm⟩ := hi 0 hl1'
    have c0m := hcm 0 (by omega)
    have em : l[0]'hl1' = m := by subst hmt; rfl
    rw [show cs = [.int .u8 (l[0]'hl1').toNat] from hRm, em] at c0m
    simp only [Nat.mul_one, Nat.add_zero, List.getElem?_cons_zero] at c0m
    have c0 := (HLW.out.trans HL8.out).cell c0m
    have q2 := HY2.out w8 HL8.out
    have q3 := HY3.out w8 HL8.out
    clear hcm hRm hi c0m
    have hl0P : (0 : Int) < (l.length : Int) := by omega
    have hnT : (B.length : Int) ≤ (B.length : Int) + (l.length : Int) := by omega
    have hwB := whole_any (some ⟨g, 0, none⟩) cap5 B w8 HTK.out (by omega) (HDP.out _ hbD)
    rw [hb] at hwB
    have HWB := hide hwB
    clear hwB hb hbD
    have hcs3 : (start = false ∧ bg = false) ∨ (start = true ∧ bg = true ∧ part = 0) ∨ (start = true ∧ bg = false ∧ ((part : Int) == 0) = false) := by
      have h := HBG.out
      cases start
      · exact .inl ⟨rfl, by rw [h]; rfl⟩
      · by_cases hp : part = 0
        · exact .inr (.inl ⟨rfl, by rw [h]; simp [hp], hp⟩)
        · exact .inr (.inr ⟨rfl, by rw [h]; simp [hp], by rw [beq_eq_false_iff_ne]; omega⟩)
    have hpar : ∀ y : Nat, (((y : Int) % 2 == 0) = true ∧ decide (y % 2 = 0) = true ∧ (y : Int) % 2 = 0) ∨ (((y : Int) % 2 == 0) = false ∧ decide (y % 2 = 0) = false ∧ (y : Int) % 2 = 1) := by
      intro y
      by_cases hy : y % 2 = 0
      · have h2 : (y : Int) % 2 = 0 := by omega
        exact .inl ⟨by rw [h2]; rfl, by simp [hy], h2⟩
      · have h2 : (y : Int) % 2 = 1 := by omega
        exact .inr ⟨by rw [h2]; rfl, by simp [hy], h2⟩
    have HAE' := HAE.out
    have HCE' := HCE.out
    have tm1 : ((m.toNat : Nat) : Int).tmod 2 = ((m.toNat : Nat) : Int) % 2 := Int.tmod_eq_emod_of_nonneg (by omega)
    have tm2 : ((V : Nat) : Int).tmod 2 = ((V : Nat) : Int) % 2 := Int.tmod_eq_emod_of_nonneg (by omega)
    have hpm := hpar m.toNat
    have hpv := hpar V
    clear hpar HAE HCE HBG
    rcases hcs3 with ⟨rfl, rfl⟩ | ⟨rfl, rfl, rfl⟩ | ⟨rfl, rfl, hpI⟩
    · rw [Bool.false_and] at HAE' HCE'
      subst HAE' HCE'
      clear hpm hpv
      go_wp2_with fail
      refine HWB.out.mono ?_
      rintro r w9 ⟨rfl, hb9⟩
      have HL9 := hide (HLW.out.trans (HL8.out.trans (Le.mk hb9)))
      clear hb9
      go_wp2_with fail
      go_ret
      exact ⟨rfl, HL9.out.out⟩
    · rw [Bool.true_and] at HAE' HCE'
      rcases hpm with ⟨i1, i2, i3⟩ | ⟨i1, i2, i3⟩ <;> rcases hpv with ⟨j1, j2, j3⟩ | ⟨j1, j2, j3⟩
      all_goals
        rw [i2] at HAE'
        rw [j2] at HCE'
        subst HAE' HCE'
        clear i2 j2
        go_wp2_with fail
        refine HWB.out.mono ?_
        rintro r w9 ⟨rfl, hb9⟩
        have HL9 := hide (HLW.out.trans (HL8.out.trans (Le.mk hb9)))
        clear hb9
        go_wp2_with fail
        go_ret
        exact ⟨rfl, HL9.out.out⟩
    · rw [Bool.false_and] at HAE' HCE'
      subst HAE' HCE'
      clear hpm hpv
      go_wp2_with fail
      refine HWB.out.mono ?_
      rintro r w9 ⟨rfl, hb9⟩
      have HL9 := hide (HLW.out.trans (HL8.out.trans (Le.mk hb9)))
      clear hb9
      go_wp2_with fail
      go_ret
      exact ⟨rfl, HL9.out.out⟩
  · obtain ⟨rfl, rfl⟩ := HGB.out.2 rfl
    go_wp2_with fail
    go_ret
    exact ⟨rfl, (HLW.out.trans hl2).out⟩
end Go.Proofs.Ytkbdbandeioibaa
