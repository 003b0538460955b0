/- Texts of one claim, laid together: ScriptJoins -/
import Derived.Test.YtkcpfhbfjpldhaaGreatDoorJo16
import Derived.Test.YtkcpfhbfjpldhaaGreatDoorJo17
/- ScriptJoins: the law's walk. -/
namespace Go.Proofs.YtkcpfhbfjpldhaaGreatDoor
open Go.RowKit
set_option linter.unusedVariables false

/-- steps' cells, and where their bytes lie -/
theorem cells_sps {w : World} {l : List Sp} {A : Option Addr} {n cap : Nat} (h : RSl 3 RSp w l (.slice A n cap)) : ∃ vs : List Value, vs.length = l.length ∧ Cells w A (encS l vs) ∧ (∀ v ∈ vs, v.oneCell' = true) := by
  obtain ⟨A', cap', hv, hcap, hi⟩ := h
  injection hv with e1 e2 e3
  subst e1 e2 e3
  by_cases hne : l = []
  · subst hne
    exact ⟨[], rfl, fun h => absurd rfl h, by simp⟩
  obtain ⟨b, off, rfl, hg⟩ := hi hne
  have hv : ∀ i, ∃ v : Value, ∀ h : i < l.length, (∀ j, j < 3 → w.cell? ⟨b, off + i * 3 + j, none⟩ = (l[i].cells v)[j]?) ∧ v.oneCell' = true := by
    intro i
    by_cases h : i < l.length
    · obtain ⟨cs, _, hc, v, hcs, hr, _⟩ := hg i h
      subst hcs
      obtain ⟨A1, c1, hv1, _⟩ := hr
      exact ⟨v, fun _ => ⟨hc, by rw [hv1]; rfl⟩⟩
    · exact ⟨.slice none 0 0, fun h' => absurd h' h⟩
  refine ⟨(List.range l.length).map fun i => (hv i).choose, by simp, fun _ => ⟨b, off, rfl, fun j u hu => ?_⟩, fun v hm => ?_⟩
  · have hlen := encS_len l ((List.range l.length).map fun i => (hv i).choose) (by simp)
    have hj : j < l.length * 3 := by rw [← hlen]; exact (List.getElem?_eq_some_iff.1 hu).1
    have h1 : j / 3 < l.length := by omega
    have h2 : j % 3 < 3 := by omega
    have h3 := flatS (l := l.zip ((List.range l.length).map fun i => (hv i).choose)) (j / 3) (by simpa using h1) (j % 3) h2
    rw [List.getElem_zip] at h3
    rw [show j / 3 * 3 + j % 3 = j by omega] at h3
    rw [encS, h3] at hu
    have h4 := ((hv (j / 3)).choose_spec h1).1 (j % 3) h2
    rw [show off + j / 3 * 3 + j % 3 = off + j by omega] at h4
    rw [h4, ← hu]
    simp
  · obtain ⟨i, hi2, rfl⟩ := List.mem_map.1 hm
    exact ((hv i).choose_spec (by simpa using hi2)).2
theorem encS_one {l : List Sp} {vs : List Value} (h : ∀ v ∈ vs, v.oneCell' = true) : ∀ u ∈ encS l vs, u.oneCell' = true := by
  intro u hu
  rw [encS, List.mem_flatMap] at hu
  obtain ⟨p, hp, hu⟩ := hu
  have h2 := h p.2 (List.of_mem_zip hp).2
  simp only [Sp.cells, List.mem_cons, List.not_mem_nil, or_false] at hu
  rcases hu with rfl | rfl | rfl
  · rfl
  · rfl
  · exact h2
theorem sp_of {w : World} {a : List Sp} {A1 : Option Addr} {n1 c1 : Nat} {v1 : List Value} (h1 : RSl 3 RSp w a (.slice A1 n1 c1)) (hc1 : Cells w A1 (encS a v1)) (hv1 : v1.length = a.length) (i : Nat) (hi : i < a.length) : RSp w a[i] (a[i].cells (v1[i]'(by omega))) := by
  obtain ⟨A', cap', hv, hcap, hx⟩ := h1
  injection hv with e1 e2 e3
  subst e1 e2 e3
  obtain ⟨b, off, rfl, hg⟩ := hx (by rintro rfl; simp at hi)
  obtain ⟨cs, _, hc, v, hcs, hr, hn⟩ := hg i hi
  subst hcs
  have hlen := encS_len a v1 hv1
  obtain ⟨b', off', hA, hcc⟩ := hc1 (by intro e; rw [e] at hlen; simp at hlen; omega)
  injection hA with hA
  injection hA with e1 e2
  subst e1 e2
  have h3 := flatS (l := a.zip v1) i (by rw [List.length_zip]; omega) 2 (by omega)
  rw [List.getElem_zip] at h3
  have h4 := hcc (i * 3 + 2) (v1[i]'(by omega)) (by rw [encS, h3]; rfl)
  have h5 := hc 2 (by omega)
  rw [Nat.add_assoc, h4] at h5
  have h6 : v = v1[i]'(by omega) := by
    have : (a[i].cells v)[2]? = some v := rfl
    rw [this] at h5
    exact (Option.some.inj h5).symm
  rw [h6] at hr
  exact ⟨_, rfl, hr, hn⟩
/-- a row of steps reads as they did -/
theorem rsl_joined {w : World} {base : Nat} {T : TypeId} {v : Value} {A1 A2 : Option Addr} {n1 c1 n2 c2 : Nat} {a b : List Sp} {v1 v2 : List Value} (h : w.ownsRow base T 3 v (a.length + b.length) (encS a v1 ++ encS b v2)) (hv1 : v1.length = a.length) (hv2 : v2.length = b.length) (h1 : RSl 3 RSp w a (.slice A1 n1 c1)) (h2 : RSl 3 RSp w b (.slice A2 n2 c2)) (hc1 : Cells w A1 (encS a v1)) (hc2 : Cells w A2 (encS b v2)) : RSl 3 RSp w (a ++ b) v := by
  obtain ⟨A, cap, rfl, hc, hcl⟩ := own_slice h
  have he : encS (a ++ b) (v1 ++ v2) = encS a v1 ++ encS b v2 := by rw [encS, List.zip_append hv1.symm, List.flatMap_append]; rfl
  rw [← he] at hcl
  refine ⟨A, cap, by simp, by simpa using hc, fun hne => ?_⟩
  have hlen := encS_len (a ++ b) (v1 ++ v2) (by simp [hv1, hv2])
  obtain ⟨b', off, rfl, hg⟩ := hcl (by
    intro e
    rw [e] at hlen
    rw [List.length_nil] at hlen
    exact hne (List.eq_nil_of_length_eq_zero (by omega)))
  refine ⟨b', off, rfl, fun i hi => ⟨(a ++ b)[i].cells ((v1 ++ v2)[i]'(by simp [hv1, hv2] at hi ⊢; omega)), rfl, fun j hj => ?_, ?_⟩⟩
  · have h3 := flatS (l := (a ++ b).zip (v1 ++ v2)) i (by simp [hv1, hv2] at hi ⊢; omega) j hj
    rw [List.getElem_zip] at h3
    have h4 : ((a ++ b)[i].cells ((v1 ++ v2)[i]'(by simp [hv1, hv2] at hi ⊢; omega)))[j]? = some (((a ++ b)[i].cells ((v1 ++ v2)[i]'(by simp [hv1, hv2] at hi ⊢; omega)))[j]'(by simpa [Sp.cells] using hj)) := List.getElem?_eq_getElem _
    rw [h4] at h3 ⊢
    rw [Nat.add_assoc]
    exact hg _ _ h3
  · by_cases hi1 : i < a.length
    · have := sp_of h1 hc1 hv1 i hi1
      simpa [List.getElem_append_left hi1, List.getElem_append_left (show i < v1.length by omega)] using this
    · have hi2 : i - a.length < b.length := by simp at hi; omega
      have := sp_of h2 hc2 hv2 (i - a.length) hi2
      simpa [List.getElem_append_right (show a.length ≤ i by omega), List.getElem_append_right (show v1.length ≤ i by omega), hv1] using this
theorem putS_join {a b : List Sp} (ha : putSE a = 0) (hb : putSE b = 0) : putSB (a ++ b) = putSB a ++ putSB b ∧ putSE (a ++ b) = 0 := by
  have h1 := putS_ok ha
  have h2 := putS_ok hb
  have h3 : (a ++ b).all Sp.may = true := by rw [List.all_append, h1, h2]; rfl
  unfold putSB putSE
  rw [h1, h2, h3]
  exact ⟨by simp, rfl⟩
theorem putS_nojoin {a b : List Sp} (h : ¬ (putSE a = 0 ∧ putSE b = 0)) : putSB (a ++ b) = [] ∧ putSE (a ++ b) = 1 := by
  have h3 : (a ++ b).all Sp.may = false := by
    rw [List.all_append, Bool.eq_false_iff]
    intro e
    rw [Bool.and_eq_true] at e
    exact h ⟨by unfold putSE; rw [e.1]; rfl, by unfold putSE; rw [e.2]; rfl⟩
  unfold putSB putSE
  rw [h3]
  exact ⟨rfl, rfl⟩
theorem putSE_01 (a : List Sp) : putSE a = 0 ∨ putSE a = 1 := by
  unfold putSE
  split
  · exact .inl rfl
  · exact .inr rfl

set_option maxRecDepth 100000 in
set_option maxHeartbeats 2000000 in
theorem scriptJoins_walk (w : World) (a : List Sp) (A : Option Addr) (n cap : Nat) (ha : RSl 3 RSp w a (.slice A n cap)) (hla : a.length ≤ 9223372036854775807) (b : List Sp) (B : Option Addr) (m bap : Nat) (hb : RSl 3 RSp w b (.slice B m bap)) (hlb : b.length ≤ 9223372036854775807) :
    Calls Tryz.prog 9 #[.slice A n cap, .slice B m bap] w (Gives w (.bool true)) := by
  have HA := hide ha
  have HB := hide hb
  obtain ⟨A', cap', hv, hcap, _⟩ := ha
  injection hv with e1 e2 e3
  subst e1 e2 e3
  obtain ⟨A', cap', hv, hbap, _⟩ := hb
  injection hv with e1 e2 e3
  subst e1 e2 e3
  have HLA := hide hla
  have HLB := hide hlb
  clear hla hlb
  go_enter Tryz.func9, Tryz.ntmps9
  go_wp2_with fail
  refine (awake24 _).mono ?_
  rintro r w1 ⟨rfl, hb1⟩
  have hl1 : Le w w1 := ⟨hb1⟩
  clear hb1
  go_wp2_with fail
  refine (few24_any a A a.length cap w1 (hl1.rsl keeps_sp HA.out) HLA.out).mono ?_
  rintro r w2 ⟨rfl, hb2⟩
  have hl2 := hl1.trans ⟨hb2⟩
  clear hb2
  go_wp2_with fail
  refine (few24_any b B b.length bap w2 (hl2.rsl keeps_sp HB.out) HLB.out).mono ?_
  rintro r w3 ⟨rfl, hb3⟩
  have hl3 := hl2.trans ⟨hb3⟩
  clear hb3 hl1 hl2
  cases hfa : fewP a
  · go_wp2_with fail
    go_ret
    exact ⟨rfl, hl3.out⟩
  cases hfb : fewP b
  · go_wp2_with fail
    go_ret
    exact ⟨rfl, hl3.out⟩
  have HFA := hide (fewP_parts hfa)
  have HFB := hide (fewP_parts hfb)
  have hla : a.length ≤ 300 := HFA.out.2
  have hlb : b.length ≤ 300 := HFB.out.2
  clear hfa hfb
  go_wp2_with fail
  refine (scPut_any a A cap w3 (hl3.rsl keeps_sp HA.out) (by omega) HFA.out.1).mono ?_
  rintro r w4 ⟨v4, rfl, ho4, hb4⟩
  obtain ⟨A4, cap4, rfl, _, _⟩ := own_slice ho4
  have HR4 := hide (rsl_of_own ho4)
  have hl34 : Le w3 w4 := ⟨hb4⟩
  clear ho4 hb4
  go_wp2_with fail
  refine (scPut_any b B bap w4 ((hl3.trans hl34).rsl keeps_sp HB.out) (by omega) HFB.out.1).mono ?_
  rintro r w5 ⟨v5, rfl, ho5, hb5⟩
  obtain ⟨A5, cap5, rfl, _, _⟩ := own_slice ho5
  have HR5 := hide (rsl_of_own ho5)
  have hl45 : Le w4 w5 := ⟨hb5⟩
  have HL5 := hide (hl3.trans (hl34.trans hl45))
  have HR4' := hide (hl45.rsl keeps_u8 HR4.out)
  clear ho5 hb5 hl3 hl34 hl45 HR4
  obtain ⟨va, hva, hca, h1a⟩ := cells_sps (HL5.out.rsl keeps_sp HA.out)
  obtain ⟨vb, hvb, hcb, h1b⟩ := cells_sps (HL5.out.rsl keeps_sp HB.out)
  have HCA := hide (And.intro hca (encS_one (l := a) h1a))
  have HCB := hide (And.intro hcb (encS_one (l := b) h1b))
  have HVA := hide (And.intro hva (encS_len a va hva))
  have HVB := hide (And.intro hvb (encS_len b vb hvb))
  clear hca hcb h1a h1b hva hvb
  have HN0 := hide (World.ownsRow_nil w5 w5.heap.size 70 3)
  go_upto_region 12 with (at_builtin; go_must (refine wpl_app rfl slStep (.tmp 40) (.tmp 41) rfl HN0.out rfl rfl HCA.out.1 HVA.out.2 HCA.out.2 (by omega) (by omega) (Nat.le_refl _) ?_); intro v6 w6 ho6 hg6 hat6; rw [Nat.zero_add, List.nil_append] at ho6; have HO6 := hide ho6; have HL6 := hide (show Le w5 w6 from ⟨below_grown (Le.refl w5).out HN0.out hg6 (Nat.le_refl _) (Nat.le_refl _)⟩); obtain ⟨A6, cap6, rfl, _, _⟩ := own_slice ho6; clear ho6 hg6 hat6)
  have HCB6 := hide (show Cells w6 B (encS b vb) from fun h => by
    obtain ⟨g, off, e1, e2⟩ := HCB.out.1 h
    exact ⟨g, off, e1, fun j u hu => HL6.out.cell (e2 j u hu)⟩)
  go_wp2_with (at_builtin; go_must (refine wpl_app rfl slStep (.tmp 43) (.tmp 44) rfl HO6.out rfl rfl HCB6.out HVB.out.2 HCB.out.2 (by omega) (by omega) HL6.out.size ?_); intro v7 w7 ho7 hg7 hat7; have HO7 := hide ho7; have HL7 := hide (show Le w5 w7 from ⟨below_grown HL6.out.out HO6.out hg7 (Nat.le_refl _) HL6.out.size⟩); obtain ⟨A7, cap7, rfl, _, _⟩ := own_slice ho7; clear ho7 hg7 hat7)
  have HCA7 : Cells w7 A (encS a va) := fun h => by
    obtain ⟨g, off, e1, e2⟩ := HCA.out.1 h
    exact ⟨g, off, e1, fun j u hu => HL7.out.cell (e2 j u hu)⟩
  have HCB7 : Cells w7 B (encS b vb) := fun h => by
    obtain ⟨g, off, e1, e2⟩ := HCB.out.1 h
    exact ⟨g, off, e1, fun j u hu => HL7.out.cell (e2 j u hu)⟩
  have HRL := hide (rsl_joined HO7.out HVA.out.1 HVB.out.1 ((HL5.out.trans HL7.out).rsl keeps_sp HA.out) ((HL5.out.trans HL7.out).rsl keeps_sp HB.out) HCA7 HCB7)
  have hlen : (a ++ b).length = a.length + b.length := List.length_append
  have hp := scPut_any (a ++ b) A7 cap7 w7 (by rw [hlen]; exact HRL.out) (by rw [hlen]; omega) (fun s hs => by
    rcases List.mem_append.1 hs with h | h
    · exact HFA.out.1 s h
    · exact HFB.out.1 s h)
  rw [hlen] at hp
  clear HCA7 HCB7 HO7 HO6 HL6 HCB6 HCA HCB HVA HVB HN0
  rcases putSE_01 a with hea | hea <;> rcases putSE_01 b with heb | heb
  · have hj := putS_join hea heb
    have H1 := hide (back_put hj.2)
    rw [hj.1] at H1
    rw [hj.1, hj.2] at hp
    rw [hea, heb]
    have hX := back_len24 HFA.out.1
    have hY := back_len24 HFB.out.1
    clear hea heb hj
    generalize putSB a = X at *
    generalize putSB b = Y at *
    refine hp.mono ?_
    clear hp
    rintro r w8 ⟨v8, rfl, ho8, hb8⟩
    obtain ⟨A8, cap8, rfl, _, _⟩ := own_slice ho8
    have HR8 := hide (rsl_of_own ho8)
    have HL8 := hide (Le.mk hb8)
    clear ho8 hb8
    go_wp2_with fail
    have hp2 := scParse_any (X ++ Y) A8 _ cap8 w8 HR8.out (by rw [List.length_append]; omega)
    rw [H1.out] at hp2
    simp only [List.length_append] at hp2 ⊢
    refine hp2.mono ?_
    clear hp2
    rintro r w9 h9
    obtain ⟨A9, cap9, rfl, hr9, hb9⟩ := h9.rsl
    have HR9 := hide hr9
    have HL9 := hide (Le.mk hb9)
    have f1 := conv_le HR8.out w9 HL9.out
    have f2 := conv_le HR4'.out w9 (HL7.out.trans (HL8.out.trans HL9.out))
    have f3 := conv_le HR5.out w9 (HL7.out.trans (HL8.out.trans HL9.out))
    have HRL9 := hide ((HL8.out.trans HL9.out).rsl keeps_sp HRL.out)
    rw [List.length_append] at f1
    clear h9 hr9 hb9
    simp only [List.length_append] at HR9 ⊢
    go_wp2_with fail
    have hs1 := steps_any (a ++ b) A9 _ cap9 w9 HR9.out (by rw [hlen]; omega)
    refine hs1.mono ?_
    rintro r w10 ⟨A10, cap10, rfl, hr10, hb10⟩
    have HR10 := hide hr10
    have HL10 := hide (Le.mk hb10)
    clear hs1 hr10 hb10 f1 f2 f3
    simp only [List.length_append] at HR10 ⊢
    go_wp2_with fail
    have hs2 := steps_any (a ++ b) A7 _ cap7 w10 (HL10.out.rsl keeps_sp HRL9.out) (by rw [hlen]; omega)
    refine hs2.mono ?_
    rintro r w11 ⟨A11, cap11, rfl, hr11, hb11⟩
    have HR11 := hide hr11
    have HL11 := hide (Le.mk hb11)
    clear hs2 hr11 hb11
    simp only [List.length_append] at HR11 ⊢
    go_wp2_with fail
    have hs := rsame24_any (a ++ b) (a ++ b) A10 _ cap10 A11 _ cap11 w11 (HL11.out.rsl keeps_sr HR10.out) HR11.out (by rw [hlen]; omega)
    rw [decide_eq_true (rfl : a ++ b = a ++ b)] at hs
    refine hs.mono ?_
    clear hs
    rintro r w12 ⟨rfl, hb12⟩
    have HL12 := hide (HL5.out.trans (HL7.out.trans (HL8.out.trans (HL9.out.trans (HL10.out.trans (HL11.out.trans (Le.mk hb12)))))))
    clear hb12
    go_wp2_with fail
    go_ret
    exact ⟨rfl, HL12.out.out⟩
  · have hn := putS_nojoin (a := a) (b := b) (by rw [hea, heb]; simp)
    rw [hn.1, hn.2] at hp
    rw [hea, heb]
    clear hea heb hn
    generalize putSB a = X at *
    generalize putSB b = Y at *
    refine hp.mono ?_
    clear hp
    rintro r w8 ⟨v8, rfl, ho8, hb8⟩
    obtain ⟨A8, cap8, rfl, _, _⟩ := own_slice ho8
    have HL8 := hide (HL5.out.trans (HL7.out.trans (Le.mk hb8)))
    clear ho8 hb8
    simp only [List.length_nil]
    go_wp2_with fail
    go_ret
    exact ⟨rfl, HL8.out.out⟩
  · have hn := putS_nojoin (a := a) (b := b) (by rw [hea, heb]; simp)
    rw [hn.1, hn.2] at hp
    rw [hea, heb]
    clear hea heb hn
    generalize putSB a = X at *
    generalize putSB b = Y at *
    refine hp.mono ?_
    clear hp
    rintro r w8 ⟨v8, rfl, ho8, hb8⟩
    obtain ⟨A8, cap8, rfl, _, _⟩ := own_slice ho8
    have HL8 := hide (HL5.out.trans (HL7.out.trans (Le.mk hb8)))
    clear ho8 hb8
    simp only [List.length_nil]
    go_wp2_with fail
    go_ret
    exact ⟨rfl, HL8.out.out⟩
  · have hn := putS_nojoin (a := a) (b := b) (by rw [hea, heb]; simp)
    rw [hn.1, hn.2] at hp
    rw [hea, heb]
    clear hea heb hn
    generalize putSB a = X at *
    generalize putSB b = Y at *
    refine hp.mono ?_
    clear hp
    rintro r w8 ⟨v8, rfl, ho8, hb8⟩
    obtain ⟨A8, cap8, rfl, _, _⟩ := own_slice ho8
    have HL8 := hide (HL5.out.trans (HL7.out.trans (Le.mk hb8)))
    clear ho8 hb8
    simp only [List.length_nil]
    go_wp2_with fail
    go_ret
    exact ⟨rfl, HL8.out.out⟩
end Go.Proofs.YtkcpfhbfjpldhaaGreatDoor
