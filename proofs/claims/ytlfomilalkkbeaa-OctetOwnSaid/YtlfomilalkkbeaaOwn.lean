/- OctetOwn: the law's walk. -/
import Derived.Test.YtlfomilalkkbeaaLaw1
import Derived.Test.YtlfomilalkkbeaaHeld
namespace Go.Proofs.Ytlfomilalkkbeaa
open Go.RowKit
set_option linter.unusedVariables false

theorem cut_all (d : List UInt8) : cut d 0 (d.length : Int) (decide ((0 : Int) ≤ (d.length : Int))) = ([], 0, d) := by simp [cut]

theorem rsl_drop {α : Type} {size : Nat} {R : Rd α} {w : World} {l : List α} {A : Option Addr} {n cap k : Nat} (h : RSl size R w l (.slice A n cap)) (hk : k ≤ l.length) : RSl size R w (l.drop k) (.slice (if cap = k then A else A.map (·.add (k * size))) (n - k) (cap - k)) := by
  obtain ⟨A', cap', hv, hc, hr⟩ := h
  injection hv with e1 e2 e3
  subst e1 e2 e3
  refine ⟨_, _, by simp; exact ⟨rfl, rfl⟩, by simp; omega, fun hne => ?_⟩
  have hlt : k < l.length := by
    rcases Nat.lt_or_ge k l.length with h | h
    · exact h
    · exact absurd (List.drop_eq_nil_of_le h) hne
  obtain ⟨b, off, hA, hi⟩ := hr (by rintro rfl; simp at hlt)
  rw [if_neg (by omega), hA]
  refine ⟨b, off + k * size, by simp [addr_add], fun i hi' => ?_⟩
  obtain ⟨cs, h1, h2, h3⟩ := hi (k + i) (by simp at hi'; omega)
  refine ⟨cs, h1, fun j hj => ?_, by simpa using h3⟩
  rw [← h2 j hj, Nat.add_mul, Nat.add_assoc off]

/-- what holds while the taken bytes, and those that were handed in, are written over -/
structure OwnR (w w2 : World) (p K : Nat) (l : List UInt8) (A2 A3 : Option Addr) (cap3 : Nat) (wr : World) : Prop where
  cut : wr.heap[p]? = some (.cells #[.slice (if cap3 = K then A3 else A3.map (·.add K)) (l.length - K) (cap3 - K), .int .i64 0] 80 (0, 0))
  data : l ≠ [] → ∃ g off cur, A3 = some ⟨g, off, none⟩ ∧ w2.heap.size ≤ g ∧ wr.heap[g]? = some (.cells cur 5 (0, 0)) ∧ (∀ j (h : j < l.length), K ≤ j → cur[off + j]? = some (.int .u8 l[j].toNat)) ∧ ∀ j, j < K → ∃ v : Nat, v < 256 ∧ cur[off + j]? = some (.int .u8 v)
  inn : l ≠ [] → ∃ g cur, A2 = some ⟨g, 0, none⟩ ∧ w.heap.size ≤ g ∧ g < w2.heap.size ∧ wr.heap[g]? = some (.cells cur 5 (0, 0)) ∧ l.length ≤ cur.size
  below : Below w.heap.size w wr
  base : w.heap.size ≤ w2.heap.size
  pos : w2.heap.size ≤ p
  fits : l.length ≤ cap3 ∧ K ≤ l.length

section
variable {w w2 wr : World} {p K cap3 : Nat} {l : List UInt8} {A2 A3 : Option Addr}

theorem OwnR.keep {w' : World} (h : OwnR w w2 p K l A2 A3 cap3 wr) (hg : wr.grownBy w' none) : OwnR w w2 p K l A2 A3 cap3 w' := by
  refine ⟨heap_grown hg h.cut (by simp), fun hn => ?_, fun hn => ?_, h.below.grown hg h.below.size (by simp), h.base, h.pos, h.fits⟩
  · obtain ⟨g, off, cur, h1, h2, h3, h4, h5⟩ := h.data hn
    exact ⟨g, off, cur, h1, h2, heap_grown hg h3 (by simp), h4, h5⟩
  · obtain ⟨g, cur, h1, h2, h3, h4, h5⟩ := h.inn hn
    exact ⟨g, cur, h1, h2, h3, heap_grown hg h4 (by simp), h5⟩

theorem OwnR.notp (h : OwnR w w2 p K l A2 A3 cap3 wr) {g : Nat} {cur : Array Value} (hg : wr.heap[g]? = some (.cells cur 5 (0, 0))) : p ≠ g := by
  intro e
  rw [← e, h.cut] at hg
  injection hg with hg
  injection hg with _ hg _
  exact absurd hg (by decide)

theorem OwnR.taken (h : OwnR w w2 p K l A2 A3 cap3 wr) {i : Nat} (hi : i < K) : ∃ g off v, A3 = some ⟨g, off, none⟩ ∧ wr.cell? ⟨g, off + i, none⟩ = some (.int .u8 ((v : Nat) : Int)) ∧ v < 256 ∧ wr.frozen? ⟨g, off + i, none⟩ = false ∧
    ∀ u : Nat, u < 256 → OwnR w w2 p K l A2 A3 cap3 (wr.setCell ⟨g, off + i, none⟩ (.int .u8 u)) := by
  have hn : l ≠ [] := by rintro rfl; have := h.fits.2; simp at this; omega
  obtain ⟨g, off, cur, h1, h2, h3, h4, h5⟩ := h.data hn
  obtain ⟨v, hv, hc⟩ := h5 i hi
  refine ⟨g, off, v, h1, by rw [cell_block h3]; exact hc, hv, free_block h3 _, fun u hu => ?_⟩
  have hlt : off + i < cur.size := (Array.getElem?_eq_some_iff.1 hc).1
  refine ⟨heap_far _ h.cut (h.notp h3), fun _ => ?_, fun _ => ?_, h.below.setCell (Nat.le_trans h.base h2) _, h.base, h.pos, h.fits⟩
  · refine ⟨g, off, _, h1, h2, heap_set (i := off + i) _ h3, fun j hj hk => ?_, fun j hj => ?_⟩
    · rw [Array.getElem?_setIfInBounds_ne (by omega)]
      exact h4 j hj hk
    · by_cases e : j = i
      · subst e
        exact ⟨u, hu, by rw [Array.getElem?_setIfInBounds_self_of_lt hlt]⟩
      · obtain ⟨v', hv', hc'⟩ := h5 j hj
        exact ⟨v', hv', by rw [Array.getElem?_setIfInBounds_ne (by omega)]; exact hc'⟩
  · obtain ⟨gi, ci, k1, k2, k3, k4, k5⟩ := h.inn hn
    exact ⟨gi, ci, k1, k2, k3, heap_far _ k4 (by omega), k5⟩

theorem OwnR.handed (h : OwnR w w2 p K l A2 A3 cap3 wr) {i : Nat} (hi : i < l.length) : ∃ g v, A2 = some ⟨g, 0, none⟩ ∧ wr.cell? ⟨g, i, none⟩ = some v ∧ wr.frozen? ⟨g, i, none⟩ = false ∧
    ∀ u, OwnR w w2 p K l A2 A3 cap3 (wr.setCell ⟨g, i, none⟩ u) := by
  have hn : l ≠ [] := by rintro rfl; simp at hi
  obtain ⟨gi, ci, k1, k2, k3, k4, k5⟩ := h.inn hn
  refine ⟨gi, ci[i]'(by omega), k1, by rw [cell_block k4]; exact Array.getElem?_eq_getElem _, free_block k4 _, fun u => ?_⟩
  refine ⟨heap_far _ h.cut (h.notp k4), fun _ => ?_, fun _ => ?_, h.below.setCell k2 _, h.base, h.pos, h.fits⟩
  · obtain ⟨g, off, cur, h1, h2, h3, h4, h5⟩ := h.data hn
    exact ⟨g, off, cur, h1, h2, heap_far _ h3 (by omega), h4, h5⟩
  · exact ⟨gi, _, k1, k2, k3, heap_set (i := i) _ k4, by simpa using k5⟩

theorem OwnR.olds (h : OwnR w w2 p K l A2 A3 cap3 wr) : (A3 = none → K = 0) ∧ ∃ olds : List Value, olds.length = K * 1 ∧ ∀ b, A3 = some b → ∀ j u, olds[j]? = some u → wr.cell? (b.add j) = some u := by
  refine ⟨fun hn => ?_, (List.range K).map (fun j => (wr.cell? ((A3.getD ⟨0, 0, none⟩).add j)).getD undef), by simp, fun b hb j u hu => ?_⟩
  · rcases Nat.eq_zero_or_pos K with h0 | h0
    · exact h0
    · obtain ⟨g, off, v, h1, _⟩ := h.taken h0
      rw [hn] at h1; cases h1
  · have hj : j < K := by have := (List.getElem?_eq_some_iff.1 hu).1; simpa using this
    obtain ⟨g, off, v, h1, h2, _⟩ := h.taken hj
    subst hb
    injection h1 with h1
    subst h1
    simp [hj, addr_add, h2] at hu
    rw [addr_add, h2, ← hu]

theorem OwnR.rest (h : OwnR w w2 p K l A2 A3 cap3 wr) (hlt : K < l.length) : RSl 1 RU8 wr (l.drop K) (.slice (A3.map (·.add K)) (l.length - K) (l.length - K)) ∧ ∀ u, RSl 1 RU8 (wr.setCell ⟨p, 0, none⟩ u) (l.drop K) (.slice (A3.map (·.add K)) (l.length - K) (l.length - K)) := by
  obtain ⟨g, off, cur, h1, h2, h3, h4, h5⟩ := h.data (by rintro rfl; simp at hlt)
  have key : ∀ W : World, W.heap[g]? = some (.cells cur 5 (0, 0)) → RSl 1 RU8 W (l.drop K) (.slice (A3.map (·.add K)) (l.length - K) (l.length - K)) := by
    intro W hW
    refine ⟨_, _, by simp; exact ⟨rfl, rfl⟩, by simp, fun _ => ⟨g, off + K, by rw [h1]; simp [addr_add], fun i hi => ⟨[.int .u8 ((l.drop K)[i]).toNat], rfl, fun j hj => ?_, rfl⟩⟩⟩
    obtain rfl : j = 0 := by omega
    simp at hi
    rw [cell_block hW, show off + K + i * 1 + 0 = off + (K + i) by omega, h4 (K + i) (by omega) (by omega)]
    simp
  exact ⟨key wr h3, fun u => key _ (heap_far _ h3 (h.notp h3).symm)⟩

theorem OwnR.left (h : OwnR w w2 p K l A2 A3 cap3 wr) : CutAt wr w2.heap.size p (l.drop K) 0 := by
  have hf := h.fits
  refine ⟨h.pos, _, cap3 - K, by have := h.cut; simpa using this, by simp; omega, fun hne => ?_⟩
  have hlt : K < l.length := by
    rcases Nat.lt_or_ge K l.length with h | h
    · exact h
    · exact absurd (List.drop_eq_nil_of_le h) hne
  obtain ⟨g, off, cur, h1, h2, h3, h4, h5⟩ := h.data (by rintro rfl; simp at hlt)
  refine ⟨g, off + K, cur, ?_, h2, h3, fun j hj => ?_⟩
  · rw [if_neg (by omega), h1]; simp [addr_add]
  · simp at hj
    have := h4 (K + j) (by omega) (by omega)
    rw [Nat.add_assoc, this]
    simp
end

set_option maxRecDepth 100000 in
set_option maxHeartbeats 2000000 in
theorem octetOwn_walk (w : World) (l : List UInt8) (A : Option Addr) (n cap : Nat) (hr : RSl 1 RU8 w l (.slice A n cap)) (z : Nat) (hz : z < 256) :
    Calls Try.prog 7 #[.slice A n cap, .int .u8 z] w (Gives w (.bool true)) := by
  have HR := hide hr
  have HC := hide (cells_of_rsl hr)
  obtain ⟨A', cap', hv, hcap, _⟩ := hr
  injection hv with e1 e2 e3
  subst e1 e2 e3
  by_cases hbig : 300 < l.length
  · go_enter Try.func7, Try.ntmps7
    go_wp2_with (go_at_call 15; refine (awake1 _).mono ?_; rintro e w' ⟨rfl, hb⟩)
    go_ret
    exact ⟨rfl, hb⟩
  go_enter Try.func7, Try.ntmps7
  go_wp2_with fail
  refine (awake1 _).mono ?_
  rintro e w1 ⟨rfl, hb1⟩
  have hown0 := World.ownsRow_nil w1 w.heap.size 5 1
  have hcA : Cells w1 A (u8s l) := (cells_of_rsl (HR.out.below keeps_u8 hb1 (Nat.le_refl _)))
  go_wp2_with (first | (at_builtin; go_must (refine wpl_app rfl sl8 (.tmp 18) (.tmp 19) rfl hown0 rfl rfl hcA (by simp [u8s]) u8s_one (by omega) (by omega) hb1.size ?_); intro v2 w2 hown2 hg2 hat2))
  have hb2 := below_grown hb1 hown0 hg2 (Nat.le_refl _) hb1.size
  simp only [List.nil_append, Nat.zero_add] at hown2
  have hr2 := rsl_of_own hown2
  obtain ⟨A2, cap2, rfl, hcap2, _⟩ := own_slice hown2
  have hlt2 := hown2.lt
  clear hown0 hcA hg2 hat2 hb1
  go_wp2_with fail
  refine (new_any _ _ _ _ _ hr2 (by omega)).mono ?_
  rintro r w3 ⟨p, rfl, hc3, hb3⟩
  have hown3 := own_below hown2 hb3 (Nat.le_refl _)
  have hb4 := hb2.trans (hb3.mono hb2.size)
  have hsz := hb2.size
  clear hr2 hb2 hb3 hown2
  obtain ⟨hbp, A3, cap3, hp3, hcap3, hd3⟩ := hc3
  have HD := hide hd3
  clear hd3
  by_cases hgt : l.length < z
  · go_wp2_with fail
    refine (bytes_at w3 p A3 l.length cap3 l.length hp3 (by omega) hcap3 (by omega)).mono ?_
    rintro r w4 ⟨rfl, hw4⟩
    have hpg : w3.grownBy w4 (some p) := by rw [← hw4]; exact grown_set _
    have hp4 := heap_set (i := 0) (.slice (if cap3 = l.length then A3 else A3.map (·.add l.length)) (l.length - l.length) (cap3 - l.length)) hp3
    rw [hw4] at hp4
    simp only [List.setIfInBounds_toArray, List.set_cons_zero] at hp4
    have hfit := take_fits (A' := (if cap3 = l.length then A3 else A3.map (·.add l.length))) hbp hp3 hcap3 HD.out (k := l.length) (by omega) (by by_cases h : cap3 = l.length; exact .inl ⟨h, by simp [h]⟩; exact .inr (by simp [h]))
    rw [hw4, show cut l 0 ((l.length : Nat) : Int) true = (l.drop l.length, 0, l.take l.length) by simp [cut]; try omega] at hfit
    obtain ⟨_, hv, _, hrx, _⟩ := hfit
    injection hv with hv
    subst hv
    simp only at hrx
    have hb5 := below_row hb4 hpg (Nat.le_trans hsz hbp) hb4.size
    have hR : OwnR w w2 p l.length l A2 A3 cap3 w4 := by
      refine ⟨hp4, fun hn => ?_, fun hn => ?_, hb5, hsz, hbp, hcap3, by omega⟩
      · obtain ⟨g, off, cur, h1, h2, h3, h4⟩ := HD.out hn
        refine ⟨g, off, cur, h1, h2, heap_grown hpg h3 (fun e => ?_), fun j hj _ => h4 j hj, fun j hj => ⟨(l[j]'(by omega)).toNat, (l[j]'(by omega)).toNat_lt, h4 j (by omega)⟩⟩
        injection e with e
        rw [← e, hp3] at h3
        injection h3 with h3
        injection h3 with _ h3 _
        exact absurd h3 (by decide)
      · rcases hown3.2 with ⟨_, h0⟩ | ⟨g, cap', cur, hv', hbg, hh, hnc, _, hcs, _⟩
        · exact absurd (List.eq_nil_of_length_eq_zero h0) hn
        · injection hv' with e1 _ _
          have := (hlt2 g (by rw [e1]; rfl)).2
          exact ⟨g, cur, e1, hbg, this, heap_grown hpg hh (fun e => by injection e; omega), by omega⟩
    have hrb := HR.out.below keeps_u8 hb5 (Nat.le_refl _)
    have hrb2 := rsl_take (k := l.length) hrb (by omega)
    have hcx := fun nq => conv_str (P := Try.prog) (w4.drewN nq) 24 9 5 A3 l.length l.length _ Try.underlying24 Try.underlying5 Try.underlying9 hrx
    have hcb := fun nq => conv_str (P := Try.prog) (w4.drewN nq) 24 9 5 A l.length cap _ Try.underlying24 Try.underlying5 Try.underlying9 hrb2
    have hKl : l.length ≤ l.length := by omega
    clear hKl
    clear hrx hrb hrb2 hpg hp4 hown3 hp3 hw4 HD hb4 hb5 hlt2
    go_wp2_with fail
    go_quiet (fail)
    have hR1 := hR.keep (w' := w4.drewN nq) ⟨rfl, rfl, rfl, Nat.le_refl _, fun _ _ _ => rfl⟩
    clear hcx hcb hR
    generalize w4.drewN nq = w5 at *
    go_wp2_with fail
    go_loopw [10] (fun j wr => ∃ i : Nat, i ≤ l.length ∧ j = .int .i64 i ∧ OwnR w w2 p l.length l A2 A3 cap3 wr) (fun j _ => l.length - (intOf j).toNat)
    case atStart => exact ⟨0, Nat.zero_le _, rfl, hR1⟩
    case round =>
      clear hR1
      obtain ⟨i, hi, rfl, hR⟩ := hrel
      by_cases hlt : i < l.length
      · obtain ⟨g, off, v, rfl, hc, hv, hf, hset⟩ := hR.taken hlt
        have HS := hide (hset ((v + 1) % 256) (Nat.mod_lt _ (by omega)))
        have HR5 := hide hR
        clear hset hR
        go_wp2_with fail
        go_roundw
        case rel => exact ⟨i + 1, by omega, by go_num, HS.out⟩
        case measure => simp [intOf]; omega
      · obtain ⟨hno, olds, hol, hoc⟩ := hR.olds
        have hck : (∀ o, OwnR w w2 p l.length l A2 A3 cap3 (wr.alloc o)) := fun o => hR.keep (World.grownBy_alloc _ _ _)
        obtain ⟨i0, hi0, hz0, hz1, hz2⟩ := info_parts sl8.info
        have HN := hide hno
        have hocA : ∀ o b, A3 = some b → ∀ j u, olds[j]? = some u → (wr.alloc o).cell? (b.add j) = some u := fun o b hb j u hu => (World.cell?_alloc_lt wr _ _ (block_lt (hoc b hb j u hu))).trans (hoc b hb j u hu)
        have HOA := hide hocA
        have HCK := hide hck
        clear hR hck hocA hoc hno
        go_wp2_with (first | (at_builtin; go_must (refine wpList_append_grows _ rfl (.tmp 55) (.tmp 56) _ rfl 5 i0 _ 1 1 sl8.under hi0 hz0 hz1 hz2 rfl (by omega) A3 l.length l.length olds rfl (fun h => ⟨HN.out h, HN.out h⟩) hol (HOA.out _) ⟨wr.heap.size, 0, none⟩ 1 1 [.int .u8 9] rfl rfl ?_ (by simp [Value.oneCell']) (by omega) (by simp only [maxLen]; omega) (by omega) ?_); rotate_right; intro v8 w8 hown8 hg8))
        rotate_right
        · intro j u hu
          rw [addr_add]
          have := cells_new wr [.int .u8 9] 5
          obtain ⟨b, off, e, hh⟩ := this (by simp)
          injection e with e
          injection e with e1 e2
          subst e1 e2
          exact hh j u hu
        have hR8 := (HCK.out _).keep hg8
        obtain ⟨A8, cap8, rfl, hcap8, _⟩ := own_slice hown8
        clear hown8 hg8 HCK HN HOA hol
        go_wp2_with fail
        go_loopw [11] (fun j wr => ∃ i : Nat, i ≤ l.length ∧ j = .int .i64 i ∧ OwnR w w2 p l.length l A2 A3 cap3 wr) (fun j _ => l.length - (intOf j).toNat)
        case atStart => exact ⟨0, Nat.zero_le _, rfl, hR8⟩
        case round =>
          clear hR8
          obtain ⟨i2, hi2, rfl, hR⟩ := hrel
          by_cases hlt2 : i2 < l.length
          · obtain ⟨g, v, rfl, hc, hf, hset⟩ := hR.handed hlt2
            have HS := hide (hset (.int .u8 7))
            have HR5 := hide hR
            clear hset hR
            go_wp2_with fail
            go_roundw
            case rel => exact ⟨i2 + 1, by omega, by go_num, HS.out⟩
            case measure => simp [intOf]; omega
          · have hct := hR.left
            have hb := hR.below
            have hbs := hR.base
            have hcb : ∀ (A' : Option Addr) (c' : Nat) (W : World), (convert 24 9 (.slice A' 0 c')).run Try.prog W = .ok (.string (str [])) W := fun A' c' W =>
              conv_str (P := Try.prog) W 24 9 5 A' 0 c' [] Try.underlying24 Try.underlying5 Try.underlying9 ⟨A', c', rfl, Nat.zero_le _, fun h => absurd rfl h⟩
            rw [List.drop_length] at hct
            have HBY := hide (bytes_any wr.drew w2.heap.size p [] 0 0 hct (by simp))
            rw [show cut [] 0 0 (decide ((0 : Int) ≤ 0)) = ([], 0, []) by decide] at HBY
            have HLT := hide (show Calls Try.prog 23 #[.pointer (some ⟨p, 0, none⟩)] wr.drew fun r w' => r = .returned (.int .i64 0) ∧ wr.drew = w' from CutAt.left (w := wr.drew) hct)
            have hk1 : Below w.heap.size w wr.drew := hb.drew
            have HCT := hide hct
            clear hR hct hb
            rcases Decidable.em (cap = l.length) with hcc | hcc
            · subst hcc
              go_upto_region 24 with fail
              all_goals go_region_held3 (fun w' => Below w.heap.size w w' ∧ True) ((first | exact ⟨hk1, trivial⟩ | exact ⟨below_row hk1 hg9 (Nat.le_trans hbs HCT.out.1) hk1.size, trivial⟩))
                  (first | (go_at_call 23; refine HLT.out.mono ?_; rintro e w' ⟨rfl, rfl⟩) | (go_at_call 20; refine HBY.out.mono ?_; rintro r w9 ⟨v9, rfl, hc9, hr9, hg9⟩; obtain ⟨A9, cap9, rfl, _, _⟩ := own_rsl hr9) | (go_at_call 24; refine hc9.err.mono ?_; rintro e w' ⟨rfl, rfl⟩))
              all_goals go_wp2_with fail
              all_goals go_ret
              all_goals exact ⟨by rw [wrap_i64_in _ (by omega) (by omega)]; simp, below_row hk1 hg9 (Nat.le_trans hbs HCT.out.1) hk1.size⟩
            go_upto_region 24 with fail
            all_goals go_region_held3 (fun w' => Below w.heap.size w w' ∧ True) ((first | exact ⟨hk1, trivial⟩ | exact ⟨below_row hk1 hg9 (Nat.le_trans hbs HCT.out.1) hk1.size, trivial⟩))
                (first | (go_at_call 23; refine HLT.out.mono ?_; rintro e w' ⟨rfl, rfl⟩) | (go_at_call 20; refine HBY.out.mono ?_; rintro r w9 ⟨v9, rfl, hc9, hr9, hg9⟩; obtain ⟨A9, cap9, rfl, _, _⟩ := own_rsl hr9) | (go_at_call 24; refine hc9.err.mono ?_; rintro e w' ⟨rfl, rfl⟩))
            all_goals go_wp2_with fail
            all_goals go_ret
            all_goals exact ⟨by rw [wrap_i64_in _ (by omega) (by omega)]; simp, below_row hk1 hg9 (Nat.le_trans hbs HCT.out.1) hk1.size⟩
  · by_cases heq : z = l.length
    · subst heq
      go_wp2_with fail
      refine (bytes_at w3 p A3 l.length cap3 l.length hp3 (by omega) hcap3 (by omega)).mono ?_
      rintro r w4 ⟨rfl, hw4⟩
      have hpg : w3.grownBy w4 (some p) := by rw [← hw4]; exact grown_set _
      have hp4 := heap_set (i := 0) (.slice (if cap3 = l.length then A3 else A3.map (·.add l.length)) (l.length - l.length) (cap3 - l.length)) hp3
      rw [hw4] at hp4
      simp only [List.setIfInBounds_toArray, List.set_cons_zero] at hp4
      have hfit := take_fits (A' := (if cap3 = l.length then A3 else A3.map (·.add l.length))) hbp hp3 hcap3 HD.out (k := l.length) (by omega) (by by_cases h : cap3 = l.length; exact .inl ⟨h, by simp [h]⟩; exact .inr (by simp [h]))
      rw [hw4, show cut l 0 ((l.length : Nat) : Int) true = (l.drop l.length, 0, l.take l.length) by simp [cut]; try omega] at hfit
      obtain ⟨_, hv, _, hrx, _⟩ := hfit
      injection hv with hv
      subst hv
      simp only at hrx
      have hb5 := below_row hb4 hpg (Nat.le_trans hsz hbp) hb4.size
      have hR : OwnR w w2 p l.length l A2 A3 cap3 w4 := by
        refine ⟨hp4, fun hn => ?_, fun hn => ?_, hb5, hsz, hbp, hcap3, by omega⟩
        · obtain ⟨g, off, cur, h1, h2, h3, h4⟩ := HD.out hn
          refine ⟨g, off, cur, h1, h2, heap_grown hpg h3 (fun e => ?_), fun j hj _ => h4 j hj, fun j hj => ⟨(l[j]'(by omega)).toNat, (l[j]'(by omega)).toNat_lt, h4 j (by omega)⟩⟩
          injection e with e
          rw [← e, hp3] at h3
          injection h3 with h3
          injection h3 with _ h3 _
          exact absurd h3 (by decide)
        · rcases hown3.2 with ⟨_, h0⟩ | ⟨g, cap', cur, hv', hbg, hh, hnc, _, hcs, _⟩
          · exact absurd (List.eq_nil_of_length_eq_zero h0) hn
          · injection hv' with e1 _ _
            have := (hlt2 g (by rw [e1]; rfl)).2
            exact ⟨g, cur, e1, hbg, this, heap_grown hpg hh (fun e => by injection e; omega), by omega⟩
      have hrb := HR.out.below keeps_u8 hb5 (Nat.le_refl _)
      have hrb2 := rsl_take (k := l.length) hrb (by omega)
      have hcx := fun nq => conv_str (P := Try.prog) (w4.drewN nq) 24 9 5 A3 l.length l.length _ Try.underlying24 Try.underlying5 Try.underlying9 hrx
      have hcb := fun nq => conv_str (P := Try.prog) (w4.drewN nq) 24 9 5 A l.length cap _ Try.underlying24 Try.underlying5 Try.underlying9 hrb2
      have hKl : l.length ≤ l.length := by omega
      clear hKl
      clear hrx hrb hrb2 hpg hp4 hown3 hp3 hw4 HD hb4 hb5 hlt2
      go_wp2_with fail
      go_quiet (fail)
      have hR1 := hR.keep (w' := w4.drewN nq) ⟨rfl, rfl, rfl, Nat.le_refl _, fun _ _ _ => rfl⟩
      clear hcx hcb hR
      generalize w4.drewN nq = w5 at *
      go_wp2_with fail
      go_loopw [10] (fun j wr => ∃ i : Nat, i ≤ l.length ∧ j = .int .i64 i ∧ OwnR w w2 p l.length l A2 A3 cap3 wr) (fun j _ => l.length - (intOf j).toNat)
      case atStart => exact ⟨0, Nat.zero_le _, rfl, hR1⟩
      case round =>
        clear hR1
        obtain ⟨i, hi, rfl, hR⟩ := hrel
        by_cases hlt : i < l.length
        · obtain ⟨g, off, v, rfl, hc, hv, hf, hset⟩ := hR.taken hlt
          have HS := hide (hset ((v + 1) % 256) (Nat.mod_lt _ (by omega)))
          have HR5 := hide hR
          clear hset hR
          go_wp2_with fail
          go_roundw
          case rel => exact ⟨i + 1, by omega, by go_num, HS.out⟩
          case measure => simp [intOf]; omega
        · obtain ⟨hno, olds, hol, hoc⟩ := hR.olds
          have hck : (∀ o, OwnR w w2 p l.length l A2 A3 cap3 (wr.alloc o)) := fun o => hR.keep (World.grownBy_alloc _ _ _)
          obtain ⟨i0, hi0, hz0, hz1, hz2⟩ := info_parts sl8.info
          have HN := hide hno
          have hocA : ∀ o b, A3 = some b → ∀ j u, olds[j]? = some u → (wr.alloc o).cell? (b.add j) = some u := fun o b hb j u hu => (World.cell?_alloc_lt wr _ _ (block_lt (hoc b hb j u hu))).trans (hoc b hb j u hu)
          have HOA := hide hocA
          have HCK := hide hck
          clear hR hck hocA hoc hno
          go_wp2_with (first | (at_builtin; go_must (refine wpList_append_grows _ rfl (.tmp 55) (.tmp 56) _ rfl 5 i0 _ 1 1 sl8.under hi0 hz0 hz1 hz2 rfl (by omega) A3 l.length l.length olds rfl (fun h => ⟨HN.out h, HN.out h⟩) hol (HOA.out _) ⟨wr.heap.size, 0, none⟩ 1 1 [.int .u8 9] rfl rfl ?_ (by simp [Value.oneCell']) (by omega) (by simp only [maxLen]; omega) (by omega) ?_); rotate_right; intro v8 w8 hown8 hg8))
          rotate_right
          · intro j u hu
            rw [addr_add]
            have := cells_new wr [.int .u8 9] 5
            obtain ⟨b, off, e, hh⟩ := this (by simp)
            injection e with e
            injection e with e1 e2
            subst e1 e2
            exact hh j u hu
          have hR8 := (HCK.out _).keep hg8
          obtain ⟨A8, cap8, rfl, hcap8, _⟩ := own_slice hown8
          clear hown8 hg8 HCK HN HOA hol
          go_wp2_with fail
          go_loopw [11] (fun j wr => ∃ i : Nat, i ≤ l.length ∧ j = .int .i64 i ∧ OwnR w w2 p l.length l A2 A3 cap3 wr) (fun j _ => l.length - (intOf j).toNat)
          case atStart => exact ⟨0, Nat.zero_le _, rfl, hR8⟩
          case round =>
            clear hR8
            obtain ⟨i2, hi2, rfl, hR⟩ := hrel
            by_cases hlt2 : i2 < l.length
            · obtain ⟨g, v, rfl, hc, hf, hset⟩ := hR.handed hlt2
              have HS := hide (hset (.int .u8 7))
              have HR5 := hide hR
              clear hset hR
              go_wp2_with fail
              go_roundw
              case rel => exact ⟨i2 + 1, by omega, by go_num, HS.out⟩
              case measure => simp [intOf]; omega
            · have hct := hR.left
              have hb := hR.below
              have hbs := hR.base
              have hcb : ∀ (A' : Option Addr) (c' : Nat) (W : World), (convert 24 9 (.slice A' 0 c')).run Try.prog W = .ok (.string (str [])) W := fun A' c' W =>
                conv_str (P := Try.prog) W 24 9 5 A' 0 c' [] Try.underlying24 Try.underlying5 Try.underlying9 ⟨A', c', rfl, Nat.zero_le _, fun h => absurd rfl h⟩
              rw [List.drop_length] at hct
              have HBY := hide (bytes_any wr.drew w2.heap.size p [] 0 0 hct (by simp))
              rw [show cut [] 0 0 (decide ((0 : Int) ≤ 0)) = ([], 0, []) by decide] at HBY
              have HLT := hide (show Calls Try.prog 23 #[.pointer (some ⟨p, 0, none⟩)] wr.drew fun r w' => r = .returned (.int .i64 0) ∧ wr.drew = w' from CutAt.left (w := wr.drew) hct)
              have hk1 : Below w.heap.size w wr.drew := hb.drew
              have HCT := hide hct
              clear hR hct hb
              rcases Decidable.em (cap = l.length) with hcc | hcc
              · subst hcc
                go_upto_region 24 with fail
                all_goals go_region_held3 (fun w' => Below w.heap.size w w' ∧ True) ((first | exact ⟨hk1, trivial⟩ | exact ⟨below_row hk1 hg9 (Nat.le_trans hbs HCT.out.1) hk1.size, trivial⟩))
                    (first | (go_at_call 23; refine HLT.out.mono ?_; rintro e w' ⟨rfl, rfl⟩) | (go_at_call 20; refine HBY.out.mono ?_; rintro r w9 ⟨v9, rfl, hc9, hr9, hg9⟩; obtain ⟨A9, cap9, rfl, _, _⟩ := own_rsl hr9) | (go_at_call 24; refine hc9.err.mono ?_; rintro e w' ⟨rfl, rfl⟩))
                all_goals go_wp2_with fail
                all_goals go_ret
                all_goals exact ⟨by rw [wrap_i64_in _ (by omega) (by omega)]; simp, below_row hk1 hg9 (Nat.le_trans hbs HCT.out.1) hk1.size⟩
              go_upto_region 24 with fail
              all_goals go_region_held3 (fun w' => Below w.heap.size w w' ∧ True) ((first | exact ⟨hk1, trivial⟩ | exact ⟨below_row hk1 hg9 (Nat.le_trans hbs HCT.out.1) hk1.size, trivial⟩))
                  (first | (go_at_call 23; refine HLT.out.mono ?_; rintro e w' ⟨rfl, rfl⟩) | (go_at_call 20; refine HBY.out.mono ?_; rintro r w9 ⟨v9, rfl, hc9, hr9, hg9⟩; obtain ⟨A9, cap9, rfl, _, _⟩ := own_rsl hr9) | (go_at_call 24; refine hc9.err.mono ?_; rintro e w' ⟨rfl, rfl⟩))
              all_goals go_wp2_with fail
              all_goals go_ret
              all_goals exact ⟨by rw [wrap_i64_in _ (by omega) (by omega)]; simp, below_row hk1 hg9 (Nat.le_trans hbs HCT.out.1) hk1.size⟩
    · have hlt0 : z < l.length := by omega
      go_wp2_with fail
      refine (bytes_at w3 p A3 l.length cap3 z hp3 (by omega) hcap3 (by omega)).mono ?_
      rintro r w4 ⟨rfl, hw4⟩
      have hpg : w3.grownBy w4 (some p) := by rw [← hw4]; exact grown_set _
      have hp4 := heap_set (i := 0) (.slice (if cap3 = z then A3 else A3.map (·.add z)) (l.length - z) (cap3 - z)) hp3
      rw [hw4] at hp4
      simp only [List.setIfInBounds_toArray, List.set_cons_zero] at hp4
      have hfit := take_fits (A' := (if cap3 = z then A3 else A3.map (·.add z))) hbp hp3 hcap3 HD.out (k := z) (by omega) (by by_cases h : cap3 = z; exact .inl ⟨h, by simp [h]⟩; exact .inr (by simp [h]))
      rw [hw4, show cut l 0 ((z : Nat) : Int) true = (l.drop z, 0, l.take z) by simp [cut]; try omega] at hfit
      obtain ⟨_, hv, _, hrx, _⟩ := hfit
      injection hv with hv
      subst hv
      simp only at hrx
      have hb5 := below_row hb4 hpg (Nat.le_trans hsz hbp) hb4.size
      have hR : OwnR w w2 p z l A2 A3 cap3 w4 := by
        refine ⟨hp4, fun hn => ?_, fun hn => ?_, hb5, hsz, hbp, hcap3, by omega⟩
        · obtain ⟨g, off, cur, h1, h2, h3, h4⟩ := HD.out hn
          refine ⟨g, off, cur, h1, h2, heap_grown hpg h3 (fun e => ?_), fun j hj _ => h4 j hj, fun j hj => ⟨(l[j]'(by omega)).toNat, (l[j]'(by omega)).toNat_lt, h4 j (by omega)⟩⟩
          injection e with e
          rw [← e, hp3] at h3
          injection h3 with h3
          injection h3 with _ h3 _
          exact absurd h3 (by decide)
        · rcases hown3.2 with ⟨_, h0⟩ | ⟨g, cap', cur, hv', hbg, hh, hnc, _, hcs, _⟩
          · exact absurd (List.eq_nil_of_length_eq_zero h0) hn
          · injection hv' with e1 _ _
            have := (hlt2 g (by rw [e1]; rfl)).2
            exact ⟨g, cur, e1, hbg, this, heap_grown hpg hh (fun e => by injection e; omega), by omega⟩
      have hrb := HR.out.below keeps_u8 hb5 (Nat.le_refl _)
      have hrb2 := rsl_take (k := z) hrb (by omega)
      have hcx := fun nq => conv_str (P := Try.prog) (w4.drewN nq) 24 9 5 A3 z z _ Try.underlying24 Try.underlying5 Try.underlying9 hrx
      have hcb := fun nq => conv_str (P := Try.prog) (w4.drewN nq) 24 9 5 A z cap _ Try.underlying24 Try.underlying5 Try.underlying9 hrb2
      have hKl : z ≤ l.length := by omega
      skip
      clear hrx hrb hrb2 hpg hp4 hown3 hp3 hw4 HD hb4 hb5 hlt2
      go_wp2_with fail
      go_quiet (fail)
      have hR1 := hR.keep (w' := w4.drewN nq) ⟨rfl, rfl, rfl, Nat.le_refl _, fun _ _ _ => rfl⟩
      clear hcx hcb hR
      generalize w4.drewN nq = w5 at *
      go_wp2_with fail
      go_loopw [10] (fun j wr => ∃ i : Nat, i ≤ z ∧ j = .int .i64 i ∧ OwnR w w2 p z l A2 A3 cap3 wr) (fun j _ => z - (intOf j).toNat)
      case atStart => exact ⟨0, Nat.zero_le _, rfl, hR1⟩
      case round =>
        clear hR1
        obtain ⟨i, hi, rfl, hR⟩ := hrel
        by_cases hlt : i < z
        · obtain ⟨g, off, v, rfl, hc, hv, hf, hset⟩ := hR.taken hlt
          have HS := hide (hset ((v + 1) % 256) (Nat.mod_lt _ (by omega)))
          have HR5 := hide hR
          clear hset hR
          go_wp2_with fail
          go_roundw
          case rel => exact ⟨i + 1, by omega, by go_num, HS.out⟩
          case measure => simp [intOf]; omega
        · obtain ⟨hno, olds, hol, hoc⟩ := hR.olds
          have hck : (∀ o, OwnR w w2 p z l A2 A3 cap3 (wr.alloc o)) := fun o => hR.keep (World.grownBy_alloc _ _ _)
          obtain ⟨i0, hi0, hz0, hz1, hz2⟩ := info_parts sl8.info
          have HN := hide hno
          have hocA : ∀ o b, A3 = some b → ∀ j u, olds[j]? = some u → (wr.alloc o).cell? (b.add j) = some u := fun o b hb j u hu => (World.cell?_alloc_lt wr _ _ (block_lt (hoc b hb j u hu))).trans (hoc b hb j u hu)
          have HOA := hide hocA
          have HCK := hide hck
          clear hR hck hocA hoc hno
          go_wp2_with (first | (at_builtin; go_must (refine wpList_append_grows _ rfl (.tmp 55) (.tmp 56) _ rfl 5 i0 _ 1 1 sl8.under hi0 hz0 hz1 hz2 rfl (by omega) A3 z z olds rfl (fun h => ⟨HN.out h, HN.out h⟩) hol (HOA.out _) ⟨wr.heap.size, 0, none⟩ 1 1 [.int .u8 9] rfl rfl ?_ (by simp [Value.oneCell']) (by omega) (by simp only [maxLen]; omega) (by omega) ?_); rotate_right; intro v8 w8 hown8 hg8))
          rotate_right
          · intro j u hu
            rw [addr_add]
            have := cells_new wr [.int .u8 9] 5
            obtain ⟨b, off, e, hh⟩ := this (by simp)
            injection e with e
            injection e with e1 e2
            subst e1 e2
            exact hh j u hu
          have hR8 := (HCK.out _).keep hg8
          obtain ⟨A8, cap8, rfl, hcap8, _⟩ := own_slice hown8
          clear hown8 hg8 HCK HN HOA hol
          go_wp2_with fail
          go_loopw [11] (fun j wr => ∃ i : Nat, i ≤ l.length ∧ j = .int .i64 i ∧ OwnR w w2 p z l A2 A3 cap3 wr) (fun j _ => l.length - (intOf j).toNat)
          case atStart => exact ⟨0, Nat.zero_le _, rfl, hR8⟩
          case round =>
            clear hR8
            obtain ⟨i2, hi2, rfl, hR⟩ := hrel
            by_cases hlt2 : i2 < l.length
            · obtain ⟨g, v, rfl, hc, hf, hset⟩ := hR.handed hlt2
              have HS := hide (hset (.int .u8 7))
              have HR5 := hide hR
              clear hset hR
              go_wp2_with fail
              go_roundw
              case rel => exact ⟨i2 + 1, by omega, by go_num, HS.out⟩
              case measure => simp [intOf]; omega
            · have hct := hR.left
              have hb := hR.below
              have hbs := hR.base
              have hck : ¬ cap = z := by omega
              have hrd := rsl_drop (k := z) HR.out hKl
              rw [if_neg hck, Nat.mul_one] at hrd
              have hcb := fun (W : World) (h : Below w.heap.size w W) => conv_str (P := Try.prog) W 24 9 5 (A.map (·.add z)) (l.length - z) (cap - z) (l.drop z) Try.underlying24 Try.underlying5 Try.underlying9 (hrd.keep (w' := W) keeps_u8 h)
              have hcu := hR.cut
              rw [if_neg (by omega)] at hcu
              obtain ⟨hr1, hr2⟩ := hR.rest hlt0
              generalize A3.map (·.add z) = AA at *
              have hcd := fun (W : World) (h : RSl 1 RU8 W (l.drop z) (.slice AA (l.length - z) (l.length - z))) => conv_str (P := Try.prog) W 24 9 5 AA (l.length - z) (l.length - z) (l.drop z) Try.underlying24 Try.underlying5 Try.underlying9 h
              have hk1 : Below w.heap.size w wr.drew := hb.drew
              have HLT := hide (left_at p AA (l.length - z) (cap3 - z) wr.drew (cell_block (w := wr.drew) hcu 0))
              have HBY := hide ((bytes_at wr.drew p AA (l.length - z) (cap3 - z) (l.length - z) hcu (Nat.le_refl _) (by omega) (by omega)).mono (fun (e : Ending) (W' : World) (h : e = _ ∧ _ = W') => (show e = .returned (.slice AA (l.length - z) (l.length - z)) ∧ ∃ u, wr.drew.setCell ⟨p, 0, none⟩ u = W' from ⟨h.1, _, h.2⟩)))
              have HER := hide (fun (u : Value) => err_at p 0 (wr.drew.setCell ⟨p, 0, none⟩ u) (by rw [cell_block (heap_set (w := wr.drew) (i := 0) u hcu)]; rfl))
              have HR1 := hide hr1; have HR2 := hide hr2
              clear hR hct hb hrd hcu hr1 hr2
              generalize l.drop z = d at *
              go_upto_region 24 with fail
              go_region_held3 (fun w' => Below w.heap.size w w' ∧ RSl 1 RU8 w' d (.slice AA (l.length - z) (l.length - z))) ((first | exact ⟨hk1, HR1.out⟩ | exact ⟨hk1.setCell (p := ⟨p, 0, none⟩) (Nat.le_trans hbs hbp) _, HR2.out _⟩))
                  (first | (go_at_call 23; refine HLT.out.mono ?_; rintro e w' ⟨rfl, rfl⟩) | (go_at_call 20; refine HBY.out.mono ?_; rintro r w9 ⟨rfl, u, rfl⟩) | (go_at_call 24; refine (HER.out _).mono ?_; rintro e w' ⟨rfl, rfl⟩))
              all_goals go_wp2_with fail
              all_goals go_ret
              all_goals exact ⟨by rw [wrap_i64_in _ (by omega) (by omega)]; simp, hk1.setCell (p := ⟨p, 0, none⟩) (Nat.le_trans hbs hbp) _⟩
end Go.Proofs.Ytlfomilalkkbeaa
