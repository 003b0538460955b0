/- Items in memory; the tests of the ext package; a search by a test. -/
import Derived.Test.YtkbdbandeioibaaPart
import Derived.Laws.BitsAll
namespace Go.Proofs.Ytkbdbandeioibaa
open Go.RowKit
set_option linter.unusedVariables false

/-- an item: its id, its data -/
abbrev It := UInt8 × List UInt8
def RItem : Rd It := fun w x cs => ∃ v, cs = [.int .u8 x.1.toNat, v] ∧ RSl 1 RU8 w x.2 v
theorem keeps_item : Keeps RItem := fun w w' x cs ⟨v, h1, h2⟩ hb => ⟨v, h1, h2.keep keeps_u8 hb⟩

def smallN (i n : Nat) : Bool := decide (1 ≤ i) && (decide (i < 15) && (decide (1 ≤ n) && decide (n ≤ 16)))
def smallB (x : It) : Bool := smallN x.1.toNat x.2.length
def badN (i n : Nat) : Bool := decide (i = 0) || decide (255 < n)
def badB (x : It) : Bool := badN x.1.toNat x.2.length
def bigB (x : It) : Bool := !smallB x

set_option maxHeartbeats 1000000 in
theorem small_any (i n : Nat) (A : Option Addr) (cap : Nat) (w : World) : Calls Try.prog 37 #[.agg #[.int .u8 i, .slice A n cap]] w (Gives w (.bool (smallN i n))) := by
  have hb := (Below.refl w.heap.size w).alloc (Nat.le_refl _) (.cells #[.int .u8 i, .slice A n cap] 46)
  have HB := hide hb
  clear hb
  have hS : ∀ b : Bool, (b = true ↔ (1 ≤ i ∧ i < 15 ∧ 1 ≤ n ∧ n ≤ 16)) → b = smallN i n := fun b h => by
    rw [Bool.eq_iff_iff, h]; simp [smallN]
  have HS := hide hS
  clear hS
  go_enter Try.func37, Try.ntmps37
  go_wp2
  all_goals
    go_ret
    refine ⟨congrArg (fun b => Ending.returned (.bool b)) (HS.out _ ?_), HB.out⟩
    simp
    omega

theorem put1_any (i n : Nat) (A : Option Addr) (cap : Nat) (w : World) : Calls Try.prog 35 #[.agg #[.int .u8 i, .slice A n cap]] w (Gives w (.bool (badN i n))) := by
  have HB := hide ((Below.refl w.heap.size w).alloc (Nat.le_refl _) (.cells #[.int .u8 i, .slice A n cap] 46))
  by_cases h1 : i = 0
  · subst h1
    go_enter Try.func35, Try.ntmps35
    go_wp2
    go_ret
    exact ⟨rfl, HB.out⟩
  · have hi : ((i : Int) == 0) = false := by rw [beq_eq_false_iff_ne]; omega
    have HS := hide (show badN i n = decide (255 < (n : Int)) by simp [badN, h1]; omega)
    clear h1
    go_enter Try.func35, Try.ntmps35
    go_wp2
    go_ret
    exact ⟨by rw [HS.out]; rfl, HB.out⟩

theorem put2_any (i n : Nat) (A : Option Addr) (cap : Nat) (w : World) : Calls Try.prog 36 #[.agg #[.int .u8 i, .slice A n cap]] w (Gives w (.bool (!smallN i n))) := by
  go_enter Try.func36, Try.ntmps36
  go_wp2_with fail
  refine (small_any _ _ _ _ _).mono ?_
  rintro r w2 ⟨rfl, hb2⟩
  go_wp2_with fail
  go_ret
  exact ⟨rfl, ((Le.refl w).alloc _ |>.trans ⟨hb2⟩).out⟩

def idB (i : Nat) (x : It) : Bool := decide (x.1.toNat = i)
theorem find1_any (i j n p : Nat) (A : Option Addr) (cap : Nat) (w : World) (hp : w.cell? ⟨p, 0, none⟩ = some (.int .u8 (j : Nat))) : Calls Try.prog 46 #[.agg #[.int .u8 i, .slice A n cap], .pointer (some ⟨p, 0, none⟩)] w (Gives w (.bool (decide (i = j)))) := by
  have HB := hide ((Below.refl w.heap.size w).alloc (Nat.le_refl _) (.cells #[.int .u8 i, .slice A n cap] 46))
  have hp' : (w.alloc (.cells #[.int .u8 i, .slice A n cap] 46)).cell? ⟨p, 0, none⟩ = some (.int .u8 (j : Nat)) := by rw [World.cell?_alloc_lt w _ _ (block_lt hp), hp]
  have HS := hide (show ((i : Int) == (j : Int)) = decide (i = j) by rw [Bool.eq_iff_iff, beq_iff_eq, decide_eq_true_eq]; omega)
  go_enter Try.func46, Try.ntmps46
  go_wp2
  go_ret
  exact ⟨by rw [← HS.out]; rfl, HB.out⟩

/-- where the first one lies that passes -/
def idx (p : It → Bool) (l : List It) : Int := if l.findIdx p < l.length then (l.findIdx p : Nat) else -1
theorem idx_eq (p : It → Bool) (l : List It) (k : Nat) (hk : k < l.length) (h : p l[k] = true) (hn : ∀ i (h : i < l.length), i < k → p l[i] = false) : idx p l = k := by
  have e : l.findIdx p = k := (List.findIdx_eq hk).2 ⟨h, fun j hj => hn j (by omega) hj⟩
  rw [idx, e, if_pos hk]
theorem idx_none (p : It → Bool) (l : List It) (hn : ∀ i (h : i < l.length), p l[i] = false) : idx p l = -1 := by
  rw [idx, if_neg]
  intro h
  have := List.findIdx_getElem (w := h)
  rw [hn _ h] at this
  cases this
theorem idx_any (p : It → Bool) (l : List It) : (decide (0 ≤ idx p l)) = l.any p := by
  rw [Bool.eq_iff_iff, decide_eq_true_eq, List.any_eq_true]
  unfold idx
  by_cases h : l.findIdx p < l.length
  · rw [if_pos h]
    exact ⟨fun _ => ⟨l[l.findIdx p], List.getElem_mem h, List.findIdx_getElem (w := h)⟩, fun _ => by omega⟩
  · rw [if_neg h]
    exact ⟨fun h' => by omega, fun ⟨x, hx, hp⟩ => absurd (List.findIdx_lt_length.2 ⟨x, hx, hp⟩) h⟩

set_option maxHeartbeats 1000000 in
theorem index1 (l : List It) (A : Option Addr) (n cap : Nat) (w : World) (hr : RSl 2 RItem w l (.slice A n cap)) (hl : l.length ≤ 100000) :
    Calls Try.prog 45 #[.slice A n cap, .func (.func 35) #[] #[]] w (Gives w (.int .i64 (idx badB l))) := by
  obtain ⟨A', cap', hv, hcap, hi⟩ := hr
  injection hv with e1 e2 e3
  subst e1 e2 e3
  have HI := hide hi
  clear hi
  go_enter Try.func45, Try.ntmps45
  go_wp2_with fail
  go_loopw [8] (fun j wr => ∃ k : Nat, k ≤ l.length ∧ j = .int .i64 k ∧ Hd (∀ i (h : i < l.length), i < k → badB l[i] = false) ∧ Le w wr) (fun j _ => l.length - (intOf j).toNat)
  case atStart => exact ⟨0, Nat.zero_le _, rfl, hide (fun i _ h => by omega), Le.refl _⟩
  case round =>
    obtain ⟨k, hk, rfl, HN, hle⟩ := hrel
    by_cases hlt : k < l.length
    · obtain ⟨b, off, rfl, hg⟩ := HI.out (by rintro rfl; simp at hlt)
      obtain ⟨cs, _, hc, v, hcs, hv⟩ := hg k hlt
      subst hcs
      obtain ⟨A1, cp1, hv1, _⟩ := id hv
      subst hv1
      have c0 := hle.cell (show w.cell? ⟨b, off + k * 2, none⟩ = some (.int .u8 (l[k].1.toNat : Nat)) from hc 0 (by omega))
      have c1 := hle.cell (show w.cell? ⟨b, off + k * 2 + 1, none⟩ = some (.slice A1 l[k].2.length cp1) from hc 1 (by omega))
      have HX := hide (fun (h : badB l[k] = false) => (hide (show ∀ i (h : i < l.length), i < k + 1 → badB l[i] = false from fun i hi h' => by
        by_cases e : i = k
        · subst e; exact h
        · exact HN.out i hi (by omega))))
      have HY := hide (fun (h : badB l[k] = true) => idx_eq badB l k hlt h HN.out)
      generalize l[k] = x at *
      obtain ⟨xi, xd⟩ := x
      simp only at c0 c1
      have HLE := hide hle
      clear hc hg hv
      have hltI : (k : Int) < (l.length : Int) := by omega
      have hf := fun W => put1_any xi.toNat xd.length A1 cp1 W
      rw [show badN xi.toNat xd.length = badB (xi, xd) from rfl] at hf
      go_wp2_with fail
      refine (hf _).mono ?_
      rintro r w2 ⟨rfl, hb2⟩
      have hl2 := HLE.out.trans ⟨hb2⟩
      clear hb2 c0 c1 hle hf
      cases hp : badB (xi, xd) with
      | true =>
        have HE := hide (HY.out hp)
        clear hp
        go_wp2_with fail
        go_ret
        exact ⟨by rw [HE.out]; rfl, hl2.out⟩
      | false =>
        have HE := HX.out hp
        clear hp
        go_wp2_with fail
        go_roundw
        case rel => exact ⟨k + 1, by omega, by go_num, HE, hl2⟩
        case measure => simp [intOf]; omega
    · have hke : k = l.length := by omega
      have HE := hide (idx_none badB l (fun i h => HN.out i h (by omega)))
      clear hke
      have hltI : ¬ (k : Int) < (l.length : Int) := by omega
      go_wp2_with fail
      go_ret
      exact ⟨by rw [HE.out]; rfl, hle.out⟩

set_option maxHeartbeats 1000000 in
theorem index2 (l : List It) (A : Option Addr) (n cap : Nat) (w : World) (hr : RSl 2 RItem w l (.slice A n cap)) (hl : l.length ≤ 100000) :
    Calls Try.prog 45 #[.slice A n cap, .func (.func 36) #[] #[]] w (Gives w (.int .i64 (idx bigB l))) := by
  obtain ⟨A', cap', hv, hcap, hi⟩ := hr
  injection hv with e1 e2 e3
  subst e1 e2 e3
  have HI := hide hi
  clear hi
  go_enter Try.func45, Try.ntmps45
  go_wp2_with fail
  go_loopw [8] (fun j wr => ∃ k : Nat, k ≤ l.length ∧ j = .int .i64 k ∧ Hd (∀ i (h : i < l.length), i < k → bigB l[i] = false) ∧ Le w wr) (fun j _ => l.length - (intOf j).toNat)
  case atStart => exact ⟨0, Nat.zero_le _, rfl, hide (fun i _ h => by omega), Le.refl _⟩
  case round =>
    obtain ⟨k, hk, rfl, HN, hle⟩ := hrel
    by_cases hlt : k < l.length
    · obtain ⟨b, off, rfl, hg⟩ := HI.out (by rintro rfl; simp at hlt)
      obtain ⟨cs, _, hc, v, hcs, hv⟩ := hg k hlt
      subst hcs
      obtain ⟨A1, cp1, hv1, _⟩ := id hv
      subst hv1
      have c0 := hle.cell (show w.cell? ⟨b, off + k * 2, none⟩ = some (.int .u8 (l[k].1.toNat : Nat)) from hc 0 (by omega))
      have c1 := hle.cell (show w.cell? ⟨b, off + k * 2 + 1, none⟩ = some (.slice A1 l[k].2.length cp1) from hc 1 (by omega))
      have HX := hide (fun (h : bigB l[k] = false) => (hide (show ∀ i (h : i < l.length), i < k + 1 → bigB l[i] = false from fun i hi h' => by
        by_cases e : i = k
        · subst e; exact h
        · exact HN.out i hi (by omega))))
      have HY := hide (fun (h : bigB l[k] = true) => idx_eq bigB l k hlt h HN.out)
      generalize l[k] = x at *
      obtain ⟨xi, xd⟩ := x
      simp only at c0 c1
      have HLE := hide hle
      clear hc hg hv
      have hltI : (k : Int) < (l.length : Int) := by omega
      have hf := fun W => put2_any xi.toNat xd.length A1 cp1 W
      rw [show (!smallN xi.toNat xd.length) = bigB (xi, xd) from rfl] at hf
      go_wp2_with fail
      refine (hf _).mono ?_
      rintro r w2 ⟨rfl, hb2⟩
      have hl2 := HLE.out.trans ⟨hb2⟩
      clear hb2 c0 c1 hle hf
      cases hp : bigB (xi, xd) with
      | true =>
        have HE := hide (HY.out hp)
        clear hp
        go_wp2_with fail
        go_ret
        exact ⟨by rw [HE.out]; rfl, hl2.out⟩
      | false =>
        have HE := HX.out hp
        clear hp
        go_wp2_with fail
        go_roundw
        case rel => exact ⟨k + 1, by omega, by go_num, HE, hl2⟩
        case measure => simp [intOf]; omega
    · have hke : k = l.length := by omega
      have HE := hide (idx_none bigB l (fun i h => HN.out i h (by omega)))
      clear hke
      have hltI : ¬ (k : Int) < (l.length : Int) := by omega
      go_wp2_with fail
      go_ret
      exact ⟨by rw [HE.out]; rfl, hle.out⟩

set_option maxHeartbeats 1000000 in
theorem index3 (l : List It) (A : Option Addr) (n cap : Nat) (w : World) (p ii : Nat) (hp : w.cell? ⟨p, 0, none⟩ = some (.int .u8 (ii : Nat))) (hr : RSl 2 RItem w l (.slice A n cap)) (hl : l.length ≤ 100000) :
    Calls Try.prog 45 #[.slice A n cap, .func (.func 46) #[] #[.pointer (some ⟨p, 0, none⟩)]] w (Gives w (.int .i64 (idx (idB ii) l))) := by
  obtain ⟨A', cap', hv, hcap, hi⟩ := hr
  injection hv with e1 e2 e3
  subst e1 e2 e3
  have HI := hide hi
  clear hi
  have HP := hide hp
  clear hp
  go_enter Try.func45, Try.ntmps45
  go_wp2_with fail
  go_loopw [8] (fun j wr => ∃ k : Nat, k ≤ l.length ∧ j = .int .i64 k ∧ Hd (∀ i (h : i < l.length), i < k → (idB ii) l[i] = false) ∧ Le w wr) (fun j _ => l.length - (intOf j).toNat)
  case atStart => exact ⟨0, Nat.zero_le _, rfl, hide (fun i _ h => by omega), Le.refl _⟩
  case round =>
    obtain ⟨k, hk, rfl, HN, hle⟩ := hrel
    by_cases hlt : k < l.length
    · obtain ⟨b, off, rfl, hg⟩ := HI.out (by rintro rfl; simp at hlt)
      obtain ⟨cs, _, hc, v, hcs, hv⟩ := hg k hlt
      subst hcs
      obtain ⟨A1, cp1, hv1, _⟩ := id hv
      subst hv1
      have c0 := hle.cell (show w.cell? ⟨b, off + k * 2, none⟩ = some (.int .u8 (l[k].1.toNat : Nat)) from hc 0 (by omega))
      have c1 := hle.cell (show w.cell? ⟨b, off + k * 2 + 1, none⟩ = some (.slice A1 l[k].2.length cp1) from hc 1 (by omega))
      have HX := hide (fun (h : (idB ii) l[k] = false) => (hide (show ∀ i (h : i < l.length), i < k + 1 → (idB ii) l[i] = false from fun i hi h' => by
        by_cases e : i = k
        · subst e; exact h
        · exact HN.out i hi (by omega))))
      have HY := hide (fun (h : (idB ii) l[k] = true) => idx_eq (idB ii) l k hlt h HN.out)
      generalize l[k] = x at *
      obtain ⟨xi, xd⟩ := x
      simp only at c0 c1
      have HLE := hide hle
      clear hc hg hv
      have hltI : (k : Int) < (l.length : Int) := by omega
      have hf := fun (W : World) (h : Le w W) => find1_any xi.toNat ii xd.length p A1 cp1 W (h.cell HP.out)
      rw [show decide (xi.toNat = ii) = idB ii (xi, xd) from rfl] at hf
      go_wp2_with fail
      refine (hf _ HLE.out).mono ?_
      rintro r w2 ⟨rfl, hb2⟩
      have hl2 := HLE.out.trans ⟨hb2⟩
      clear hb2 c0 c1 hle hf
      cases hp : (idB ii) (xi, xd) with
      | true =>
        have HE := hide (HY.out hp)
        clear hp
        go_wp2_with fail
        go_ret
        exact ⟨by rw [HE.out]; rfl, hl2.out⟩
      | false =>
        have HE := HX.out hp
        clear hp
        go_wp2_with fail
        go_roundw
        case rel => exact ⟨k + 1, by omega, by go_num, HE, hl2⟩
        case measure => simp [intOf]; omega
    · have hke : k = l.length := by omega
      have HE := hide (idx_none (idB ii) l (fun i h => HN.out i h (by omega)))
      clear hke
      have hltI : ¬ (k : Int) < (l.length : Int) := by omega
      go_wp2_with fail
      go_ret
      exact ⟨by rw [HE.out]; rfl, hle.out⟩

theorem contains1 (l : List It) (A : Option Addr) (n cap : Nat) (w : World) (hr : RSl 2 RItem w l (.slice A n cap)) (hl : l.length ≤ 100000) :
    Calls Try.prog 34 #[.slice A n cap, .func (.func 35) #[] #[]] w (Gives w (.bool (l.any badB))) := by
  have HT := hide (index1 l A n cap w hr hl)
  have HA := hide (idx_any badB l)
  clear hr
  go_enter Try.func34, Try.ntmps34
  go_wp2_with fail
  refine HT.out.mono ?_
  rintro r w2 ⟨rfl, hb2⟩
  go_wp2_with fail
  go_ret
  exact ⟨by rw [HA.out]; rfl, hb2⟩

theorem contains2 (l : List It) (A : Option Addr) (n cap : Nat) (w : World) (hr : RSl 2 RItem w l (.slice A n cap)) (hl : l.length ≤ 100000) :
    Calls Try.prog 34 #[.slice A n cap, .func (.func 36) #[] #[]] w (Gives w (.bool (l.any bigB))) := by
  have HT := hide (index2 l A n cap w hr hl)
  have HA := hide (idx_any bigB l)
  clear hr
  go_enter Try.func34, Try.ntmps34
  go_wp2_with fail
  refine HT.out.mono ?_
  rintro r w2 ⟨rfl, hb2⟩
  go_wp2_with fail
  go_ret
  exact ⟨by rw [HA.out]; rfl, hb2⟩
end Go.Proofs.Ytkbdbandeioibaa
