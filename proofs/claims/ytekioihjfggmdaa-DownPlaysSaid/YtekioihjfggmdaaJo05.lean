/- Texts of one claim, laid together: Ext1 ExtL ExtParL -/
import Derived.Laws.BitsAll
import Derived.Test.YtekioihjfggmdaaJo04
/- Items in memory; the tests of the ext package; a search by a test. -/
namespace Go.Proofs.Ytekioihjfggmdaa
open Go.RowKit
set_option linter.unusedVariables false

/-- an item: its id, its data -/
abbrev It := UInt8 × List UInt8
def RItem : Rd It := fun w x cs => ∃ v, cs = [.int .u8 x.1.toNat, v] ∧ RSl 1 RU8 w x.2 v
theorem keeps_item : Keeps RItem := fun w w' x cs ⟨v, h1, h2⟩ hb => ⟨v, h1, h2.keep keeps_u8 hb⟩

def smallN (i n : Nat) : Bool := decide (1 ≤ i) && (decide (i < 15) && (decide (1 ≤ n) && decide (n ≤ 16)))
def smallB (x : It) : Bool := smallN x.1.toNat x.2.length
def badN (i n : Nat) : Bool := decide (i = 0) || decide (255 < n)
def badB (x : It) : Bool := badN x.1.toNat x.2.length
def bigB (x : It) : Bool := !smallB x

set_option maxHeartbeats 1000000 in
theorem small_any (i n : Nat) (A : Option Addr) (cap : Nat) (w : World) : Calls Try.prog 94 #[.agg #[.int .u8 i, .slice A n cap]] w (Gives w (.bool (smallN i n))) := by
  have hb := (Below.refl w.heap.size w).alloc (Nat.le_refl _) (.cells #[.int .u8 i, .slice A n cap] 86)
  have HB := hide hb
  clear hb
  have hS : ∀ b : Bool, (b = true ↔ (1 ≤ i ∧ i < 15 ∧ 1 ≤ n ∧ n ≤ 16)) → b = smallN i n := fun b h => by
    rw [Bool.eq_iff_iff, h]; simp [smallN]
  have HS := hide hS
  clear hS
  go_enter Try.func94, Try.ntmps94
  go_wp2
  all_goals
    go_ret
    refine ⟨congrArg (fun b => Ending.returned (.bool b)) (HS.out _ ?_), HB.out⟩
    simp
    omega

theorem put1_any (i n : Nat) (A : Option Addr) (cap : Nat) (w : World) : Calls Try.prog 92 #[.agg #[.int .u8 i, .slice A n cap]] w (Gives w (.bool (badN i n))) := by
  have HB := hide ((Below.refl w.heap.size w).alloc (Nat.le_refl _) (.cells #[.int .u8 i, .slice A n cap] 86))
  by_cases h1 : i = 0
  · subst h1
    go_enter Try.func92, Try.ntmps92
    go_wp2
    go_ret
    exact ⟨rfl, HB.out⟩
  · have hi : ((i : Int) == 0) = false := by rw [beq_eq_false_iff_ne]; omega
    have HS := hide (show badN i n = decide (255 < (n : Int)) by simp [badN, h1]; omega)
    clear h1
    go_enter Try.func92, Try.ntmps92
    go_wp2
    go_ret
    exact ⟨by rw [HS.out]; rfl, HB.out⟩

theorem put2_any (i n : Nat) (A : Option Addr) (cap : Nat) (w : World) : Calls Try.prog 93 #[.agg #[.int .u8 i, .slice A n cap]] w (Gives w (.bool (!smallN i n))) := by
  go_enter Try.func93, Try.ntmps93
  go_wp2_with fail
  refine (small_any _ _ _ _ _).mono ?_
  rintro r w2 ⟨rfl, hb2⟩
  go_wp2_with fail
  go_ret
  exact ⟨rfl, ((Le.refl w).alloc _ |>.trans ⟨hb2⟩).out⟩

/-- where the first one lies that passes -/
def idx (p : It → Bool) (l : List It) : Int := if l.findIdx p < l.length then (l.findIdx p : Nat) else -1
theorem idx_eq (p : It → Bool) (l : List It) (k : Nat) (hk : k < l.length) (h : p l[k] = true) (hn : ∀ i (h : i < l.length), i < k → p l[i] = false) : idx p l = k := by
  have e : l.findIdx p = k := (List.findIdx_eq hk).2 ⟨h, fun j hj => hn j (by omega) hj⟩
  rw [idx, e, if_pos hk]
theorem idx_none (p : It → Bool) (l : List It) (hn : ∀ i (h : i < l.length), p l[i] = false) : idx p l = -1 := by
  rw [idx, if_neg]
  intro h
  have := List.findIdx_getElem (w := h)
  rw [hn _ h] at this
  cases this
theorem idx_any (p : It → Bool) (l : List It) : (decide (0 ≤ idx p l)) = l.any p := by
  rw [Bool.eq_iff_iff, decide_eq_true_eq, List.any_eq_true]
  unfold idx
  by_cases h : l.findIdx p < l.length
  · rw [if_pos h]
    exact ⟨fun _ => ⟨l[l.findIdx p], List.getElem_mem h, List.findIdx_getElem (w := h)⟩, fun _ => by omega⟩
  · rw [if_neg h]
    exact ⟨fun h' => by omega, fun ⟨x, hx, hp⟩ => absurd (List.findIdx_lt_length.2 ⟨x, hx, hp⟩) h⟩

set_option maxHeartbeats 1000000 in
theorem index1 (l : List It) (A : Option Addr) (n cap : Nat) (w : World) (hr : RSl 2 RItem w l (.slice A n cap)) (hl : l.length ≤ 100000) :
    Calls Try.prog 96 #[.slice A n cap, .func (.func 92) #[] #[]] w (Gives w (.int .i64 (idx badB l))) := by
  obtain ⟨A', cap', hv, hcap, hi⟩ := hr
  injection hv with e1 e2 e3
  subst e1 e2 e3
  have HI := hide hi
  clear hi
  go_enter Try.func96, Try.ntmps96
  go_wp2_with fail
  go_loopw [8] (fun j wr => ∃ k : Nat, k ≤ l.length ∧ j = .int .i64 k ∧ Hd (∀ i (h : i < l.length), i < k → badB l[i] = false) ∧ Le w wr) (fun j _ => l.length - (intOf j).toNat)
  case atStart => exact ⟨0, Nat.zero_le _, rfl, hide (fun i _ h => by omega), Le.refl _⟩
  case round =>
    obtain ⟨k, hk, rfl, HN, hle⟩ := hrel
    by_cases hlt : k < l.length
    · obtain ⟨b, off, rfl, hg⟩ := HI.out (by rintro rfl; simp at hlt)
      obtain ⟨cs, _, hc, v, hcs, hv⟩ := hg k hlt
      subst hcs
      obtain ⟨A1, cp1, hv1, _⟩ := id hv
      subst hv1
      have c0 := hle.cell (show w.cell? ⟨b, off + k * 2, none⟩ = some (.int .u8 (l[k].1.toNat : Nat)) from hc 0 (by omega))
      have c1 := hle.cell (show w.cell? ⟨b, off + k * 2 + 1, none⟩ = some (.slice A1 l[k].2.length cp1) from hc 1 (by omega))
      have HX := hide (fun (h : badB l[k] = false) => (hide (show ∀ i (h : i < l.length), i < k + 1 → badB l[i] = false from fun i hi h' => by
        by_cases e : i = k
        · subst e; exact h
        · exact HN.out i hi (by omega))))
      have HY := hide (fun (h : badB l[k] = true) => idx_eq badB l k hlt h HN.out)
      generalize l[k] = x at *
      obtain ⟨xi, xd⟩ := x
      simp only at c0 c1
      have HLE := hide hle
      clear hc hg hv
      have hltI : (k : Int) < (l.length : Int) := by omega
      have hf := fun W => put1_any xi.toNat xd.length A1 cp1 W
      rw [show badN xi.toNat xd.length = badB (xi, xd) from rfl] at hf
      go_wp2_with fail
      refine (hf _).mono ?_
      rintro r w2 ⟨rfl, hb2⟩
      have hl2 := HLE.out.trans ⟨hb2⟩
      clear hb2 c0 c1 hle hf
      cases hp : badB (xi, xd) with
      | true =>
        have HE := hide (HY.out hp)
        clear hp
        go_wp2_with fail
        go_ret
        exact ⟨by rw [HE.out]; rfl, hl2.out⟩
      | false =>
        have HE := HX.out hp
        clear hp
        go_wp2_with fail
        go_roundw
        case rel => exact ⟨k + 1, by omega, by go_num, HE, hl2⟩
        case measure => simp [intOf]; omega
    · have hke : k = l.length := by omega
      have HE := hide (idx_none badB l (fun i h => HN.out i h (by omega)))
      clear hke
      have hltI : ¬ (k : Int) < (l.length : Int) := by omega
      go_wp2_with fail
      go_ret
      exact ⟨by rw [HE.out]; rfl, hle.out⟩

set_option maxHeartbeats 1000000 in
theorem index2 (l : List It) (A : Option Addr) (n cap : Nat) (w : World) (hr : RSl 2 RItem w l (.slice A n cap)) (hl : l.length ≤ 100000) :
    Calls Try.prog 96 #[.slice A n cap, .func (.func 93) #[] #[]] w (Gives w (.int .i64 (idx bigB l))) := by
  obtain ⟨A', cap', hv, hcap, hi⟩ := hr
  injection hv with e1 e2 e3
  subst e1 e2 e3
  have HI := hide hi
  clear hi
  go_enter Try.func96, Try.ntmps96
  go_wp2_with fail
  go_loopw [8] (fun j wr => ∃ k : Nat, k ≤ l.length ∧ j = .int .i64 k ∧ Hd (∀ i (h : i < l.length), i < k → bigB l[i] = false) ∧ Le w wr) (fun j _ => l.length - (intOf j).toNat)
  case atStart => exact ⟨0, Nat.zero_le _, rfl, hide (fun i _ h => by omega), Le.refl _⟩
  case round =>
    obtain ⟨k, hk, rfl, HN, hle⟩ := hrel
    by_cases hlt : k < l.length
    · obtain ⟨b, off, rfl, hg⟩ := HI.out (by rintro rfl; simp at hlt)
      obtain ⟨cs, _, hc, v, hcs, hv⟩ := hg k hlt
      subst hcs
      obtain ⟨A1, cp1, hv1, _⟩ := id hv
      subst hv1
      have c0 := hle.cell (show w.cell? ⟨b, off + k * 2, none⟩ = some (.int .u8 (l[k].1.toNat : Nat)) from hc 0 (by omega))
      have c1 := hle.cell (show w.cell? ⟨b, off + k * 2 + 1, none⟩ = some (.slice A1 l[k].2.length cp1) from hc 1 (by omega))
      have HX := hide (fun (h : bigB l[k] = false) => (hide (show ∀ i (h : i < l.length), i < k + 1 → bigB l[i] = false from fun i hi h' => by
        by_cases e : i = k
        · subst e; exact h
        · exact HN.out i hi (by omega))))
      have HY := hide (fun (h : bigB l[k] = true) => idx_eq bigB l k hlt h HN.out)
      generalize l[k] = x at *
      obtain ⟨xi, xd⟩ := x
      simp only at c0 c1
      have HLE := hide hle
      clear hc hg hv
      have hltI : (k : Int) < (l.length : Int) := by omega
      have hf := fun W => put2_any xi.toNat xd.length A1 cp1 W
      rw [show (!smallN xi.toNat xd.length) = bigB (xi, xd) from rfl] at hf
      go_wp2_with fail
      refine (hf _).mono ?_
      rintro r w2 ⟨rfl, hb2⟩
      have hl2 := HLE.out.trans ⟨hb2⟩
      clear hb2 c0 c1 hle hf
      cases hp : bigB (xi, xd) with
      | true =>
        have HE := hide (HY.out hp)
        clear hp
        go_wp2_with fail
        go_ret
        exact ⟨by rw [HE.out]; rfl, hl2.out⟩
      | false =>
        have HE := HX.out hp
        clear hp
        go_wp2_with fail
        go_roundw
        case rel => exact ⟨k + 1, by omega, by go_num, HE, hl2⟩
        case measure => simp [intOf]; omega
    · have hke : k = l.length := by omega
      have HE := hide (idx_none bigB l (fun i h => HN.out i h (by omega)))
      clear hke
      have hltI : ¬ (k : Int) < (l.length : Int) := by omega
      go_wp2_with fail
      go_ret
      exact ⟨by rw [HE.out]; rfl, hle.out⟩

theorem contains1 (l : List It) (A : Option Addr) (n cap : Nat) (w : World) (hr : RSl 2 RItem w l (.slice A n cap)) (hl : l.length ≤ 100000) :
    Calls Try.prog 91 #[.slice A n cap, .func (.func 92) #[] #[]] w (Gives w (.bool (l.any badB))) := by
  have HT := hide (index1 l A n cap w hr hl)
  have HA := hide (idx_any badB l)
  clear hr
  go_enter Try.func91, Try.ntmps91
  go_wp2_with fail
  refine HT.out.mono ?_
  rintro r w2 ⟨rfl, hb2⟩
  go_wp2_with fail
  go_ret
  exact ⟨by rw [HA.out]; rfl, hb2⟩

theorem contains2 (l : List It) (A : Option Addr) (n cap : Nat) (w : World) (hr : RSl 2 RItem w l (.slice A n cap)) (hl : l.length ≤ 100000) :
    Calls Try.prog 91 #[.slice A n cap, .func (.func 93) #[] #[]] w (Gives w (.bool (l.any bigB))) := by
  have HT := hide (index2 l A n cap w hr hl)
  have HA := hide (idx_any bigB l)
  clear hr
  go_enter Try.func91, Try.ntmps91
  go_wp2_with fail
  refine HT.out.mono ?_
  rintro r w2 ⟨rfl, hb2⟩
  go_wp2_with fail
  go_ret
  exact ⟨by rw [HA.out]; rfl, hb2⟩
end Go.Proofs.Ytekioihjfggmdaa

/- Extensions as bytes, in plain lists. -/
namespace Go.Proofs.Ytekioihjfggmdaa
open Go.RowKit
set_option linter.unusedVariables false

def itemB (s : Bool) (x : It) : List UInt8 := if s then UInt8.ofNat (16 * x.1.toNat + x.2.length - 1) :: x.2 else x.1 :: UInt8.ofNat x.2.length :: x.2
def bodyB (s : Bool) (l : List It) : List UInt8 := l.flatMap (itemB s)
def padN (n : Nat) : Nat := (4 - n % 4) % 4
def padB (l : List UInt8) : List UInt8 := l ++ List.replicate (padN l.length) 0
def shortB (l : List It) : Bool := !l.any bigB
def extErr (l : List It) : Int := if 14 < l.length then 13 else if l.any badB then 1 else 0
def extProf (l : List It) : Nat := if extErr l = 0 then (if shortB l then 48862 else 4096) else 0
def extB (l : List It) : List UInt8 := if extErr l = 0 then padB (bodyB (shortB l) l) else []

theorem bodyB_take (s : Bool) (l : List It) (k : Nat) (h : k < l.length) : bodyB s (l.take (k + 1)) = bodyB s (l.take k) ++ itemB s l[k] := by
  rw [bodyB, bodyB, List.take_succ_eq_append_getElem h, List.flatMap_append]
  simp
theorem itemB_len (s : Bool) (x : It) : (itemB s x).length ≤ x.2.length + 2 := by
  unfold itemB; split <;> simp
theorem bodyB_len (s : Bool) (m : Nat) : ∀ (l : List It) (h : ∀ x ∈ l, x.2.length ≤ m), (bodyB s l).length ≤ (m + 2) * l.length
  | [], _ => by simp [bodyB]
  | x :: l, h => by
    have h1 := itemB_len s x
    have h2 := h x (by simp)
    have h3 := bodyB_len s m l (fun y hy => h y (by simp [hy]))
    have e : bodyB s (x :: l) = itemB s x ++ bodyB s l := by simp [bodyB]
    rw [e, List.length_append, List.length_cons, Nat.mul_succ]
    omega
theorem short_all {l : List It} (h : l.any bigB = false) (x : It) (hx : x ∈ l) : 1 ≤ x.1.toNat ∧ x.1.toNat < 15 ∧ 1 ≤ x.2.length ∧ x.2.length ≤ 16 := by
  have h1 := List.any_eq_false.1 h x hx
  have h2 : smallB x = true := by
    cases h : smallB x with
    | true => rfl
    | false => exact absurd (by simp [bigB, h]) h1
  simp only [smallB, smallN, Bool.and_eq_true, decide_eq_true_eq] at h2
  omega
theorem good_all {l : List It} (h : l.any badB = false) (x : It) (hx : x ∈ l) : x.1.toNat ≠ 0 ∧ x.2.length ≤ 255 := by
  have h1 := List.any_eq_false.1 h x hx
  simp only [badB, badN, Bool.or_eq_true, decide_eq_true_eq] at h1
  omega
theorem first_short (i n : Nat) (h1 : 1 ≤ i) (h2 : i < 15) (h3 : 1 ≤ n) (h4 : n ≤ 16) : bits .or .u8 ((i : Int) * 16) ((n : Int) - 1) = ((UInt8.ofNat (16 * i + n - 1)).toNat : Int) := by
  have e1 : (i : Int) * 16 = ((i * 16 : Nat) : Int) := by omega
  have e2 : (n : Int) - 1 = ((n - 1 : Nat) : Int) := by omega
  rw [e1, e2, u8_or_nat _ _ (by omega) (by omega), show i * 16 = i <<< 4 by rw [Nat.shiftLeft_eq], ← Nat.shiftLeft_add_eq_or_of_lt (show n - 1 < 2 ^ 4 by omega), UInt8.toNat_ofNat', Nat.shiftLeft_eq]
  omega
end Go.Proofs.Ytekioihjfggmdaa

/- The items of bytes, in plain lists. -/
namespace Go.Proofs.Ytekioihjfggmdaa
open Go.RowKit
set_option linter.unusedVariables false

/-- an item's data, if there are so many bytes, and room; then what goes on -/
def bodyX (out : List It) (id : UInt8) (n : Nat) (r : List UInt8) (go : List It → List UInt8 → List It × Int) : List It × Int :=
  if r.length < n then ([], 10) else if out.length = 14 then ([], 13) else go (out ++ [(id, r.take n)]) (r.drop n)
def longX (out : List It) (a : UInt8) (l : List UInt8) (go : List It → List UInt8 → List It × Int) : List It × Int :=
  match l with
  | [] => ([], 10)
  | b :: l => bodyX out a b.toNat l go
def parseF (s : Bool) : Nat → List It → List UInt8 → List It × Int
  | 0, out, _ => (out, 0)
  | f + 1, out, [] => (out, 0)
  | f + 1, out, a :: l =>
    if a.toNat = 0 then parseF s f out l
    else if s then (if a.toNat / 16 = 15 then (out, 0) else if a.toNat / 16 = 0 then ([], 11) else bodyX out (UInt8.ofNat (a.toNat / 16)) (a.toNat % 16 + 1) l (parseF s f))
    else longX out a l (parseF s f)
/-- what a profile is: 1 short, 2 long, else none -/
def profK (p : Nat) : Nat := if 4096 ≤ p ∧ p < 4112 then 2 else if p = 48862 then 1 else 0
def extParse (p : Nat) (l : List UInt8) : List It × Int :=
  if profK p = 0 then ([], 0) else parseF (profK p == 1) l.length [] l

theorem parseF_nil (s : Bool) (f : Nat) (out : List It) : parseF s f out [] = (out, 0) := by
  cases f <;> rfl
theorem parseF_zero {s : Bool} {f : Nat} {out : List It} {a : UInt8} {l : List UInt8} (h : a.toNat = 0) : parseF s (f + 1) out (a :: l) = parseF s f out l := by
  rw [parseF, if_pos h]
theorem parseF_short {f : Nat} {out : List It} {a : UInt8} {l : List UInt8} (h : a.toNat ≠ 0) : parseF true (f + 1) out (a :: l) = if a.toNat / 16 = 15 then (out, 0) else if a.toNat / 16 = 0 then ([], 11) else bodyX out (UInt8.ofNat (a.toNat / 16)) (a.toNat % 16 + 1) l (parseF true f) := by
  rw [parseF, if_neg h, if_pos rfl]
theorem parseF_long1 {f : Nat} {out : List It} {a : UInt8} (h : a.toNat ≠ 0) : parseF false (f + 1) out [a] = ([], 10) := by
  rw [parseF, if_neg h, if_neg (by simp), longX]
theorem parseF_long {f : Nat} {out : List It} {a b : UInt8} {l : List UInt8} (h : a.toNat ≠ 0) : parseF false (f + 1) out (a :: b :: l) = bodyX out a b.toNat l (parseF false f) := by
  rw [parseF, if_neg h, if_neg (by simp), longX]
theorem bodyX_short {out : List It} {id : UInt8} {n : Nat} {r : List UInt8} {go : List It → List UInt8 → List It × Int} (h : r.length < n) : bodyX out id n r go = ([], 10) := if_pos h
theorem bodyX_big {out : List It} {id : UInt8} {n : Nat} {r : List UInt8} {go : List It → List UInt8 → List It × Int} (h : ¬ r.length < n) (h2 : out.length = 14) : bodyX out id n r go = ([], 13) := by
  rw [bodyX, if_neg h, if_pos h2]
theorem bodyX_on {out : List It} {id : UInt8} {n : Nat} {r : List UInt8} {go : List It → List UInt8 → List It × Int} (h : ¬ r.length < n) (h2 : out.length ≠ 14) : bodyX out id n r go = go (out ++ [(id, r.take n)]) (r.drop n) := by
  rw [bodyX, if_neg h, if_neg h2]

/-- items as cells, their data's slices given -/
def encI (out : List It) (vs : List Value) : List Value := (out.zip vs).flatMap fun p => [.int .u8 p.1.1.toNat, p.2]
theorem encI_snoc (out : List It) (vs : List Value) (x : It) (v : Value) (h : vs.length = out.length) : encI (out ++ [x]) (vs ++ [v]) = encI out vs ++ [.int .u8 x.1.toNat, v] := by
  rw [encI, List.zip_append h.symm, List.flatMap_append]
  rfl
theorem encI_len (out : List It) (vs : List Value) (h : vs.length = out.length) : (encI out vs).length = out.length * 2 := by
  rw [encI]
  have : ∀ l : List (It × Value), (l.flatMap fun p => [Value.int .u8 (p.1.1.toNat : Nat), p.2]).length = l.length * 2 := by
    intro l
    induction l with
    | nil => rfl
    | cons p l ih => rw [List.flatMap_cons, List.length_append, ih]; simp; omega
  rw [this, List.length_zip, h, Nat.min_self]
/-- their data lie where the slices say -/
def Datas (w : World) (out : List It) (vs : List Value) : Prop := vs.length = out.length ∧ ∀ (i : Nat) (h : i < out.length) (h' : i < vs.length), D8 w out[i].2 vs[i]
theorem Datas.nil {w : World} : Datas w [] [] := ⟨rfl, fun i h => by simp at h⟩
theorem Datas.snoc {w : World} {out : List It} {vs : List Value} (h : Datas w out vs) {x : It} {v : Value} (hx : D8 w x.2 v) : Datas w (out ++ [x]) (vs ++ [v]) := by
  refine ⟨by simp [h.1], fun i h1 h2 => ?_⟩
  by_cases hi : i < out.length
  · rw [List.getElem_append_left hi, List.getElem_append_left (by rw [h.1]; exact hi)]
    exact h.2 i hi _
  · have : i = out.length := by simp at h1; omega
    subst this
    rw [List.getElem_append_right (Nat.le_refl _), List.getElem_append_right (by rw [h.1]; exact Nat.le_refl _)]
    simpa [h.1] using hx
theorem Datas.grown {w w' : World} {out : List It} {vs : List Value} (h : Datas w out vs) {row : Option Nat} (hg : w.grownBy w' row) (hne : ∀ g cur fr, w.heap[g]? = some (.cells cur 5 fr) → row ≠ some g) : Datas w' out vs :=
  ⟨h.1, fun i h1 h2 => (h.2 i h1 h2).grown hg hne⟩
theorem Datas.keep {w w' : World} {out : List It} {vs : List Value} (h : Datas w out vs) (hb : Below w.heap.size w w') : Datas w' out vs :=
  ⟨h.1, fun i h1 h2 => (h.2 i h1 h2).keep hb⟩
theorem flat2 {l : List (It × Value)} (i : Nat) (h : i < l.length) (j : Nat) (hj : j < 2) : (l.flatMap fun p => [Value.int .u8 (p.1.1.toNat : Nat), p.2])[i * 2 + j]? = ([Value.int .u8 ((l[i]).1.1.toNat : Nat), (l[i]).2] : List Value)[j]? :=
  flat_get (fun p : It × Value => [Value.int .u8 (p.1.1.toNat : Nat), p.2]) 2 l (fun _ _ => rfl) i h j hj
theorem rsl_items {w : World} {base : Nat} {v : Value} {out : List It} {vs : List Value} (h : w.ownsRow base 86 2 v out.length (encI out vs)) (hd : Datas w out vs) : RSl 2 RItem w out v := by
  obtain ⟨A, cap, rfl, hc, hcl⟩ := own_slice h
  refine ⟨A, cap, rfl, hc, fun hne => ?_⟩
  have hlen : (out.zip vs).length = out.length := by rw [List.length_zip, hd.1, Nat.min_self]
  have hne' : encI out vs ≠ [] := by
    intro e
    have h2 := encI_len out vs hd.1
    rw [e, List.length_nil] at h2
    exact hne (List.eq_nil_of_length_eq_zero (by omega))
  obtain ⟨b, off, hA, hg⟩ := hcl hne'
  refine ⟨b, off, hA, fun i hi => ⟨[.int .u8 out[i].1.toNat, vs[i]'(by rw [hd.1]; exact hi)], rfl, fun j hj => ?_, vs[i]'(by rw [hd.1]; exact hi), rfl, (hd.2 i hi _).rsl⟩⟩
  have h1 := flat2 (l := out.zip vs) i (by omega) j hj
  rw [List.getElem_zip] at h1
  simp only at h1
  have h2 : ([Value.int .u8 (out[i].1.toNat : Nat), vs[i]'(by rw [hd.1]; exact hi)] : List Value)[j]? = some (([Value.int .u8 (out[i].1.toNat : Nat), vs[i]'(by rw [hd.1]; exact hi)] : List Value)[j]'(by simpa using hj)) := List.getElem?_eq_getElem _
  rw [h2] at h1 ⊢
  rw [Nat.add_assoc]
  exact hg _ _ h1
end Go.Proofs.Ytekioihjfggmdaa
