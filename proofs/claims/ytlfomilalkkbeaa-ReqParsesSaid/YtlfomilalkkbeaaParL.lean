/- What parsing bytes comes to, in plain lists. -/
import Derived.Test.YtlfomilalkkbeaaLongL
namespace Go.Proofs.Ytlfomilalkkbeaa
open Go.RowKit
set_option linter.unusedVariables false

/-- how far the taking has come: so many bytes, or it was too short -/
def Inv (l : List UInt8) (m : Nat) (s : List UInt8 × Int) : Prop := s.2 = 10 ∨ (s.2 = 0 ∧ s.1 = l.drop m ∧ m ≤ l.length)

theorem stp_err (s : List UInt8 × Int) (n : Int) (h : s.2 ≠ 0) : stp s n = s := by
  unfold stp
  rw [cut_bad _ _ _ _ h]
theorem mayB_nat (n : Nat) (h1 : 1 ≤ n) (h8 : n ≤ 8) : mayB (n : Int) = true := by simp [mayB]; omega
theorem cut_ok (l : List UInt8) (n : Nat) (h1 : 1 ≤ n) (h8 : n ≤ 8) (h : n ≤ l.length) : cut l 0 n (mayB n) = (l.drop n, 0, l.take n) := by
  rw [cut, if_neg (by simp), if_neg (by rw [mayB_nat n h1 h8]; simp), if_neg (by omega)]
  simp
theorem cut_short (l : List UInt8) (n : Nat) (h1 : 1 ≤ n) (h8 : n ≤ 8) (h : l.length < n) : cut l 0 n (mayB n) = (l, 10, []) := by
  rw [cut, if_neg (by simp), if_neg (by rw [mayB_nat n h1 h8]; simp), if_pos (by omega)]
theorem stp_ok (l : List UInt8) (n : Nat) (h1 : 1 ≤ n) (h8 : n ≤ 8) (h : n ≤ l.length) : stp (l, 0) n = (l.drop n, 0) := by
  unfold stp; rw [cut_ok l n h1 h8 h]
theorem nm_ok (l : List UInt8) (n : Nat) (h1 : 1 ≤ n) (h8 : n ≤ 8) (h : n ≤ l.length) : nm (l, 0) n = val (l.take n) := by
  unfold nm; rw [cut_ok l n h1 h8 h]
theorem Inv.stp {l : List UInt8} {m : Nat} {s : List UInt8 × Int} (h : Inv l m s) (n : Nat) (h1 : 1 ≤ n) (h8 : n ≤ 8) : Inv l (m + n) (stp s n) := by
  rcases h with h | ⟨h0, hd, hm⟩
  · exact .inl (by rw [stp_err _ _ (by rw [h]; omega)]; exact h)
  · obtain ⟨d, e⟩ := s
    simp only at h0 hd
    subst h0 hd
    by_cases hs : n ≤ (l.drop m).length
    · rw [stp_ok _ n h1 h8 hs]
      exact .inr ⟨rfl, by simp, by simp at hs; omega⟩
    · refine .inl ?_
      unfold Go.Proofs.Ytlfomilalkkbeaa.stp
      rw [cut_short _ n h1 h8 (Nat.lt_of_not_le hs)]
theorem inv_q9 (l : List UInt8) : Inv l 18 (q9 l) := by
  have h0 : Inv l 0 (l, 0) := .inr ⟨rfl, by simp, by omega⟩
  exact ((((((((h0.stp 8 (by omega) (by omega)).stp 1 (by omega) (by omega)).stp 2 (by omega) (by omega)).stp 1 (by omega) (by omega)).stp 1 (by omega) (by omega)).stp 2 (by omega) (by omega)).stp 1 (by omega) (by omega)).stp 1 (by omega) (by omega)).stp 1 (by omega) (by omega)
theorem inv_stps (l : List UInt8) : ∀ k, Inv l (18 + 4 * k) (stps (q9 l) k)
  | 0 => inv_q9 l
  | k + 1 => by
    have := (inv_stps l k).stp 4 (by omega) (by omega)
    rw [show 18 + 4 * (k + 1) = 18 + 4 * k + 4 by omega]
    exact this
def cnt (l : List UInt8) : Nat := nm (q8 l) 1
theorem end_short (l : List UInt8) (h : l.length < 18 + 4 * cnt l) : (rqEnd l).2 = 10 := by
  rcases inv_stps l (cnt l) with h1 | ⟨_, _, h1⟩
  · exact h1
  · omega
theorem err_short (l : List UInt8) (h : l.length < 18 + 4 * cnt l) : rqErr l = 10 := by
  unfold rqErr
  rw [end_short l h, if_neg (by omega)]

theorem val_one (l : List UInt8) (m : Nat) (hm : m < l.length) : val ((l.drop m).take 1) = (l[m]'hm).toNat := by
  rw [List.drop_eq_getElem_cons hm]
  simp only [List.take_succ_cons, List.take_zero, val, List.foldl_cons, List.foldl_nil]
  omega
theorem val_twoB (l : List UInt8) (m : Nat) (hm : m + 1 < l.length) : val ((l.drop m).take 2) = 256 * (l[m]'(by omega)).toNat + (l[m + 1]'hm).toNat := by
  rw [List.drop_eq_getElem_cons (show m < l.length by omega), List.drop_eq_getElem_cons hm]
  simp only [List.take_succ_cons, List.take_zero, val, List.foldl_cons, List.foldl_nil]
  omega

section
variable (l : List UInt8) (h : 18 ≤ l.length)
include h
theorem q1_ok : q1 l = (l.drop 8, 0) := stp_ok l 8 (by omega) (by omega) (by omega)
theorem q2_ok : q2 l = (l.drop 9, 0) := by
  unfold q2; rw [q1_ok l h, show ((1 : Int)) = ((1 : Nat) : Int) from rfl, stp_ok _ 1 (by omega) (by omega) (by simp; omega), List.drop_drop]
theorem q3_ok : q3 l = (l.drop 11, 0) := by
  unfold q3; rw [q2_ok l h, show ((2 : Int)) = ((2 : Nat) : Int) from rfl, stp_ok _ 2 (by omega) (by omega) (by simp; omega), List.drop_drop]
theorem q4_ok : q4 l = (l.drop 12, 0) := by
  unfold q4; rw [q3_ok l h, show ((1 : Int)) = ((1 : Nat) : Int) from rfl, stp_ok _ 1 (by omega) (by omega) (by simp; omega), List.drop_drop]
theorem q5_ok : q5 l = (l.drop 13, 0) := by
  unfold q5; rw [q4_ok l h, show ((1 : Int)) = ((1 : Nat) : Int) from rfl, stp_ok _ 1 (by omega) (by omega) (by simp; omega), List.drop_drop]
theorem q6_ok : q6 l = (l.drop 15, 0) := by
  unfold q6; rw [q5_ok l h, show ((2 : Int)) = ((2 : Nat) : Int) from rfl, stp_ok _ 2 (by omega) (by omega) (by simp; omega), List.drop_drop]
theorem q7_ok : q7 l = (l.drop 16, 0) := by
  unfold q7; rw [q6_ok l h, show ((1 : Int)) = ((1 : Nat) : Int) from rfl, stp_ok _ 1 (by omega) (by omega) (by simp; omega), List.drop_drop]
theorem q8_ok : q8 l = (l.drop 17, 0) := by
  unfold q8; rw [q7_ok l h, show ((1 : Int)) = ((1 : Nat) : Int) from rfl, stp_ok _ 1 (by omega) (by omega) (by simp; omega), List.drop_drop]
theorem q9_ok : q9 l = (l.drop 18, 0) := by
  unfold q9; rw [q8_ok l h, show ((1 : Int)) = ((1 : Nat) : Int) from rfl, stp_ok _ 1 (by omega) (by omega) (by simp; omega), List.drop_drop]
theorem cnt_ok : cnt l = (l[17]'(by omega)).toNat := by
  unfold cnt
  rw [q8_ok l h, show ((1 : Int)) = ((1 : Nat) : Int) from rfl, nm_ok _ 1 (by omega) (by omega) (by simp; omega), val_one l 17 (by omega)]
theorem stps_ok (k : Nat) (hk : 18 + 4 * k ≤ l.length) : stps (q9 l) k = (l.drop (18 + 4 * k), 0) := by
  induction k with
  | zero => exact q9_ok l h
  | succ k ih =>
    rw [stps, ih (by omega), show ((4 : Int)) = ((4 : Nat) : Int) from rfl, stp_ok _ 4 (by omega) (by omega) (by simp; omega), List.drop_drop]
    rfl
theorem ssrc_ok (k : Nat) (hk : 18 + 4 * (k + 1) ≤ l.length) : nm (stps (q9 l) k) 4 = val ((l.drop (18 + 4 * k)).take 4) := by
  rw [stps_ok l h k (by omega), show ((4 : Int)) = ((4 : Nat) : Int) from rfl, nm_ok _ 4 (by omega) (by omega) (by simp; omega)]
theorem end_ok (hc : 18 + 4 * cnt l ≤ l.length) : rqEnd l = (l.drop (18 + 4 * cnt l), 0) := stps_ok l h (cnt l) hc
theorem kind_ok : (rq l).kind = (l[8]'(by omega)).toNat := by
  show ((nm (q1 l) 1 : Nat) : Int) = _
  rw [q1_ok l h, show ((1 : Int)) = ((1 : Nat) : Int) from rfl, nm_ok _ 1 (by omega) (by omega) (by simp; omega), val_one l 8 (by omega)]
theorem err_ok (hc : 18 + 4 * cnt l ≤ l.length) : rqErr l = if 9 < (rq l).kind then 11 else if 18 + 4 * cnt l < l.length then 12 else 0 := by
  unfold rqErr
  rw [end_ok l h hc]
  simp only [if_true, List.length_drop]
  congr 1
  by_cases h1 : 18 + 4 * cnt l < l.length
  · rw [if_pos h1, if_pos (by omega)]
  · rw [if_neg h1, if_neg (by omega)]
end

/-! ### the bytes of a request -/
theorem part_ok (x n : Nat) (h1 : 1 ≤ n) (h8 : n ≤ 8) (h : x < 256 ^ n) : okPart (x, (n : Int)) := by
  refine ⟨by simp only; omega, by simp only; omega, ?_⟩
  simp only [Int.toNat_natCast]
  rw [pow8]
  exact Nat.div_eq_of_lt h
theorem tails_ok : ∀ (l : List Nat) (hl : ∀ x ∈ l, (x : Int) < 4294967296) (more : List UInt8) (k : Nat) (hk : k ≤ l.length),
    stps (puts (tailP l) ++ more, 0) k = (puts (tailP (l.drop k)) ++ more, 0) := by
  intro l hl more k
  induction k with
  | zero => intro _; rfl
  | succ k ih =>
    intro hk
    rw [stps, ih (by omega), List.drop_eq_getElem_cons (show k < l.length by omega)]
    rw [show tailP (l[k] :: l.drop (k + 1)) = (l[k], 4) :: tailP (l.drop (k + 1)) from rfl, puts_cons, List.append_assoc]
    have := hl l[k] (List.getElem_mem _)
    exact stp_put (l[k], 4) (part_ok _ 4 (by omega) (by omega) (by omega)) _
theorem tails_nm (l : List Nat) (hl : ∀ x ∈ l, (x : Int) < 4294967296) (more : List UInt8) (k : Nat) (hk : k < l.length) : nm (stps (puts (tailP l) ++ more, 0) k) 4 = l[k] := by
  rw [tails_ok l hl more k (by omega), List.drop_eq_getElem_cons hk]
  rw [show tailP (l[k] :: l.drop (k + 1)) = (l[k], 4) :: tailP (l.drop (k + 1)) from rfl, puts_cons, List.append_assoc]
  have := hl l[k] (List.getElem_mem _)
  exact nm_put (l[k], 4) (part_ok _ 4 (by omega) (by omega) (by omega)) _

structure PB (L : List UInt8) (id : Nat) (q : Rq) (more : List UInt8) : Prop where
  i : nm (L, 0) 8 = id
  r : rq L = q
  e : rqEnd L = (more, 0)
  c : cnt L = q.ssrcs.length

theorem parse_bytes (id : Nat) (hid : (id : Int) < 18446744073709551616) (q : Rq) (hok : q.ok = true) (hs : ∀ x ∈ q.ssrcs, (x : Int) < 4294967296) (more : List UInt8) : PB (q.bytes id ++ more) id q more := by
  obtain ⟨⟨a0, a1⟩, ⟨b0, b1⟩, ⟨c0, c1⟩, ⟨d0, d1⟩, ⟨e0, e1⟩, ⟨f0, f1⟩, ⟨g0, g1⟩, h1⟩ := ok_parts hok
  obtain ⟨kind, who, room, rights, track, layer, tid, ss⟩ := q
  simp only at *
  obtain ⟨kind, rfl⟩ := Int.eq_ofNat_of_zero_le a0
  obtain ⟨who, rfl⟩ := Int.eq_ofNat_of_zero_le b0
  obtain ⟨room, rfl⟩ := Int.eq_ofNat_of_zero_le c0
  obtain ⟨rights, rfl⟩ := Int.eq_ofNat_of_zero_le d0
  obtain ⟨track, rfl⟩ := Int.eq_ofNat_of_zero_le e0
  obtain ⟨layer, rfl⟩ := Int.eq_ofNat_of_zero_le f0
  obtain ⟨tid, rfl⟩ := Int.eq_ofNat_of_zero_le g0
  have e : Rq.bytes id ⟨kind, who, room, rights, track, layer, tid, ss⟩ ++ more = putOne (id, 8) ++ (putOne (kind, 1) ++ (putOne (who, 2) ++ (putOne (room, 1) ++ (putOne (rights, 1) ++ (putOne (track, 2) ++ (putOne (layer, 1) ++ (putOne (tid, 1) ++ (putOne (ss.length, 1) ++ (puts (tailP ss) ++ more))))))))) := by
    simp only [Rq.bytes, Rq.head, List.cons_append, List.nil_append, puts_cons, List.append_assoc, Int.toNat_natCast]
  have o1 := ok_id id hid
  have o2 := part_ok kind 1 (by omega) (by omega) (by omega)
  have o3 := part_ok who 2 (by omega) (by omega) (by omega)
  have o4 := part_ok room 1 (by omega) (by omega) (by omega)
  have o5 := part_ok rights 1 (by omega) (by omega) (by omega)
  have o6 := part_ok track 2 (by omega) (by omega) (by omega)
  have o7 := part_ok layer 1 (by omega) (by omega) (by omega)
  have o8 := part_ok tid 1 (by omega) (by omega) (by omega)
  have o9 := part_ok ss.length 1 (by omega) (by omega) (by omega)
  obtain ⟨R9, e9⟩ : ∃ R, puts (tailP ss) ++ more = R := ⟨_, rfl⟩
  obtain ⟨R8, e8⟩ : ∃ R, putOne (ss.length, 1) ++ R9 = R := ⟨_, rfl⟩
  obtain ⟨R7, e7⟩ : ∃ R, putOne (tid, 1) ++ R8 = R := ⟨_, rfl⟩
  obtain ⟨R6, e6⟩ : ∃ R, putOne (layer, 1) ++ R7 = R := ⟨_, rfl⟩
  obtain ⟨R5, e5⟩ : ∃ R, putOne (track, 2) ++ R6 = R := ⟨_, rfl⟩
  obtain ⟨R4, e4⟩ : ∃ R, putOne (rights, 1) ++ R5 = R := ⟨_, rfl⟩
  obtain ⟨R3, e3⟩ : ∃ R, putOne (room, 1) ++ R4 = R := ⟨_, rfl⟩
  obtain ⟨R2, e2⟩ : ∃ R, putOne (who, 2) ++ R3 = R := ⟨_, rfl⟩
  obtain ⟨R1, e1⟩ : ∃ R, putOne (kind, 1) ++ R2 = R := ⟨_, rfl⟩
  rw [e9, e8, e7, e6, e5, e4, e3, e2, e1] at e
  generalize Rq.bytes id ⟨kind, who, room, rights, track, layer, tid, ss⟩ ++ more = L at e ⊢
  have s1 : q1 L = (R1, 0) := by rw [e]; exact stp_put (id, 8) o1 _
  have s2 : q2 L = (R2, 0) := by unfold q2; rw [s1, ← e1]; exact stp_put (kind, 1) o2 _
  have s3 : q3 L = (R3, 0) := by unfold q3; rw [s2, ← e2]; exact stp_put (who, 2) o3 _
  have s4 : q4 L = (R4, 0) := by unfold q4; rw [s3, ← e3]; exact stp_put (room, 1) o4 _
  have s5 : q5 L = (R5, 0) := by unfold q5; rw [s4, ← e4]; exact stp_put (rights, 1) o5 _
  have s6 : q6 L = (R6, 0) := by unfold q6; rw [s5, ← e5]; exact stp_put (track, 2) o6 _
  have s7 : q7 L = (R7, 0) := by unfold q7; rw [s6, ← e6]; exact stp_put (layer, 1) o7 _
  have s8 : q8 L = (R8, 0) := by unfold q8; rw [s7, ← e7]; exact stp_put (tid, 1) o8 _
  have s9 : q9 L = (R9, 0) := by unfold q9; rw [s8, ← e8]; exact stp_put (ss.length, 1) o9 _
  have n1 : nm (L, 0) 8 = id := by rw [e]; exact nm_put (id, 8) o1 _
  have n2 : nm (q1 L) 1 = kind := by rw [s1, ← e1]; exact nm_put (kind, 1) o2 _
  have n3 : nm (q2 L) 2 = who := by rw [s2, ← e2]; exact nm_put (who, 2) o3 _
  have n4 : nm (q3 L) 1 = room := by rw [s3, ← e3]; exact nm_put (room, 1) o4 _
  have n5 : nm (q4 L) 1 = rights := by rw [s4, ← e4]; exact nm_put (rights, 1) o5 _
  have n6 : nm (q5 L) 2 = track := by rw [s5, ← e5]; exact nm_put (track, 2) o6 _
  have n7 : nm (q6 L) 1 = layer := by rw [s6, ← e6]; exact nm_put (layer, 1) o7 _
  have n8 : nm (q7 L) 1 = tid := by rw [s7, ← e7]; exact nm_put (tid, 1) o8 _
  have n9 : nm (q8 L) 1 = ss.length := by rw [s8, ← e8]; exact nm_put (ss.length, 1) o9 _
  refine ⟨n1, ?_, ?_, n9⟩
  · unfold Go.Proofs.Ytlfomilalkkbeaa.rq
    rw [n2, n3, n4, n5, n6, n7, n8, n9, s9, ← e9]
    congr 1
    apply List.ext_getElem
    · simp
    · intro k h2 h3
      simp only [List.getElem_map, List.getElem_range]
      exact tails_nm ss hs more k h3
  · unfold rqEnd
    rw [n9, s9, ← e9, tails_ok ss hs more ss.length (Nat.le_refl _)]
    simp [tailP, puts]

theorem PB.err {id : Nat} {q : Rq} {more : List UInt8} {L : List UInt8} (h : PB L id q more) (hok : q.ok = true) : rqErr L = if more = [] then 0 else 12 := by
  have := (ok_parts hok).1.2
  unfold rqErr
  rw [h.e, h.r, if_pos rfl, if_neg (by omega)]
  cases more <;> simp
theorem parse_cut (id : Nat) (hid : (id : Int) < 18446744073709551616) (q : Rq) (hok : q.ok = true) (hs : ∀ x ∈ q.ssrcs, (x : Int) < 4294967296) (k : Nat) (hk : k < (q.bytes id).length) : rqErr ((q.bytes id).take k) = 10 := by
  have hp := parse_bytes id hid q hok hs []
  have hl := bytes_len id q
  have hcn := hp.c
  rw [List.append_nil] at hcn
  refine err_short _ ?_
  by_cases h18 : k < 18
  · simp; omega
  · have e : cnt ((q.bytes id).take k) = cnt (q.bytes id) := by
      rw [cnt_ok _ (by simp; omega), cnt_ok _ (by omega)]
      simp
    rw [e, hcn]
    simp; omega
end Go.Proofs.Ytlfomilalkkbeaa
