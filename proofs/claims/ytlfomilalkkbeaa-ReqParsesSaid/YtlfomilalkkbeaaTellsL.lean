/- What an answer's bytes say, in plain lists. -/
import Derived.Test.YtlfomilalkkbeaaReqAns
namespace Go.Proofs.Ytlfomilalkkbeaa
open Go.RowKit
set_option linter.unusedVariables false

theorem val_inj : ∀ (l l' : List UInt8), l.length = l'.length → val l = val l' → l = l'
  | [], [], _, _ => rfl
  | [], _ :: _, h, _ => by simp at h
  | _ :: _, [], h, _ => by simp at h
  | b :: l, b' :: l', h, hv => by
    have hl : l.length = l'.length := by simpa using h
    rw [val_cons, val_cons, hl] at hv
    have h1 := val_lt l
    have h2 := val_lt l'
    rw [hl] at h1
    have hp : 0 < 256 ^ l'.length := Nat.pow_pos (by omega)
    have e1 : b.toNat = b'.toNat := by
      have : (b.toNat * 256 ^ l'.length + val l) / 256 ^ l'.length = (b'.toNat * 256 ^ l'.length + val l') / 256 ^ l'.length := by rw [hv]
      rw [Nat.mul_comm, Nat.mul_comm b'.toNat, Nat.mul_add_div hp, Nat.mul_add_div hp, Nat.div_eq_of_lt h1, Nat.div_eq_of_lt h2] at this
      simpa using this
    rw [e1] at hv
    rw [val_inj l l' hl (by omega), UInt8.toNat_inj.1 e1]
theorem be_val (l : List UInt8) : be (val l) l.length = l :=
  val_inj _ _ (be_length _ _) (by rw [val_be, Nat.mod_eq_of_lt (val_lt l)])

theorem ok_id (id : Nat) (h : (id : Int) < 18446744073709551616) : okPart (id, 8) := ⟨by simp, by simp, Nat.div_eq_of_lt (by simp; omega)⟩
theorem ok_e (e : Nat) (h : e < 256) : okPart (e, 1) := ⟨by simp, by simp, Nat.div_eq_of_lt (by simp; omega)⟩
theorem ans_two (id e : Nat) : puts (ansL id e) = putOne (id, 8) ++ putOne (e, 1) := puts_two _ _
theorem ans_len (id e : Nat) : (puts (ansL id e)).length = 9 := by
  rw [ans_two, List.length_append]
  simp [putOne, mayB, be_length]
theorem nm_put (p : Nat × Int) (h : okPart p) (rest : List UInt8) : nm (putOne p ++ rest, 0) p.2 = p.1 := by
  unfold nm
  rw [ok_cut p h rest, ok_val p h]
theorem stp_put (p : Nat × Int) (h : okPart p) (rest : List UInt8) : stp (putOne p ++ rest, 0) p.2 = (rest, 0) := by
  unfold stp
  rw [ok_cut p h rest]
theorem told_ans (id e : Nat) (h1 : (id : Int) < 18446744073709551616) (h2 : e < 256) : toldN (puts (ansL id e)) = id ∧ toldE (puts (ansL id e)) = e ∧ toldB (puts (ansL id e)) = true := by
  have hl := ans_len id e
  refine ⟨?_, ?_, ?_⟩
  · rw [toldN, if_pos hl, ans_two]
    exact nm_put (id, 8) (ok_id id h1) _
  · rw [toldE, if_pos hl, q1, ans_two, stp_put (id, 8) (ok_id id h1)]
    have := nm_put (e, 1) (ok_e e h2) []
    rwa [List.append_nil] at this
  · rw [toldB, hl]; rfl
theorem ans_told (l : List UInt8) (h : l.length = 9) : puts (ansL (toldN l) (toldE l)) = l := by
  rw [ans_two, toldN, toldE, if_pos h, if_pos h]
  have c8 : cut l 0 8 (mayB 8) = (l.drop 8, 0, l.take 8) := by simp [cut, mayB, h]
  have hq : q1 l = (l.drop 8, 0) := by unfold q1 stp; simp only; rw [c8]
  have c1 : cut (l.drop 8) 0 1 (mayB 1) = ((l.drop 8).drop 1, 0, (l.drop 8).take 1) := by simp [cut, mayB, h]
  have a1 : nm (l, 0) 8 = val (l.take 8) := by unfold nm; simp only; rw [c8]
  have a2 : nm (q1 l) 1 = val (l.drop 8) := by
    rw [hq]; unfold nm; simp only; rw [c1]
    simp only
    rw [List.take_of_length_le (by simp [h])]
  rw [a1, a2]
  have b1 := be_val (l.take 8)
  have b2 := be_val (l.drop 8)
  rw [show (l.take 8).length = 8 by simp [h]] at b1
  rw [show (l.drop 8).length = 1 by simp [h]] at b2
  have p1 : putOne (val (l.take 8), 8) = be (val (l.take 8)) 8 := putOne_be _ 8 (by omega) (by omega)
  have p2 : putOne (val (l.drop 8), 1) = be (val (l.drop 8)) 1 := putOne_be _ 1 (by omega) (by omega)
  rw [p1, p2, b1, b2, List.take_append_drop]
end Go.Proofs.Ytlfomilalkkbeaa
