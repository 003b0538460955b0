/- Requests as bytes, in plain lists. No program stands here. -/
import Derived.Test.YtlfomilalkkbeaaOctL
namespace Go.Proofs.Ytlfomilalkkbeaa
open Go.RowKit
set_option linter.unusedVariables false

structure Rq where
  kind : Int
  who : Int
  room : Int
  rights : Int
  track : Int
  layer : Int
  tid : Int
  ssrcs : List Nat

def fitB (x : Int) (m : Int) : Bool := decide (0 ≤ x) && decide (x < m)
def Rq.ok (q : Rq) : Bool := fitB q.kind 10 && fitB q.who 65536 && fitB q.room 256 && fitB q.rights 256 && fitB q.track 65536 && fitB q.layer 256 && fitB q.tid 256 && decide (q.ssrcs.length ≤ 255)
def Rq.head (id : Nat) (q : Rq) : List (Nat × Int) :=
  [(id, 8), (q.kind.toNat, 1), (q.who.toNat, 2), (q.room.toNat, 1), (q.rights.toNat, 1), (q.track.toNat, 2), (q.layer.toNat, 1), (q.tid.toNat, 1), (q.ssrcs.length, 1)]
def tailP (l : List Nat) : List (Nat × Int) := l.map fun s => (s, 4)
def Rq.bytes (id : Nat) (q : Rq) : List UInt8 := puts (q.head id ++ tailP q.ssrcs)
def Rq.put (id : Nat) (q : Rq) : List UInt8 := if q.ok then q.bytes id else []
def Rq.err (q : Rq) : Int := if q.ok then 0 else 1

theorem ok_parts {q : Rq} (h : q.ok = true) : (0 ≤ q.kind ∧ q.kind ≤ 9) ∧ (0 ≤ q.who ∧ q.who < 65536) ∧ (0 ≤ q.room ∧ q.room < 256) ∧ (0 ≤ q.rights ∧ q.rights < 256) ∧ (0 ≤ q.track ∧ q.track < 65536) ∧ (0 ≤ q.layer ∧ q.layer < 256) ∧ (0 ≤ q.tid ∧ q.tid < 256) ∧ q.ssrcs.length ≤ 255 := by
  simp only [Rq.ok, fitB, Bool.and_eq_true, decide_eq_true_eq] at h
  omega

theorem ok_mk {q : Rq} (h : (0 ≤ q.kind ∧ q.kind ≤ 9) ∧ (0 ≤ q.who ∧ q.who < 65536) ∧ (0 ≤ q.room ∧ q.room < 256) ∧ (0 ≤ q.rights ∧ q.rights < 256) ∧ (0 ≤ q.track ∧ q.track < 65536) ∧ (0 ≤ q.layer ∧ q.layer < 256) ∧ (0 ≤ q.tid ∧ q.tid < 256) ∧ q.ssrcs.length ≤ 255) : q.ok = true := by
  simp only [Rq.ok, fitB, Bool.and_eq_true, decide_eq_true_eq]
  omega
theorem tail_take (l : List Nat) (k : Nat) (h : k < l.length) : tailP (l.take (k + 1)) = tailP (l.take k) ++ [(l[k], 4)] := by
  rw [tailP, tailP, List.take_succ_eq_append_getElem h, List.map_append]; rfl
theorem tail_length (l : List Nat) : (tailP l).length = l.length := by simp [tailP]

/-- numbers taken one behind the other: what is left, and what went wrong -/
def stp (s : List UInt8 × Int) (n : Int) : List UInt8 × Int := ((cut s.1 s.2 n (mayB n)).1, (cut s.1 s.2 n (mayB n)).2.1)
def nm (s : List UInt8 × Int) (n : Int) : Nat := val (cut s.1 s.2 n (mayB n)).2.2
def stps (s : List UInt8 × Int) : Nat → List UInt8 × Int
  | 0 => s
  | k + 1 => stp (stps s k) 4
def q1 (l : List UInt8) := stp (l, 0) 8
def q2 (l : List UInt8) := stp (q1 l) 1
def q3 (l : List UInt8) := stp (q2 l) 2
def q4 (l : List UInt8) := stp (q3 l) 1
def q5 (l : List UInt8) := stp (q4 l) 1
def q6 (l : List UInt8) := stp (q5 l) 2
def q7 (l : List UInt8) := stp (q6 l) 1
def q8 (l : List UInt8) := stp (q7 l) 1
def q9 (l : List UInt8) := stp (q8 l) 1
theorem stp_len (s : List UInt8 × Int) (n : Int) : (stp s n).1.length ≤ s.1.length := cut_left _ _ _ _
theorem nm_lt (s : List UInt8 × Int) (n : Nat) (h : n ≤ 8) : nm s n < 256 ^ n := by
  unfold nm cut
  have h0 : 0 < 256 ^ n := Nat.pow_pos (by omega)
  repeat' split
  all_goals simp only [val, List.foldl_nil]
  all_goals try exact h0
  rename_i h1 h2 h3
  have := val_lt (s.1.take (n : Int).toNat)
  refine Nat.lt_of_lt_of_le this (Nat.pow_le_pow_right (by omega) ?_)
  simp; omega
/-- the request that is read, whatever went wrong -/
def rq (l : List UInt8) : Rq := { kind := nm (q1 l) 1, who := nm (q2 l) 2, room := nm (q3 l) 1, rights := nm (q4 l) 1, track := nm (q5 l) 2, layer := nm (q6 l) 1, tid := nm (q7 l) 1, ssrcs := (List.range (nm (q8 l) 1)).map fun k => nm (stps (q9 l) k) 4 }
def rqEnd (l : List UInt8) : List UInt8 × Int := stps (q9 l) (nm (q8 l) 1)
def rqErr (l : List UInt8) : Int := if (rqEnd l).2 = 0 then (if 9 < (rq l).kind then 11 else if 0 < (rqEnd l).1.length then 12 else 0) else (rqEnd l).2
def Rq.zero : Rq := ⟨0, 0, 0, 0, 0, 0, 0, []⟩
def prId (l : List UInt8) : Nat := if rqErr l = 0 then nm (l, 0) 8 else 0
def prRq (l : List UInt8) : Rq := if rqErr l = 0 then rq l else Rq.zero
end Go.Proofs.Ytlfomilalkkbeaa
