/- req.Answer, req.Told. -/
import Derived.Test.YtlfomilalkkbeaaReq
namespace Go.Proofs.Ytlfomilalkkbeaa
open Go.RowKit
set_option linter.unusedVariables false

def ansL (id e : Nat) : List (Nat × Int) := [(id, 8), (e, 1)]

theorem answer_any (id e : Nat) (w : World) (h1 : (id : Int) < 18446744073709551616) (h2 : e < 256) :
    Calls Try.prog 32 #[.int .u64 id, .int .i64 e] w (Owns8 w (puts (ansL id e))) := by
  have hwr : IntKind.u64.wrap ((e : Nat) : Int) = e := IntWalk.u64_in _ (by omega)
  have HP := hide (rsl_parts (l := ansL id e) (n := 2) (cap := 2) rfl (Nat.le_refl _) (by intro p hp; simp [ansL] at hp; rcases hp with rfl | rfl <;> simp only <;> omega) (cells_new w [.int .u64 id, .int .i64 8, .int .u64 e, .int .i64 1] 28))
  clear h1
  go_enter Try.func32, Try.ntmps32
  go_wp2_with fail
  refine (put_any _ _ _ _ _ HP.out (by omega)).mono ?_
  rintro r w2 ⟨v, rfl, ho, hb⟩
  have hB := ((Below.refl w.heap.size w).alloc (Nat.le_refl _) _).trans (hb.mono (le_alloc (Nat.le_refl _)))
  have HO := hide (own_base ho (le_alloc (Nat.le_refl _)))
  clear ho hb
  go_wp2
  go_ret
  exact ⟨v, rfl, HO.out, hB⟩

def toldB (l : List UInt8) : Bool := decide (l.length = 9)
def toldN (l : List UInt8) : Nat := if l.length = 9 then nm (l, 0) 8 else 0
def toldE (l : List UInt8) : Nat := if l.length = 9 then nm (q1 l) 1 else 0

set_option maxHeartbeats 1000000 in
theorem told_any (l : List UInt8) (A : Option Addr) (n cap : Nat) (w : World) (hr : RSl 1 RU8 w l (.slice A n cap)) (hl : l.length ≤ 1000000) :
    Calls Try.prog 33 #[.slice A n cap] w fun e w' => e = .returned (.tuple #[.int .u64 (toldN l), .int .i64 (toldE l), .bool (toldB l)]) ∧ Below w.heap.size w w' := by
  have HR := hide hr
  obtain ⟨A', cap', hv, hcap, _⟩ := hr
  injection hv with e1 e2 e3
  subst e1 e2 e3
  by_cases h9 : l.length = 9
  · have ha : toldN l = nm (l, 0) 8 := by rw [toldN, if_pos h9]
    have hb : toldE l = nm (q1 l) 1 := by rw [toldE, if_pos h9]
    have hc : toldB l = true := by rw [toldB, h9]; rfl
    rw [ha, hb, hc]
    clear ha hb hc
    have hx : nm (q1 l) 1 < 256 := nm_lt (q1 l) 1 (by omega)
    have l1 : (q1 l).1.length ≤ 2147483648 := Nat.le_trans (stp_len _ _) (by simp only; omega)
    have hd : (((l.length : Nat) : Int) != 9) = false := by rw [h9]; rfl
    have H9 := hide h9
    clear h9
    go_enter Try.func33, Try.ntmps33
    go_wp2_with fail
    refine (new_any _ _ _ _ l HR.out (by omega)).mono ?_
    rintro e w1 ⟨p, rfl, hc, hb⟩
    have HL1 := hide l1
    clear l1
    go_wp2_with fail
    refine (num_any _ _ _ _ _ _ hc (show l.length ≤ 2147483648 by omega)).mono ?_
    rintro e w2 ⟨he, hc2, hg2⟩
    obtain rfl : e = .returned (.int .u64 (nm (l, 0) 8)) := he
    have hb2 := below_row hb hg2 hc.1 hb.size
    clear hc hb hg2
    go_wp2_with fail
    refine (num_any _ _ _ _ _ _ hc2 HL1.out).mono ?_
    rintro e w3 ⟨he, hc3, hg3⟩
    obtain rfl : e = .returned (.int .u64 (nm (q1 l) 1)) := he
    have hb3 := below_row hb2 hg3 hc2.1 hb2.size
    clear hc2 hb2 hg3 hc3
    have hwr : IntKind.i64.wrap ((nm (q1 l) 1 : Nat) : Int) = nm (q1 l) 1 := IntWalk.i64_in _ (by omega)
    go_wp2
    refine bodyPost_ret (v := .tuple #[.int .u64 (nm (l, 0) 8), .int .i64 (nm (q1 l) 1), .bool true]) (by simp [results, Try.results33, go_sem]) rfl ⟨rfl, hb3⟩
  · have ha : toldN l = 0 := by rw [toldN, if_neg h9]
    have hb : toldE l = 0 := by rw [toldE, if_neg h9]
    have hc : toldB l = false := by rw [toldB]; exact decide_eq_false h9
    rw [ha, hb, hc]
    clear ha hb hc
    go_enter Try.func33, Try.ntmps33
    go_wp2
    refine bodyPost_ret (v := .tuple #[.int .u64 0, .int .i64 0, .bool false]) (by simp [results, Try.results33, go_sem]) rfl ⟨rfl, Below.refl _ _⟩
end Go.Proofs.Ytlfomilalkkbeaa
