/- louverref07.Parse: what it needs. -/
import Derived.Test.YtkbdbandeioibaaVp8N
import Derived.StillTactics
namespace Go.Proofs.Ytkbdbandeioibaa
open Go.RowKit
set_option linter.unusedVariables false

theorem rbit_any (c v : Nat) (hc : c < 256) (hv : v = 128 ∨ v = 64 ∨ v = 32 ∨ v = 16) (w : World) : Calls Try.prog 49 #[.int .u8 c, .int .i64 v] w fun e w' => e = .returned (.bool (bt c v)) ∧ w' = w := by
  obtain ⟨q, hq⟩ : ∃ q, q = c / v := ⟨_, rfl⟩
  have hq2 : q < 256 := by rw [hq]; exact Nat.lt_of_le_of_lt (Nat.div_le_self c v) hc
  have hb : bt c v = decide (q % 2 = 1) := by rw [bt, hq]
  have hd : (c : Int).tdiv (v : Int) = (q : Nat) := by rw [hq]; rfl
  have hd2 : (c : Int) / (v : Int) = (q : Nat) := by rw [hq]; rfl
  have hm : (q : Int).tmod 2 = (q : Int) % 2 := Int.tmod_eq_emod_of_nonneg (by omega)
  have hv0 : ((v : Int) == 0) = false := by rw [beq_eq_false_iff_ne]; omega
  have hv1 : ¬ v = 0 := by omega
  have hwc : IntKind.i64.wrap (c : Int) = c := IntWalk.i64_in _ (by omega)
  have hwq : IntKind.i64.wrap (q : Int) = q := IntWalk.i64_in _ (by omega)
  rw [hb]
  have hpar : ((q : Int) % 2 = 1 ∧ decide (q % 2 = 1) = true) ∨ ((q : Int) % 2 = 0 ∧ decide (q % 2 = 1) = false) := by
    by_cases h : q % 2 = 1
    · exact .inl ⟨by omega, by simp [h]⟩
    · exact .inr ⟨by omega, by simp [h]⟩
  clear hb hq
  rcases hpar with ⟨h1, h2⟩ | ⟨h1, h2⟩
  all_goals
    rw [h2]
    clear h2
    go_enter Try.func49, Try.ntmps49
    go_wp2_with fail
    go_ret
    exact ⟨rfl, rfl⟩

def Dsc.rcs (d : Dsc) : Array Value := #[.bool d.more, .bool d.lone, .bool d.start, .int .i64 d.part, .bool d.hasPic, .bool d.wide, .int .i64 d.pic, .bool d.hasTl0, .int .i64 d.tl0, .bool d.hasTid, .int .i64 d.tid, .bool d.sync, .bool d.hasKey, .int .i64 d.key]

/-- louverref07.Parse's answers -/
def vpP (b : List UInt8) : Int := if vpE b = 0 then (vpParse b).pp else 0
def vpT (b : List UInt8) : Int := if vpE b = 0 then (vpParse b).tp else 0
def rpV (b : List UInt8) : Value := .tuple #[(vpD b).ref, .int .i64 (vpN b), .int .i64 (vpP b), .int .i64 (vpT b), .int .i64 (vpE b)]
theorem rpV_bad (b : List UInt8) (h : vpE b ≠ 0) : rpV b = .tuple #[Dsc.zero.ref, .int .i64 0, .int .i64 0, .int .i64 0, .int .i64 10] := by
  have h2 := vpE_two b
  have h3 : vpE b = 10 := by omega
  rw [rpV, vpD, vpN, vpP, vpT, h3]
  rfl
theorem rpV_good (b : List UInt8) (r : Rd8) (l : List UInt8) (h : vpParse b = r) (hs : r.s = (l, 0)) : rpV b = .tuple #[r.d.ref, .int .i64 ((b.length : Int) - l.length), .int .i64 r.pp, .int .i64 r.tp, .int .i64 0] := by
  have h3 : vpE b = 0 := by rw [vpE, h, hs]
  rw [rpV, vpD, vpN, vpP, vpT, h3, h, hs]
  rfl

theorem rparse_ret {w : World} {Q : Ending → World → Prop} {tmps : Array Value} {g2 : Nat} {cs : Array Value} {a b c e : Int} (h2 : tmps.getD 2 undef = .pointer (some ⟨g2, 0, none⟩))
    (h3 : tmps.getD 3 undef = .int .i64 a) (h4 : tmps.getD 4 undef = .int .i64 b) (h5 : tmps.getD 5 undef = .int .i64 c) (h6 : tmps.getD 6 undef = .int .i64 e)
    (hg2 : w.heap[g2]? = some (.cells cs 53 (0, 0))) (hs : cs.size = 14)
    (hQ : Q (.returned (.tuple #[.agg cs, .int .i64 a, .int .i64 b, .int .i64 c, .int .i64 e])) w) :
    bodyPost Try.prog Try.f27 Q .ret { tmps := tmps, defers := [] } w := by
  have r2 := run_loadVar_row (P := Try.prog) w g2 53 53 cs (0, 0) _ hg2 Try.underlying53 rfl (by rw [hs]; kernel_rfl)
  have h2' : tmps[2]?.getD undef = .pointer (some ⟨g2, 0, none⟩) := by simpa using h2
  have h3' : tmps[3]?.getD undef = .int .i64 a := by simpa using h3
  have h4' : tmps[4]?.getD undef = .int .i64 b := by simpa using h4
  have h5' : tmps[5]?.getD undef = .int .i64 c := by simpa using h5
  have h6' : tmps[6]?.getD undef = .int .i64 e := by simpa using h6
  refine bodyPost_ret (v := .tuple #[.agg cs, .int .i64 a, .int .i64 b, .int .i64 c, .int .i64 e]) ?_ rfl hQ
  simp [results, Try.results27, h2', h3', h4', h5', h6', asAddr, r2]

/-- what the reference has at hand: its result's block, its descriptor's -/
structure RSt (w wx : World) (g2 p7 : Nat) (d : Dsc) : Prop where
  le : Below w.heap.size w wx
  h2 : wx.heap[g2]? = some (.cells Dsc.zero.rcs 53 (0, 0))
  h7 : wx.heap[p7]? = some (.cells d.rcs 53 (0, 0))
  ge2 : w.heap.size ≤ g2
  lt : g2 < p7
theorem RSt.put {w wx : World} {g2 p7 : Nat} {d : Dsc} (h : RSt w wx g2 p7 d) (i : Nat) (u : Value) (d' : Dsc) (e : d.rcs.setIfInBounds i u = d'.rcs) : RSt w (wx.setCell ⟨p7, i, none⟩ u) g2 p7 d' :=
  ⟨h.le.setCell (Nat.le_of_lt (Nat.lt_of_le_of_lt h.ge2 h.lt)) u, heap_far u h.h2 (Nat.ne_of_lt h.lt), by rw [← e]; exact heap_set u h.h7, h.ge2, h.lt⟩
theorem RSt.drew {w wx : World} {g2 p7 : Nat} {d : Dsc} (h : RSt w wx g2 p7 d) : RSt w wx.drew g2 p7 d := ⟨h.le.trans ((Below.refl _ _).drew), h.h2, h.h7, h.ge2, h.lt⟩
end Go.Proofs.Ytkbdbandeioibaa
