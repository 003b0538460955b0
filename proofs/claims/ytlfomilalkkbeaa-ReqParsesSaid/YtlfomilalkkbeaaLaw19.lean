/- louverlaw19.awake. -/
import Derived.Test.YtlfomilalkkbeaaReqPut
import Derived.Test.YtlfomilalkkbeaaReqParse
import Derived.Test.YtlfomilalkkbeaaReqAns
namespace Go.Proofs.Ytlfomilalkkbeaa
open Go.RowKit
set_option linter.unusedVariables false

def exQ : Rq := ⟨2, 3, 0, 0, 300, 0, 0, [7]⟩
def exB : List UInt8 := exQ.bytes 9
theorem ex_id : prId exB = 9 := by decide +kernel
theorem ex_rq : prRq exB = exQ := by rfl
theorem ex_err : rqErr exB = 0 := by decide +kernel
theorem ex_len : exB.length = 22 := by decide +kernel
theorem ex_ans : puts (ansL 5 21) = [0, 0, 0, 0, 0, 0, 0, 5, 21] := by decide +kernel
theorem ex_told : toldN [0, 0, 0, 0, 0, 0, 0, 5, 21] = 5 ∧ toldE [0, 0, 0, 0, 0, 0, 0, 5, 21] = 21 ∧ toldB [0, 0, 0, 0, 0, 0, 0, 5, 21] = true := by decide +kernel
theorem ex_ok : exQ.ok = true := by decide +kernel

set_option maxHeartbeats 2000000 in
theorem awake19 (w : World) : Calls Try.prog 25 #[] w fun e w' => e = .returned (.bool true) ∧ Below w.heap.size w w' := by
  have hr : RSl 1 RU32 (w.alloc (.cells #[.int .u32 (7 : Nat)] 83)) exQ.ssrcs (.slice (some ⟨w.heap.size, 0, none⟩) 1 1) := rsl_of_cells (enc := fun (n : Nat) => [Value.int .u32 (n : Int)]) rfl (Nat.le_refl _) (fun _ _ => rfl) (fun x hx => ⟨rfl, by simp [exQ] at hx; subst hx; omega⟩) (by omega) (cells_new w [.int .u32 (7 : Nat)] 83)
  have HR := hide hr
  clear hr
  go_enter Try.func25, Try.ntmps25
  go_wp2_with fail
  refine (reqPut_ok 9 exQ _ _ _ _ (by omega) HR.out ex_ok).mono ?_
  rintro e w1 ⟨v1, rfl, ho1, hb1⟩
  have hB1 := ((Below.refl w.heap.size w).alloc (Nat.le_refl _) _).trans (hb1.mono (le_alloc (Nat.le_refl _)))
  obtain ⟨A1, cap1, rfl, hcap1, _⟩ := own_slice ho1
  have hl1 : (Rq.bytes 9 exQ).length = 22 := ex_len
  have hR1 := hide (rsl_of_own ho1)
  rw [hl1] at hR1
  simp only [hl1]
  clear ho1 hb1 hl1
  have HB1 := hide hB1
  clear hB1
  go_wp2_with fail
  have hp := reqParse_any exB A1 22 cap1 w1 hR1.out (by rw [ex_len]; omega)
  rw [ex_id, ex_rq, ex_err] at hp
  refine hp.mono ?_
  rintro e w2 ⟨A2, cap2, he, hr2, hb2⟩
  obtain rfl : e = .returned (.tuple #[.int .u64 (9 : Nat), .agg #[.int .i64 2, .int .i64 3, .int .i64 0, .int .i64 0, .int .i64 300, .slice A2 1 cap2, .int .i64 0, .int .i64 0], .int .i64 0]) := he
  obtain ⟨A', cap', hv, hcap, hri⟩ := hr2
  injection hv with e1 e2 e3
  subst e1 e3
  obtain ⟨b, off, rfl, hi⟩ := hri (by simp [exQ])
  obtain ⟨cs, _, hcc, hR, _⟩ := hi 0 (by simp [exQ])
  subst hR
  have c7 : w2.cell? ⟨b, off, none⟩ = some (.int .u32 7) := by simpa [exQ] using hcc 0 (by omega)
  have hQ := heap_alloc_new w2 (.cells #[.int .i64 2, .int .i64 3, .int .i64 0, .int .i64 0, .int .i64 300, .slice (some ⟨b, off, none⟩) 1 cap2, .int .i64 0, .int .i64 0] 56)
  have c7' : (w2.alloc (.cells #[.int .i64 2, .int .i64 3, .int .i64 0, .int .i64 0, .int .i64 300, .slice (some ⟨b, off, none⟩) 1 cap2, .int .i64 0, .int .i64 0] 56)).cell? ⟨b, off, none⟩ = some (.int .u32 7) := by rw [World.cell?_alloc_lt w2 _ _ (block_lt c7), c7]
  have hB2 := (HB1.out.trans (hb2.mono HB1.out.size)).alloc (hb2.mono HB1.out.size |>.size |> Nat.le_trans HB1.out.size) (.cells #[.int .i64 2, .int .i64 3, .int .i64 0, .int .i64 0, .int .i64 300, .slice (some ⟨b, off, none⟩) 1 cap2, .int .i64 0, .int .i64 0] 56)
  have HQ := hide hQ; have HB2 := hide hB2
  clear hcc hi hri hb2 hp hQ hB2 hcap
  go_wp2_with fail
  refine (answer_any 5 21 _ (by omega) (by omega)).mono ?_
  rintro e w3 ⟨v3, rfl, ho3, hb3⟩
  rw [ex_ans] at ho3
  obtain ⟨A3, cap3, rfl, hcap3, _⟩ := own_slice ho3
  have hr3 := rsl_of_own ho3
  have hQ3 := heap_below hb3 HQ.out (Array.getElem?_eq_some_iff.1 HQ.out).1
  have c73 := cell_later hb3 c7'
  have HB3 := hide (HB2.out.trans (hb3.mono HB2.out.size))
  have HR3 := hide hr3; have HQ3 := hide hQ3
  clear ho3 hb3 hr3 hQ3 c7 c7' hcap3
  go_wp2_with fail
  have ht := told_any [0, 0, 0, 0, 0, 0, 0, 5, 21] A3 9 cap3 w3 HR3.out (by simp)
  rw [ex_told.1, ex_told.2.1, ex_told.2.2] at ht
  refine ht.mono ?_
  rintro e w4 ⟨rfl, hb4⟩
  have hQ4 := heap_below hb4 HQ3.out (Array.getElem?_eq_some_iff.1 HQ3.out).1
  have c74 := cell_later hb4 c73
  have HB4 := hide (HB3.out.trans (hb4.mono HB3.out.size))
  have d4 := cell_block hQ4 4; have d5 := cell_block hQ4 5
  simp only [List.getElem?_toArray, List.getElem?_cons_zero, List.getElem?_cons_succ] at d4 d5
  have hcv := conv_str (P := Try.prog) w4 24 9 5 A3 9 cap3 [0, 0, 0, 0, 0, 0, 0, 5, 21] Try.underlying24 Try.underlying5 Try.underlying9 (HR3.out.below keeps_u8 hb4 (Nat.le_refl _))
  clear hb4 hQ4 c73 ht
  go_wp2_with fail
  go_ret
  exact ⟨rfl, HB4.out⟩
end Go.Proofs.Ytlfomilalkkbeaa
