/- vp8.clean. -/
import Derived.Test.YtkbdbandeioibaaVp8A
import Derived.Laws.Rows
namespace Go.Proofs.Ytkbdbandeioibaa
open Go.RowKit
set_option linter.unusedVariables false

/-- a descriptor is given back out of its block -/
theorem clean_ret {w : World} {o : Obj} {cs : Array Value} (h14 : cs.size = 14) {tmps : Array Value} (ht : tmps.getD 2 undef = .pointer (some ⟨w.heap.size + 1, 0, none⟩)) :
    bodyPost Try.prog Try.f58 (Gives w (.agg cs)) .ret { tmps := tmps, defers := [] } ((w.alloc o).alloc (.cells cs 49)) :=
  bodyPost_ret (results_cell_row Try.results58 tmps _ _ 49 cs (0, 0) _ ht (heap_alloc2_new w o _) Try.underlying49 rfl (by rw [h14]; kernel_rfl)) rfl ⟨rfl, (((Le.refl w).alloc o).alloc _).out⟩

set_option maxRecDepth 100000 in
set_option maxHeartbeats 2000000 in
theorem clean_lone (lone start : Bool) (part : Nat) (hasPic : Bool) (wide : Bool) (pic : Nat) (hasTl0 : Bool) (tl0 : Nat) (hasTid : Bool) (tid : Nat) (sync : Bool) (hasKey : Bool) (key : Nat) (w : World) : Calls Try.prog 58 #[(Dsc.mk false lone start part hasPic wide pic hasTl0 tl0 hasTid tid sync hasKey key).val] w (Gives w (Dsc.mk false lone start part hasPic wide pic hasTl0 tl0 hasTid tid sync hasKey key).clean.val) := by
  simp only [Dsc.val, Dsc.clean]
  go_enter Try.func58, Try.ntmps58
  go_wp2_with fail
  exact clean_ret rfl rfl

set_option maxRecDepth 100000 in
set_option maxHeartbeats 2000000 in
theorem clean_ffff (lone start : Bool) (part : Nat) (wide : Bool) (pic : Nat) (tl0 : Nat) (tid : Nat) (sync : Bool) (key : Nat) (w : World) : Calls Try.prog 58 #[(Dsc.mk true lone start part false wide pic false tl0 false tid sync false key).val] w (Gives w (Dsc.mk true lone start part false wide pic false tl0 false tid sync false key).clean.val) := by
  simp only [Dsc.val, Dsc.clean]
  go_enter Try.func58, Try.ntmps58
  go_wp2_with fail
  exact clean_ret rfl rfl

set_option maxRecDepth 100000 in
set_option maxHeartbeats 2000000 in
theorem clean_ffft (lone start : Bool) (part : Nat) (wide : Bool) (pic : Nat) (tl0 : Nat) (tid : Nat) (sync : Bool) (key : Nat) (w : World) : Calls Try.prog 58 #[(Dsc.mk true lone start part false wide pic false tl0 false tid sync true key).val] w (Gives w (Dsc.mk true lone start part false wide pic false tl0 false tid sync true key).clean.val) := by
  simp only [Dsc.val, Dsc.clean]
  go_enter Try.func58, Try.ntmps58
  go_wp2_with fail
  exact clean_ret rfl rfl

set_option maxRecDepth 100000 in
set_option maxHeartbeats 2000000 in
theorem clean_fftf (lone start : Bool) (part : Nat) (wide : Bool) (pic : Nat) (tl0 : Nat) (tid : Nat) (sync : Bool) (key : Nat) (w : World) : Calls Try.prog 58 #[(Dsc.mk true lone start part false wide pic false tl0 true tid sync false key).val] w (Gives w (Dsc.mk true lone start part false wide pic false tl0 true tid sync false key).clean.val) := by
  simp only [Dsc.val, Dsc.clean]
  go_enter Try.func58, Try.ntmps58
  go_wp2_with fail
  exact clean_ret rfl rfl

set_option maxRecDepth 100000 in
set_option maxHeartbeats 2000000 in
theorem clean_fftt (lone start : Bool) (part : Nat) (wide : Bool) (pic : Nat) (tl0 : Nat) (tid : Nat) (sync : Bool) (key : Nat) (w : World) : Calls Try.prog 58 #[(Dsc.mk true lone start part false wide pic false tl0 true tid sync true key).val] w (Gives w (Dsc.mk true lone start part false wide pic false tl0 true tid sync true key).clean.val) := by
  simp only [Dsc.val, Dsc.clean]
  go_enter Try.func58, Try.ntmps58
  go_wp2_with fail
  exact clean_ret rfl rfl

set_option maxRecDepth 100000 in
set_option maxHeartbeats 2000000 in
theorem clean_ftff (lone start : Bool) (part : Nat) (wide : Bool) (pic : Nat) (tl0 : Nat) (tid : Nat) (sync : Bool) (key : Nat) (w : World) : Calls Try.prog 58 #[(Dsc.mk true lone start part false wide pic true tl0 false tid sync false key).val] w (Gives w (Dsc.mk true lone start part false wide pic true tl0 false tid sync false key).clean.val) := by
  simp only [Dsc.val, Dsc.clean]
  go_enter Try.func58, Try.ntmps58
  go_wp2_with fail
  exact clean_ret rfl rfl

set_option maxRecDepth 100000 in
set_option maxHeartbeats 2000000 in
theorem clean_ftft (lone start : Bool) (part : Nat) (wide : Bool) (pic : Nat) (tl0 : Nat) (tid : Nat) (sync : Bool) (key : Nat) (w : World) : Calls Try.prog 58 #[(Dsc.mk true lone start part false wide pic true tl0 false tid sync true key).val] w (Gives w (Dsc.mk true lone start part false wide pic true tl0 false tid sync true key).clean.val) := by
  simp only [Dsc.val, Dsc.clean]
  go_enter Try.func58, Try.ntmps58
  go_wp2_with fail
  exact clean_ret rfl rfl

set_option maxRecDepth 100000 in
set_option maxHeartbeats 2000000 in
theorem clean_fttf (lone start : Bool) (part : Nat) (wide : Bool) (pic : Nat) (tl0 : Nat) (tid : Nat) (sync : Bool) (key : Nat) (w : World) : Calls Try.prog 58 #[(Dsc.mk true lone start part false wide pic true tl0 true tid sync false key).val] w (Gives w (Dsc.mk true lone start part false wide pic true tl0 true tid sync false key).clean.val) := by
  simp only [Dsc.val, Dsc.clean]
  go_enter Try.func58, Try.ntmps58
  go_wp2_with fail
  exact clean_ret rfl rfl

set_option maxRecDepth 100000 in
set_option maxHeartbeats 2000000 in
theorem clean_fttt (lone start : Bool) (part : Nat) (wide : Bool) (pic : Nat) (tl0 : Nat) (tid : Nat) (sync : Bool) (key : Nat) (w : World) : Calls Try.prog 58 #[(Dsc.mk true lone start part false wide pic true tl0 true tid sync true key).val] w (Gives w (Dsc.mk true lone start part false wide pic true tl0 true tid sync true key).clean.val) := by
  simp only [Dsc.val, Dsc.clean]
  go_enter Try.func58, Try.ntmps58
  go_wp2_with fail
  exact clean_ret rfl rfl

set_option maxRecDepth 100000 in
set_option maxHeartbeats 2000000 in
theorem clean_tfff (lone start : Bool) (part : Nat) (wide : Bool) (pic : Nat) (tl0 : Nat) (tid : Nat) (sync : Bool) (key : Nat) (w : World) : Calls Try.prog 58 #[(Dsc.mk true lone start part true wide pic false tl0 false tid sync false key).val] w (Gives w (Dsc.mk true lone start part true wide pic false tl0 false tid sync false key).clean.val) := by
  simp only [Dsc.val, Dsc.clean]
  go_enter Try.func58, Try.ntmps58
  go_wp2_with fail
  exact clean_ret rfl rfl

set_option maxRecDepth 100000 in
set_option maxHeartbeats 2000000 in
theorem clean_tfft (lone start : Bool) (part : Nat) (wide : Bool) (pic : Nat) (tl0 : Nat) (tid : Nat) (sync : Bool) (key : Nat) (w : World) : Calls Try.prog 58 #[(Dsc.mk true lone start part true wide pic false tl0 false tid sync true key).val] w (Gives w (Dsc.mk true lone start part true wide pic false tl0 false tid sync true key).clean.val) := by
  simp only [Dsc.val, Dsc.clean]
  go_enter Try.func58, Try.ntmps58
  go_wp2_with fail
  exact clean_ret rfl rfl

set_option maxRecDepth 100000 in
set_option maxHeartbeats 2000000 in
theorem clean_tftf (lone start : Bool) (part : Nat) (wide : Bool) (pic : Nat) (tl0 : Nat) (tid : Nat) (sync : Bool) (key : Nat) (w : World) : Calls Try.prog 58 #[(Dsc.mk true lone start part true wide pic false tl0 true tid sync false key).val] w (Gives w (Dsc.mk true lone start part true wide pic false tl0 true tid sync false key).clean.val) := by
  simp only [Dsc.val, Dsc.clean]
  go_enter Try.func58, Try.ntmps58
  go_wp2_with fail
  exact clean_ret rfl rfl

set_option maxRecDepth 100000 in
set_option maxHeartbeats 2000000 in
theorem clean_tftt (lone start : Bool) (part : Nat) (wide : Bool) (pic : Nat) (tl0 : Nat) (tid : Nat) (sync : Bool) (key : Nat) (w : World) : Calls Try.prog 58 #[(Dsc.mk true lone start part true wide pic false tl0 true tid sync true key).val] w (Gives w (Dsc.mk true lone start part true wide pic false tl0 true tid sync true key).clean.val) := by
  simp only [Dsc.val, Dsc.clean]
  go_enter Try.func58, Try.ntmps58
  go_wp2_with fail
  exact clean_ret rfl rfl

set_option maxRecDepth 100000 in
set_option maxHeartbeats 2000000 in
theorem clean_ttff (lone start : Bool) (part : Nat) (wide : Bool) (pic : Nat) (tl0 : Nat) (tid : Nat) (sync : Bool) (key : Nat) (w : World) : Calls Try.prog 58 #[(Dsc.mk true lone start part true wide pic true tl0 false tid sync false key).val] w (Gives w (Dsc.mk true lone start part true wide pic true tl0 false tid sync false key).clean.val) := by
  simp only [Dsc.val, Dsc.clean]
  go_enter Try.func58, Try.ntmps58
  go_wp2_with fail
  exact clean_ret rfl rfl

set_option maxRecDepth 100000 in
set_option maxHeartbeats 2000000 in
theorem clean_ttft (lone start : Bool) (part : Nat) (wide : Bool) (pic : Nat) (tl0 : Nat) (tid : Nat) (sync : Bool) (key : Nat) (w : World) : Calls Try.prog 58 #[(Dsc.mk true lone start part true wide pic true tl0 false tid sync true key).val] w (Gives w (Dsc.mk true lone start part true wide pic true tl0 false tid sync true key).clean.val) := by
  simp only [Dsc.val, Dsc.clean]
  go_enter Try.func58, Try.ntmps58
  go_wp2_with fail
  exact clean_ret rfl rfl

set_option maxRecDepth 100000 in
set_option maxHeartbeats 2000000 in
theorem clean_tttf (lone start : Bool) (part : Nat) (wide : Bool) (pic : Nat) (tl0 : Nat) (tid : Nat) (sync : Bool) (key : Nat) (w : World) : Calls Try.prog 58 #[(Dsc.mk true lone start part true wide pic true tl0 true tid sync false key).val] w (Gives w (Dsc.mk true lone start part true wide pic true tl0 true tid sync false key).clean.val) := by
  simp only [Dsc.val, Dsc.clean]
  go_enter Try.func58, Try.ntmps58
  go_wp2_with fail
  exact clean_ret rfl rfl

set_option maxRecDepth 100000 in
set_option maxHeartbeats 2000000 in
theorem clean_tttt (lone start : Bool) (part : Nat) (wide : Bool) (pic : Nat) (tl0 : Nat) (tid : Nat) (sync : Bool) (key : Nat) (w : World) : Calls Try.prog 58 #[(Dsc.mk true lone start part true wide pic true tl0 true tid sync true key).val] w (Gives w (Dsc.mk true lone start part true wide pic true tl0 true tid sync true key).clean.val) := by
  simp only [Dsc.val, Dsc.clean]
  go_enter Try.func58, Try.ntmps58
  go_wp2_with fail
  exact clean_ret rfl rfl

theorem clean_any (d : Dsc) (w : World) : Calls Try.prog 58 #[d.val] w (Gives w d.clean.val) := by
  obtain ⟨more, lone, start, part, hasPic, wide, pic, hasTl0, tl0, hasTid, tid, sync, hasKey, key⟩ := d
  cases more
  · exact clean_lone _ _ _ _ _ _ _ _ _ _ _ _ _ _
  · cases hasPic <;> cases hasTl0 <;> cases hasTid <;> cases hasKey
    · exact clean_ffff _ _ _ _ _ _ _ _ _ _
    · exact clean_ffft _ _ _ _ _ _ _ _ _ _
    · exact clean_fftf _ _ _ _ _ _ _ _ _ _
    · exact clean_fftt _ _ _ _ _ _ _ _ _ _
    · exact clean_ftff _ _ _ _ _ _ _ _ _ _
    · exact clean_ftft _ _ _ _ _ _ _ _ _ _
    · exact clean_fttf _ _ _ _ _ _ _ _ _ _
    · exact clean_fttt _ _ _ _ _ _ _ _ _ _
    · exact clean_tfff _ _ _ _ _ _ _ _ _ _
    · exact clean_tfft _ _ _ _ _ _ _ _ _ _
    · exact clean_tftf _ _ _ _ _ _ _ _ _ _
    · exact clean_tftt _ _ _ _ _ _ _ _ _ _
    · exact clean_ttff _ _ _ _ _ _ _ _ _ _
    · exact clean_ttft _ _ _ _ _ _ _ _ _ _
    · exact clean_tttf _ _ _ _ _ _ _ _ _ _
    · exact clean_tttt _ _ _ _ _ _ _ _ _ _
end Go.Proofs.Ytkbdbandeioibaa
