/- louverlaw05.awake. -/
import Derived.Test.YtkbdbandeioibaaExtPut
import Derived.Test.YtkbdbandeioibaaExt2
import Derived.Lib.SlBytesConst
namespace Go.Proofs.Ytkbdbandeioibaa
open Go.RowKit
set_option linter.unusedVariables false

def exL : List It := [(1, [97, 98])]
theorem ex_put : extProf exL = 48862 ∧ extB exL = [17, 97, 98, 0] ∧ extErr exL = 0 := by decide +kernel
theorem ex_par : extParse 48862 [17, 97, 98, 0] = (exL, 0) := by decide +kernel
theorem ex_find : findD 1 exL = some [97, 98] ∧ findD 2 exL = none := by decide +kernel

set_option maxRecDepth 100000 in
set_option maxHeartbeats 2000000 in
theorem awake05 (w : World) : Calls Try.prog 16 #[] w (Gives w (.bool true)) := by
  have h0 : RSl 1 RU8 (w.alloc (.cells #[.int .u8 97, .int .u8 98] 5 (2, 3))) [97, 98] (.slice (some ⟨w.heap.size, 0, none⟩) 2 2) :=
    rsl_of_cells (enc := fun (b : UInt8) => [Value.int .u8 b.toNat]) rfl (Nat.le_refl _) (fun _ _ => rfl) (fun _ _ => rfl) (by omega) (fun _ => ⟨w.heap.size, 0, rfl, fun j u hu => by rw [Nat.zero_add, cell_block (heap_alloc_new w _)]; simpa using hu⟩)
  have h1 : RSl 2 RItem ((w.alloc (.cells #[.int .u8 97, .int .u8 98] 5 (2, 3))).alloc (.cells #[.int .u8 1, .slice (some ⟨w.heap.size, 0, none⟩) 2 2] 46)) exL (.slice (some ⟨w.heap.size + 1, 0, none⟩) 1 1) :=
    rsl_of_cells (enc := fun (x : It) => [Value.int .u8 (x.1.toNat : Nat), .slice (some ⟨w.heap.size, 0, none⟩) 2 2]) rfl (Nat.le_refl _) (fun _ _ => rfl)
      (fun x hx => by
        simp only [exL, List.mem_singleton] at hx
        subst hx
        exact ⟨_, rfl, h0.keep keeps_u8 ((Le.refl _).alloc _).out⟩) (by omega) (cells_at (l := [.int .u8 1, .slice (some ⟨w.heap.size, 0, none⟩) 2 2]) (alloc_size _ _))
  have H1 := hide h1
  clear h0 h1
  have kc := fun (w : World) (C : Array Value) (n c : Nat) => Lib.run_convert_bytes_const (P := Try.prog) w 26 5 C n c Try.underlying26 Try.underlying5
  go_enter Try.func16, Try.ntmps16
  go_wp2_with fail
  have hp := extPut_any exL _ _ _ _ H1.out (by decide)
  rw [ex_put.1, ex_put.2.1, ex_put.2.2] at hp
  refine hp.mono ?_
  clear hp
  rintro r w1 ⟨v1, rfl, ho1, hb1⟩
  obtain ⟨A1, cap1, rfl, _, _⟩ := own_slice ho1
  have HL1 := hide ((((Le.refl w).alloc _).alloc _).trans ⟨hb1⟩)
  have HR1 := hide (rsl_of_own ho1)
  clear ho1 hb1
  go_wp2_with fail
  have hp := extParse_any 48862 [17, 97, 98, 0] _ _ _ w1 (by omega) HR1.out (by simp)
  rw [ex_par] at hp
  refine hp.mono ?_
  clear hp
  rintro r w2 ⟨A2, cap2, rfl, hr2, hb2⟩
  have HR2 := hide hr2
  have HL2 : Le w1 w2 := ⟨hb2⟩
  clear hr2 hb2
  go_wp2_with fail
  have hf := extFind_any exL 1 _ _ _ w2 HR2.out (by decide) (by decide)
  rw [ex_find.1] at hf
  refine hf.mono ?_
  clear hf
  rintro r w3 ⟨A3, cap3, rfl, hr3, hb3⟩
  have HR3 := hide hr3
  have HL3 : Le w2 w3 := ⟨hb3⟩
  clear hr3 hb3
  go_wp2_with fail
  have hf := extFind_any exL 2 _ _ _ w3 (HL3.rsl keeps_item HR2.out) (by decide) (by decide)
  rw [ex_find.2] at hf
  refine hf.mono ?_
  clear hf
  rintro r w4 ⟨A4, cap4, rfl, hr4, hb4⟩
  have HL4 : Le w3 w4 := ⟨hb4⟩
  clear hr4 hb4
  have f1 := conv_le HR1.out w4 (HL2.trans (HL3.trans HL4))
  have f2 := conv_le HR3.out w4 HL4
  simp only [Option.getD, List.length_cons, List.length_nil, Nat.reduceAdd] at f1 f2
  have hxl : exL.length = 1 := rfl
  have HLL := hide (HL1.out.trans (HL2.trans (HL3.trans HL4)))
  clear HL2 HL3 HL4
  go_wp2_with fail
  go_ret
  exact ⟨rfl, HLL.out.out⟩
end Go.Proofs.Ytkbdbandeioibaa
