/- Texts of one claim, laid together: DownC2 Vp8A Vp8C Vp8E Vp8R Vp8U AppK Law07 Vp8Sizes Vp8G -/
import Derived.Laws.ResultCell
import Derived.Laws.Rows
import Derived.Laws.StructEq
import Derived.StillTactics
import Derived.Deep.CutBlock
import Derived.Laws.Bits64b
import Derived.Laws.OwnMore
import Derived.Test.YtekioihjfggmdaaJo12
import Derived.Test.YtekioihjfggmdaaJo07
import Derived.Test.YtekioihjfggmdaaJo04
import Derived.Test.YtekioihjfggmdaaJo11
/- choose.State.Take. -/
namespace Go.Proofs.Ytekioihjfggmdaa
open Go.RowKit
set_option linter.unusedVariables false

theorem st4 {W : World} {g : Nat} {T : TypeId} {a b c d o0 o1 o2 o3 : Value} (hg : W.heap[g]? = some (.cells #[o0, o1, o2, o3] T (0, 0))) :
    ((((W.setCell ⟨g, 0, none⟩ a).setCell ⟨g, 1, none⟩ b).setCell ⟨g, 2, none⟩ c).setCell ⟨g, 3, none⟩ d).heap[g]? = some (.cells #[a, b, c, d] T (0, 0)) :=
  heap_set (i := 3) d (heap_set (i := 2) c (heap_set (i := 1) b (heap_set (i := 0) a hg)))
theorem be4 {B : Nat} {w W : World} {g : Nat} {a b c d : Value} (h : Below B w W) (hg : B ≤ g) : Below B w ((((W.setCell ⟨g, 0, none⟩ a).setCell ⟨g, 1, none⟩ b).setCell ⟨g, 2, none⟩ c).setCell ⟨g, 3, none⟩ d) :=
  (((h.setCell hg _).setCell hg _).setCell hg _).setCell hg _
theorem chTake_ret {tmps : Array Value} {w W : World} {on : Bool} {src layer tid v : Int} {R : Ch × Int} (hR : R = (⟨on, src, layer, tid⟩, v)) {g : Nat} (ht : tmps.getD 6 undef = .pointer (some ⟨g, 0, none⟩)) (hu : tmps.getD 7 undef = .int .i64 v)
    (hg : W.heap[g]? = some (.cells #[.bool on, .int .i64 src, .int .i64 layer, .int .i64 tid] 89 (0, 0))) (hb : Below w.heap.size w W) :
    bodyPost Try.prog Try.f57 (Gives w (.tuple #[.agg #[.bool R.1.on, .int .i64 R.1.src, .int .i64 R.1.layer, .int .i64 R.1.tid], .int .i64 R.2])) .ret { tmps := tmps, defers := [] } W := by
  have r1 := run_loadVar_row (P := Try.prog) W g 89 89 _ (0, 0) _ hg Try.underlying89 rfl (by kernel_rfl)
  have ht' : tmps[6]?.getD undef = .pointer (some ⟨g, 0, none⟩) := by simpa using ht
  subst hR
  refine bodyPost_ret (v := .tuple #[.agg #[.bool on, .int .i64 src, .int .i64 layer, .int .i64 tid], .int .i64 v]) ?_ rfl ⟨rfl, hb⟩
  rw [results_cell_tmp Try.results57, ht, hu]
  simp [asAddr, r1, Result.andThen]

set_option maxRecDepth 100000 in
set_option maxHeartbeats 1000000 in
theorem chTake_any (s : Ch) (i : Inn) (x : Wnt) (w : World) : Calls Try.prog 57 #[s.val, i.val, x.val] w (Gives w (.tuple #[(s.take i x).1.val, .int .i64 (s.take i x).2])) := by
  have HX := hide (fun W => chOf_any s i.src i.layer W)
  have HT := hide (fun W => chTid_any s i x W)
  obtain ⟨R, hR⟩ : ∃ R, R = s.take i x := ⟨_, rfl⟩
  rw [← hR]
  rw [Ch.take] at hR
  generalize s.is i.src i.layer = b at *
  generalize s.nextTid i x = nt at *
  obtain ⟨on, src, layer, tid⟩ := s
  obtain ⟨xs, xl, xt⟩ := x
  obtain ⟨is, il, begin_, whole, hasTid, itid, sync⟩ := i
  simp only [Ch.val, Wnt.val, Inn.val, srm] at HX HT hR ⊢
  have HR := hide hR
  clear hR
  cases b
  · go_enter Try.func57, Try.ntmps57
    go_wp2_with fail
    refine (HX.out _).mono ?_
    rintro e w' ⟨rfl, hb⟩
    have HB := hide (And.intro ((((((Le.refl w).alloc _).alloc _).alloc _).alloc _).alloc _ |>.trans ⟨hb⟩) ((Le.mk hb).heap (heap_alloc (heap_at (p := w.heap.size + 1 + 1 + 1) (by simp)))))
    obtain ⟨hc, hf⟩ := bcell hb
    clear hb
    cases begin_ <;> cases whole <;> go_wp2_with fail
    all_goals exact chTake_ret (by rw [HR.out]; simp [*]) rfl rfl (st4 HB.out.2) (be4 HB.out.1.out (by omega))
  · go_enter Try.func57, Try.ntmps57
    go_wp2_with fail
    refine (HX.out _).mono ?_
    rintro e w' ⟨rfl, hb⟩
    have HB := hide (And.intro ((((((Le.refl w).alloc _).alloc _).alloc _).alloc _).alloc _ |>.trans ⟨hb⟩) (And.intro ((Le.mk hb).heap (heap_alloc (heap_at (p := w.heap.size + 1 + 1 + 1) (by simp)))) (And.intro hb.size ((Le.mk hb).heap (heap_alloc (heap_alloc (heap_alloc (heap_alloc (heap_alloc_new w _)))))))))
    obtain ⟨hc, hf⟩ := bcell hb
    clear hb
    go_wp2_with fail
    refine (HT.out _).mono ?_
    rintro e w2 ⟨rfl, hb2⟩
    have hz0 : w.heap.size < w'.heap.size := by have := HB.out.2.2.1; simp at this; omega
    have hz1 : w.heap.size + 1 < w'.heap.size := by have := HB.out.2.2.1; simp at this; omega
    have hz2 : w.heap.size + 1 + 1 < w'.heap.size := by have := HB.out.2.2.1; simp at this; omega
    have hz3 : w.heap.size + 1 + 1 + 1 < w'.heap.size := by have := HB.out.2.2.1; simp at this; omega
    have hz4 : w.heap.size + 1 + 1 + 1 + 1 < w'.heap.size := by have := HB.out.2.2.1; simp at this; omega
    have HB2 := hide (And.intro (HB.out.1.trans ⟨hb2⟩) ((Le.mk hb2).heap HB.out.2.1))
    have c03 : w2.cell? ⟨w.heap.size, 3, none⟩ = some (.int .i64 tid) := box_cell ((Le.mk hb2).heap HB.out.2.2.2) 3 _ rfl _ (Le.refl _)
    obtain ⟨hc2, hf2⟩ := bcell hb2
    clear hb2
    cases hasTid <;> go_wp2_with fail
    all_goals exact chTake_ret (by rw [HR.out]; simp [*]) rfl rfl (st4 (heap_far _ HB2.out.2 (by omega))) (be4 (HB2.out.1.out.setCell (Nat.le_refl _) _) (by omega))
end Go.Proofs.Ytekioihjfggmdaa

/- vp8: the small functions. -/
namespace Go.Proofs.Ytekioihjfggmdaa
open Go.RowKit
set_option linter.unusedVariables false

end Go.Proofs.Ytekioihjfggmdaa

/- vp8.clean. -/
namespace Go.Proofs.Ytekioihjfggmdaa
open Go.RowKit
set_option linter.unusedVariables false

end Go.Proofs.Ytekioihjfggmdaa

/- vp8 descriptors compared. -/
namespace Go.Proofs.Ytekioihjfggmdaa
open Go.RowKit
set_option linter.unusedVariables false

theorem ite_ok (p : Prop) [Decidable p] (q : Bool) (w : World) : (if p then Result.ok q w else Result.ok false w) = Result.ok (decide p && q) w := by
  by_cases h : p <;> simp [h]

end Go.Proofs.Ytekioihjfggmdaa

/- vp8.right. -/
namespace Go.Proofs.Ytekioihjfggmdaa
open Go.RowKit
set_option linter.unusedVariables false

end Go.Proofs.Ytekioihjfggmdaa

/- vp8.Put. -/
namespace Go.Proofs.Ytekioihjfggmdaa
open Go.RowKit
set_option linter.unusedVariables false

/-- the parts that vp8.Put puts -/
def Dsc.p0 (d : Dsc) : Nat := bitN d.more 128 ||| bitN d.lone 32 ||| bitN d.start 16 ||| d.part
def Dsc.p1 (d : Dsc) : Nat := bitN d.hasPic 128 ||| bitN d.hasTl0 64 ||| bitN d.hasTid 32 ||| bitN d.hasKey 16
def encPs (l : List (Nat × Int)) : List Value := l.flatMap encPart
theorem encPs_snoc (l : List (Nat × Int)) (p : Nat × Int) : encPs (l ++ [p]) = encPs l ++ encPart p := by simp [encPs]
/-- the parts so far, in a row of their own -/
def PsAt (W wx : World) (v : Value) (l : List (Nat × Int)) : Prop := wx.ownsRow W.heap.size 183 2 v l.length (encPs l) ∧ Below W.heap.size W wx

theorem PsAt.app {W wx w' : World} {v v' : Value} {l : List (Nat × Int)} {p : Nat × Int} {o : Obj} (h : PsAt W wx v l) (ho : w'.ownsRow W.heap.size 183 2 v' (l.length + 1) (encPs l ++ encPart p)) (hg : (wx.alloc o).grownBy w' v.ownBlock) : PsAt W w' v' (l ++ [p]) := by
  refine ⟨?_, below_grown (h.2.alloc h.2.size o) (h.1.alloc o) hg (Nat.le_refl _) (le_alloc h.2.size)⟩
  rw [encPs_snoc, List.length_append]
  exact ho
theorem PsAt.drew {W wx : World} {v : Value} {l : List (Nat × Int)} (h : PsAt W wx v l) : PsAt W wx.drew v l := ⟨h.1, h.2.trans ((Below.refl _ _).drew)⟩
theorem PsAt.le {W wx wz : World} {v : Value} {l : List (Nat × Int)} (h : PsAt W wx v l) (hz : Le wx wz) : PsAt W wz v l := ⟨hz.own h.1, h.2.trans (hz.out.mono h.2.size)⟩
end Go.Proofs.Ytekioihjfggmdaa

/- append, where the old slice is read on. -/
namespace Go.Proofs.Ytekioihjfggmdaa
open Go.RowKit
set_option linter.unusedVariables false

end Go.Proofs.Ytekioihjfggmdaa

/- louverlaw07.awake. -/
namespace Go.Proofs.Ytekioihjfggmdaa
open Go.RowKit
set_option linter.unusedVariables false

end Go.Proofs.Ytekioihjfggmdaa

/- Vp8Sizes: the law's walk. -/
namespace Go.Proofs.Ytekioihjfggmdaa
open Go.RowKit
set_option linter.unusedVariables false

end Go.Proofs.Ytekioihjfggmdaa

/- What is put is parsed as it was. -/
namespace Go.Proofs.Ytekioihjfggmdaa
open Go.RowKit
set_option linter.unusedVariables false

theorem nat_u8 (n : Nat) (h : n < 256) : (UInt8.ofNat n).toNat = n := by rw [UInt8.toNat_ofNat']; omega

theorem be_one (x : Nat) : putOne (x, 1) = [UInt8.ofNat x] := by simp [putOne, mayB, be, bAt, List.range_succ]
end Go.Proofs.Ytekioihjfggmdaa
