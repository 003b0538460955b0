/- Texts of one claim, laid together: DownC2 Vp8A Vp8C Vp8E Vp8R Vp8U AppK Law07 Vp8Sizes Vp8G -/
import Derived.Laws.ResultCell
import Derived.Laws.Rows
import Derived.Laws.StructEq
import Derived.StillTactics
import Derived.Deep.CutBlock
import Derived.Laws.Bits64b
import Derived.Laws.OwnMore
import Derived.Test.YtekioihjfggmdaaJo12
import Derived.Test.YtekioihjfggmdaaJo07
import Derived.Test.YtekioihjfggmdaaJo04
import Derived.Test.YtekioihjfggmdaaJo11
/- choose.State.Take. -/
namespace Go.Proofs.Ytekioihjfggmdaa
open Go.RowKit
set_option linter.unusedVariables false

theorem st4 {W : World} {g : Nat} {T : TypeId} {a b c d o0 o1 o2 o3 : Value} (hg : W.heap[g]? = some (.cells #[o0, o1, o2, o3] T (0, 0))) :
    ((((W.setCell ⟨g, 0, none⟩ a).setCell ⟨g, 1, none⟩ b).setCell ⟨g, 2, none⟩ c).setCell ⟨g, 3, none⟩ d).heap[g]? = some (.cells #[a, b, c, d] T (0, 0)) :=
  heap_set (i := 3) d (heap_set (i := 2) c (heap_set (i := 1) b (heap_set (i := 0) a hg)))
theorem be4 {B : Nat} {w W : World} {g : Nat} {a b c d : Value} (h : Below B w W) (hg : B ≤ g) : Below B w ((((W.setCell ⟨g, 0, none⟩ a).setCell ⟨g, 1, none⟩ b).setCell ⟨g, 2, none⟩ c).setCell ⟨g, 3, none⟩ d) :=
  (((h.setCell hg _).setCell hg _).setCell hg _).setCell hg _
theorem chTake_ret {tmps : Array Value} {w W : World} {on : Bool} {src layer tid v : Int} {R : Ch × Int} (hR : R = (⟨on, src, layer, tid⟩, v)) {g : Nat} (ht : tmps.getD 6 undef = .pointer (some ⟨g, 0, none⟩)) (hu : tmps.getD 7 undef = .int .i64 v)
    (hg : W.heap[g]? = some (.cells #[.bool on, .int .i64 src, .int .i64 layer, .int .i64 tid] 89 (0, 0))) (hb : Below w.heap.size w W) :
    bodyPost Try.prog Try.f57 (Gives w (.tuple #[.agg #[.bool R.1.on, .int .i64 R.1.src, .int .i64 R.1.layer, .int .i64 R.1.tid], .int .i64 R.2])) .ret { tmps := tmps, defers := [] } W := by
  have r1 := run_loadVar_row (P := Try.prog) W g 89 89 _ (0, 0) _ hg Try.underlying89 rfl (by kernel_rfl)
  have ht' : tmps[6]?.getD undef = .pointer (some ⟨g, 0, none⟩) := by simpa using ht
  subst hR
  refine bodyPost_ret (v := .tuple #[.agg #[.bool on, .int .i64 src, .int .i64 layer, .int .i64 tid], .int .i64 v]) ?_ rfl ⟨rfl, hb⟩
  rw [results_cell_tmp Try.results57, ht, hu]
  simp [asAddr, r1, Result.andThen]

set_option maxRecDepth 100000 in
set_option maxHeartbeats 1000000 in
theorem chTake_any (s : Ch) (i : Inn) (x : Wnt) (w : World) : Calls Try.prog 57 #[s.val, i.val, x.val] w (Gives w (.tuple #[(s.take i x).1.val, .int .i64 (s.take i x).2])) := by
  have HX := hide (fun W => chOf_any s i.src i.layer W)
  have HT := hide (fun W => chTid_any s i x W)
  obtain ⟨R, hR⟩ : ∃ R, R = s.take i x := ⟨_, rfl⟩
  rw [← hR]
  rw [Ch.take] at hR
  generalize s.is i.src i.layer = b at *
  generalize s.nextTid i x = nt at *
  obtain ⟨on, src, layer, tid⟩ := s
  obtain ⟨xs, xl, xt⟩ := x
  obtain ⟨is, il, begin_, whole, hasTid, itid, sync⟩ := i
  simp only [Ch.val, Wnt.val, Inn.val, srm] at HX HT hR ⊢
  have HR := hide hR
  clear hR
  cases b
  · go_enter Try.func57, Try.ntmps57
    go_wp2_with fail
    refine (HX.out _).mono ?_
    rintro e w' ⟨rfl, hb⟩
    have HB := hide (And.intro ((((((Le.refl w).alloc _).alloc _).alloc _).alloc _).alloc _ |>.trans ⟨hb⟩) ((Le.mk hb).heap (heap_alloc (heap_at (p := w.heap.size + 1 + 1 + 1) (by simp)))))
    obtain ⟨hc, hf⟩ := bcell hb
    clear hb
    cases begin_ <;> cases whole <;> go_wp2_with fail
    all_goals exact chTake_ret (by rw [HR.out]; simp [*]) rfl rfl (st4 HB.out.2) (be4 HB.out.1.out (by omega))
  · go_enter Try.func57, Try.ntmps57
    go_wp2_with fail
    refine (HX.out _).mono ?_
    rintro e w' ⟨rfl, hb⟩
    have HB := hide (And.intro ((((((Le.refl w).alloc _).alloc _).alloc _).alloc _).alloc _ |>.trans ⟨hb⟩) (And.intro ((Le.mk hb).heap (heap_alloc (heap_at (p := w.heap.size + 1 + 1 + 1) (by simp)))) (And.intro hb.size ((Le.mk hb).heap (heap_alloc (heap_alloc (heap_alloc (heap_alloc (heap_alloc_new w _)))))))))
    obtain ⟨hc, hf⟩ := bcell hb
    clear hb
    go_wp2_with fail
    refine (HT.out _).mono ?_
    rintro e w2 ⟨rfl, hb2⟩
    have hz0 : w.heap.size < w'.heap.size := by have := HB.out.2.2.1; simp at this; omega
    have hz1 : w.heap.size + 1 < w'.heap.size := by have := HB.out.2.2.1; simp at this; omega
    have hz2 : w.heap.size + 1 + 1 < w'.heap.size := by have := HB.out.2.2.1; simp at this; omega
    have hz3 : w.heap.size + 1 + 1 + 1 < w'.heap.size := by have := HB.out.2.2.1; simp at this; omega
    have hz4 : w.heap.size + 1 + 1 + 1 + 1 < w'.heap.size := by have := HB.out.2.2.1; simp at this; omega
    have HB2 := hide (And.intro (HB.out.1.trans ⟨hb2⟩) ((Le.mk hb2).heap HB.out.2.1))
    have c03 : w2.cell? ⟨w.heap.size, 3, none⟩ = some (.int .i64 tid) := box_cell ((Le.mk hb2).heap HB.out.2.2.2) 3 _ rfl _ (Le.refl _)
    obtain ⟨hc2, hf2⟩ := bcell hb2
    clear hb2
    cases hasTid <;> go_wp2_with fail
    all_goals exact chTake_ret (by rw [HR.out]; simp [*]) rfl rfl (st4 (heap_far _ HB2.out.2 (by omega))) (be4 (HB2.out.1.out.setCell (Nat.le_refl _) _) (by omega))
end Go.Proofs.Ytekioihjfggmdaa

/- vp8: the small functions. -/
namespace Go.Proofs.Ytekioihjfggmdaa
open Go.RowKit
set_option linter.unusedVariables false

end Go.Proofs.Ytekioihjfggmdaa

/- vp8.clean. -/
namespace Go.Proofs.Ytekioihjfggmdaa
open Go.RowKit
set_option linter.unusedVariables false

end Go.Proofs.Ytekioihjfggmdaa

/- vp8 descriptors compared. -/
namespace Go.Proofs.Ytekioihjfggmdaa
open Go.RowKit
set_option linter.unusedVariables false

theorem desc_st : (Try.prog).underlying 74 = some (.struct ((Try.prog).fieldsOf 74)) := by kernel_rfl
theorem desc_held : (Try.prog).stoodInHeld 74 = false := by kernel_rfl
theorem desc_guard : (Try.prog).eqGuardType (Try.prog).depth 74 = false := by kernel_rfl
theorem refd_st : (Try.prog).underlying 99 = some (.struct ((Try.prog).fieldsOf 99)) := by kernel_rfl
theorem refd_held : (Try.prog).stoodInHeld 99 = false := by kernel_rfl
theorem refd_guard : (Try.prog).eqGuardType (Try.prog).depth 99 = false := by kernel_rfl

theorem ite_ok (p : Prop) [Decidable p] (q : Bool) (w : World) : (if p then Result.ok q w else Result.ok false w) = Result.ok (decide p && q) w := by
  by_cases h : p <;> simp [h]

set_option maxRecDepth 100000 in
set_option maxHeartbeats 2000000 in
theorem desc_eq (a b : Dsc) (w : World) : (Op.equalIn 10000 74 a.val b.val).run Try.prog w = .ok (decide (a = b)) w := by
  obtain ⟨a1, a2, a3, a4, a5, a6, a7, a8, a9, a10, a11, a12, a13, a14⟩ := a
  obtain ⟨b1, b2, b3, b4, b5, b6, b7, b8, b9, b10, b11, b12, b13, b14⟩ := b
  simp only [Dsc.val]
  rw [show (10000 : Nat) = 9999 + 1 from rfl, run_equalIn_agg w 9999 _ _ _ desc_st desc_held]
  simp only [Program.fieldsOf, Try.underlying74]
  go_simp
  simp only [ite_ok, Int.ofNat_inj, Bool.and_true]

set_option maxRecDepth 100000 in
set_option maxHeartbeats 2000000 in
theorem refd_eq (a b : Dsc) (w : World) : (Op.equalIn 10000 99 a.ref b.ref).run Try.prog w = .ok (decide (a = b)) w := by
  obtain ⟨a1, a2, a3, a4, a5, a6, a7, a8, a9, a10, a11, a12, a13, a14⟩ := a
  obtain ⟨b1, b2, b3, b4, b5, b6, b7, b8, b9, b10, b11, b12, b13, b14⟩ := b
  simp only [Dsc.ref]
  rw [show (10000 : Nat) = 9999 + 1 from rfl, run_equalIn_agg w 9999 _ _ _ refd_st refd_held]
  simp only [Program.fieldsOf, Try.underlying99]
  go_simp
  simp only [ite_ok, Int.ofNat_inj, Bool.and_true]

theorem desc_eql (a b : Dsc) (w : World) : (binOp .eql 74 a.val b.val).run Try.prog w = .ok (.bool (decide (a = b))) w := by
  have h := desc_eq a b w
  simp only [Dsc.val] at h ⊢
  rw [run_eql_struct, h]
  rfl
theorem desc_neq (a b : Dsc) (w : World) : (binOp .neq 74 a.val b.val).run Try.prog w = .ok (.bool (!decide (a = b))) w := by
  have h := desc_eq a b w
  simp only [Dsc.val] at h ⊢
  rw [run_neq_struct, h]
  rfl
theorem refd_neq (a b : Dsc) (w : World) : (binOp .neq 99 a.ref b.ref).run Try.prog w = .ok (.bool (!decide (a = b))) w := by
  have h := refd_eq a b w
  simp only [Dsc.ref] at h ⊢
  rw [run_neq_struct, h]
  rfl
theorem desc_guarded (op : BinOp) (x y : Operand) (a b : Dsc) (w : World) : (eqGuard op 74 x y a.val b.val).run Try.prog w = .ok () w := run_eqGuard_agg w op _ x y _ _ desc_guard
theorem refd_guarded (op : BinOp) (x y : Operand) (a b : Dsc) (w : World) : (eqGuard op 99 x y a.ref b.ref).run Try.prog w = .ok () w := run_eqGuard_agg w op _ x y _ _ refd_guard
end Go.Proofs.Ytekioihjfggmdaa

/- vp8.right. -/
namespace Go.Proofs.Ytekioihjfggmdaa
open Go.RowKit
set_option linter.unusedVariables false

theorem and5 (a b c d e : Bool) : (a = false) ∨ (a = true ∧ b = false) ∨ (a = true ∧ b = true ∧ c = false) ∨ (a = true ∧ b = true ∧ c = true ∧ d = false) ∨ (a = true ∧ b = true ∧ c = true ∧ d = true) := by
  cases a <;> cases b <;> cases c <;> cases d <;> simp

end Go.Proofs.Ytekioihjfggmdaa

/- vp8.Put. -/
namespace Go.Proofs.Ytekioihjfggmdaa
open Go.RowKit
set_option linter.unusedVariables false

theorem slPart : SlT Try.prog 194 183 (.agg #[.int .u64 0, .int .i64 0]) 2 16 := ⟨Try.underlying194, by kernel_rfl, rfl, by omega⟩
theorem bitN_le (b : Bool) (x : Nat) : bitN b x ≤ x := by cases b <;> simp [bitN]
theorem or_lt (a b n : Nat) (ha : a < 2 ^ n) (hb : b < 2 ^ n) : a ||| b < 2 ^ n := Nat.or_lt_two_pow ha hb

/-- the parts that vp8.Put puts -/
def Dsc.p0 (d : Dsc) : Nat := bitN d.more 128 ||| bitN d.lone 32 ||| bitN d.start 16 ||| d.part
def Dsc.p1 (d : Dsc) : Nat := bitN d.hasPic 128 ||| bitN d.hasTl0 64 ||| bitN d.hasTid 32 ||| bitN d.hasKey 16
def Dsc.p4 (d : Dsc) : Nat := d.tid * 64 ||| bitN d.sync 32 ||| d.key
def Dsc.ps1 (d : Dsc) : List (Nat × Int) := [(d.p0, 1)] ++ if d.more then [(d.p1, 1)] else []
def Dsc.ps2 (d : Dsc) : List (Nat × Int) := d.ps1 ++ if d.wide then [(32768 ||| d.pic, 2)] else if d.hasPic then [(d.pic, 1)] else []
def Dsc.ps3 (d : Dsc) : List (Nat × Int) := d.ps2 ++ if d.hasTl0 then [(d.tl0, 1)] else []
def Dsc.ps4 (d : Dsc) : List (Nat × Int) := d.ps3 ++ if d.hasTid || d.hasKey then [(d.p4, 1)] else []
/-- vp8.Put's bytes and error -/
def vpB (d : Dsc) : List UInt8 := if d.right then puts d.ps4 else []
def vpF (d : Dsc) : Int := if d.right then 0 else 1
def encPs (l : List (Nat × Int)) : List Value := l.flatMap encPart
theorem encPs_snoc (l : List (Nat × Int)) (p : Nat × Int) : encPs (l ++ [p]) = encPs l ++ encPart p := by simp [encPs]
/-- the parts so far, in a row of their own -/
def PsAt (W wx : World) (v : Value) (l : List (Nat × Int)) : Prop := wx.ownsRow W.heap.size 183 2 v l.length (encPs l) ∧ Below W.heap.size W wx

theorem psAt_new {W wx : World} (h : Below W.heap.size W wx) (p : Nat × Int) : PsAt W (wx.alloc (.cells (encPart p).toArray 183)) (.slice (some ⟨wx.heap.size, 0, none⟩) 1 1) [p] :=
  ⟨⟨rfl, .inr ⟨wx.heap.size, 1, (encPart p).toArray, rfl, h.size, heap_alloc_new wx _, Nat.le_refl _, by simp [maxLen], rfl, rfl⟩⟩, h.alloc h.size _⟩
theorem PsAt.app {W wx w' : World} {v v' : Value} {l : List (Nat × Int)} {p : Nat × Int} {o : Obj} (h : PsAt W wx v l) (ho : w'.ownsRow W.heap.size 183 2 v' (l.length + 1) (encPs l ++ encPart p)) (hg : (wx.alloc o).grownBy w' v.ownBlock) : PsAt W w' v' (l ++ [p]) := by
  refine ⟨?_, below_grown (h.2.alloc h.2.size o) (h.1.alloc o) hg (Nat.le_refl _) (le_alloc h.2.size)⟩
  rw [encPs_snoc, List.length_append]
  exact ho
theorem PsAt.drew {W wx : World} {v : Value} {l : List (Nat × Int)} (h : PsAt W wx v l) : PsAt W wx.drew v l := ⟨h.1, h.2.trans ((Below.refl _ _).drew)⟩
theorem PsAt.le {W wx wz : World} {v : Value} {l : List (Nat × Int)} (h : PsAt W wx v l) (hz : Le wx wz) : PsAt W wz v l := ⟨hz.own h.1, h.2.trans (hz.out.mono h.2.size)⟩
theorem PsAt.app2 {W wx w' : World} {v v' : Value} {l : List (Nat × Int)} {p : Nat × Int} (h : PsAt W wx v l) (ho : w'.ownsRow W.heap.size 183 2 v' (l.length + 1) (encPs l ++ encPart p)) (hg : wx.grownBy w' v.ownBlock) : PsAt W w' v' (l ++ [p]) := by
  refine ⟨?_, below_grown h.2 h.1 hg (Nat.le_refl _) h.2.size⟩
  rw [encPs_snoc, List.length_append]
  exact ho
theorem psAt_len {W wx : World} {v : Value} {l : List (Nat × Int)} (h : PsAt W wx v l) : W.heap.size ≤ wx.heap.size := h.2.size

end Go.Proofs.Ytekioihjfggmdaa

/- append, where the old slice is read on. -/
namespace Go.Proofs.Ytekioihjfggmdaa
open Go.RowKit
set_option linter.unusedVariables false

theorem own_prefix {w : World} {base : Nat} {e : TypeId} {size g n m cap : Nat} {xs ys : List Value} (h : w.ownsRow base e size (.slice (some ⟨g, 0, none⟩) (n + m) cap) (n + m) (xs ++ ys)) (hx : xs.length = n * size) : w.ownsRow base e size (.slice (some ⟨g, 0, none⟩) n cap) n xs := by
  refine ⟨hx, .inr ?_⟩
  rcases h.2 with ⟨hv, _⟩ | ⟨g', cap', cur, hv, h1, h2, h3, h4, h5, h6⟩
  · cases hv
  · injection hv with e1 e2 e3
    injection e1 with e1
    injection e1 with e1 _ _
    subst e1 e3
    refine ⟨g, cap, cur, rfl, h1, h2, by omega, h4, h5, ?_⟩
    have h7 := congrArg (List.take (n * size)) h6
    rw [List.take_take, Nat.min_eq_left (Nat.mul_le_mul_right _ (by omega)), ← hx, List.take_left] at h7
    rw [← hx]
    exact h7
/-- append, and the old slice still reads as it did -/
theorem run_app_keep {P : Program} {w : World} {base : Nat} {t ty e : TypeId} {z : Value} {size bytes : Nat} (T : SlT P t e z size bytes)
    {g n cap : Nat} {xs : List Value} (hown : w.ownsRow base e size (.slice (some ⟨g, 0, none⟩) n cap) n xs) {b off m c : Nat} {news : List Value} (hl : news.length = m * size) (hc : Cells w (some ⟨b, off, none⟩) news) (hm : 0 < m)
    (h1 : ∀ u ∈ news, u.oneCell' = true) (hbytes : (n + m) * bytes ≤ 140737488355328) (h63 : n + m ≤ 9223372036854775807) (hbase : base ≤ w.heap.size) :
    ∃ v' w', (Builtin.append_ #[t, t] ty #[.slice (some ⟨g, 0, none⟩) n cap, .slice (some ⟨b, off, none⟩) m c]).run P w = .ok v' w' ∧ w'.ownsRow base e size v' (n + m) (xs ++ news) ∧ w.grownBy w' (some g) ∧ w'.ownsRow base e size (.slice (some ⟨g, 0, none⟩) n cap) n xs := by
  obtain ⟨i, hi, hz, hsz, hby⟩ := info_parts T.info
  have hne : news ≠ [] := by
    intro e; rw [e] at hl
    have := Nat.mul_pos hm T.pos
    simp at hl; omega
  obtain ⟨b', off', hA, hcell⟩ := hc hne
  injection hA with hA
  injection hA with e1 e2 _
  subst e1 e2
  have hnews : ∀ j u, news[j]? = some u → w.cell? ((⟨b, off, none⟩ : Addr).add j) = some u := fun j u hu => by rw [addr_add]; exact hcell j u hu
  by_cases hroom : n + m ≤ cap
  · obtain ⟨w', hr, h2, h3⟩ := run_append_fits (P := P) w base t ty e i size T.under hi hsz g n cap xs hown ⟨b, off, none⟩ m c news hl hnews h1 hroom
    exact ⟨_, w', hr, h2, h3, own_prefix h2 hown.1⟩
  · have hr := run_append_grow (P := P) w t ty e i z T.under hi hz ⟨g, 0, none⟩ n cap xs (by rw [hsz]; exact hown.1) (hown.cells (g := g) rfl) ⟨b, off, none⟩ m c news (by rw [hsz]; exact hl) hnews (by omega) (by omega) (growslice_fits (by omega) (by rw [hby]; exact hbytes))
    obtain ⟨v', w', hr', h2, h3, _⟩ := run_append_own_at (P := P) w base t ty e i z size bytes T.under hi hz hsz hby T.zs T.pos _ n xs hown ⟨b, off, none⟩ m c news hl hnews h1 (by simp only [maxLen]; omega) hbytes hbase
    rw [hr] at hr'
    injection hr' with e1 e2
    subst e1 e2
    exact ⟨_, _, hr, h2, h3, (show w.drew.ownsRow base e size _ n xs from hown).alloc _⟩
theorem wp_app_keep {P : Program} {o : Oper} {a : Act} {w : World} {K : Act → World → Prop} {Q : Exit → Act → World → Prop} {base : Nat} {t e : TypeId} {z : Value} {size bytes : Nat} (T : SlT P t e z size bytes)
    (s x : Operand) (ho : o.op = .call { callee := .builtin .append, args := #[s, x], argTypes := #[t, t] })
    {g n cap : Nat} {xs : List Value} (hown : w.ownsRow base e size (.slice (some ⟨g, 0, none⟩) n cap) n xs) (hs : a.eval s = .slice (some ⟨g, 0, none⟩) n cap) {b off m c : Nat} (hx : a.eval x = .slice (some ⟨b, off, none⟩) m c) {news : List Value} (hc : Cells w (some ⟨b, off, none⟩) news) (hl : news.length = m * size) (hm : 0 < m)
    (h1 : ∀ u ∈ news, u.oneCell' = true) (hbytes : (n + m) * bytes ≤ 140737488355328) (h63 : n + m ≤ 9223372036854775807) (hbase : base ≤ w.heap.size)
    (h : ∀ v' w', w'.ownsRow base e size v' (n + m) (xs ++ news) → w.grownBy w' (some g) → w'.ownsRow base e size (.slice (some ⟨g, 0, none⟩) n cap) n xs → K (a.put o.dst v') w') : o.wp P a w K Q := by
  obtain ⟨v', w', hr, h2, h3, h4⟩ := run_app_keep (P := P) (ty := o.type) T hown hl hc hm h1 hbytes h63 hbase
  unfold Oper.wp execOp
  simp only [ho, resolve, invoke, builtin, Sem.run_bind, Sem.run_pure, Result.andThen_ok, List.map_toArray, List.map_cons, List.map_nil, hs, hx]
  have hr' : Sem.run P (Builtin.append_ #[t, t] o.type #[.slice (some ⟨g, 0, none⟩) n cap, Value.slice (some ⟨b, off, none⟩) m c]) w = .ok v' w' := hr
  rw [hr']
  exact h v' w' h2 h3 h4

theorem wpl_app_keep {P : Program} {ops : Array Oper} {rest : List Oper} {o : Oper} {a : Act} {w : World} {Q : Exit → Act → World → Prop} (hwt : Region.wanted o (yielded ops a.tmps) = true) {base : Nat} {t e : TypeId} {z : Value} {size bytes : Nat} (T : SlT P t e z size bytes)
    (s x : Operand) (ho : o.op = .call { callee := .builtin .append, args := #[s, x], argTypes := #[t, t] })
    {g n cap : Nat} {xs : List Value} (hown : w.ownsRow base e size (.slice (some ⟨g, 0, none⟩) n cap) n xs) (hs : a.eval s = .slice (some ⟨g, 0, none⟩) n cap) {b off m c : Nat} (hx : a.eval x = .slice (some ⟨b, off, none⟩) m c) {news : List Value} (hc : Cells w (some ⟨b, off, none⟩) news) (hl : news.length = m * size) (hm : 0 < m)
    (h1 : ∀ u ∈ news, u.oneCell' = true) (hbytes : (n + m) * bytes ≤ 140737488355328) (h63 : n + m ≤ 9223372036854775807) (hbase : base ≤ w.heap.size)
    (h : ∀ v' w', w'.ownsRow base e size v' (n + m) (xs ++ news) → w.grownBy w' (some g) → w'.ownsRow base e size (.slice (some ⟨g, 0, none⟩) n cap) n xs → wpList P ops Q rest (a.put o.dst v') w') : wpList P ops Q (o :: rest) a w :=
  wpList_step fun K hK => by
    rw [if_pos hwt]
    exact wp_app_keep T s x ho hown hs hx hc hl hm h1 hbytes h63 hbase fun v' w' h2 h3 h4 => hK _ _ (h v' w' h2 h3 h4)

end Go.Proofs.Ytekioihjfggmdaa

/- louverlaw07.awake. -/
namespace Go.Proofs.Ytekioihjfggmdaa
open Go.RowKit
set_option linter.unusedVariables false

def dA : Dsc := ⟨true, false, true, 0, true, false, 5, false, 0, false, 0, false, false, 0⟩
theorem dA_B : vpB dA = [144, 128, 5] := by decide
theorem dA_F : vpF dA = 0 := by decide
theorem dA_P : vpV [144, 128, 5] = .tuple #[dA.val, .int .i64 3, .int .i64 0] := by
  have h1 : vpE [144, 128, 5] = 0 := by decide
  have h2 : vpN [144, 128, 5] = 3 := by decide
  have h3 : vpD [144, 128, 5] = dA := by decide
  rw [vpV, h1, h2, h3]
theorem dA_W : vpWr [144, 128, 5] 300 1 = [144, 128, 44] := by decide
theorem dA_E : vpE [144, 128, 5] = 0 := by decide
theorem dA_1 : vpW [144, 128, 5, 2] = true := by decide
theorem dA_2 : vpW [144, 128, 5] = false := by decide
theorem dA_ok : dA.Ok := ⟨by decide, by decide, by decide, by decide, by decide⟩

end Go.Proofs.Ytekioihjfggmdaa

/- Vp8Sizes: the law's walk. -/
namespace Go.Proofs.Ytekioihjfggmdaa
open Go.RowKit
set_option linter.unusedVariables false

theorem puts_1 (x : Nat) : (putOne (x, 1)).length = 1 := by simp [putOne, mayB, be_length]
theorem puts_2 (x : Nat) : (putOne (x, 2)).length = 2 := by simp [putOne, mayB, be_length]
/-- how many bytes a descriptor has -/
def szN (d : Dsc) : Nat :=
  let n1 := if d.more then 2 else 1
  let n2 := if d.hasPic then n1 + 1 else n1
  let n3 := if d.wide then n2 + 1 else n2
  let n4 := if d.hasTl0 then n3 + 1 else n3
  if d.hasTid || d.hasKey then n4 + 1 else n4
theorem right_clean (d : Dsc) (h : d.right = true) : d = d.clean := by
  simp only [Dsc.right, Bool.and_eq_true, decide_eq_true_eq] at h
  exact h.1
theorem right_wide (d : Dsc) (h : d.right = true) : d.wide = true → d.hasPic = true := by
  have hc := right_clean d h
  obtain ⟨more, lone, start, part, hasPic, wide, pic, hasTl0, tl0, hasTid, tid, sync, hasKey, key⟩ := d
  intro hw
  simp only at hw ⊢
  subst hw
  cases hasPic
  · cases more <;> cases hasTl0 <;> cases hasTid <;> cases hasKey <;> simp [Dsc.clean, Dsc.zero] at hc
  · rfl
theorem ps4_len (d : Dsc) (h : d.right = true) : (puts d.ps4).length = szN d := by
  have hw := right_wide d h
  obtain ⟨more, lone, start, part, hasPic, wide, pic, hasTl0, tl0, hasTid, tid, sync, hasKey, key⟩ := d
  simp only at hw
  cases more <;> cases wide <;> cases hasPic <;> cases hasTl0 <;> cases hasTid <;> cases hasKey <;> first
    | (exfalso; exact absurd (hw rfl) (by decide))
    | simp [Dsc.ps4, Dsc.ps3, Dsc.ps2, Dsc.ps1, szN, puts, puts_1, puts_2]

end Go.Proofs.Ytekioihjfggmdaa

/- What is put is parsed as it was. -/
namespace Go.Proofs.Ytekioihjfggmdaa
open Go.RowKit
set_option linter.unusedVariables false

theorem parse_more (b m : List UInt8) (h : vpE b = 0) : vpParse (b ++ m) = ⟨(vpParse b).d, (vpParse b).pp, (vpParse b).tp, ((vpParse b).s.1 ++ m, 0)⟩ := by
  rcases form_of b h with ⟨x0, rest, rfl, h0⟩ | ⟨x0, x1, P, T, K, rest, rfl, hF⟩
  · rw [List.cons_append, lone_parse x0 _ h0, lone_parse x0 _ h0]
  · have e : formB x0 x1 P T K rest ++ m = formB x0 x1 P T K (rest ++ m) := by simp [formB]
    rw [e, form_parse _ hF, form_parse _ hF]
theorem nat_u8 (n : Nat) (h : n < 256) : (UInt8.ofNat n).toNat = n := by rw [UInt8.toNat_ofNat']; omega

set_option maxRecDepth 100000 in
theorem p0_bits (more lone start : Bool) (part : Nat) (hp : part ≤ 7) : Dsc.head (bitN more 128 ||| bitN lone 32 ||| bitN start 16 ||| part) = { Dsc.zero with more := more, lone := lone, start := start, part := part } ∧ (bitN more 128 ||| bitN lone 32 ||| bitN start 16 ||| part) < 256 ∧ bt (bitN more 128 ||| bitN lone 32 ||| bitN start 16 ||| part) 128 = more := by
  have h : ∀ more lone start : Bool, ∀ part, part < 8 → Dsc.head (bitN more 128 ||| bitN lone 32 ||| bitN start 16 ||| part) = { Dsc.zero with more := more, lone := lone, start := start, part := part } ∧ (bitN more 128 ||| bitN lone 32 ||| bitN start 16 ||| part) < 256 ∧ bt (bitN more 128 ||| bitN lone 32 ||| bitN start 16 ||| part) 128 = more := by decide
  exact h more lone start part (by omega)
theorem p1_bits (a b c e : Bool) : (bitN a 128 ||| bitN b 64 ||| bitN c 32 ||| bitN e 16) < 256 ∧ bt (bitN a 128 ||| bitN b 64 ||| bitN c 32 ||| bitN e 16) 128 = a ∧ bt (bitN a 128 ||| bitN b 64 ||| bitN c 32 ||| bitN e 16) 64 = b ∧ bt (bitN a 128 ||| bitN b 64 ||| bitN c 32 ||| bitN e 16) 32 = c ∧ bt (bitN a 128 ||| bitN b 64 ||| bitN c 32 ||| bitN e 16) 16 = e := by
  cases a <;> cases b <;> cases c <;> cases e <;> decide
set_option maxRecDepth 100000 in
theorem p4_bits (t : Nat) (s : Bool) (k : Nat) (ht : t ≤ 3) (hk : k ≤ 31) : (t * 64 ||| bitN s 32 ||| k) < 256 ∧ (t * 64 ||| bitN s 32 ||| k) / 64 = t ∧ bt (t * 64 ||| bitN s 32 ||| k) 32 = s ∧ (t * 64 ||| bitN s 32 ||| k) % 32 = k := by
  have h : ∀ t, t < 4 → ∀ s : Bool, ∀ k, k < 32 → (t * 64 ||| bitN s 32 ||| k) < 256 ∧ (t * 64 ||| bitN s 32 ||| k) / 64 = t ∧ bt (t * 64 ||| bitN s 32 ||| k) 32 = s ∧ (t * 64 ||| bitN s 32 ||| k) % 32 = k := by decide
  exact h t (by omega) s k (by omega)
theorem or_wide (p : Nat) (h : p < 32768) : 32768 ||| p = 32768 + p := by
  have := Nat.two_pow_add_eq_or_of_lt (i := 15) h 1
  simpa using this.symm
theorem be_one (x : Nat) : putOne (x, 1) = [UInt8.ofNat x] := by simp [putOne, mayB, be, bAt, List.range_succ]
theorem be_two (x : Nat) : putOne (x, 2) = [UInt8.ofNat (x / 256), UInt8.ofNat x] := by simp [putOne, mayB, be, bAt, List.range_succ]

/-- the bytes of a descriptor that may be, and what is read in them -/
theorem put_parse (d : Dsc) (h : d.right = true) (hd : d.Ok) (rest : List UInt8) : ∃ pp tp, vpParse (puts d.ps4 ++ rest) = ⟨d, pp, tp, (rest, 0)⟩ := by
  have hc := right_clean d h
  simp only [Dsc.right, Bool.and_eq_true, decide_eq_true_eq] at h
  obtain ⟨_, hpart, hpic, htid, hkey⟩ := h
  obtain ⟨more, lone, start, part, hasPic, wide, pic, hasTl0, tl0, hasTid, tid, sync, hasKey, key⟩ := d
  obtain ⟨_, _, ht0, _, _⟩ := hd
  simp only at hpart hpic htid hkey ht0
  obtain ⟨q1, q2, q3⟩ := p0_bits more lone start part hpart
  obtain ⟨r1, r2, r3, r4, r5⟩ := p1_bits hasPic hasTl0 hasTid hasKey
  obtain ⟨s1, s2, s3, s4⟩ := p4_bits tid sync key htid hkey
  cases more
  · simp only [Dsc.clean, Dsc.zero, if_true] at hc
    injection hc with _ _ _ _ e1 e2 e3 e4 e5 e6 e7 e8 e9 e10
    subst e1 e2 e3 e4 e5 e6 e7 e8 e9 e10
    refine ⟨0, 0, ?_⟩
    have e : puts (Dsc.ps4 ⟨false, lone, start, part, false, false, 0, false, 0, false, 0, false, false, 0⟩) ++ rest = UInt8.ofNat (bitN false 128 ||| bitN lone 32 ||| bitN start 16 ||| part) :: rest := by
      simp [Dsc.ps4, Dsc.ps3, Dsc.ps2, Dsc.ps1, puts, be_one, Dsc.p0]
    rw [e, lone_parse _ _ (by rw [nat_u8 _ q2]; exact q3), nat_u8 _ q2, q1]
    rfl
  · have hP : ∃ P, OkP hasPic P ∧ (puts (if wide then [(32768 ||| pic, 2)] else if hasPic then [(pic, 1)] else [])) = P ∧ (∀ d : Dsc, d.hasPic = hasPic → d.wide = false → d.pic = 0 → setP d P = { d with wide := wide, pic := pic }) := by
      cases hasPic
      · have e : wide = false ∧ pic = 0 := by
          simp only [Dsc.clean] at hc
          cases hasTl0 <;> cases hasTid <;> cases hasKey <;> simp at hc <;> simp_all
        obtain ⟨rfl, rfl⟩ := e
        refine ⟨[], .inl ⟨rfl, rfl⟩, by simp [puts], fun d _ h2 h3 => ?_⟩
        obtain ⟨_, _, _, _, _, _, _, _, _, _, _, _, _, _⟩ := d
        simp only at h2 h3
        subst h2 h3
        rfl
      · cases wide
        · simp only [Bool.false_eq_true, if_false] at hpic
          have hy : (UInt8.ofNat pic).toNat = pic := nat_u8 _ (by omega)
          have hb : bt pic 128 = false := by simp [bt]; omega
          refine ⟨[UInt8.ofNat pic], .inr (.inl ⟨rfl, _, rfl, by rw [hy]; exact hb⟩), by simp [puts, be_one], fun d _ _ _ => ?_⟩
          simp [setP, hy]
        · simp only [if_true] at hpic
          have ho := or_wide pic (by omega)
          have h1 : (UInt8.ofNat ((32768 ||| pic) / 256)).toNat = 128 + pic / 256 := by rw [ho, nat_u8 _ (by omega)]; omega
          have h2 : (UInt8.ofNat (32768 ||| pic)).toNat = pic % 256 := by rw [ho, UInt8.toNat_ofNat']; omega
          refine ⟨[UInt8.ofNat ((32768 ||| pic) / 256), UInt8.ofNat (32768 ||| pic)], .inr (.inr ⟨rfl, _, _, rfl, by rw [h1]; simp [bt]; omega⟩), by simp [puts, be_two], fun d _ _ _ => ?_⟩
          simp only [setP, h1, h2]
          rw [show (128 + pic / 256) % 128 * 256 + pic % 256 = pic by omega]
    have hT : ∃ T, Ok1 hasTl0 T ∧ (puts (if hasTl0 then [(tl0, 1)] else [])) = T ∧ (∀ d : Dsc, d.tl0 = 0 → setT d T = { d with tl0 := tl0 }) := by
      cases hasTl0
      · have e : tl0 = 0 := by
          simp only [Dsc.clean] at hc
          cases hasPic <;> cases hasTid <;> cases hasKey <;> simp at hc <;> simp_all
        subst e
        refine ⟨[], .inl ⟨rfl, rfl⟩, by simp [puts], fun d h2 => ?_⟩
        obtain ⟨_, _, _, _, _, _, _, _, _, _, _, _, _, _⟩ := d
        simp only at h2
        subst h2
        rfl
      · refine ⟨[UInt8.ofNat tl0], .inr ⟨rfl, _, rfl⟩, by simp [puts, be_one], fun d _ => ?_⟩
        simp [setT, Dsc.second, nat_u8 _ ht0]
    have hK : ∃ K, Ok1 (hasTid || hasKey) K ∧ (puts (if hasTid || hasKey then [(tid * 64 ||| bitN sync 32 ||| key, 1)] else [])) = K ∧ (∀ d : Dsc, d.hasTid = hasTid → d.hasKey = hasKey → d.tid = 0 → d.sync = false → d.key = 0 → setK d K = { d with tid := tid, sync := sync, key := key }) := by
      have e1 : hasTid = false → tid = 0 ∧ sync = false := by
        rintro rfl
        simp only [Dsc.clean] at hc
        cases hasPic <;> cases hasTl0 <;> cases hasKey <;> simp at hc <;> simp_all
      have e2 : hasKey = false → key = 0 := by
        rintro rfl
        simp only [Dsc.clean] at hc
        cases hasPic <;> cases hasTl0 <;> cases hasTid <;> simp at hc <;> simp_all
      cases hk : (hasTid || hasKey)
      · have hh : hasTid = false ∧ hasKey = false := by simpa using hk
        obtain ⟨rfl, rfl⟩ := hh
        obtain ⟨rfl, rfl⟩ := e1 rfl
        obtain rfl := e2 rfl
        refine ⟨[], .inl ⟨rfl, rfl⟩, by simp [puts], fun d _ _ h3 h4 h5 => ?_⟩
        obtain ⟨_, _, _, _, _, _, _, _, _, _, _, _, _, _⟩ := d
        simp only at h3 h4 h5
        subst h3 h4 h5
        rfl
      · refine ⟨[UInt8.ofNat (tid * 64 ||| bitN sync 32 ||| key)], .inr ⟨rfl, _, rfl⟩, by simp [puts, be_one], fun d h1 h2 h3 h4 h5 => ?_⟩
        have f1 : (if hasTid = true then tid else 0) = tid := by
          cases hasTid
          · rw [(e1 rfl).1]; rfl
          · rfl
        have f2 : (if hasTid = true then sync else false) = sync := by
          cases hasTid
          · rw [(e1 rfl).2]; rfl
          · rfl
        have f3 : (if hasKey = true then key else 0) = key := by
          cases hasKey
          · rw [e2 rfl]; rfl
          · rfl
        rw [setK, nat_u8 _ s1, third_eq, s2, s3, s4, h1, h2, h3, h4, h5, f1, f2, f3]
    obtain ⟨P, okP, eP, sP⟩ := hP
    obtain ⟨T, okT, eT, sT⟩ := hT
    obtain ⟨K, okK, eK, sK⟩ := hK
    have e : puts (Dsc.ps4 ⟨true, lone, start, part, hasPic, wide, pic, hasTl0, tl0, hasTid, tid, sync, hasKey, key⟩) ++ rest =
        formB (UInt8.ofNat (bitN true 128 ||| bitN lone 32 ||| bitN start 16 ||| part)) (UInt8.ofNat (bitN hasPic 128 ||| bitN hasTl0 64 ||| bitN hasTid 32 ||| bitN hasKey 16)) P T K rest := by
      simp only [Dsc.ps4, Dsc.ps3, Dsc.ps2, Dsc.ps1, puts_append, Dsc.p0, Dsc.p1, Dsc.p4, if_true, eP, eT, eK]
      simp [puts, be_one, formB]
    have hF : Form (UInt8.ofNat (bitN true 128 ||| bitN lone 32 ||| bitN start 16 ||| part)) (UInt8.ofNat (bitN hasPic 128 ||| bitN hasTl0 64 ||| bitN hasTid 32 ||| bitN hasKey 16)) P T K :=
      ⟨by rw [nat_u8 _ q2]; exact q3, by rw [nat_u8 _ r1, r2]; exact okP, by rw [nat_u8 _ r1, r3]; exact okT, by rw [nat_u8 _ r1, r4, r5]; exact okK⟩
    have hD : formD (UInt8.ofNat (bitN true 128 ||| bitN lone 32 ||| bitN start 16 ||| part)) (UInt8.ofNat (bitN hasPic 128 ||| bitN hasTl0 64 ||| bitN hasTid 32 ||| bitN hasKey 16)) P T K = ⟨true, lone, start, part, hasPic, wide, pic, hasTl0, tl0, hasTid, tid, sync, hasKey, key⟩ := by
      rw [formD, nat_u8 _ q2, nat_u8 _ r1, q1]
      have eh : Dsc.has { Dsc.zero with more := true, lone := lone, start := start, part := part } (bitN hasPic 128 ||| bitN hasTl0 64 ||| bitN hasTid 32 ||| bitN hasKey 16) = ⟨true, lone, start, part, hasPic, false, 0, hasTl0, 0, hasTid, 0, false, hasKey, 0⟩ := by
        simp only [Dsc.has, r2, r3, r4, r5, Dsc.zero]
      rw [eh, sP _ rfl rfl rfl, sT _ rfl, sK _ rfl rfl rfl rfl rfl]
    exact ⟨place 2 P 0, place (2 + P.length) T 0, by rw [e, form_parse rest hF, hD]⟩
/-- cut anywhere it is short -/
theorem put_short (d : Dsc) (h : d.right = true) (hd : d.Ok) (k : Nat) (hk : k < (puts d.ps4).length) : vpE ((puts d.ps4).take k) = 10 := by
  rcases vpE_two ((puts d.ps4).take k) with h0 | h0
  · exfalso
    have h1 := parse_more _ ((puts d.ps4).drop k) h0
    rw [List.take_append_drop] at h1
    obtain ⟨pp, tp, h2⟩ := put_parse d h hd []
    rw [List.append_nil] at h2
    rw [h2] at h1
    injection h1 with _ _ _ e
    injection e with e _
    have := congrArg List.length e
    simp at this
    omega
  · exact h0
end Go.Proofs.Ytekioihjfggmdaa
