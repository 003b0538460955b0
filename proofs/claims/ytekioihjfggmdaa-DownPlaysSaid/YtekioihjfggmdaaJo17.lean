/- Texts of one claim, laid together: DownM4 -/
import Derived.Test.YtekioihjfggmdaaJo16
/- munge.State.Send. -/
namespace Go.Proofs.Ytekioihjfggmdaa
open Go.RowKit
set_option linter.unusedVariables false

theorem send_ret {Q : Ending → World → Prop} {W : World} {s : Ms} {n : Nm} {b : Bool} {g k : Nat} {tmps : Array Value} (ht : tmps.getD 4 undef = .pointer (some ⟨g, 0, none⟩)) (hu : tmps.getD 5 undef = .pointer (some ⟨k, 0, none⟩)) (hv : tmps.getD 6 undef = .bool b)
    (hg : W.heap[g]? = some (.cells s.cl.toArray 93 (0, 0))) (hk : W.heap[k]? = some (.cells n.cl.toArray 91 (0, 0))) (hQ : Q (.returned (.tuple #[s.val, n.val, .bool b])) W) :
    bodyPost Try.prog Try.f56 Q .ret { tmps := tmps, defers := [] } W := by
  have r1 := run_loadVar_row (P := Try.prog) W g 93 93 _ (0, 0) _ hg Try.underlying93 rfl (by kernel_rfl)
  have r2 := run_loadVar_row (P := Try.prog) W k 91 91 _ (0, 0) _ hk Try.underlying91 rfl (by kernel_rfl)
  have ht' : tmps[4]?.getD undef = .pointer (some ⟨g, 0, none⟩) := by simpa using ht
  have hu' : tmps[5]?.getD undef = .pointer (some ⟨k, 0, none⟩) := by simpa using hu
  have hv' : tmps[6]?.getD undef = .bool b := by simpa using hv
  refine bodyPost_ret (v := .tuple #[s.val, n.val, .bool b]) ?_ rfl hQ
  simp [results, Try.results56, ht', hu', hv', asAddr, r1, r2]
  exact ⟨rfl, rfl⟩

/-- Send's boxes behind a call -/
structure SeSt (w W : World) (s : Ms) (i : Nm) : Prop where
  le : Le w W
  h2 : W.heap[w.heap.size]? = some (.cells s.cl.toArray 93 (0, 0))
  h3 : W.heap[w.heap.size + 1]? = some (.cells i.cl.toArray 91 (0, 0))
  h4 : W.heap[w.heap.size + 1 + 1]? = some (.cells (Ms.mk false 0 0 Nm.zero Nm.zero).cl.toArray 93 (0, 0))
  h5 : W.heap[w.heap.size + 1 + 1 + 1]? = some (.cells Nm.zero.cl.toArray 91 (0, 0))
theorem seSt (w : World) (s : Ms) (i : Nm) {w' : World} (hb : Below ((((w.alloc (.cells s.cl.toArray 93)).alloc (.cells i.cl.toArray 91)).alloc (.cells (Ms.mk false 0 0 Nm.zero Nm.zero).cl.toArray 93)).alloc (.cells Nm.zero.cl.toArray 91)).heap.size ((((w.alloc (.cells s.cl.toArray 93)).alloc (.cells i.cl.toArray 91)).alloc (.cells (Ms.mk false 0 0 Nm.zero Nm.zero).cl.toArray 93)).alloc (.cells Nm.zero.cl.toArray 91)) w') : SeSt w w' s i :=
  ⟨(((((Le.refl w).alloc _).alloc _).alloc _).alloc _).trans ⟨hb⟩, (Le.mk hb).heap (heap_alloc (heap_alloc (heap_alloc (heap_alloc_new w _)))), (Le.mk hb).heap (heap_alloc (heap_alloc (heap_at (by simp)))), (Le.mk hb).heap (heap_alloc (heap_at (by simp))), (Le.mk hb).heap (heap_at (by simp))⟩
theorem SeSt.later {w W W' : World} {s : Ms} {i : Nm} (h : SeSt w W s i) (hl : Le W W') : SeSt w W' s i := ⟨h.le.trans hl, hl.heap h.h2, hl.heap h.h3, hl.heap h.h4, hl.heap h.h5⟩

set_option maxRecDepth 100000 in
set_option maxHeartbeats 2000000 in
theorem msSend_off (s : Ms) (i : Nm) (X : Int) (l : Bool) (hon : s.on = false)  (w : World) (HX : Hd (∀ W, Calls Try.prog 83 #[s.val, i.val] W (Gives W (.tuple #[.int .i64 X, .bool l])))) : Calls Try.prog 56 #[s.val, i.val] w (Gives w (.tuple #[s.val, Nm.zero.val, .bool false])) := by
  have HF : True := trivial
  have HS := hide (fun w' => seSt (w' := w') w s i)
  obtain ⟨R, hR⟩ : ∃ R : Value, R = .tuple #[s.val, Nm.zero.val, .bool false] := ⟨_, rfl⟩
  have HR := hide hR
  have hg : Gives w (.tuple #[s.val, Nm.zero.val, .bool false]) = Gives w R := by rw [hR]
  rw [hg]
  clear hR hg
  simp only [Ms.val, Nm.val] at HX ⊢
  simp only [Ms.cl, Nm.cl, hon] at HS
  rw [hon] at HX ⊢
  go_enter Try.func56, Try.ntmps56
  go_wp2_with fail
  refine (HX.out _).mono ?_
  rintro e w' ⟨rfl, hb⟩
  have hs := HS.out _ hb
  have HL0 := hide hs
  clear hb HS
  have h2 := hs.h2
  simp only [Ms.cl, hon] at h2
  have c0 : w'.cell? ⟨w.heap.size, 0, none⟩ = some (.bool false) := box_cell h2 0 _ rfl _ (Le.refl _)
  have c2 : w'.cell? ⟨w.heap.size, 2, none⟩ = some (.int .i64 s.since) := box_cell h2 2 _ rfl _ (Le.refl _)
  have H2 := hide h2
  clear hs h2
  go_upto_region 3 with fail
  clear c0 c2
  have H4 := hide HL0.out.h4
  have H5 := hide HL0.out.h5
  go_wp2_with (first | (refine wpl_load_blk rfl 93 (.tmp 2) rfl (cs := [.bool false, .int .i64 s.high, .int .i64 s.since, .int .u16 s.off.seq, .int .u32 s.off.time, .int .u16 s.off.pic, .int .u8 s.off.tl0, .int .u16 s.out.seq, .int .u32 s.out.time, .int .u16 s.out.pic, .int .u8 s.out.tl0]) _ rfl Try.underlying93 rfl (by kernel_rfl) H2.out ?_) | (refine wpl_store_blk rfl 93 (.tmp 4) (.tmp 29) (cs := [.bool false, .int .i64 s.high, .int .i64 s.since, .int .u16 s.off.seq, .int .u32 s.off.time, .int .u16 s.off.pic, .int .u8 s.off.tl0, .int .u16 s.out.seq, .int .u32 s.out.time, .int .u16 s.out.pic, .int .u8 s.out.tl0]) rfl rfl rfl (by kernel_rfl) (by simp [Value.oneCell']) H4.out rfl ?_; intro wb hn hg; have hn5 := hide (heap_grown hg H5.out (by simp)); have HG := hide (And.intro hn hg); clear hn hg) | (refine wpl_store_blk rfl 91 (.tmp 5) (.tmp 30) (cs := Nm.zero.cl) rfl rfl rfl (by kernel_rfl) (by simp [Nm.cl, Value.oneCell']) hn5.out rfl ?_; intro wc hn2 hg2))
  refine send_ret (s := s) (n := Nm.zero) rfl rfl rfl (by rw [Ms.cl, hon]; exact heap_grown hg2 HG.out.1 (by simp)) hn2 ?_
  rw [← HR.out]
  exact ⟨rfl, below_row (below_row HL0.out.le.out HG.out.2 (by omega) HL0.out.le.size) hg2 (by omega) (Nat.le_trans HL0.out.le.size HG.out.2.size)⟩

set_option maxRecDepth 100000 in
set_option maxHeartbeats 2000000 in
theorem msSend_late (s : Ms) (i : Nm) (X : Int) (l : Bool) (hon : s.on = true) (hl : l = true) (hx : X ≤ s.since) (w : World) (HX : Hd (∀ W, Calls Try.prog 83 #[s.val, i.val] W (Gives W (.tuple #[.int .i64 X, .bool l])))) : Calls Try.prog 56 #[s.val, i.val] w (Gives w (.tuple #[s.val, Nm.zero.val, .bool false])) := by
  have HF : True := trivial
  subst hl
  have Hx := hide hx
  clear hx
  have HS := hide (fun w' => seSt (w' := w') w s i)
  obtain ⟨R, hR⟩ : ∃ R : Value, R = .tuple #[s.val, Nm.zero.val, .bool false] := ⟨_, rfl⟩
  have HR := hide hR
  have hg : Gives w (.tuple #[s.val, Nm.zero.val, .bool false]) = Gives w R := by rw [hR]
  rw [hg]
  clear hR hg
  simp only [Ms.val, Nm.val] at HX ⊢
  simp only [Ms.cl, Nm.cl, hon] at HS
  rw [hon] at HX ⊢
  go_enter Try.func56, Try.ntmps56
  go_wp2_with fail
  refine (HX.out _).mono ?_
  rintro e w' ⟨rfl, hb⟩
  have hs := HS.out _ hb
  have HL0 := hide hs
  clear hb HS
  have h2 := hs.h2
  simp only [Ms.cl, hon] at h2
  have c0 : w'.cell? ⟨w.heap.size, 0, none⟩ = some (.bool true) := box_cell h2 0 _ rfl _ (Le.refl _)
  have c2 : w'.cell? ⟨w.heap.size, 2, none⟩ = some (.int .i64 s.since) := box_cell h2 2 _ rfl _ (Le.refl _)
  have H2 := hide h2
  clear hs h2
  have hd : decide (X ≤ s.since) = true := decide_eq_true Hx.out
  have hx := Hx.out
  go_upto_region 3 with fail
  clear c0 c2 hd hx
  have H4 := hide HL0.out.h4
  have H5 := hide HL0.out.h5
  go_wp2_with (first | (refine wpl_load_blk rfl 93 (.tmp 2) rfl (cs := [.bool true, .int .i64 s.high, .int .i64 s.since, .int .u16 s.off.seq, .int .u32 s.off.time, .int .u16 s.off.pic, .int .u8 s.off.tl0, .int .u16 s.out.seq, .int .u32 s.out.time, .int .u16 s.out.pic, .int .u8 s.out.tl0]) _ rfl Try.underlying93 rfl (by kernel_rfl) H2.out ?_) | (refine wpl_store_blk rfl 93 (.tmp 4) (.tmp 29) (cs := [.bool true, .int .i64 s.high, .int .i64 s.since, .int .u16 s.off.seq, .int .u32 s.off.time, .int .u16 s.off.pic, .int .u8 s.off.tl0, .int .u16 s.out.seq, .int .u32 s.out.time, .int .u16 s.out.pic, .int .u8 s.out.tl0]) rfl rfl rfl (by kernel_rfl) (by simp [Value.oneCell']) H4.out rfl ?_; intro wb hn hg; have hn5 := hide (heap_grown hg H5.out (by simp)); have HG := hide (And.intro hn hg); clear hn hg) | (refine wpl_store_blk rfl 91 (.tmp 5) (.tmp 30) (cs := Nm.zero.cl) rfl rfl rfl (by kernel_rfl) (by simp [Nm.cl, Value.oneCell']) hn5.out rfl ?_; intro wc hn2 hg2))
  refine send_ret (s := s) (n := Nm.zero) rfl rfl rfl (by rw [Ms.cl, hon]; exact heap_grown hg2 HG.out.1 (by simp)) hn2 ?_
  rw [← HR.out]
  exact ⟨rfl, below_row (below_row HL0.out.le.out HG.out.2 (by omega) HL0.out.le.size) hg2 (by omega) (Nat.le_trans HL0.out.le.size HG.out.2.size)⟩

set_option maxRecDepth 100000 in
set_option maxHeartbeats 4000000 in
theorem msSend_back (s : Ms) (i o : Nm) (X : Int) (hon : s.on = true) (hx : ¬ X ≤ s.since) (w : World) (HX : Hd (∀ W, Calls Try.prog 83 #[s.val, i.val] W (Gives W (.tuple #[.int .i64 X, .bool true])))) (HF : Hd (∀ W, Calls Try.prog 85 #[s.off.val, i.val] W (Gives W o.val))) : Calls Try.prog 56 #[s.val, i.val] w (Gives w (.tuple #[s.val, o.val, .bool true])) := by
  have Hx := hide hx
  clear hx
  have HS := hide (fun w' => seSt (w' := w') w s i)
  obtain ⟨R, hR⟩ : ∃ R : Value, R = .tuple #[s.val, o.val, .bool true] := ⟨_, rfl⟩
  have HR := hide hR
  have hg : Gives w (.tuple #[s.val, o.val, .bool true]) = Gives w R := by rw [hR]
  rw [hg]
  clear hR hg
  simp only [Ms.val, Nm.val] at HX HF ⊢
  simp only [Ms.cl, Nm.cl, hon] at HS
  rw [hon] at HX ⊢
  go_enter Try.func56, Try.ntmps56
  go_wp2_with fail
  refine (HX.out _).mono ?_
  rintro e w' ⟨rfl, hb⟩
  have hs := HS.out _ hb
  have HL0 := hide hs
  clear hb HS
  have h2 := hs.h2
  have h3 := hs.h3
  simp only [Ms.cl, Nm.cl, hon] at h2 h3
  have c0 : w'.cell? ⟨w.heap.size, 0, none⟩ = some (.bool true) := box_cell h2 0 _ rfl _ (Le.refl _)
  have c1 : w'.cell? ⟨w.heap.size, 1, none⟩ = some (.int .i64 s.high) := box_cell h2 1 _ rfl _ (Le.refl _)
  have c2 : w'.cell? ⟨w.heap.size, 2, none⟩ = some (.int .i64 s.since) := box_cell h2 2 _ rfl _ (Le.refl _)
  have c3 : w'.cell? ⟨w.heap.size, 3, none⟩ = some (.int .u16 s.off.seq) := box_cell h2 3 _ rfl _ (Le.refl _)
  have c4 : w'.cell? ⟨w.heap.size, 4, none⟩ = some (.int .u32 s.off.time) := box_cell h2 4 _ rfl _ (Le.refl _)
  have c5 : w'.cell? ⟨w.heap.size, 5, none⟩ = some (.int .u16 s.off.pic) := box_cell h2 5 _ rfl _ (Le.refl _)
  have c6 : w'.cell? ⟨w.heap.size, 6, none⟩ = some (.int .u8 s.off.tl0) := box_cell h2 6 _ rfl _ (Le.refl _)
  have c7 : w'.cell? ⟨w.heap.size, 7, none⟩ = some (.int .u16 s.out.seq) := box_cell h2 7 _ rfl _ (Le.refl _)
  have c8 : w'.cell? ⟨w.heap.size, 8, none⟩ = some (.int .u32 s.out.time) := box_cell h2 8 _ rfl _ (Le.refl _)
  have c9 : w'.cell? ⟨w.heap.size, 9, none⟩ = some (.int .u16 s.out.pic) := box_cell h2 9 _ rfl _ (Le.refl _)
  have c10 : w'.cell? ⟨w.heap.size, 10, none⟩ = some (.int .u8 s.out.tl0) := box_cell h2 10 _ rfl _ (Le.refl _)
  have d0 : w'.cell? ⟨w.heap.size + 1, 0, none⟩ = some (.int .u16 i.seq) := box_cell h3 0 _ rfl _ (Le.refl _)
  have d1 : w'.cell? ⟨w.heap.size + 1, 1, none⟩ = some (.int .u32 i.time) := box_cell h3 1 _ rfl _ (Le.refl _)
  have d2 : w'.cell? ⟨w.heap.size + 1, 2, none⟩ = some (.int .u16 i.pic) := box_cell h3 2 _ rfl _ (Le.refl _)
  have d3 : w'.cell? ⟨w.heap.size + 1, 3, none⟩ = some (.int .u8 i.tl0) := box_cell h3 3 _ rfl _ (Le.refl _)
  clear hs h2 h3
  have hd : decide (X ≤ s.since) = false := decide_eq_false (by have := Hx.out; omega)
  have hx := Hx.out
  go_wp2_with fail
  refine (HF.out _).mono ?_
  rintro e w2 ⟨rfl, hb2⟩
  have HL1 := hide (HL0.out.later ⟨hb2⟩)
  clear hb2 c0 c1 c2 c3 c4 c5 c6 c7 c8 c9 c10 d0 d1 d2 d3 HL0
  clear hd hx
  go_upto_region 7 with fail
  have h10 := heap_alloc_new w2 (.cells #[.int .u16 o.seq, .int .u32 o.time, .int .u16 o.pic, .int .u8 o.tl0] 91)
  have HL := hide (HL1.out.later ((Le.refl w2).alloc (.cells #[.int .u16 o.seq, .int .u32 o.time, .int .u16 o.pic, .int .u8 o.tl0] 91)))
  have hsz := HL1.out.h5
  have hsz := lt_of_heap hsz
  generalize w2.alloc (.cells #[.int .u16 o.seq, .int .u32 o.time, .int .u16 o.pic, .int .u8 o.tl0] 91) = W3 at *
  generalize e10 : w2.heap.size = ga at *
  have E10 := hide e10
  clear e10 HL1
  have hle := HL.out.le
  have HLE3 := hide hle
  have h2 := HL.out.h2
  simp only [Ms.cl, hon] at h2
  have h4 := HL.out.h4
  have h5 := HL.out.h5
  clear hle
  simp only [Ms.cl, Nm.cl, Nm.zero] at h4 h5
  have H2 := hide h2
  have H4 := hide h4
  have H5 := hide h5
  have H10 := hide h10
  clear h2 h4 h5 h10
  have s4 := lt_of_heap H4.out
  have s5 := lt_of_heap H5.out
  have sd : W3.drew.heap.size = W3.heap.size := rfl
  generalize e4 : w.heap.size + 1 + 1 = g4 at *
  generalize e5 : g4 + 1 = g5 at *
  have n24 : w.heap.size ≠ g4 := by omega
  have n25 : w.heap.size ≠ g5 := by omega
  have na4 : ga ≠ g4 := by omega
  have na5 : ga ≠ g5 := by omega
  refine' wp_region_rows 2 38 (Rr g4 g5 (.cells #[.bool true, .int .i64 s.high, .int .i64 s.since, .int .u16 s.off.seq, .int .u32 s.off.time, .int .u16 s.off.pic, .int .u8 s.off.tl0, .int .u16 s.out.seq, .int .u32 s.out.time, .int .u16 s.out.pic, .int .u8 s.out.tl0] 93 (0, 0)) (.cells #[.int .u16 o.seq, .int .u32 o.time, .int .u16 o.pic, .int .u8 o.tl0] 91 (0, 0))) (Is _ :: Is _ :: (fun _ W => W.heap[g4]? = some (Obj.cells #[.bool true, .int .i64 s.high, .int .i64 s.since, .int .u16 s.off.seq, .int .u32 s.off.time, .int .u16 s.off.pic, .int .u8 s.off.tl0, .int .u16 s.out.seq, .int .u32 s.out.time, .int .u16 s.out.pic, .int .u8 s.out.tl0] 93 (0, 0))) :: (fun _ W => W.heap[g5]? = some (Obj.cells #[.int .u16 o.seq, .int .u32 o.time, .int .u16 o.pic, .int .u8 o.tl0] 91 (0, 0))) :: Is _ :: []) ([] :: [] :: [0] :: [1] :: [] :: []) (by kernel_rfl) (by kernel_rfl) (by rfl) (by kernel_rfl) Rr.refl (fun _ _ _ h h' => h.trans h') ⟨St.is, St.is, (fun _ _ _ h hk => h.k2.elim (fun e => e.trans hk) _root_.id), (fun _ _ _ h hk => h.k3.elim (fun e => e.trans hk) _root_.id), St.is, trivial⟩ ?m7
  case m7 =>
    simp (maxSteps := 100000000) only [AllV, Obl2, Leans, factAt, allFacts, actOf, putAll, putRow, Act.put, List.setIfInBounds_toArray, List.set_cons_succ, List.set_cons_zero, List.getElem?_cons_zero, List.getElem?_cons_succ, List.take_succ_cons, List.take_zero, List.drop_succ_cons, List.drop_zero, List.cons_append, List.nil_append, List.length_cons, List.length_nil, Nat.reduceAdd]
    intro x0 x1 x2 x3 x4
    refine ⟨⟨?_, ?_, ?_, ?_, ?_, trivial⟩, ?_⟩
    -- 0: 38 := Op.load 93 t2
    · intro w hw  K hK; refine cast (if_pos (show Region.wanted _ _ = true from rfl)).symm ?_; have hz := hw.heap H2.out n24 n25; refine wp_load_blk 93 (.tmp 2) rfl (cs := [.bool true, .int .i64 s.high, .int .i64 s.since, .int .u16 s.off.seq, .int .u32 s.off.time, .int .u16 s.off.pic, .int .u8 s.off.tl0, .int .u16 s.out.seq, .int .u32 s.out.time, .int .u16 s.out.pic, .int .u8 s.out.tl0]) _ rfl Try.underlying93 rfl (by kernel_rfl) hz ?_; exact hK _ _ (Rr.refl _) (Is.mk _ _)
    -- 1: 39 := Op.load 91 t10
    · intro w hw  K hK; refine cast (if_pos (show Region.wanted _ _ = true from rfl)).symm ?_; have hz := hw.heap H10.out na4 na5; refine wp_load_blk 91 (.tmp 10) rfl (cs := [.int .u16 o.seq, .int .u32 o.time, .int .u16 o.pic, .int .u8 o.tl0]) _ rfl Try.underlying91 rfl (by kernel_rfl) hz ?_; exact hK _ _ (Rr.refl _) (Is.mk _ _)
    -- 2: none := Op.store 93 t4 t38
    · intro w hw h0 K hK; cases h0; refine cast (if_pos (show Region.wanted _ _ = true from rfl)).symm ?_; rcases hw.at2 H4.out with ho | ho <;> (refine wp_store_blk 93 (.tmp 4) (.tmp 38) rfl (cs := [.bool true, .int .i64 s.high, .int .i64 s.since, .int .u16 s.off.seq, .int .u32 s.off.time, .int .u16 s.off.pic, .int .u8 s.off.tl0, .int .u16 s.out.seq, .int .u32 s.out.time, .int .u16 s.out.pic, .int .u8 s.out.tl0]) rfl rfl (by kernel_rfl) (by simp [Value.oneCell']) ho rfl ?_; intro w' h' hg'; exact hK undef _ (Rr.store2 hg' h' (by omega) (by have := hw.size; omega)) h')
    -- 3: none := Op.store 91 t5 t39
    · intro w hw h1 K hK; cases h1; refine cast (if_pos (show Region.wanted _ _ = true from rfl)).symm ?_; rcases hw.at3 H5.out with ho | ho <;> (refine wp_store_blk 91 (.tmp 5) (.tmp 39) rfl (cs := [.int .u16 o.seq, .int .u32 o.time, .int .u16 o.pic, .int .u8 o.tl0]) rfl rfl (by kernel_rfl) (by simp [Value.oneCell']) ho rfl ?_; intro w' h' hg'; exact hK undef _ (Rr.store3 hg' h' (by omega) (by have := hw.size; omega)) h')
    -- 4: 6 := Op.assign (const (Value.bool true))
    · intro w hw  K hK; go_simp; exact hK _ _ (Rr.refl _) (Is.mk _ _)
    · intro wz hz h0 h1 h2 h3 h4; cases h0; cases h1; cases h4; skip
      go_wp2_with fail
      refine send_ret (s := s) (n := o) rfl rfl rfl (by rw [Ms.cl, hon]; exact h2) h3 ?_
      rw [← HR.out]
      exact ⟨rfl, (hz.below HLE3.out.drew.out (by omega) (by omega) HLE3.out.size)⟩

set_option maxRecDepth 100000 in
set_option maxHeartbeats 4000000 in
theorem msSend_on (s : Ms) (i o : Nm) (X : Int) (hon : s.on = true) (hle : ∀ W, Calls Try.prog 23 #[.int .u32 o.time, .int .u32 s.out.time] W fun e w' => e = .returned (.bool false) ∧ w' = W) (w : World) (HX : Hd (∀ W, Calls Try.prog 83 #[s.val, i.val] W (Gives W (.tuple #[.int .i64 X, .bool false])))) (HF : Hd (∀ W, Calls Try.prog 85 #[s.off.val, i.val] W (Gives W o.val))) : Calls Try.prog 56 #[s.val, i.val] w (Gives w (.tuple #[(Ms.mk true X s.since s.off ⟨o.seq, o.time, o.pic, o.tl0⟩).val, (Nm.mk o.seq o.time o.pic o.tl0).val, .bool true])) := by
  have HLE := hide hle
  clear hle
  have HS := hide (fun w' => seSt (w' := w') w s i)
  obtain ⟨R, hR⟩ : ∃ R : Value, R = .tuple #[(Ms.mk true X s.since s.off ⟨o.seq, o.time, o.pic, o.tl0⟩).val, (Nm.mk o.seq o.time o.pic o.tl0).val, .bool true] := ⟨_, rfl⟩
  have HR := hide hR
  have hg : Gives w (.tuple #[(Ms.mk true X s.since s.off ⟨o.seq, o.time, o.pic, o.tl0⟩).val, (Nm.mk o.seq o.time o.pic o.tl0).val, .bool true]) = Gives w R := by rw [hR]
  rw [hg]
  clear hR hg
  simp only [Ms.val, Nm.val] at HX HF ⊢
  simp only [Ms.cl, Nm.cl, hon] at HS
  rw [hon] at HX ⊢
  go_enter Try.func56, Try.ntmps56
  go_wp2_with fail
  refine (HX.out _).mono ?_
  rintro e w' ⟨rfl, hb⟩
  have hs := HS.out _ hb
  have HL0 := hide hs
  clear hb HS
  have h2 := hs.h2
  have h3 := hs.h3
  simp only [Ms.cl, Nm.cl, hon] at h2 h3
  have c0 : w'.cell? ⟨w.heap.size, 0, none⟩ = some (.bool true) := box_cell h2 0 _ rfl _ (Le.refl _)
  have c1 : w'.cell? ⟨w.heap.size, 1, none⟩ = some (.int .i64 s.high) := box_cell h2 1 _ rfl _ (Le.refl _)
  have c2 : w'.cell? ⟨w.heap.size, 2, none⟩ = some (.int .i64 s.since) := box_cell h2 2 _ rfl _ (Le.refl _)
  have c3 : w'.cell? ⟨w.heap.size, 3, none⟩ = some (.int .u16 s.off.seq) := box_cell h2 3 _ rfl _ (Le.refl _)
  have c4 : w'.cell? ⟨w.heap.size, 4, none⟩ = some (.int .u32 s.off.time) := box_cell h2 4 _ rfl _ (Le.refl _)
  have c5 : w'.cell? ⟨w.heap.size, 5, none⟩ = some (.int .u16 s.off.pic) := box_cell h2 5 _ rfl _ (Le.refl _)
  have c6 : w'.cell? ⟨w.heap.size, 6, none⟩ = some (.int .u8 s.off.tl0) := box_cell h2 6 _ rfl _ (Le.refl _)
  have c7 : w'.cell? ⟨w.heap.size, 7, none⟩ = some (.int .u16 s.out.seq) := box_cell h2 7 _ rfl _ (Le.refl _)
  have c8 : w'.cell? ⟨w.heap.size, 8, none⟩ = some (.int .u32 s.out.time) := box_cell h2 8 _ rfl _ (Le.refl _)
  have c9 : w'.cell? ⟨w.heap.size, 9, none⟩ = some (.int .u16 s.out.pic) := box_cell h2 9 _ rfl _ (Le.refl _)
  have c10 : w'.cell? ⟨w.heap.size, 10, none⟩ = some (.int .u8 s.out.tl0) := box_cell h2 10 _ rfl _ (Le.refl _)
  have d0 : w'.cell? ⟨w.heap.size + 1, 0, none⟩ = some (.int .u16 i.seq) := box_cell h3 0 _ rfl _ (Le.refl _)
  have d1 : w'.cell? ⟨w.heap.size + 1, 1, none⟩ = some (.int .u32 i.time) := box_cell h3 1 _ rfl _ (Le.refl _)
  have d2 : w'.cell? ⟨w.heap.size + 1, 2, none⟩ = some (.int .u16 i.pic) := box_cell h3 2 _ rfl _ (Le.refl _)
  have d3 : w'.cell? ⟨w.heap.size + 1, 3, none⟩ = some (.int .u8 i.tl0) := box_cell h3 3 _ rfl _ (Le.refl _)
  clear hs h2 h3
  go_wp2_with fail
  refine (HF.out _).mono ?_
  rintro e w2 ⟨rfl, hb2⟩
  have HL1 := hide (HL0.out.later ⟨hb2⟩)
  clear hb2 c0 c1 c2 c3 c4 c5 c6 c7 c8 c9 c10 d0 d1 d2 d3 HL0
  go_upto_region 8 with fail
  have h10 := heap_alloc_new w2 (.cells #[.int .u16 o.seq, .int .u32 o.time, .int .u16 o.pic, .int .u8 o.tl0] 91)
  have HL := hide (HL1.out.later ((Le.refl w2).alloc (.cells #[.int .u16 o.seq, .int .u32 o.time, .int .u16 o.pic, .int .u8 o.tl0] 91)))
  have hsz := HL1.out.h5
  have hsz := lt_of_heap hsz
  generalize w2.alloc (.cells #[.int .u16 o.seq, .int .u32 o.time, .int .u16 o.pic, .int .u8 o.tl0] 91) = W3 at *
  generalize e10 : w2.heap.size = ga at *
  have E10 := hide e10
  clear e10 HL1
  have hle := HL.out.le
  have HLE3 := hide hle
  have h2 := HL.out.h2
  simp only [Ms.cl, hon] at h2
  have h4 := HL.out.h4
  have h5 := HL.out.h5
  clear hle
  have c1 : W3.cell? ⟨w.heap.size, 1, none⟩ = some (.int .i64 s.high) := box_cell h2 1 _ rfl _ (Le.refl _)
  have c7 : W3.cell? ⟨w.heap.size, 7, none⟩ = some (.int .u16 s.out.seq) := box_cell h2 7 _ rfl _ (Le.refl _)
  have c8 : W3.cell? ⟨w.heap.size, 8, none⟩ = some (.int .u32 s.out.time) := box_cell h2 8 _ rfl _ (Le.refl _)
  have c9 : W3.cell? ⟨w.heap.size, 9, none⟩ = some (.int .u16 s.out.pic) := box_cell h2 9 _ rfl _ (Le.refl _)
  have c10 : W3.cell? ⟨w.heap.size, 10, none⟩ = some (.int .u8 s.out.tl0) := box_cell h2 10 _ rfl _ (Le.refl _)
  have d0 : W3.cell? ⟨ga, 0, none⟩ = some (.int .u16 o.seq) := box_cell h10 0 _ rfl _ (Le.refl _)
  have d1 : W3.cell? ⟨ga, 1, none⟩ = some (.int .u32 o.time) := box_cell h10 1 _ rfl _ (Le.refl _)
  have d2 : W3.cell? ⟨ga, 2, none⟩ = some (.int .u16 o.pic) := box_cell h10 2 _ rfl _ (Le.refl _)
  have d3 : W3.cell? ⟨ga, 3, none⟩ = some (.int .u8 o.tl0) := box_cell h10 3 _ rfl _ (Le.refl _)
  have f1 : W3.frozen? ⟨w.heap.size, 1, none⟩ = false := free_block h2 1
  have f7 : W3.frozen? ⟨w.heap.size, 7, none⟩ = false := free_block h2 7
  have f8 : W3.frozen? ⟨w.heap.size, 8, none⟩ = false := free_block h2 8
  have f9 : W3.frozen? ⟨w.heap.size, 9, none⟩ = false := free_block h2 9
  have f10 : W3.frozen? ⟨w.heap.size, 10, none⟩ = false := free_block h2 10
  have fa : W3.frozen? ⟨ga, 1, none⟩ = false := free_block h10 1
  have ne1 : ga ≠ w.heap.size := by omega
  have ne2 : w.heap.size ≠ ga := by omega
  have H2 := hide h2
  have H4 := hide h4
  have H5 := hide h5
  have H10 := hide h10
  have HZ := hide hsz
  clear h2 h4 h5 h10 hsz
  go_wp2_with fail
  refine (HLE.out _).mono ?_
  rintro e w4 ⟨rfl, rfl⟩
  go_upto_region 12 with fail
  have HB : Hd ((((((w4.setCell ⟨w.heap.size, 1, none⟩ (.int .i64 X)).setCell ⟨w.heap.size, 7, none⟩ (.int .u16 o.seq)).setCell ⟨w.heap.size, 8, none⟩ (.int .u32 o.time)).setCell ⟨w.heap.size, 9, none⟩ (.int .u16 o.pic)).setCell ⟨w.heap.size, 10, none⟩ (.int .u8 o.tl0)).heap[w.heap.size]? = some (.cells #[.bool true, .int .i64 X, .int .i64 s.since, .int .u16 s.off.seq, .int .u32 s.off.time, .int .u16 s.off.pic, .int .u8 s.off.tl0, .int .u16 o.seq, .int .u32 o.time, .int .u16 o.pic, .int .u8 o.tl0] 93 (0, 0)) ∧ (((((w4.setCell ⟨w.heap.size, 1, none⟩ (.int .i64 X)).setCell ⟨w.heap.size, 7, none⟩ (.int .u16 o.seq)).setCell ⟨w.heap.size, 8, none⟩ (.int .u32 o.time)).setCell ⟨w.heap.size, 9, none⟩ (.int .u16 o.pic)).setCell ⟨w.heap.size, 10, none⟩ (.int .u8 o.tl0)).heap[w.heap.size + 1 + 1]? = some (.cells (Ms.mk false 0 0 Nm.zero Nm.zero).cl.toArray 93 (0, 0)) ∧ (((((w4.setCell ⟨w.heap.size, 1, none⟩ (.int .i64 X)).setCell ⟨w.heap.size, 7, none⟩ (.int .u16 o.seq)).setCell ⟨w.heap.size, 8, none⟩ (.int .u32 o.time)).setCell ⟨w.heap.size, 9, none⟩ (.int .u16 o.pic)).setCell ⟨w.heap.size, 10, none⟩ (.int .u8 o.tl0)).heap[w.heap.size + 1 + 1 + 1]? = some (.cells Nm.zero.cl.toArray 91 (0, 0)) ∧ (((((w4.setCell ⟨w.heap.size, 1, none⟩ (.int .i64 X)).setCell ⟨w.heap.size, 7, none⟩ (.int .u16 o.seq)).setCell ⟨w.heap.size, 8, none⟩ (.int .u32 o.time)).setCell ⟨w.heap.size, 9, none⟩ (.int .u16 o.pic)).setCell ⟨w.heap.size, 10, none⟩ (.int .u8 o.tl0)).heap[ga]? = some (.cells #[.int .u16 o.seq, .int .u32 o.time, .int .u16 o.pic, .int .u8 o.tl0] 91 (0, 0)) ∧ Le w (((((w4.setCell ⟨w.heap.size, 1, none⟩ (.int .i64 X)).setCell ⟨w.heap.size, 7, none⟩ (.int .u16 o.seq)).setCell ⟨w.heap.size, 8, none⟩ (.int .u32 o.time)).setCell ⟨w.heap.size, 9, none⟩ (.int .u16 o.pic)).setCell ⟨w.heap.size, 10, none⟩ (.int .u8 o.tl0))) := hide ⟨(heap_set (i := 10) _ (heap_set (i := 9) _ (heap_set (i := 8) _ (heap_set (i := 7) _ (heap_set (i := 1) _ H2.out))))), (heap_far _ (heap_far _ (heap_far _ (heap_far _ (heap_far _ H4.out (by omega)) (by omega)) (by omega)) (by omega)) (by omega)), (heap_far _ (heap_far _ (heap_far _ (heap_far _ (heap_far _ H5.out (by omega)) (by omega)) (by omega)) (by omega)) (by omega)), (heap_far _ (heap_far _ (heap_far _ (heap_far _ (heap_far _ H10.out ne1) ne1) ne1) ne1) ne1), ⟨(((((HLE3.out.out.setCell (Nat.le_refl _) _).setCell (Nat.le_refl _) _).setCell (Nat.le_refl _) _).setCell (Nat.le_refl _) _).setCell (Nat.le_refl _) _)⟩⟩
  generalize (((((w4.setCell ⟨w.heap.size, 1, none⟩ (.int .i64 X)).setCell ⟨w.heap.size, 7, none⟩ (.int .u16 o.seq)).setCell ⟨w.heap.size, 8, none⟩ (.int .u32 o.time)).setCell ⟨w.heap.size, 9, none⟩ (.int .u16 o.pic)).setCell ⟨w.heap.size, 10, none⟩ (.int .u8 o.tl0)) = W5 at *
  clear c1 c7 c8 c9 c10 d0 d1 d2 d3 f1 f7 f8 f9 f10 fa ne1 ne2 H2 H4 H5 H10 HL HLE3
  have hsz := HZ.out
  obtain ⟨h2, h4, h5, h10, hle⟩ := HB.out
  have HLE3 := hide hle
  clear hle HB
  simp only [Ms.cl, Nm.cl, Nm.zero] at h4 h5
  have H2 := hide h2
  have H4 := hide h4
  have H5 := hide h5
  have H10 := hide h10
  clear h2 h4 h5 h10
  have s4 := lt_of_heap H4.out
  have s5 := lt_of_heap H5.out
  have sd : W5.drew.heap.size = W5.heap.size := rfl
  generalize e4 : w.heap.size + 1 + 1 = g4 at *
  generalize e5 : g4 + 1 = g5 at *
  have n24 : w.heap.size ≠ g4 := by omega
  have n25 : w.heap.size ≠ g5 := by omega
  have na4 : ga ≠ g4 := by omega
  have na5 : ga ≠ g5 := by omega
  refine' wp_region_rows 2 54 (Rr g4 g5 (.cells #[.bool true, .int .i64 X, .int .i64 s.since, .int .u16 s.off.seq, .int .u32 s.off.time, .int .u16 s.off.pic, .int .u8 s.off.tl0, .int .u16 o.seq, .int .u32 o.time, .int .u16 o.pic, .int .u8 o.tl0] 93 (0, 0)) (.cells #[.int .u16 o.seq, .int .u32 o.time, .int .u16 o.pic, .int .u8 o.tl0] 91 (0, 0))) (Is _ :: Is _ :: (fun _ W => W.heap[g4]? = some (Obj.cells #[.bool true, .int .i64 X, .int .i64 s.since, .int .u16 s.off.seq, .int .u32 s.off.time, .int .u16 s.off.pic, .int .u8 s.off.tl0, .int .u16 o.seq, .int .u32 o.time, .int .u16 o.pic, .int .u8 o.tl0] 93 (0, 0))) :: (fun _ W => W.heap[g5]? = some (Obj.cells #[.int .u16 o.seq, .int .u32 o.time, .int .u16 o.pic, .int .u8 o.tl0] 91 (0, 0))) :: Is _ :: []) ([] :: [] :: [0] :: [1] :: [] :: []) (by kernel_rfl) (by kernel_rfl) (by rfl) (by kernel_rfl) Rr.refl (fun _ _ _ h h' => h.trans h') ⟨St.is, St.is, (fun _ _ _ h hk => h.k2.elim (fun e => e.trans hk) _root_.id), (fun _ _ _ h hk => h.k3.elim (fun e => e.trans hk) _root_.id), St.is, trivial⟩ ?m12
  case m12 =>
    simp (maxSteps := 100000000) only [AllV, Obl2, Leans, factAt, allFacts, actOf, putAll, putRow, Act.put, List.setIfInBounds_toArray, List.set_cons_succ, List.set_cons_zero, List.getElem?_cons_zero, List.getElem?_cons_succ, List.take_succ_cons, List.take_zero, List.drop_succ_cons, List.drop_zero, List.cons_append, List.nil_append, List.length_cons, List.length_nil, Nat.reduceAdd]
    intro x0 x1 x2 x3 x4
    refine ⟨⟨?_, ?_, ?_, ?_, ?_, trivial⟩, ?_⟩
    -- 0: 54 := Op.load 93 t2
    · intro w hw  K hK; refine cast (if_pos (show Region.wanted _ _ = true from rfl)).symm ?_; have hz := hw.heap H2.out n24 n25; refine wp_load_blk 93 (.tmp 2) rfl (cs := [.bool true, .int .i64 X, .int .i64 s.since, .int .u16 s.off.seq, .int .u32 s.off.time, .int .u16 s.off.pic, .int .u8 s.off.tl0, .int .u16 o.seq, .int .u32 o.time, .int .u16 o.pic, .int .u8 o.tl0]) _ rfl Try.underlying93 rfl (by kernel_rfl) hz ?_; exact hK _ _ (Rr.refl _) (Is.mk _ _)
    -- 1: 55 := Op.load 91 t10
    · intro w hw  K hK; refine cast (if_pos (show Region.wanted _ _ = true from rfl)).symm ?_; have hz := hw.heap H10.out na4 na5; refine wp_load_blk 91 (.tmp 10) rfl (cs := [.int .u16 o.seq, .int .u32 o.time, .int .u16 o.pic, .int .u8 o.tl0]) _ rfl Try.underlying91 rfl (by kernel_rfl) hz ?_; exact hK _ _ (Rr.refl _) (Is.mk _ _)
    -- 2: none := Op.store 93 t4 t54
    · intro w hw h0 K hK; cases h0; refine cast (if_pos (show Region.wanted _ _ = true from rfl)).symm ?_; rcases hw.at2 H4.out with ho | ho <;> (refine wp_store_blk 93 (.tmp 4) (.tmp 54) rfl (cs := [.bool true, .int .i64 X, .int .i64 s.since, .int .u16 s.off.seq, .int .u32 s.off.time, .int .u16 s.off.pic, .int .u8 s.off.tl0, .int .u16 o.seq, .int .u32 o.time, .int .u16 o.pic, .int .u8 o.tl0]) rfl rfl (by kernel_rfl) (by simp [Value.oneCell']) ho rfl ?_; intro w' h' hg'; exact hK undef _ (Rr.store2 hg' h' (by omega) (by have := hw.size; omega)) h')
    -- 3: none := Op.store 91 t5 t55
    · intro w hw h1 K hK; cases h1; refine cast (if_pos (show Region.wanted _ _ = true from rfl)).symm ?_; rcases hw.at3 H5.out with ho | ho <;> (refine wp_store_blk 91 (.tmp 5) (.tmp 55) rfl (cs := [.int .u16 o.seq, .int .u32 o.time, .int .u16 o.pic, .int .u8 o.tl0]) rfl rfl (by kernel_rfl) (by simp [Value.oneCell']) ho rfl ?_; intro w' h' hg'; exact hK undef _ (Rr.store3 hg' h' (by omega) (by have := hw.size; omega)) h')
    -- 4: 6 := Op.assign (const (Value.bool true))
    · intro w hw  K hK; go_simp; exact hK _ _ (Rr.refl _) (Is.mk _ _)
    · intro wz hz h0 h1 h2 h3 h4; cases h0; cases h1; cases h4; skip
      go_wp2_with fail
      refine send_ret (s := Ms.mk true X s.since s.off ⟨o.seq, o.time, o.pic, o.tl0⟩) (n := Nm.mk o.seq o.time o.pic o.tl0) rfl rfl rfl h2 h3 ?_
      rw [← HR.out]
      exact ⟨rfl, (hz.below HLE3.out.drew.out (by omega) (by omega) HLE3.out.size)⟩

set_option maxRecDepth 100000 in
set_option maxHeartbeats 4000000 in
theorem msSend_ont (s : Ms) (i o : Nm) (X : Int) (hon : s.on = true) (hle : ∀ W, Calls Try.prog 23 #[.int .u32 o.time, .int .u32 s.out.time] W fun e w' => e = .returned (.bool true) ∧ w' = W) (w : World) (HX : Hd (∀ W, Calls Try.prog 83 #[s.val, i.val] W (Gives W (.tuple #[.int .i64 X, .bool false])))) (HF : Hd (∀ W, Calls Try.prog 85 #[s.off.val, i.val] W (Gives W o.val))) : Calls Try.prog 56 #[s.val, i.val] w (Gives w (.tuple #[(Ms.mk true X s.since s.off ⟨o.seq, s.out.time, o.pic, o.tl0⟩).val, (Nm.mk o.seq s.out.time o.pic o.tl0).val, .bool true])) := by
  have HLE := hide hle
  clear hle
  have HS := hide (fun w' => seSt (w' := w') w s i)
  obtain ⟨R, hR⟩ : ∃ R : Value, R = .tuple #[(Ms.mk true X s.since s.off ⟨o.seq, s.out.time, o.pic, o.tl0⟩).val, (Nm.mk o.seq s.out.time o.pic o.tl0).val, .bool true] := ⟨_, rfl⟩
  have HR := hide hR
  have hg : Gives w (.tuple #[(Ms.mk true X s.since s.off ⟨o.seq, s.out.time, o.pic, o.tl0⟩).val, (Nm.mk o.seq s.out.time o.pic o.tl0).val, .bool true]) = Gives w R := by rw [hR]
  rw [hg]
  clear hR hg
  simp only [Ms.val, Nm.val] at HX HF ⊢
  simp only [Ms.cl, Nm.cl, hon] at HS
  rw [hon] at HX ⊢
  go_enter Try.func56, Try.ntmps56
  go_wp2_with fail
  refine (HX.out _).mono ?_
  rintro e w' ⟨rfl, hb⟩
  have hs := HS.out _ hb
  have HL0 := hide hs
  clear hb HS
  have h2 := hs.h2
  have h3 := hs.h3
  simp only [Ms.cl, Nm.cl, hon] at h2 h3
  have c0 : w'.cell? ⟨w.heap.size, 0, none⟩ = some (.bool true) := box_cell h2 0 _ rfl _ (Le.refl _)
  have c1 : w'.cell? ⟨w.heap.size, 1, none⟩ = some (.int .i64 s.high) := box_cell h2 1 _ rfl _ (Le.refl _)
  have c2 : w'.cell? ⟨w.heap.size, 2, none⟩ = some (.int .i64 s.since) := box_cell h2 2 _ rfl _ (Le.refl _)
  have c3 : w'.cell? ⟨w.heap.size, 3, none⟩ = some (.int .u16 s.off.seq) := box_cell h2 3 _ rfl _ (Le.refl _)
  have c4 : w'.cell? ⟨w.heap.size, 4, none⟩ = some (.int .u32 s.off.time) := box_cell h2 4 _ rfl _ (Le.refl _)
  have c5 : w'.cell? ⟨w.heap.size, 5, none⟩ = some (.int .u16 s.off.pic) := box_cell h2 5 _ rfl _ (Le.refl _)
  have c6 : w'.cell? ⟨w.heap.size, 6, none⟩ = some (.int .u8 s.off.tl0) := box_cell h2 6 _ rfl _ (Le.refl _)
  have c7 : w'.cell? ⟨w.heap.size, 7, none⟩ = some (.int .u16 s.out.seq) := box_cell h2 7 _ rfl _ (Le.refl _)
  have c8 : w'.cell? ⟨w.heap.size, 8, none⟩ = some (.int .u32 s.out.time) := box_cell h2 8 _ rfl _ (Le.refl _)
  have c9 : w'.cell? ⟨w.heap.size, 9, none⟩ = some (.int .u16 s.out.pic) := box_cell h2 9 _ rfl _ (Le.refl _)
  have c10 : w'.cell? ⟨w.heap.size, 10, none⟩ = some (.int .u8 s.out.tl0) := box_cell h2 10 _ rfl _ (Le.refl _)
  have d0 : w'.cell? ⟨w.heap.size + 1, 0, none⟩ = some (.int .u16 i.seq) := box_cell h3 0 _ rfl _ (Le.refl _)
  have d1 : w'.cell? ⟨w.heap.size + 1, 1, none⟩ = some (.int .u32 i.time) := box_cell h3 1 _ rfl _ (Le.refl _)
  have d2 : w'.cell? ⟨w.heap.size + 1, 2, none⟩ = some (.int .u16 i.pic) := box_cell h3 2 _ rfl _ (Le.refl _)
  have d3 : w'.cell? ⟨w.heap.size + 1, 3, none⟩ = some (.int .u8 i.tl0) := box_cell h3 3 _ rfl _ (Le.refl _)
  clear hs h2 h3
  go_wp2_with fail
  refine (HF.out _).mono ?_
  rintro e w2 ⟨rfl, hb2⟩
  have HL1 := hide (HL0.out.later ⟨hb2⟩)
  clear hb2 c0 c1 c2 c3 c4 c5 c6 c7 c8 c9 c10 d0 d1 d2 d3 HL0
  go_upto_region 8 with fail
  have h10 := heap_alloc_new w2 (.cells #[.int .u16 o.seq, .int .u32 o.time, .int .u16 o.pic, .int .u8 o.tl0] 91)
  have HL := hide (HL1.out.later ((Le.refl w2).alloc (.cells #[.int .u16 o.seq, .int .u32 o.time, .int .u16 o.pic, .int .u8 o.tl0] 91)))
  have hsz := HL1.out.h5
  have hsz := lt_of_heap hsz
  generalize w2.alloc (.cells #[.int .u16 o.seq, .int .u32 o.time, .int .u16 o.pic, .int .u8 o.tl0] 91) = W3 at *
  generalize e10 : w2.heap.size = ga at *
  have E10 := hide e10
  clear e10 HL1
  have hle := HL.out.le
  have HLE3 := hide hle
  have h2 := HL.out.h2
  simp only [Ms.cl, hon] at h2
  have h4 := HL.out.h4
  have h5 := HL.out.h5
  clear hle
  have c1 : W3.cell? ⟨w.heap.size, 1, none⟩ = some (.int .i64 s.high) := box_cell h2 1 _ rfl _ (Le.refl _)
  have c7 : W3.cell? ⟨w.heap.size, 7, none⟩ = some (.int .u16 s.out.seq) := box_cell h2 7 _ rfl _ (Le.refl _)
  have c8 : W3.cell? ⟨w.heap.size, 8, none⟩ = some (.int .u32 s.out.time) := box_cell h2 8 _ rfl _ (Le.refl _)
  have c9 : W3.cell? ⟨w.heap.size, 9, none⟩ = some (.int .u16 s.out.pic) := box_cell h2 9 _ rfl _ (Le.refl _)
  have c10 : W3.cell? ⟨w.heap.size, 10, none⟩ = some (.int .u8 s.out.tl0) := box_cell h2 10 _ rfl _ (Le.refl _)
  have d0 : W3.cell? ⟨ga, 0, none⟩ = some (.int .u16 o.seq) := box_cell h10 0 _ rfl _ (Le.refl _)
  have d1 : W3.cell? ⟨ga, 1, none⟩ = some (.int .u32 o.time) := box_cell h10 1 _ rfl _ (Le.refl _)
  have d2 : W3.cell? ⟨ga, 2, none⟩ = some (.int .u16 o.pic) := box_cell h10 2 _ rfl _ (Le.refl _)
  have d3 : W3.cell? ⟨ga, 3, none⟩ = some (.int .u8 o.tl0) := box_cell h10 3 _ rfl _ (Le.refl _)
  have f1 : W3.frozen? ⟨w.heap.size, 1, none⟩ = false := free_block h2 1
  have f7 : W3.frozen? ⟨w.heap.size, 7, none⟩ = false := free_block h2 7
  have f8 : W3.frozen? ⟨w.heap.size, 8, none⟩ = false := free_block h2 8
  have f9 : W3.frozen? ⟨w.heap.size, 9, none⟩ = false := free_block h2 9
  have f10 : W3.frozen? ⟨w.heap.size, 10, none⟩ = false := free_block h2 10
  have fa : W3.frozen? ⟨ga, 1, none⟩ = false := free_block h10 1
  have ne1 : ga ≠ w.heap.size := by omega
  have ne2 : w.heap.size ≠ ga := by omega
  have H2 := hide h2
  have H4 := hide h4
  have H5 := hide h5
  have H10 := hide h10
  have HZ := hide hsz
  clear h2 h4 h5 h10 hsz
  go_wp2_with fail
  refine (HLE.out _).mono ?_
  rintro e w4 ⟨rfl, rfl⟩
  go_upto_region 12 with fail
  have n4a : w.heap.size + 1 + 1 ≠ ga := by have := HZ.out; omega
  have n5a : w.heap.size + 1 + 1 + 1 ≠ ga := by have := HZ.out; omega
  have lea : w.heap.size ≤ ga := by have := HZ.out; omega
  have HB : Hd (((((((w4.setCell ⟨ga, 1, none⟩ (.int .u32 s.out.time)).setCell ⟨w.heap.size, 1, none⟩ (.int .i64 X)).setCell ⟨w.heap.size, 7, none⟩ (.int .u16 o.seq)).setCell ⟨w.heap.size, 8, none⟩ (.int .u32 s.out.time)).setCell ⟨w.heap.size, 9, none⟩ (.int .u16 o.pic)).setCell ⟨w.heap.size, 10, none⟩ (.int .u8 o.tl0)).heap[w.heap.size]? = some (.cells #[.bool true, .int .i64 X, .int .i64 s.since, .int .u16 s.off.seq, .int .u32 s.off.time, .int .u16 s.off.pic, .int .u8 s.off.tl0, .int .u16 o.seq, .int .u32 s.out.time, .int .u16 o.pic, .int .u8 o.tl0] 93 (0, 0)) ∧ ((((((w4.setCell ⟨ga, 1, none⟩ (.int .u32 s.out.time)).setCell ⟨w.heap.size, 1, none⟩ (.int .i64 X)).setCell ⟨w.heap.size, 7, none⟩ (.int .u16 o.seq)).setCell ⟨w.heap.size, 8, none⟩ (.int .u32 s.out.time)).setCell ⟨w.heap.size, 9, none⟩ (.int .u16 o.pic)).setCell ⟨w.heap.size, 10, none⟩ (.int .u8 o.tl0)).heap[w.heap.size + 1 + 1]? = some (.cells (Ms.mk false 0 0 Nm.zero Nm.zero).cl.toArray 93 (0, 0)) ∧ ((((((w4.setCell ⟨ga, 1, none⟩ (.int .u32 s.out.time)).setCell ⟨w.heap.size, 1, none⟩ (.int .i64 X)).setCell ⟨w.heap.size, 7, none⟩ (.int .u16 o.seq)).setCell ⟨w.heap.size, 8, none⟩ (.int .u32 s.out.time)).setCell ⟨w.heap.size, 9, none⟩ (.int .u16 o.pic)).setCell ⟨w.heap.size, 10, none⟩ (.int .u8 o.tl0)).heap[w.heap.size + 1 + 1 + 1]? = some (.cells Nm.zero.cl.toArray 91 (0, 0)) ∧ ((((((w4.setCell ⟨ga, 1, none⟩ (.int .u32 s.out.time)).setCell ⟨w.heap.size, 1, none⟩ (.int .i64 X)).setCell ⟨w.heap.size, 7, none⟩ (.int .u16 o.seq)).setCell ⟨w.heap.size, 8, none⟩ (.int .u32 s.out.time)).setCell ⟨w.heap.size, 9, none⟩ (.int .u16 o.pic)).setCell ⟨w.heap.size, 10, none⟩ (.int .u8 o.tl0)).heap[ga]? = some (.cells #[.int .u16 o.seq, .int .u32 s.out.time, .int .u16 o.pic, .int .u8 o.tl0] 91 (0, 0)) ∧ Le w ((((((w4.setCell ⟨ga, 1, none⟩ (.int .u32 s.out.time)).setCell ⟨w.heap.size, 1, none⟩ (.int .i64 X)).setCell ⟨w.heap.size, 7, none⟩ (.int .u16 o.seq)).setCell ⟨w.heap.size, 8, none⟩ (.int .u32 s.out.time)).setCell ⟨w.heap.size, 9, none⟩ (.int .u16 o.pic)).setCell ⟨w.heap.size, 10, none⟩ (.int .u8 o.tl0))) := hide ⟨(heap_set (i := 10) _ (heap_set (i := 9) _ (heap_set (i := 8) _ (heap_set (i := 7) _ (heap_set (i := 1) _ (heap_far _ H2.out ne2)))))), (heap_far _ (heap_far _ (heap_far _ (heap_far _ (heap_far _ (heap_far _ H4.out n4a) (by omega)) (by omega)) (by omega)) (by omega)) (by omega)), (heap_far _ (heap_far _ (heap_far _ (heap_far _ (heap_far _ (heap_far _ H5.out n5a) (by omega)) (by omega)) (by omega)) (by omega)) (by omega)), (heap_far _ (heap_far _ (heap_far _ (heap_far _ (heap_far _ (heap_set (i := 1) _ H10.out) ne1) ne1) ne1) ne1) ne1), ⟨((((((HLE3.out.out.setCell lea _).setCell (Nat.le_refl _) _).setCell (Nat.le_refl _) _).setCell (Nat.le_refl _) _).setCell (Nat.le_refl _) _).setCell (Nat.le_refl _) _)⟩⟩
  generalize ((((((w4.setCell ⟨ga, 1, none⟩ (.int .u32 s.out.time)).setCell ⟨w.heap.size, 1, none⟩ (.int .i64 X)).setCell ⟨w.heap.size, 7, none⟩ (.int .u16 o.seq)).setCell ⟨w.heap.size, 8, none⟩ (.int .u32 s.out.time)).setCell ⟨w.heap.size, 9, none⟩ (.int .u16 o.pic)).setCell ⟨w.heap.size, 10, none⟩ (.int .u8 o.tl0)) = W5 at *
  clear c1 c7 c8 c9 c10 d0 d1 d2 d3 f1 f7 f8 f9 f10 fa ne1 ne2 n4a n5a lea H2 H4 H5 H10 HL HLE3
  have hsz := HZ.out
  obtain ⟨h2, h4, h5, h10, hle⟩ := HB.out
  have HLE3 := hide hle
  clear hle HB
  simp only [Ms.cl, Nm.cl, Nm.zero] at h4 h5
  have H2 := hide h2
  have H4 := hide h4
  have H5 := hide h5
  have H10 := hide h10
  clear h2 h4 h5 h10
  have s4 := lt_of_heap H4.out
  have s5 := lt_of_heap H5.out
  have sd : W5.drew.heap.size = W5.heap.size := rfl
  generalize e4 : w.heap.size + 1 + 1 = g4 at *
  generalize e5 : g4 + 1 = g5 at *
  have n24 : w.heap.size ≠ g4 := by omega
  have n25 : w.heap.size ≠ g5 := by omega
  have na4 : ga ≠ g4 := by omega
  have na5 : ga ≠ g5 := by omega
  refine' wp_region_rows 2 54 (Rr g4 g5 (.cells #[.bool true, .int .i64 X, .int .i64 s.since, .int .u16 s.off.seq, .int .u32 s.off.time, .int .u16 s.off.pic, .int .u8 s.off.tl0, .int .u16 o.seq, .int .u32 s.out.time, .int .u16 o.pic, .int .u8 o.tl0] 93 (0, 0)) (.cells #[.int .u16 o.seq, .int .u32 s.out.time, .int .u16 o.pic, .int .u8 o.tl0] 91 (0, 0))) (Is _ :: Is _ :: (fun _ W => W.heap[g4]? = some (Obj.cells #[.bool true, .int .i64 X, .int .i64 s.since, .int .u16 s.off.seq, .int .u32 s.off.time, .int .u16 s.off.pic, .int .u8 s.off.tl0, .int .u16 o.seq, .int .u32 s.out.time, .int .u16 o.pic, .int .u8 o.tl0] 93 (0, 0))) :: (fun _ W => W.heap[g5]? = some (Obj.cells #[.int .u16 o.seq, .int .u32 s.out.time, .int .u16 o.pic, .int .u8 o.tl0] 91 (0, 0))) :: Is _ :: []) ([] :: [] :: [0] :: [1] :: [] :: []) (by kernel_rfl) (by kernel_rfl) (by rfl) (by kernel_rfl) Rr.refl (fun _ _ _ h h' => h.trans h') ⟨St.is, St.is, (fun _ _ _ h hk => h.k2.elim (fun e => e.trans hk) _root_.id), (fun _ _ _ h hk => h.k3.elim (fun e => e.trans hk) _root_.id), St.is, trivial⟩ ?m12
  case m12 =>
    simp (maxSteps := 100000000) only [AllV, Obl2, Leans, factAt, allFacts, actOf, putAll, putRow, Act.put, List.setIfInBounds_toArray, List.set_cons_succ, List.set_cons_zero, List.getElem?_cons_zero, List.getElem?_cons_succ, List.take_succ_cons, List.take_zero, List.drop_succ_cons, List.drop_zero, List.cons_append, List.nil_append, List.length_cons, List.length_nil, Nat.reduceAdd]
    intro x0 x1 x2 x3 x4
    refine ⟨⟨?_, ?_, ?_, ?_, ?_, trivial⟩, ?_⟩
    -- 0: 54 := Op.load 93 t2
    · intro w hw  K hK; refine cast (if_pos (show Region.wanted _ _ = true from rfl)).symm ?_; have hz := hw.heap H2.out n24 n25; refine wp_load_blk 93 (.tmp 2) rfl (cs := [.bool true, .int .i64 X, .int .i64 s.since, .int .u16 s.off.seq, .int .u32 s.off.time, .int .u16 s.off.pic, .int .u8 s.off.tl0, .int .u16 o.seq, .int .u32 s.out.time, .int .u16 o.pic, .int .u8 o.tl0]) _ rfl Try.underlying93 rfl (by kernel_rfl) hz ?_; exact hK _ _ (Rr.refl _) (Is.mk _ _)
    -- 1: 55 := Op.load 91 t10
    · intro w hw  K hK; refine cast (if_pos (show Region.wanted _ _ = true from rfl)).symm ?_; have hz := hw.heap H10.out na4 na5; refine wp_load_blk 91 (.tmp 10) rfl (cs := [.int .u16 o.seq, .int .u32 s.out.time, .int .u16 o.pic, .int .u8 o.tl0]) _ rfl Try.underlying91 rfl (by kernel_rfl) hz ?_; exact hK _ _ (Rr.refl _) (Is.mk _ _)
    -- 2: none := Op.store 93 t4 t54
    · intro w hw h0 K hK; cases h0; refine cast (if_pos (show Region.wanted _ _ = true from rfl)).symm ?_; rcases hw.at2 H4.out with ho | ho <;> (refine wp_store_blk 93 (.tmp 4) (.tmp 54) rfl (cs := [.bool true, .int .i64 X, .int .i64 s.since, .int .u16 s.off.seq, .int .u32 s.off.time, .int .u16 s.off.pic, .int .u8 s.off.tl0, .int .u16 o.seq, .int .u32 s.out.time, .int .u16 o.pic, .int .u8 o.tl0]) rfl rfl (by kernel_rfl) (by simp [Value.oneCell']) ho rfl ?_; intro w' h' hg'; exact hK undef _ (Rr.store2 hg' h' (by omega) (by have := hw.size; omega)) h')
    -- 3: none := Op.store 91 t5 t55
    · intro w hw h1 K hK; cases h1; refine cast (if_pos (show Region.wanted _ _ = true from rfl)).symm ?_; rcases hw.at3 H5.out with ho | ho <;> (refine wp_store_blk 91 (.tmp 5) (.tmp 55) rfl (cs := [.int .u16 o.seq, .int .u32 s.out.time, .int .u16 o.pic, .int .u8 o.tl0]) rfl rfl (by kernel_rfl) (by simp [Value.oneCell']) ho rfl ?_; intro w' h' hg'; exact hK undef _ (Rr.store3 hg' h' (by omega) (by have := hw.size; omega)) h')
    -- 4: 6 := Op.assign (const (Value.bool true))
    · intro w hw  K hK; go_simp; exact hK _ _ (Rr.refl _) (Is.mk _ _)
    · intro wz hz h0 h1 h2 h3 h4; cases h0; cases h1; cases h4; skip
      go_wp2_with fail
      refine send_ret (s := Ms.mk true X s.since s.off ⟨o.seq, s.out.time, o.pic, o.tl0⟩) (n := Nm.mk o.seq s.out.time o.pic o.tl0) rfl rfl rfl h2 h3 ?_
      rw [← HR.out]
      exact ⟨rfl, (hz.below HLE3.out.drew.out (by omega) (by omega) HLE3.out.size)⟩

theorem nm_from_ok (a b : Nm) : (a.from b).Ok := ⟨Nat.mod_lt _ (by omega), Nat.mod_lt _ (by omega), Nat.mod_lt _ (by omega), Nat.mod_lt _ (by omega)⟩
theorem send_eq (s : Ms) (i : Nm) : s.send i = (if s.on = false ∨ (near16 s.high i.seq ≤ s.high ∧ near16 s.high i.seq ≤ s.since) then (s, Nm.zero, false) else if near16 s.high i.seq ≤ s.high then (s, s.off.from i, true) else
    (⟨true, near16 s.high i.seq, s.since, s.off, ⟨(s.off.from i).seq, if less32 (s.off.from i).time s.out.time then s.out.time else (s.off.from i).time, (s.off.from i).pic, (s.off.from i).tl0⟩⟩, ⟨(s.off.from i).seq, if less32 (s.off.from i).time s.out.time then s.out.time else (s.off.from i).time, (s.off.from i).pic, (s.off.from i).tl0⟩, true)) := rfl
def SendP (s : Ms) (i : Nm) (w : World) (r : Ms × Nm × Bool) : Prop := Calls Try.prog 56 #[s.val, i.val] w (Gives w (.tuple #[r.1.val, r.2.1.val, .bool r.2.2]))
theorem msSend_p (s : Ms) (hs : s.Ok) (i : Nm) (hi : i.Ok) (w : World) : SendP s i w (s.send i) := by
  have HX := fun W => msLate_any s hs i hi.seq W
  have HF := fun W => numsFrom_any s.off i hs.off hi W
  have ho := nm_from_ok s.off i
  rw [send_eq]
  generalize near16 s.high i.seq = X at *
  generalize s.off.from i = o at *
  rcases hon : s.on with _ | _
  · rw [if_pos (.inl rfl)]
    exact msSend_off s i X _ hon w ⟨HX⟩
  · by_cases hc : X ≤ s.high
    · rw [decide_eq_true hc] at HX
      by_cases hd : X ≤ s.since
      · rw [if_pos (.inr ⟨hc, hd⟩)]
        exact msSend_late s i X true hon rfl hd w ⟨HX⟩
      · rw [if_neg (by simp [hd]), if_pos hc]
        exact msSend_back s i o X hon hd w ⟨HX⟩ ⟨HF⟩
    · rw [decide_eq_false hc] at HX
      rw [if_neg (by simp [hc]), if_neg hc]
      have hl := fun W => less32_any o.time s.out.time ho.time hs.out.time W
      cases hb : less32 o.time s.out.time
      · rw [hb] at hl
        rw [if_neg (by decide)]
        exact msSend_on s i o X hon hl w ⟨HX⟩ ⟨HF⟩
      · rw [hb] at hl
        rw [if_pos rfl]
        exact msSend_ont s i o X hon hl w ⟨HX⟩ ⟨HF⟩
theorem msSend_any (s : Ms) (hs : s.Ok) (i : Nm) (hi : i.Ok) (w : World) : Calls Try.prog 56 #[s.val, i.val] w (Gives w (.tuple #[(s.send i).1.val, (s.send i).2.1.val, .bool (s.send i).2.2])) := msSend_p s hs i hi w
end Go.Proofs.Ytekioihjfggmdaa
