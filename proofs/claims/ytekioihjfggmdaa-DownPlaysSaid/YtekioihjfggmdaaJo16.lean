/- Texts of one claim, laid together: DownM DownM2 DownM3 -/
import Derived.Laws.Rows
import Derived.Test.YtekioihjfggmdaaJo15
import Derived.Test.YtekioihjfggmdaaJo09
/- munge: numbers that are sent on. -/
namespace Go.Proofs.Ytekioihjfggmdaa
open Go.RowKit
set_option linter.unusedVariables false

theorem nums_ret {f : Func} {t : Tmp} (hres : f.results = #[.cell t 91]) {w W : World} {cs : Array Value} {g : Nat} (h4 : cs.size = 4) {tmps : Array Value} (ht : tmps.getD t undef = .pointer (some ⟨g, 0, none⟩)) (hg : W.heap[g]? = some (.cells cs 91 (0, 0))) (hb : Below w.heap.size w W) :
    bodyPost Try.prog f (Gives w (.agg cs)) .ret { tmps := tmps, defers := [] } W :=
  bodyPost_ret (results_cell_row hres tmps _ _ 91 cs (0, 0) _ ht hg Try.underlying91 rfl (by rw [h4]; kernel_rfl)) rfl ⟨rfl, hb⟩

set_option maxRecDepth 100000 in
theorem numsFrom_any (n i : Nm) (hn : n.Ok) (hi : i.Ok) (w : World) : Calls Try.prog 85 #[n.val, i.val] w (Gives w (n.from i).val) := by
  obtain ⟨n1, n2, n3, n4⟩ := n
  obtain ⟨i1, i2, i3, i4⟩ := i
  obtain ⟨hn1, hn2, hn3, hn4⟩ := hn
  obtain ⟨hi1, hi2, hi3, hi4⟩ := hi
  simp only at hn1 hn2 hn3 hn4 hi1 hi2 hi3 hi4
  simp only [Nm.val, Nm.from]
  have q1 : IntKind.u16.wrap ((i1 : Int) - n1) = ((i1 + 65536 - n1) % 65536 : Nat) := by simp [IntKind.wrap, IntKind.signed, IntKind.bits]; omega
  have q2 : IntKind.u32.wrap ((i2 : Int) - n2) = ((i2 + 4294967296 - n2) % 4294967296 : Nat) := by simp [IntKind.wrap, IntKind.signed, IntKind.bits]; omega
  have q3 : IntKind.u16.wrap ((i3 : Int) - n3) = ((i3 + 65536 - n3) % 65536 : Nat) := by simp [IntKind.wrap, IntKind.signed, IntKind.bits]; omega
  have q4 : IntKind.u8.wrap ((i4 : Int) - n4) = ((i4 + 256 - n4) % 256 : Nat) := by simp [IntKind.wrap, IntKind.signed, IntKind.bits]; omega
  generalize (i1 + 65536 - n1) % 65536 = a1 at *
  generalize (i2 + 4294967296 - n2) % 4294967296 = a2 at *
  generalize (i3 + 65536 - n3) % 65536 = a3 at *
  generalize (i4 + 256 - n4) % 256 = a4 at *
  clear hn1 hn2 hn3 hn4 hi1 hi2 hi3 hi4
  go_enter Try.func85, Try.ntmps85
  go_wp2_with fail
  exact nums_ret Try.results85 rfl rfl (heap_at (by simp)) (((Le.refl w).alloc _).alloc _ |>.alloc _).out

set_option maxRecDepth 100000 in
theorem numsNext_any (n : Nm) (hn : n.Ok) (step : Nat) (hs : step < 4294967296) (w : World) : Calls Try.prog 84 #[n.val, .int .u32 step] w (Gives w (n.next step).val) := by
  obtain ⟨n1, n2, n3, n4⟩ := n
  obtain ⟨hn1, hn2, hn3, hn4⟩ := hn
  simp only at hn1 hn2 hn3 hn4
  simp only [Nm.val, Nm.next]
  have q1 : IntKind.u16.wrap ((n1 : Int) + 1) = ((n1 + 1) % 65536 : Nat) := by simp [IntKind.wrap, IntKind.signed, IntKind.bits]
  have q2 : IntKind.u32.wrap ((n2 : Int) + step) = ((n2 + step) % 4294967296 : Nat) := by simp [IntKind.wrap, IntKind.signed, IntKind.bits]
  have q3 : IntKind.u16.wrap ((n3 : Int) + 1) = ((n3 + 1) % 65536 : Nat) := by simp [IntKind.wrap, IntKind.signed, IntKind.bits]
  have q4 : IntKind.u8.wrap ((n4 : Int) + 1) = ((n4 + 1) % 256 : Nat) := by simp [IntKind.wrap, IntKind.signed, IntKind.bits]
  generalize (n1 + 1) % 65536 = a1 at *
  generalize (n2 + step) % 4294967296 = a2 at *
  generalize (n3 + 1) % 65536 = a3 at *
  generalize (n4 + 1) % 256 = a4 at *
  clear hn1 hn2 hn3 hn4 hs
  go_enter Try.func84, Try.ntmps84
  go_wp2_with fail
  exact nums_ret Try.results84 rfl rfl (heap_at (by simp)) (((Le.refl w).alloc _).alloc _).out

/-- a state's numbers are as wide as they may be -/
structure Ms.Ok (s : Ms) : Prop where
  high : -4611686018427387904 ≤ s.high ∧ s.high ≤ 4611686018427387904
  since : -4611686018427387904 ≤ s.since ∧ s.since ≤ 4611686018427387904
  off : s.off.Ok
  out : s.out.Ok

set_option maxRecDepth 100000 in
set_option maxHeartbeats 1000000 in
theorem msLate_any (s : Ms) (hs : s.Ok) (i : Nm) (hi : i.seq < 65536) (w : World) : Calls Try.prog 83 #[s.val, i.val] w (Gives w (.tuple #[.int .i64 (near16 s.high i.seq), .bool (decide (near16 s.high i.seq ≤ s.high))])) := by
  obtain ⟨on, high, since, ⟨f1, f2, f3, f4⟩, ⟨o1, o2, o3, o4⟩⟩ := s
  obtain ⟨i1, i2, i3, i4⟩ := i
  obtain ⟨⟨hh1, hh2⟩, _, _, _⟩ := hs
  simp only at hh1 hh2 hi
  simp only [Ms.val, Nm.val]
  have HF := hide (fun W => near16_any high i1 hi hh1 hh2 W)
  generalize near16 high i1 = X at *
  have hl := ((Le.refl w).alloc (.cells (#[.bool on, .int .i64 high, .int .i64 since, .int .u16 f1, .int .u32 f2, .int .u16 f3, .int .u8 f4, .int .u16 o1, .int .u32 o2, .int .u16 o3, .int .u8 o4] : Array Value) 93)).alloc (.cells (#[.int .u16 i1, .int .u32 i2, .int .u16 i3, .int .u8 i4] : Array Value) 91)
  have HL := hide hl
  clear hl
  go_enter Try.func83, Try.ntmps83
  go_wp2_with fail
  refine (HF.out _).mono ?_
  rintro e w' ⟨rfl, rfl⟩
  go_wp2_with fail
  go_quiet (fail)
  go_wp2_with fail
  go_ret2
  exact ⟨rfl, (HL.out.drewN _).out⟩
end Go.Proofs.Ytekioihjfggmdaa

/- munge.State.Switch. -/
namespace Go.Proofs.Ytekioihjfggmdaa
open Go.RowKit
set_option linter.unusedVariables false

def Nm.cl (n : Nm) : List Value := [.int .u16 n.seq, .int .u32 n.time, .int .u16 n.pic, .int .u8 n.tl0]
def Ms.cl (s : Ms) : List Value := [.bool s.on, .int .i64 s.high, .int .i64 s.since, .int .u16 s.off.seq, .int .u32 s.off.time, .int .u16 s.off.pic, .int .u8 s.off.tl0, .int .u16 s.out.seq, .int .u32 s.out.time, .int .u16 s.out.pic, .int .u8 s.out.tl0]

theorem Rr.of_le {t2 t3 : Nat} {D2 D3 : Obj} {w w' : World} (h : Le w w') (h2 : t2 < w.heap.size) (h3 : t3 < w.heap.size) : Rr t2 t3 D2 D3 w w' :=
  ⟨h.out.os, h.out.tape, h.out.output, h.out.size, fun k hk _ _ => h.out.block k hk, .inl (h.out.block t2 h2), .inl (h.out.block t3 h3)⟩

theorem two_ret {f : Func} {t u : Tmp} (hres : f.results = #[.cell t 93, .cell u 91]) {Q : Ending → World → Prop} {W : World} {s : Ms} {n : Nm} {g k : Nat} {tmps : Array Value} (ht : tmps.getD t undef = .pointer (some ⟨g, 0, none⟩)) (hu : tmps.getD u undef = .pointer (some ⟨k, 0, none⟩))
    (hg : W.heap[g]? = some (.cells s.cl.toArray 93 (0, 0))) (hk : W.heap[k]? = some (.cells n.cl.toArray 91 (0, 0))) (hQ : Q (.returned (.tuple #[s.val, n.val])) W) :
    bodyPost Try.prog f Q .ret { tmps := tmps, defers := [] } W := by
  have r1 := run_loadVar_row (P := Try.prog) W g 93 93 _ (0, 0) _ hg Try.underlying93 rfl (by kernel_rfl)
  have r2 := run_loadVar_row (P := Try.prog) W k 91 91 _ (0, 0) _ hk Try.underlying91 rfl (by kernel_rfl)
  have ht' : tmps[t]?.getD undef = .pointer (some ⟨g, 0, none⟩) := by simpa using ht
  have hu' : tmps[u]?.getD undef = .pointer (some ⟨k, 0, none⟩) := by simpa using hu
  refine bodyPost_ret (v := .tuple #[s.val, n.val]) ?_ rfl hQ
  simp [results, hres, ht', hu', asAddr, r1, r2]
  exact ⟨rfl, rfl⟩

/-- Switch's variables where it goes on in one way -/
structure SwSt (w W : World) (i out : Nm) : Prop where
  le : Le w W
  h4 : W.heap[w.heap.size + 1]? = some (.cells i.cl.toArray 91 (0, 0))
  h6 : W.heap[w.heap.size + 1 + 1]? = some (.cells (Ms.mk false 0 0 Nm.zero Nm.zero).cl.toArray 93 (0, 0))
  h7 : W.heap[w.heap.size + 1 + 1 + 1]? = some (.cells Nm.zero.cl.toArray 91 (0, 0))
  h8 : W.heap[w.heap.size + 1 + 1 + 1 + 1]? = some (.cells out.cl.toArray 91 (0, 0))

set_option maxRecDepth 100000 in
set_option maxHeartbeats 4000000 in
theorem msSwitch_any (s : Ms) (hs : s.Ok) (i : Nm) (hi : i.Ok) (step : Nat) (hst : step < 4294967296) (w : World) : Calls Try.prog 53 #[s.val, i.val, .int .u32 step] w (Gives w (.tuple #[(s.switch i step).1.val, (s.switch i step).2.val])) := by
  have HX := hide (fun W => numsNext_any s.out hs.out step hst W)
  have hxo : (s.out.next step).Ok := ⟨Nat.mod_lt _ (by omega), Nat.mod_lt _ (by omega), Nat.mod_lt _ (by omega), Nat.mod_lt _ (by omega)⟩
  rw [show s.switch i step = (⟨true, i.seq, i.seq, (if s.on then s.out.next step else i).from i, if s.on then s.out.next step else i⟩, if s.on then s.out.next step else i) from rfl]
  generalize s.out.next step = nx at *
  obtain ⟨out, hout⟩ : ∃ out, out = if s.on then nx else i := ⟨_, rfl⟩
  rw [← hout]
  have hOut := hide hout
  clear hout
  have hok : out.Ok := by rw [hOut.out]; split <;> assumption
  have hi' := hide hi
  obtain ⟨R, hR⟩ : ∃ R, R = Value.tuple #[(Ms.mk true i.seq i.seq (out.from i) out).val, out.val] := ⟨_, rfl⟩
  rw [← hR]
  have HR := hide hR
  clear hR
  have HC : ∀ W, Le w W → W.heap[w.heap.size + 1]? = some (.cells i.cl.toArray 91 (0, 0)) → W.heap[w.heap.size + 1 + 1]? = some (.cells (Ms.mk false 0 0 Nm.zero Nm.zero).cl.toArray 93 (0, 0)) →
      W.heap[w.heap.size + 1 + 1 + 1]? = some (.cells Nm.zero.cl.toArray 91 (0, 0)) → W.heap[w.heap.size + 1 + 1 + 1 + 1]? = some (.cells out.cl.toArray 91 (0, 0)) → SwSt w W i out := fun W a b c d e => ⟨a, b, c, d, e⟩
  have HC2 := hide HC
  clear HC
  simp only [Ms.val, Nm.val] at HX ⊢
  generalize hon : s.on = on at *
  go_enter Try.func53, Try.ntmps53
  go_upto_if 12 with fail
  go_cut [] (fun wx => SwSt w wx i out)
  case first =>
    cases on
    · go_wp2_with fail
      go_meet
      rw [show out = i by rw [hOut.out]; rfl] at HC2 ⊢
      refine HC2.out _ (((((Le.refl w).alloc _).alloc _).alloc _).alloc _ |>.alloc _) ?_ ?_ ?_ ?_
      · exact heap_alloc (heap_alloc (heap_alloc (heap_at (by simp))))
      · exact heap_alloc (heap_alloc (heap_at (by simp)))
      · exact heap_alloc (heap_at (by simp))
      · exact heap_at (by simp)
    · have e1 : out = nx := by rw [hOut.out]; rfl
      go_wp2_with fail
      refine (HX.out _).mono ?_
      rintro e w' ⟨rfl, hb⟩
      have h4 := (Le.mk hb).heap (heap_alloc (o := _) (heap_alloc (o := _) (heap_alloc (o := _) (heap_at (w := w.alloc _) (p := w.heap.size + 1) (by simp)))))
      have h6 := (Le.mk hb).heap (heap_alloc (o := _) (heap_alloc (o := _) (heap_at (w := (w.alloc _).alloc _) (p := w.heap.size + 1 + 1) (by simp))))
      have h7 := (Le.mk hb).heap (heap_alloc (o := _) (heap_at (w := ((w.alloc _).alloc _).alloc _) (p := w.heap.size + 1 + 1 + 1) (by simp)))
      have h8 := (Le.mk hb).heap (heap_at (w := (((w.alloc _).alloc _).alloc _).alloc _) (p := w.heap.size + 1 + 1 + 1 + 1) (by simp))
      have hle : Le w w' := (((((Le.refl w).alloc _).alloc _).alloc _).alloc _ |>.alloc _).trans ⟨hb⟩
      have H := hide (And.intro h4 (And.intro h6 (And.intro h7 (And.intro h8 hle))))
      clear h4 h6 h7 h8 hle hb
      go_wp2_with (refine wpl_store_blk rfl 91 (.tmp 8) (.tmp 16) (cs := nx.cl) rfl rfl rfl (by kernel_rfl) (by simp [Nm.cl, Value.oneCell']) H.out.2.2.2.1 rfl ?_; intro wb hn hg)
      go_meet
      rw [e1] at HC2 ⊢
      obtain ⟨h4, h6, h7, h8, hle⟩ := H.out
      exact HC2.out _ ⟨below_row hle.out hg (by omega) hle.size⟩ (heap_grown hg h4 (by simp; omega)) (heap_grown hg h6 (by simp; omega)) (heap_grown hg h7 (by simp)) hn
  case rest =>
    obtain ⟨hle, h4, h6, h7, h8⟩ := hcut
    generalize wc = W1 at *
    have hi := hi'.out
    have hout : Nm.Ok out := hok
    have c40 := box_cell h4 0 (.int .u16 i.seq) rfl W1 (Le.refl _)
    have hwr : IntKind.i64.wrap (i.seq : Int) = i.seq := IntWalk.i64_in _ (by have := hi.seq; omega)
    go_upto_region 5 with fail
    have HF := hide (fun W => numsFrom_any out i hout hi W)
    generalize out.from i = fr at *
    simp only [Nm.val] at HF
    simp only [Nm.cl, Ms.cl, Nm.zero] at h4 h6 h7 h8
    clear c40 hwr HX HC2 hOut hi' hok
    have H4 := hide h4
    have H6 := hide h6
    have H7 := hide h7
    have H8 := hide h8
    clear h4 h6 h7 h8
    have s8 := lt_of_heap H8.out
    have sd : W1.drew.heap.size = W1.heap.size := rfl
    generalize e8 : w.heap.size + 1 + 1 + 1 + 1 = g8 at H8 s8 ⊢
    generalize e7 : w.heap.size + 1 + 1 + 1 = g7 at H7 ⊢
    generalize e6 : w.heap.size + 1 + 1 = g6 at H6 ⊢
    generalize e4 : w.heap.size + 1 = g4 at H4 ⊢
    have hne4 : g4 ≠ g6 ∧ g4 ≠ g7 := ⟨by omega, by omega⟩
    have hne8 : g8 ≠ g6 ∧ g8 ≠ g7 := ⟨by omega, by omega⟩
    refine' wp_region_rows 8 20 (Rr g6 g7 (.cells #[.bool true, .int .i64 i.seq, .int .i64 i.seq, .int .u16 fr.seq, .int .u32 fr.time, .int .u16 fr.pic, .int .u8 fr.tl0, .int .u16 out.seq, .int .u32 out.time, .int .u16 out.pic, .int .u8 out.tl0] 93 (0, 0)) (.cells #[.int .u16 out.seq, .int .u32 out.time, .int .u16 out.pic, .int .u8 out.tl0] 91 (0, 0))) (Is _ :: Is _ :: Is _ :: Is _ :: Is _ :: Is _ :: Is _ :: Is _ :: (fun _ W => W.heap[g6]? = some (Obj.cells #[.bool true, .int .i64 i.seq, .int .i64 i.seq, .int .u16 fr.seq, .int .u32 fr.time, .int .u16 fr.pic, .int .u8 fr.tl0, .int .u16 out.seq, .int .u32 out.time, .int .u16 out.pic, .int .u8 out.tl0] 93 (0, 0))) :: (fun _ W => W.heap[g7]? = some (Obj.cells #[.int .u16 out.seq, .int .u32 out.time, .int .u16 out.pic, .int .u8 out.tl0] 91 (0, 0))) :: []) ([] :: [] :: [] :: [] :: [2, 3] :: [] :: [0, 1, 4, 5] :: [] :: [6] :: [7] :: []) (by kernel_rfl) (by kernel_rfl) (by rfl) (by kernel_rfl) Rr.refl (fun _ _ _ h h' => h.trans h') ⟨St.is, St.is, St.is, St.is, St.is, St.is, St.is, St.is, (fun _ _ _ h hk => h.k2.elim (fun e => e.trans hk) _root_.id), (fun _ _ _ h hk => h.k3.elim (fun e => e.trans hk) _root_.id), trivial⟩ ?m5
    case m5 =>
      simp (maxSteps := 100000000) only [AllV, Obl2, Leans, factAt, allFacts, actOf, putAll, putRow, Act.put, List.set_cons_succ, List.set_cons_zero, List.getElem?_cons_zero, List.getElem?_cons_succ, List.take_succ_cons, List.take_zero, List.drop_succ_cons, List.drop_zero, List.cons_append, List.nil_append, List.length_cons, List.length_nil, Nat.reduceAdd]
      intro x0 x1 x2 x3 x4 x5 x6 x7 x8 x9
      refine ⟨⟨?_, ?_, ?_, ?_, ?_, ?_, ?_, ?_, ?_, ?_, trivial⟩, ?_⟩
      -- 0: 20 := Op.move t9
      · intro w hw  K hK; go_simp; exact hK _ _ (Rr.refl _) (Is.mk _ _)
      -- 1: 21 := Op.move t9
      · intro w hw  K hK; go_simp; exact hK _ _ (Rr.refl _) (Is.mk _ _)
      -- 2: 22 := Op.load 91 t8
      · intro w hw  K hK; refine cast (if_pos (show Region.wanted _ _ = true from rfl)).symm ?_; have hz := hw.heap H8.out hne8.1 hne8.2; refine wp_load_blk 91 (.tmp 8) rfl (cs := [.int .u16 out.seq, .int .u32 out.time, .int .u16 out.pic, .int .u8 out.tl0]) _ rfl Try.underlying91 rfl (by kernel_rfl) hz ?_; exact hK _ _ (Rr.refl _) (Is.mk _ _)
      -- 3: 23 := Op.load 91 t4
      · intro w hw  K hK; refine cast (if_pos (show Region.wanted _ _ = true from rfl)).symm ?_; have hz := hw.heap H4.out hne4.1 hne4.2; refine wp_load_blk 91 (.tmp 4) rfl (cs := [.int .u16 i.seq, .int .u32 i.time, .int .u16 i.pic, .int .u8 i.tl0]) _ rfl Try.underlying91 rfl (by kernel_rfl) hz ?_; exact hK _ _ (Rr.refl _) (Is.mk _ _)
      -- 4: 24 := Op.call { value (Operand.func 85), args := #[t22, t23], argTypes := #[91, 91] }
      · intro w hw h2 h3 K hK; cases h2; cases h3; go_simp; refine (HF.out _).mono ?_; rintro r w' ⟨rfl, hb'⟩; exact hK _ _ (Rr.of_le ⟨hb'⟩ (by have := hw.size; omega) (by have := hw.size; omega)) (Is.mk _ _)
      -- 5: 25 := Op.load 91 t8
      · intro w hw  K hK; refine cast (if_pos (show Region.wanted _ _ = true from rfl)).symm ?_; have hz := hw.heap H8.out hne8.1 hne8.2; refine wp_load_blk 91 (.tmp 8) rfl (cs := [.int .u16 out.seq, .int .u32 out.time, .int .u16 out.pic, .int .u8 out.tl0]) _ rfl Try.underlying91 rfl (by kernel_rfl) hz ?_; exact hK _ _ (Rr.refl _) (Is.mk _ _)
      -- 6: 26 := Op.build 93 #[(0, const (Value.bool true)), (1, t20), (2, t21), (3, t24), (4, t25)]
      · intro w hw h0 h1 h4 h5 K hK; cases h0; cases h1; cases h4; cases h5; go_simp; exact hK _ _ (Rr.refl _) (Is.mk _ _)
      -- 7: 27 := Op.load 91 t8
      · intro w hw  K hK; refine cast (if_pos (show Region.wanted _ _ = true from rfl)).symm ?_; have hz := hw.heap H8.out hne8.1 hne8.2; refine wp_load_blk 91 (.tmp 8) rfl (cs := [.int .u16 out.seq, .int .u32 out.time, .int .u16 out.pic, .int .u8 out.tl0]) _ rfl Try.underlying91 rfl (by kernel_rfl) hz ?_; exact hK _ _ (Rr.refl _) (Is.mk _ _)
      -- 8: none := Op.store 93 t6 t26
      · intro w hw h6 K hK; cases h6; refine cast (if_pos (show Region.wanted _ _ = true from rfl)).symm ?_; rcases hw.at2 H6.out with ho | ho <;> (refine wp_store_blk 93 (.tmp 6) (.tmp 26) rfl (cs := [.bool true, .int .i64 i.seq, .int .i64 i.seq, .int .u16 fr.seq, .int .u32 fr.time, .int .u16 fr.pic, .int .u8 fr.tl0, .int .u16 out.seq, .int .u32 out.time, .int .u16 out.pic, .int .u8 out.tl0]) rfl rfl (by kernel_rfl) (by simp [Value.oneCell']) ho rfl ?_; intro w' h' hg'; exact hK undef _ (Rr.store2 hg' h' (by omega) (by have := hw.size; omega)) h')
      -- 9: none := Op.store 91 t7 t27
      · intro w hw h7 K hK; cases h7; refine cast (if_pos (show Region.wanted _ _ = true from rfl)).symm ?_; rcases hw.at3 H7.out with ho | ho <;> (refine wp_store_blk 91 (.tmp 7) (.tmp 27) rfl (cs := [.int .u16 out.seq, .int .u32 out.time, .int .u16 out.pic, .int .u8 out.tl0]) rfl rfl (by kernel_rfl) (by simp [Value.oneCell']) ho rfl ?_; intro w' h' hg'; exact hK undef _ (Rr.store3 hg' h' (by omega) (by have := hw.size; omega)) h')
      · intro wz hz h0 h1 h2 h3 h4 h5 h6 h7 h8 h9; cases h0; cases h1; cases h2; cases h3; cases h4; cases h5; cases h6; cases h7; skip

        go_wp2_with fail
        refine two_ret (s := ⟨true, i.seq, i.seq, fr, out⟩) (n := out) Try.results53 rfl rfl h8 h9 ?_
        rw [← HR.out]
        exact ⟨rfl, (hz.below hle.drew.out (by omega) (by omega) hle.size)⟩
end Go.Proofs.Ytekioihjfggmdaa

/- munge.State.Drop. -/
namespace Go.Proofs.Ytekioihjfggmdaa
open Go.RowKit
set_option linter.unusedVariables false

theorem ms_ret {f : Func} {t : Tmp} (hres : f.results = #[.cell t 93]) {Q : Ending → World → Prop} {W : World} {s : Ms} {g : Nat} {tmps : Array Value} (ht : tmps.getD t undef = .pointer (some ⟨g, 0, none⟩))
    (hg : W.heap[g]? = some (.cells s.cl.toArray 93 (0, 0))) (hQ : Q (.returned s.val) W) :
    bodyPost Try.prog f Q .ret { tmps := tmps, defers := [] } W :=
  bodyPost_ret (results_cell_row hres tmps _ _ 93 _ (0, 0) _ ht hg Try.underlying93 rfl (by kernel_rfl)) rfl hQ

/-- Drop's boxes behind its call -/
structure DrSt (w W : World) (s : Ms) : Prop where
  le : Le w W
  h3 : W.heap[w.heap.size]? = some (.cells s.cl.toArray 93 (0, 0))
  h6 : W.heap[w.heap.size + 1 + 1]? = some (.cells (Ms.mk false 0 0 Nm.zero Nm.zero).cl.toArray 93 (0, 0))
theorem drSt (w : World) (s : Ms) (i : Nm) {w' : World} (hb : Below (((w.alloc (.cells s.cl.toArray 93)).alloc (.cells i.cl.toArray 91)).alloc (.cells (Ms.mk false 0 0 Nm.zero Nm.zero).cl.toArray 93)).heap.size (((w.alloc (.cells s.cl.toArray 93)).alloc (.cells i.cl.toArray 91)).alloc (.cells (Ms.mk false 0 0 Nm.zero Nm.zero).cl.toArray 93)) w') : DrSt w w' s :=
  ⟨((((Le.refl w).alloc _).alloc _).alloc _).trans ⟨hb⟩, (Le.mk hb).heap (heap_alloc (heap_alloc (heap_alloc_new w _))), (Le.mk hb).heap (heap_at (by simp))⟩

set_option maxRecDepth 100000 in
set_option maxHeartbeats 2000000 in
theorem msDrop_off (s : Ms) (i : Nm) (b : Bool) (X : Int) (l : Bool) (hon : s.on = false) (w : World) (HX : Hd (∀ W, Calls Try.prog 83 #[s.val, i.val] W (Gives W (.tuple #[.int .i64 X, .bool l])))) : Calls Try.prog 49 #[s.val, i.val, .bool b] w (Gives w s.val) := by
  have HS := hide (fun w' => drSt (w' := w') w s i)
  
  obtain ⟨R, hR⟩ : ∃ R, R = s.val := ⟨_, rfl⟩
  have HR := hide hR
  have hg : Gives w s.val = Gives w R := by rw [hR]
  rw [hg]
  clear hR hg
  simp only [Ms.val, Nm.val] at HX ⊢
  simp only [Ms.cl, Nm.cl, hon] at HS
  rw [hon] at HX ⊢
  go_enter Try.func49, Try.ntmps49
  go_wp2_with fail
  refine (HX.out _).mono ?_
  rintro e w' ⟨rfl, hb⟩
  have hs := HS.out _ hb
  have h3 := hs.h3
  simp only [Ms.cl, hon] at h3
  have HL := hide (And.intro h3 (And.intro hs.h6 hs.le))
  have c30 : w'.cell? ⟨w.heap.size, 0, none⟩ = some (.bool false) := box_cell h3 0 _ rfl _ (Le.refl _)
  clear hs h3 hb HS
  go_wp2_with (first | (refine wpl_load_blk rfl 93 (.tmp 3) rfl (cs := [.bool false, .int .i64 s.high, .int .i64 s.since, .int .u16 s.off.seq, .int .u32 s.off.time, .int .u16 s.off.pic, .int .u8 s.off.tl0, .int .u16 s.out.seq, .int .u32 s.out.time, .int .u16 s.out.pic, .int .u8 s.out.tl0]) _ rfl Try.underlying93 rfl (by kernel_rfl) (HL.out.1) ?_) | (refine wpl_store_blk rfl 93 (.tmp 6) (.tmp 21) (cs := [.bool false, .int .i64 s.high, .int .i64 s.since, .int .u16 s.off.seq, .int .u32 s.off.time, .int .u16 s.off.pic, .int .u8 s.off.tl0, .int .u16 s.out.seq, .int .u32 s.out.time, .int .u16 s.out.pic, .int .u8 s.out.tl0]) rfl rfl rfl (by kernel_rfl) (by simp [Value.oneCell']) (HL.out.2.1) rfl ?_; intro wb hn hg))
  refine ms_ret (s := s) Try.results49 rfl (by rw [Ms.cl, hon]; exact hn) ?_
  rw [← HR.out]
  exact ⟨rfl, below_row HL.out.2.2.out hg (by omega) HL.out.2.2.size⟩

set_option maxRecDepth 100000 in
set_option maxHeartbeats 2000000 in
theorem msDrop_late (s : Ms) (i : Nm) (b : Bool) (X : Int) (l : Bool) (hon : s.on = true) (hl : l = true) (w : World) (HX : Hd (∀ W, Calls Try.prog 83 #[s.val, i.val] W (Gives W (.tuple #[.int .i64 X, .bool l])))) : Calls Try.prog 49 #[s.val, i.val, .bool b] w (Gives w s.val) := by
  have HS := hide (fun w' => drSt (w' := w') w s i)
  subst hl
  obtain ⟨R, hR⟩ : ∃ R, R = s.val := ⟨_, rfl⟩
  have HR := hide hR
  have hg : Gives w s.val = Gives w R := by rw [hR]
  rw [hg]
  clear hR hg
  simp only [Ms.val, Nm.val] at HX ⊢
  simp only [Ms.cl, Nm.cl, hon] at HS
  rw [hon] at HX ⊢
  go_enter Try.func49, Try.ntmps49
  go_wp2_with fail
  refine (HX.out _).mono ?_
  rintro e w' ⟨rfl, hb⟩
  have hs := HS.out _ hb
  have h3 := hs.h3
  simp only [Ms.cl, hon] at h3
  have HL := hide (And.intro h3 (And.intro hs.h6 hs.le))
  have c30 : w'.cell? ⟨w.heap.size, 0, none⟩ = some (.bool true) := box_cell h3 0 _ rfl _ (Le.refl _)
  clear hs h3 hb HS
  go_wp2_with (first | (refine wpl_load_blk rfl 93 (.tmp 3) rfl (cs := [.bool true, .int .i64 s.high, .int .i64 s.since, .int .u16 s.off.seq, .int .u32 s.off.time, .int .u16 s.off.pic, .int .u8 s.off.tl0, .int .u16 s.out.seq, .int .u32 s.out.time, .int .u16 s.out.pic, .int .u8 s.out.tl0]) _ rfl Try.underlying93 rfl (by kernel_rfl) (HL.out.1) ?_) | (refine wpl_store_blk rfl 93 (.tmp 6) (.tmp 21) (cs := [.bool true, .int .i64 s.high, .int .i64 s.since, .int .u16 s.off.seq, .int .u32 s.off.time, .int .u16 s.off.pic, .int .u8 s.off.tl0, .int .u16 s.out.seq, .int .u32 s.out.time, .int .u16 s.out.pic, .int .u8 s.out.tl0]) rfl rfl rfl (by kernel_rfl) (by simp [Value.oneCell']) (HL.out.2.1) rfl ?_; intro wb hn hg))
  refine ms_ret (s := s) Try.results49 rfl (by rw [Ms.cl, hon]; exact hn) ?_
  rw [← HR.out]
  exact ⟨rfl, below_row HL.out.2.2.out hg (by omega) HL.out.2.2.size⟩

set_option maxRecDepth 100000 in
set_option maxHeartbeats 2000000 in
theorem msDrop_gof (s : Ms) (i : Nm) (X : Int) (hon : s.on = true) (S1 P1 : Nat) (q1 : IntKind.u16.wrap ((s.off.seq : Int) + 1) = (S1 : Int)) (q3 : IntKind.u16.wrap ((s.off.pic : Int) + 1) = (P1 : Int)) (w : World) (HX : Hd (∀ W, Calls Try.prog 83 #[s.val, i.val] W (Gives W (.tuple #[.int .i64 X, .bool false])))) : Calls Try.prog 49 #[s.val, i.val, .bool false] w (Gives w (Ms.mk true X X ⟨S1, s.off.time, s.off.pic, s.off.tl0⟩ s.out).val) := by
  have HS := hide (fun w' => drSt (w' := w') w s i)
  obtain ⟨R, hR⟩ : ∃ R, R = (Ms.mk true X X ⟨S1, s.off.time, s.off.pic, s.off.tl0⟩ s.out).val := ⟨_, rfl⟩
  have HR := hide hR
  have hg : Gives w (Ms.mk true X X ⟨S1, s.off.time, s.off.pic, s.off.tl0⟩ s.out).val = Gives w R := by rw [hR]
  rw [hg]
  clear hR hg
  simp only [Ms.val, Nm.val] at HX ⊢
  simp only [Ms.cl, Nm.cl, hon] at HS
  rw [hon] at HX ⊢
  go_enter Try.func49, Try.ntmps49
  go_wp2_with fail
  refine (HX.out _).mono ?_
  rintro e w' ⟨rfl, hb⟩
  have hs := HS.out _ hb
  have h3 := hs.h3
  simp only [Ms.cl, hon] at h3
  have HL0 := hide (And.intro h3 (And.intro hs.h6 hs.le))
  have c30 : w'.cell? ⟨w.heap.size, 0, none⟩ = some (.bool true) := box_cell h3 0 _ rfl _ (Le.refl _)
  have c31 : w'.cell? ⟨w.heap.size, 1, none⟩ = some (.int .i64 s.high) := box_cell h3 1 _ rfl _ (Le.refl _)
  have c32 : w'.cell? ⟨w.heap.size, 2, none⟩ = some (.int .i64 s.since) := box_cell h3 2 _ rfl _ (Le.refl _)
  have c33 : w'.cell? ⟨w.heap.size, 3, none⟩ = some (.int .u16 s.off.seq) := box_cell h3 3 _ rfl _ (Le.refl _)
  have c35 : w'.cell? ⟨w.heap.size, 5, none⟩ = some (.int .u16 s.off.pic) := box_cell h3 5 _ rfl _ (Le.refl _)
  have f1 : w'.frozen? ⟨w.heap.size, 1, none⟩ = false := free_block h3 1
  have f2 : w'.frozen? ⟨w.heap.size, 2, none⟩ = false := free_block h3 2
  have f3 : w'.frozen? ⟨w.heap.size, 3, none⟩ = false := free_block h3 3
  have f5 : w'.frozen? ⟨w.heap.size, 5, none⟩ = false := free_block h3 5
  clear hs h3 hb HS
  go_upto_region 9 with fail
  have HL : Hd ((((w'.setCell ⟨w.heap.size, 1, none⟩ (.int .i64 X)).setCell ⟨w.heap.size, 2, none⟩ (.int .i64 X)).setCell ⟨w.heap.size, 3, none⟩ (.int .u16 S1)).heap[w.heap.size]? = some (.cells #[.bool true, .int .i64 X, .int .i64 X, .int .u16 S1, .int .u32 s.off.time, .int .u16 s.off.pic, .int .u8 s.off.tl0, .int .u16 s.out.seq, .int .u32 s.out.time, .int .u16 s.out.pic, .int .u8 s.out.tl0] 93 (0, 0)) ∧ (((w'.setCell ⟨w.heap.size, 1, none⟩ (.int .i64 X)).setCell ⟨w.heap.size, 2, none⟩ (.int .i64 X)).setCell ⟨w.heap.size, 3, none⟩ (.int .u16 S1)).heap[w.heap.size + 1 + 1]? = some (.cells (Ms.mk false 0 0 Nm.zero Nm.zero).cl.toArray 93 (0, 0)) ∧ Le w (((w'.setCell ⟨w.heap.size, 1, none⟩ (.int .i64 X)).setCell ⟨w.heap.size, 2, none⟩ (.int .i64 X)).setCell ⟨w.heap.size, 3, none⟩ (.int .u16 S1))) := hide ⟨(heap_set (i := 3) _ (heap_set (i := 2) _ (heap_set (i := 1) _ HL0.out.1))), (heap_far _ (heap_far _ (heap_far _ HL0.out.2.1 (by omega)) (by omega)) (by omega)), ⟨(((HL0.out.2.2.out.setCell (Nat.le_refl _) _).setCell (Nat.le_refl _) _).setCell (Nat.le_refl _) _)⟩⟩
  generalize (((w'.setCell ⟨w.heap.size, 1, none⟩ (.int .i64 X)).setCell ⟨w.heap.size, 2, none⟩ (.int .i64 X)).setCell ⟨w.heap.size, 3, none⟩ (.int .u16 S1)) = W2 at *
  clear c30 c31 c32 c33 c35 f1 f2 f3 f5 q1 q3 HL0
  go_wp2_with (first | (refine wpl_load_blk rfl 93 (.tmp 3) rfl (cs := [.bool true, .int .i64 X, .int .i64 X, .int .u16 S1, .int .u32 s.off.time, .int .u16 s.off.pic, .int .u8 s.off.tl0, .int .u16 s.out.seq, .int .u32 s.out.time, .int .u16 s.out.pic, .int .u8 s.out.tl0]) _ rfl Try.underlying93 rfl (by kernel_rfl) (HL.out.1) ?_) | (refine wpl_store_blk rfl 93 (.tmp 6) (.tmp 39) (cs := [.bool true, .int .i64 X, .int .i64 X, .int .u16 S1, .int .u32 s.off.time, .int .u16 s.off.pic, .int .u8 s.off.tl0, .int .u16 s.out.seq, .int .u32 s.out.time, .int .u16 s.out.pic, .int .u8 s.out.tl0]) rfl rfl rfl (by kernel_rfl) (by simp [Value.oneCell']) (HL.out.2.1) rfl ?_; intro wb hn hg))
  refine ms_ret (s := Ms.mk true X X ⟨S1, s.off.time, s.off.pic, s.off.tl0⟩ s.out) Try.results49 rfl hn ?_
  rw [HR.out]
  exact ⟨rfl, below_row HL.out.2.2.out hg (by omega) HL.out.2.2.size⟩

set_option maxRecDepth 100000 in
set_option maxHeartbeats 2000000 in
theorem msDrop_got (s : Ms) (i : Nm) (X : Int) (hon : s.on = true) (S1 P1 : Nat) (q1 : IntKind.u16.wrap ((s.off.seq : Int) + 1) = (S1 : Int)) (q3 : IntKind.u16.wrap ((s.off.pic : Int) + 1) = (P1 : Int)) (w : World) (HX : Hd (∀ W, Calls Try.prog 83 #[s.val, i.val] W (Gives W (.tuple #[.int .i64 X, .bool false])))) : Calls Try.prog 49 #[s.val, i.val, .bool true] w (Gives w (Ms.mk true X X ⟨S1, s.off.time, P1, s.off.tl0⟩ s.out).val) := by
  have HS := hide (fun w' => drSt (w' := w') w s i)
  obtain ⟨R, hR⟩ : ∃ R, R = (Ms.mk true X X ⟨S1, s.off.time, P1, s.off.tl0⟩ s.out).val := ⟨_, rfl⟩
  have HR := hide hR
  have hg : Gives w (Ms.mk true X X ⟨S1, s.off.time, P1, s.off.tl0⟩ s.out).val = Gives w R := by rw [hR]
  rw [hg]
  clear hR hg
  simp only [Ms.val, Nm.val] at HX ⊢
  simp only [Ms.cl, Nm.cl, hon] at HS
  rw [hon] at HX ⊢
  go_enter Try.func49, Try.ntmps49
  go_wp2_with fail
  refine (HX.out _).mono ?_
  rintro e w' ⟨rfl, hb⟩
  have hs := HS.out _ hb
  have h3 := hs.h3
  simp only [Ms.cl, hon] at h3
  have HL0 := hide (And.intro h3 (And.intro hs.h6 hs.le))
  have c30 : w'.cell? ⟨w.heap.size, 0, none⟩ = some (.bool true) := box_cell h3 0 _ rfl _ (Le.refl _)
  have c31 : w'.cell? ⟨w.heap.size, 1, none⟩ = some (.int .i64 s.high) := box_cell h3 1 _ rfl _ (Le.refl _)
  have c32 : w'.cell? ⟨w.heap.size, 2, none⟩ = some (.int .i64 s.since) := box_cell h3 2 _ rfl _ (Le.refl _)
  have c33 : w'.cell? ⟨w.heap.size, 3, none⟩ = some (.int .u16 s.off.seq) := box_cell h3 3 _ rfl _ (Le.refl _)
  have c35 : w'.cell? ⟨w.heap.size, 5, none⟩ = some (.int .u16 s.off.pic) := box_cell h3 5 _ rfl _ (Le.refl _)
  have f1 : w'.frozen? ⟨w.heap.size, 1, none⟩ = false := free_block h3 1
  have f2 : w'.frozen? ⟨w.heap.size, 2, none⟩ = false := free_block h3 2
  have f3 : w'.frozen? ⟨w.heap.size, 3, none⟩ = false := free_block h3 3
  have f5 : w'.frozen? ⟨w.heap.size, 5, none⟩ = false := free_block h3 5
  clear hs h3 hb HS
  go_upto_region 9 with fail
  have HL : Hd (((((w'.setCell ⟨w.heap.size, 1, none⟩ (.int .i64 X)).setCell ⟨w.heap.size, 2, none⟩ (.int .i64 X)).setCell ⟨w.heap.size, 3, none⟩ (.int .u16 S1)).setCell ⟨w.heap.size, 5, none⟩ (.int .u16 P1)).heap[w.heap.size]? = some (.cells #[.bool true, .int .i64 X, .int .i64 X, .int .u16 S1, .int .u32 s.off.time, .int .u16 P1, .int .u8 s.off.tl0, .int .u16 s.out.seq, .int .u32 s.out.time, .int .u16 s.out.pic, .int .u8 s.out.tl0] 93 (0, 0)) ∧ ((((w'.setCell ⟨w.heap.size, 1, none⟩ (.int .i64 X)).setCell ⟨w.heap.size, 2, none⟩ (.int .i64 X)).setCell ⟨w.heap.size, 3, none⟩ (.int .u16 S1)).setCell ⟨w.heap.size, 5, none⟩ (.int .u16 P1)).heap[w.heap.size + 1 + 1]? = some (.cells (Ms.mk false 0 0 Nm.zero Nm.zero).cl.toArray 93 (0, 0)) ∧ Le w ((((w'.setCell ⟨w.heap.size, 1, none⟩ (.int .i64 X)).setCell ⟨w.heap.size, 2, none⟩ (.int .i64 X)).setCell ⟨w.heap.size, 3, none⟩ (.int .u16 S1)).setCell ⟨w.heap.size, 5, none⟩ (.int .u16 P1))) := hide ⟨(heap_set (i := 5) _ (heap_set (i := 3) _ (heap_set (i := 2) _ (heap_set (i := 1) _ HL0.out.1)))), (heap_far _ (heap_far _ (heap_far _ (heap_far _ HL0.out.2.1 (by omega)) (by omega)) (by omega)) (by omega)), ⟨((((HL0.out.2.2.out.setCell (Nat.le_refl _) _).setCell (Nat.le_refl _) _).setCell (Nat.le_refl _) _).setCell (Nat.le_refl _) _)⟩⟩
  generalize ((((w'.setCell ⟨w.heap.size, 1, none⟩ (.int .i64 X)).setCell ⟨w.heap.size, 2, none⟩ (.int .i64 X)).setCell ⟨w.heap.size, 3, none⟩ (.int .u16 S1)).setCell ⟨w.heap.size, 5, none⟩ (.int .u16 P1)) = W2 at *
  clear c30 c31 c32 c33 c35 f1 f2 f3 f5 q1 q3 HL0
  go_wp2_with (first | (refine wpl_load_blk rfl 93 (.tmp 3) rfl (cs := [.bool true, .int .i64 X, .int .i64 X, .int .u16 S1, .int .u32 s.off.time, .int .u16 P1, .int .u8 s.off.tl0, .int .u16 s.out.seq, .int .u32 s.out.time, .int .u16 s.out.pic, .int .u8 s.out.tl0]) _ rfl Try.underlying93 rfl (by kernel_rfl) (HL.out.1) ?_) | (refine wpl_store_blk rfl 93 (.tmp 6) (.tmp 39) (cs := [.bool true, .int .i64 X, .int .i64 X, .int .u16 S1, .int .u32 s.off.time, .int .u16 P1, .int .u8 s.off.tl0, .int .u16 s.out.seq, .int .u32 s.out.time, .int .u16 s.out.pic, .int .u8 s.out.tl0]) rfl rfl rfl (by kernel_rfl) (by simp [Value.oneCell']) (HL.out.2.1) rfl ?_; intro wb hn hg))
  refine ms_ret (s := Ms.mk true X X ⟨S1, s.off.time, P1, s.off.tl0⟩ s.out) Try.results49 rfl hn ?_
  rw [HR.out]
  exact ⟨rfl, below_row HL.out.2.2.out hg (by omega) HL.out.2.2.size⟩

theorem msDrop_any (s : Ms) (hs : s.Ok) (i : Nm) (hi : i.seq < 65536) (b : Bool) (w : World) : Calls Try.prog 49 #[s.val, i.val, .bool b] w (Gives w (s.drop i b).val) := by
  have HX := fun W => msLate_any s hs i hi W
  rw [Ms.drop]
  generalize near16 s.high i.seq = X at *
  rcases hon : s.on with _ | _
  · rw [if_pos (.inl rfl)]
    exact msDrop_off s i b X _ hon w ⟨HX⟩
  · by_cases hc : X ≤ s.high
    · rw [if_pos (.inr hc)]
      exact msDrop_late s i b X _ hon (decide_eq_true hc) w ⟨HX⟩
    · rw [if_neg (by simp [hc])]
      rw [decide_eq_false hc] at HX
      have q1 : IntKind.u16.wrap ((s.off.seq : Int) + 1) = ((s.off.seq + 1) % 65536 : Nat) := by simp [IntKind.wrap, IntKind.signed, IntKind.bits]
      have q3 : IntKind.u16.wrap ((s.off.pic : Int) + 1) = ((s.off.pic + 1) % 65536 : Nat) := by simp [IntKind.wrap, IntKind.signed, IntKind.bits]
      cases b
      · exact msDrop_gof s i X hon _ _ q1 q3 w ⟨HX⟩
      · exact msDrop_got s i X hon _ _ q1 q3 w ⟨HX⟩
end Go.Proofs.Ytekioihjfggmdaa
