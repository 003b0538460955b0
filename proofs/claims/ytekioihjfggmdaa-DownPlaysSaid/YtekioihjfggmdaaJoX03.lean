/- Texts of one claim, laid together: Ref13 -/
import Derived.Test.YtekioihjfggmdaaJoX02
import Derived.Test.YtekioihjfggmdaaJoX01
/- The reference's numbers: louverref02, louverref13. -/
namespace Go.Proofs.Ytekioihjfggmdaa
open Go.RowKit
set_option linter.unusedVariables false

def Nm.rv (n : Nm) : Value := .agg #[.int .i64 n.seq, .int .i64 n.time, .int .i64 n.pic, .int .i64 n.tl0]
def Ms.rv (s : Ms) : Value := .agg #[.bool s.on, .int .i64 s.high, .int .i64 s.since, .int .i64 s.off.seq, .int .i64 s.off.time, .int .i64 s.off.pic, .int .i64 s.off.tl0, .int .i64 s.out.seq, .int .i64 s.out.time, .int .i64 s.out.pic, .int .i64 s.out.tl0]
theorem tm_eq (x : Int) (m : Int) (hm : 0 < m) : x.tmod m = if 0 ≤ x then x % m else -((-x) % m) := by
  split
  · next h => exact Int.tmod_eq_emod_of_nonneg h
  · next h =>
    have := Int.tmod_eq_emod_of_nonneg (a := -x) (b := m) (by omega)
    rw [Int.neg_tmod] at this
    omega

set_option maxRecDepth 100000 in
theorem rfrom_65536 (a b : Nat) (ha : a < 65536) (hb : b < 65536) (w : World) : Calls Try.prog 68 #[.int .i64 a, .int .i64 b, .int .i64 65536] w (fun e w' => e = .returned (.int .i64 (fromN 65536 a b)) ∧ w = w') := by
  obtain ⟨d, hd⟩ : ∃ d : Int, d = (b : Int) - a := ⟨_, rfl⟩
  have h0 : IntKind.i64.wrap ((b : Int) - a) = d := by rw [hd]; exact IntWalk.i64_in _ (by omega)
  have h1 : IntKind.i64.wrap (d + 65536) = d + 65536 := IntWalk.i64_in _ (by omega)
  have h2 : IntKind.i64.wrap (d - 65536) = d - 65536 := IntWalk.i64_in _ (by omega)
  have h3 : IntKind.i64.wrap (d + 65536 - 65536) = d := by rw [show d + 65536 - 65536 = d by omega]; exact IntWalk.i64_in _ (by omega)
  have hf := fromN_16 a b ha hb
  rw [← hd] at hf
  by_cases c1 : d < -32768
  · rw [if_pos c1] at hf
    by_cases c2 : (32768 : Int) ≤ d + 65536
    · rw [if_pos c2] at hf
      rw [hf]
      clear hf hd ha hb
      go_enter Try.func68, Try.ntmps68
      go_wp2_with fail
      go_ret
      exact ⟨ret_i (by omega), rfl⟩
    · rw [if_neg c2] at hf
      rw [hf]
      clear hf hd ha hb
      go_enter Try.func68, Try.ntmps68
      go_wp2_with fail
      go_ret
      exact ⟨rfl, rfl⟩
  · rw [if_neg c1] at hf
    by_cases c2 : (32768 : Int) ≤ d
    · rw [if_pos c2] at hf
      rw [hf]
      clear hf hd ha hb
      go_enter Try.func68, Try.ntmps68
      go_wp2_with fail
      go_ret
      exact ⟨rfl, rfl⟩
    · rw [if_neg c2] at hf
      rw [hf]
      clear hf hd ha hb
      go_enter Try.func68, Try.ntmps68
      go_wp2_with fail
      go_ret
      exact ⟨rfl, rfl⟩

set_option maxRecDepth 100000 in
theorem rfrom_4294967296 (a b : Nat) (ha : a < 4294967296) (hb : b < 4294967296) (w : World) : Calls Try.prog 68 #[.int .i64 a, .int .i64 b, .int .i64 4294967296] w (fun e w' => e = .returned (.int .i64 (fromN 4294967296 a b)) ∧ w = w') := by
  obtain ⟨d, hd⟩ : ∃ d : Int, d = (b : Int) - a := ⟨_, rfl⟩
  have h0 : IntKind.i64.wrap ((b : Int) - a) = d := by rw [hd]; exact IntWalk.i64_in _ (by omega)
  have h1 : IntKind.i64.wrap (d + 4294967296) = d + 4294967296 := IntWalk.i64_in _ (by omega)
  have h2 : IntKind.i64.wrap (d - 4294967296) = d - 4294967296 := IntWalk.i64_in _ (by omega)
  have h3 : IntKind.i64.wrap (d + 4294967296 - 4294967296) = d := by rw [show d + 4294967296 - 4294967296 = d by omega]; exact IntWalk.i64_in _ (by omega)
  have hf := fromN_32 a b ha hb
  rw [← hd] at hf
  by_cases c1 : d < -2147483648
  · rw [if_pos c1] at hf
    by_cases c2 : (2147483648 : Int) ≤ d + 4294967296
    · rw [if_pos c2] at hf
      rw [hf]
      clear hf hd ha hb
      go_enter Try.func68, Try.ntmps68
      go_wp2_with fail
      go_ret
      exact ⟨ret_i (by omega), rfl⟩
    · rw [if_neg c2] at hf
      rw [hf]
      clear hf hd ha hb
      go_enter Try.func68, Try.ntmps68
      go_wp2_with fail
      go_ret
      exact ⟨rfl, rfl⟩
  · rw [if_neg c1] at hf
    by_cases c2 : (2147483648 : Int) ≤ d
    · rw [if_pos c2] at hf
      rw [hf]
      clear hf hd ha hb
      go_enter Try.func68, Try.ntmps68
      go_wp2_with fail
      go_ret
      exact ⟨rfl, rfl⟩
    · rw [if_neg c2] at hf
      rw [hf]
      clear hf hd ha hb
      go_enter Try.func68, Try.ntmps68
      go_wp2_with fail
      go_ret
      exact ⟨rfl, rfl⟩

set_option maxRecDepth 100000 in
theorem rrest2 (x : Int) (h1 : -4611686018427387904 ≤ x) (h2 : x ≤ 4611686018427387904) (w : World) : Calls Try.prog 89 #[.int .i64 x, .int .i64 65536] w (fun e w' => e = .returned (.int .i64 (x % 65536)) ∧ w = w') := by
  have ht := tm_eq x 65536 (by omega)
  obtain ⟨t, hg⟩ : ∃ t, t = x.tmod 65536 := ⟨_, rfl⟩
  rw [← hg] at ht
  have ha : IntKind.i64.wrap (x.tmod 65536) = t := by rw [← hg]; exact IntWalk.i64_in _ (by split at ht <;> omega)
  have hb : IntKind.i64.wrap (t + 65536) = t + 65536 := IntWalk.i64_in _ (by split at ht <;> omega)
  have hc : x.tmod 65536 = t := hg.symm
  have hr : x % 65536 = if t < 0 then t + 65536 else t := by split at ht <;> split <;> omega
  by_cases c : t < 0
  · rw [hr, if_pos c]
    clear ht hr hg h1 h2
    go_enter Try.func89, Try.ntmps89
    go_wp2_with fail
    go_ret
    exact ⟨rfl, rfl⟩
  · rw [hr, if_neg c]
    clear ht hr hg h1 h2
    go_enter Try.func89, Try.ntmps89
    go_wp2_with fail
    go_ret
    exact ⟨rfl, rfl⟩

set_option maxRecDepth 100000 in
theorem rrest_65536 (x : Int) (h1 : -4611686018427387904 ≤ x) (h2 : x ≤ 4611686018427387904) (w : World) : Calls Try.prog 63 #[.int .i64 x, .int .i64 65536] w (fun e w' => e = .returned (.int .i64 (x % 65536)) ∧ w = w') := by
  have ht := tm_eq x 65536 (by omega)
  obtain ⟨t, hg⟩ : ∃ t, t = x.tmod 65536 := ⟨_, rfl⟩
  rw [← hg] at ht
  have ha : IntKind.i64.wrap (x.tmod 65536) = t := by rw [← hg]; exact IntWalk.i64_in _ (by split at ht <;> omega)
  have hb : IntKind.i64.wrap (t + 65536) = t + 65536 := IntWalk.i64_in _ (by split at ht <;> omega)
  have hc : x.tmod 65536 = t := hg.symm
  have hr : x % 65536 = if t < 0 then t + 65536 else t := by split at ht <;> split <;> omega
  by_cases c : t < 0
  · rw [hr, if_pos c]
    clear ht hr hg h1 h2
    go_enter Try.func63, Try.ntmps63
    go_wp2_with fail
    go_ret
    exact ⟨rfl, rfl⟩
  · rw [hr, if_neg c]
    clear ht hr hg h1 h2
    go_enter Try.func63, Try.ntmps63
    go_wp2_with fail
    go_ret
    exact ⟨rfl, rfl⟩

set_option maxRecDepth 100000 in
theorem rrest_4294967296 (x : Int) (h1 : -4611686018427387904 ≤ x) (h2 : x ≤ 4611686018427387904) (w : World) : Calls Try.prog 63 #[.int .i64 x, .int .i64 4294967296] w (fun e w' => e = .returned (.int .i64 (x % 4294967296)) ∧ w = w') := by
  have ht := tm_eq x 4294967296 (by omega)
  obtain ⟨t, hg⟩ : ∃ t, t = x.tmod 4294967296 := ⟨_, rfl⟩
  rw [← hg] at ht
  have ha : IntKind.i64.wrap (x.tmod 4294967296) = t := by rw [← hg]; exact IntWalk.i64_in _ (by split at ht <;> omega)
  have hb : IntKind.i64.wrap (t + 4294967296) = t + 4294967296 := IntWalk.i64_in _ (by split at ht <;> omega)
  have hc : x.tmod 4294967296 = t := hg.symm
  have hr : x % 4294967296 = if t < 0 then t + 4294967296 else t := by split at ht <;> split <;> omega
  by_cases c : t < 0
  · rw [hr, if_pos c]
    clear ht hr hg h1 h2
    go_enter Try.func63, Try.ntmps63
    go_wp2_with fail
    go_ret
    exact ⟨rfl, rfl⟩
  · rw [hr, if_neg c]
    clear ht hr hg h1 h2
    go_enter Try.func63, Try.ntmps63
    go_wp2_with fail
    go_ret
    exact ⟨rfl, rfl⟩

set_option maxRecDepth 100000 in
theorem rrest_256 (x : Int) (h1 : -4611686018427387904 ≤ x) (h2 : x ≤ 4611686018427387904) (w : World) : Calls Try.prog 63 #[.int .i64 x, .int .i64 256] w (fun e w' => e = .returned (.int .i64 (x % 256)) ∧ w = w') := by
  have ht := tm_eq x 256 (by omega)
  obtain ⟨t, hg⟩ : ∃ t, t = x.tmod 256 := ⟨_, rfl⟩
  rw [← hg] at ht
  have ha : IntKind.i64.wrap (x.tmod 256) = t := by rw [← hg]; exact IntWalk.i64_in _ (by split at ht <;> omega)
  have hb : IntKind.i64.wrap (t + 256) = t + 256 := IntWalk.i64_in _ (by split at ht <;> omega)
  have hc : x.tmod 256 = t := hg.symm
  have hr : x % 256 = if t < 0 then t + 256 else t := by split at ht <;> split <;> omega
  by_cases c : t < 0
  · rw [hr, if_pos c]
    clear ht hr hg h1 h2
    go_enter Try.func63, Try.ntmps63
    go_wp2_with fail
    go_ret
    exact ⟨rfl, rfl⟩
  · rw [hr, if_neg c]
    clear ht hr hg h1 h2
    go_enter Try.func63, Try.ntmps63
    go_wp2_with fail
    go_ret
    exact ⟨rfl, rfl⟩

set_option maxRecDepth 100000 in
theorem rnear_any (h : Int) (x : Nat) (hx : x < 65536) (h1 : -4611686018427387904 ≤ h) (h2 : h ≤ 4611686018427387904) (w : World) : Calls Try.prog 62 #[.int .i64 h, .int .i64 x, .int .i64 65536] w (fun e w' => e = .returned (.int .i64 (near16 h x)) ∧ w = w') := by
  have HA := hide (fun W => rrest2 h h1 h2 W)
  have he : h % 65536 = ((h % 65536).toNat : Int) := by omega
  have hlt : (h % 65536).toNat < 65536 := by omega
  have HB := hide (fun W => rfrom_65536 (h % 65536).toNat x hlt hx W)
  have hr := fromN16_range (h % 65536).toNat x
  have hw : IntKind.i64.wrap (h + fromN 65536 (h % 65536).toNat x) = h + fromN 65536 (h % 65536).toNat x := IntWalk.i64_in _ (by omega)
  rw [he] at HA
  unfold near16
  generalize (h % 65536).toNat = r at *
  generalize fromN 65536 r x = D at *
  clear he hlt hr h1 h2 hx
  go_enter Try.func62, Try.ntmps62
  go_wp2_with fail
  refine (HA.out _).mono ?_
  rintro e w1 ⟨rfl, rfl⟩
  go_wp2_with fail
  refine (HB.out _).mono ?_
  rintro e w2 ⟨rfl, rfl⟩
  go_wp2_with fail
  go_ret
  exact ⟨rfl, rfl⟩

set_option maxRecDepth 100000 in
set_option maxHeartbeats 1000000 in
theorem r13round (a b c d : Int) (ha : -4611686018427387904 ≤ a ∧ a ≤ 4611686018427387904) (hb : -4611686018427387904 ≤ b ∧ b ≤ 4611686018427387904) (hc : -4611686018427387904 ≤ c ∧ c ≤ 4611686018427387904) (hd : -4611686018427387904 ≤ d ∧ d ≤ 4611686018427387904) (w : World) :
    Calls Try.prog 64 #[.agg #[.int .i64 a, .int .i64 b, .int .i64 c, .int .i64 d]] w (Gives w (.agg #[.int .i64 (a % 65536), .int .i64 (b % 4294967296), .int .i64 (c % 65536), .int .i64 (d % 256)])) := by
  have HA := hide (fun W => rrest_65536 a ha.1 ha.2 W)
  have HB := hide (fun W => rrest_4294967296 b hb.1 hb.2 W)
  have HC := hide (fun W => rrest_65536 c hc.1 hc.2 W)
  have HD := hide (fun W => rrest_256 d hd.1 hd.2 W)
  clear ha hb hc hd
  generalize a % 65536 = a' at *
  generalize b % 4294967296 = b' at *
  generalize c % 65536 = c' at *
  generalize d % 256 = d' at *
  go_enter Try.func64, Try.ntmps64
  go_upto_region 1 with fail
  have HX := hide (show ((w.alloc (.cells #[.int .i64 a, .int .i64 b, .int .i64 c, .int .i64 d] 31)).alloc (.cells #[.int .i64 0, .int .i64 0, .int .i64 0, .int .i64 0] 31)).heap[w.heap.size]? = some (.cells #[.int .i64 a, .int .i64 b, .int .i64 c, .int .i64 d] 31 (0, 0)) from heap_alloc (heap_alloc_new w _))
  have HY := hide (show ((w.alloc (.cells #[.int .i64 a, .int .i64 b, .int .i64 c, .int .i64 d] 31)).alloc (.cells #[.int .i64 0, .int .i64 0, .int .i64 0, .int .i64 0] 31)).heap[w.heap.size + 1]? = some (.cells #[.int .i64 0, .int .i64 0, .int .i64 0, .int .i64 0] 31 (0, 0)) from heap_at (by simp))
  have HL := hide (((Le.refl w).alloc (.cells #[.int .i64 a, .int .i64 b, .int .i64 c, .int .i64 d] 31)).alloc (.cells #[.int .i64 0, .int .i64 0, .int .i64 0, .int .i64 0] 31))
  generalize (w.alloc (.cells #[.int .i64 a, .int .i64 b, .int .i64 c, .int .i64 d] 31)).alloc (.cells #[.int .i64 0, .int .i64 0, .int .i64 0, .int .i64 0] 31) = w1 at *
  refine' wp_region_tail 13 13 3 Le (Is _ :: Is _ :: Is _ :: Is _ :: Is _ :: Is _ :: Is _ :: Is _ :: Is _ :: Is _ :: Is _ :: Is _ :: Is _ :: []) ([] :: [0] :: [1] :: [] :: [3] :: [4] :: [] :: [6] :: [7] :: [] :: [9] :: [10] :: [2, 5, 8, 11] :: []) (by kernel_rfl) (by kernel_rfl) (by rfl) (by kernel_rfl) (by kernel_rfl) Le.refl (fun _ _ _ h h' => h.trans h') ⟨St.is, St.is, St.is, St.is, St.is, St.is, St.is, St.is, St.is, St.is, St.is, St.is, St.is, trivial⟩ ?m1
  case m1 =>
    simp (maxSteps := 100000000) only [AllV, Obl2, Leans, factAt, allFacts, actOf, putAll, putRow, List.set_cons_succ, List.set_cons_zero, List.getElem?_cons_zero, List.getElem?_cons_succ, List.take_succ_cons, List.take_zero, List.drop_succ_cons, List.drop_zero, List.cons_append, List.nil_append, List.length_cons, List.length_nil, Nat.reduceAdd]
    intro x0 x1 x2 x3 x4 x5 x6 x7 x8 x9 x10 x11 x12
    refine ⟨⟨?_, ?_, ?_, ?_, ?_, ?_, ?_, ?_, ?_, ?_, ?_, ?_, ?_, trivial⟩, ?_⟩
    -- 0: 3 := Op.fieldAddr 31 t1 0
    · intro wo hw  K hK; go_simp; exact hK _ _ (Le.refl _) (Is.mk _ _)
    -- 1: 4 := Op.load 2 t3
    · intro wo hw h0 K hK; cases h0; have kk := box_cell (hw.heap HX.out) 0 (.int .i64 a) rfl wo (Le.refl _); go_simp; exact hK _ _ (Le.refl _) (Is.mk _ _)
    -- 2: 5 := Op.call { value (Operand.func 63), args := #[t4, const (65536:i64)], argTypes := #[2, 2] }
    · intro wo hw h1 K hK; cases h1; go_simp; refine (HA.out _).mono ?_; rintro r w' ⟨rfl, rfl⟩; exact hK _ _ (Le.refl _) (Is.mk _ _)
    -- 3: 6 := Op.fieldAddr 31 t1 1
    · intro wo hw  K hK; go_simp; exact hK _ _ (Le.refl _) (Is.mk _ _)
    -- 4: 7 := Op.load 2 t6
    · intro wo hw h3 K hK; cases h3; have kk := box_cell (hw.heap HX.out) 1 (.int .i64 b) rfl wo (Le.refl _); go_simp; exact hK _ _ (Le.refl _) (Is.mk _ _)
    -- 5: 8 := Op.call { value (Operand.func 63), args := #[t7, const (4294967296:i64)], argTypes := #[2, 2] }
    · intro wo hw h4 K hK; cases h4; go_simp; refine (HB.out _).mono ?_; rintro r w' ⟨rfl, rfl⟩; exact hK _ _ (Le.refl _) (Is.mk _ _)
    -- 6: 9 := Op.fieldAddr 31 t1 2
    · intro wo hw  K hK; go_simp; exact hK _ _ (Le.refl _) (Is.mk _ _)
    -- 7: 10 := Op.load 2 t9
    · intro wo hw h6 K hK; cases h6; have kk := box_cell (hw.heap HX.out) 2 (.int .i64 c) rfl wo (Le.refl _); go_simp; exact hK _ _ (Le.refl _) (Is.mk _ _)
    -- 8: 11 := Op.call { value (Operand.func 63), args := #[t10, const (65536:i64)], argTypes := #[2, 2] }
    · intro wo hw h7 K hK; cases h7; go_simp; refine (HC.out _).mono ?_; rintro r w' ⟨rfl, rfl⟩; exact hK _ _ (Le.refl _) (Is.mk _ _)
    -- 9: 12 := Op.fieldAddr 31 t1 3
    · intro wo hw  K hK; go_simp; exact hK _ _ (Le.refl _) (Is.mk _ _)
    -- 10: 13 := Op.load 2 t12
    · intro wo hw h9 K hK; cases h9; have kk := box_cell (hw.heap HX.out) 3 (.int .i64 d) rfl wo (Le.refl _); go_simp; exact hK _ _ (Le.refl _) (Is.mk _ _)
    -- 11: 14 := Op.call { value (Operand.func 63), args := #[t13, const (256:i64)], argTypes := #[2, 2] }
    · intro wo hw h10 K hK; cases h10; go_simp; refine (HD.out _).mono ?_; rintro r w' ⟨rfl, rfl⟩; exact hK _ _ (Le.refl _) (Is.mk _ _)
    -- 12: 15 := Op.build 31 #[(0, t5), (1, t8), (2, t11), (3, t14)]
    · intro wo hw h2 h5 h8 h11 K hK; cases h2; cases h5; cases h8; cases h11; go_simp; exact hK _ _ (Le.refl _) (Is.mk _ _)
    · intro wz hz h0 h1 h2 h3 h4 h5 h6 h7 h8 h9 h10 h11 h12; cases h0; cases h1; cases h2; cases h3; cases h4; cases h5; cases h6; cases h7; cases h8; cases h9; cases h10; cases h11; cases h12; skip
      have hY := hz.heap HY.out
      go_wp2_with (refine wpl_store_blk rfl 31 (.tmp 2) (.tmp 15) (cs := [.int .i64 a', .int .i64 b', .int .i64 c', .int .i64 d']) rfl rfl rfl (by kernel_rfl) (by simp [Value.oneCell']) hY rfl ?_; intro wb hn hg)
      exact ret_c Try.results64 (InCell.mk' rfl hn Try.underlying31 rfl (by kernel_rfl)) ⟨rfl, below_row (HL.out.drew.trans hz).out hg (by omega) (HL.out.drew.trans hz).size⟩

set_option maxRecDepth 100000 in
set_option maxHeartbeats 1000000 in
theorem r13less (a b : Nm) (ha : a.Ok) (hb : b.Ok) (w : World) : Calls Try.prog 65 #[a.rv, b.rv] w (Gives w (b.from a).rv) := by
  obtain ⟨a1, a2, a3, a4⟩ := a
  obtain ⟨b1, b2, b3, b4⟩ := b
  obtain ⟨ha1, ha2, ha3, ha4⟩ := ha
  obtain ⟨hb1, hb2, hb3, hb4⟩ := hb
  simp only at ha1 ha2 ha3 ha4 hb1 hb2 hb3 hb4
  have HR := hide (fun W => r13round ((a1 : Int) - b1) ((a2 : Int) - b2) ((a3 : Int) - b3) ((a4 : Int) - b4) (by omega) (by omega) (by omega) (by omega) W)
  rw [show ((a1 : Int) - b1) % 65536 = (((a1 + 65536 - b1) % 65536 : Nat) : Int) by omega, show ((a2 : Int) - b2) % 4294967296 = (((a2 + 4294967296 - b2) % 4294967296 : Nat) : Int) by omega, show ((a3 : Int) - b3) % 65536 = (((a3 + 65536 - b3) % 65536 : Nat) : Int) by omega, show ((a4 : Int) - b4) % 256 = (((a4 + 256 - b4) % 256 : Nat) : Int) by omega] at HR
  simp only [Nm.rv, Nm.from]
  have q1 : IntKind.i64.wrap ((a1 : Int) - b1) = (a1 : Int) - b1 := IntWalk.i64_in _ (by omega)
  have q2 : IntKind.i64.wrap ((a2 : Int) - b2) = (a2 : Int) - b2 := IntWalk.i64_in _ (by omega)
  have q3 : IntKind.i64.wrap ((a3 : Int) - b3) = (a3 : Int) - b3 := IntWalk.i64_in _ (by omega)
  have q4 : IntKind.i64.wrap ((a4 : Int) - b4) = (a4 : Int) - b4 := IntWalk.i64_in _ (by omega)
  clear ha1 ha2 ha3 ha4 hb1 hb2 hb3 hb4
  generalize (a1 + 65536 - b1) % 65536 = r1 at *
  generalize (a2 + 4294967296 - b2) % 4294967296 = r2 at *
  generalize (a3 + 65536 - b3) % 65536 = r3 at *
  generalize (a4 + 256 - b4) % 256 = r4 at *
  have HY := hide (show (((w.alloc (.cells #[.int .i64 a1, .int .i64 a2, .int .i64 a3, .int .i64 a4] 31)).alloc (.cells #[.int .i64 b1, .int .i64 b2, .int .i64 b3, .int .i64 b4] 31)).alloc (.cells #[.int .i64 0, .int .i64 0, .int .i64 0, .int .i64 0] 31)).heap[w.heap.size + 1 + 1]? = some (.cells #[.int .i64 0, .int .i64 0, .int .i64 0, .int .i64 0] 31 (0, 0)) from heap_at (by simp))
  have HL := hide (((Le.refl w).alloc (.cells #[.int .i64 a1, .int .i64 a2, .int .i64 a3, .int .i64 a4] 31)).alloc (.cells #[.int .i64 b1, .int .i64 b2, .int .i64 b3, .int .i64 b4] 31) |>.alloc (.cells #[.int .i64 0, .int .i64 0, .int .i64 0, .int .i64 0] 31))
  go_enter Try.func65, Try.ntmps65
  go_wp2_with fail
  refine (HR.out _).mono ?_
  rintro e w1 ⟨rfl, hb⟩
  have hY := (Le.mk hb).heap HY.out
  have HL1 := hide (HL.out.trans ⟨hb⟩)
  clear hb q1 q2 q3 q4
  go_wp2_with (refine wpl_store_blk rfl 31 (.tmp 4) (.tmp 26) (cs := [.int .i64 r1, .int .i64 r2, .int .i64 r3, .int .i64 r4]) rfl rfl rfl (by kernel_rfl) (by simp [Value.oneCell']) hY rfl ?_; intro wb hn hg)
  exact ret_c Try.results65 (InCell.mk' rfl hn Try.underlying31 rfl (by kernel_rfl)) ⟨rfl, below_row HL1.out.out hg (by omega) HL1.out.size⟩

set_option maxRecDepth 100000 in
set_option maxHeartbeats 4000000 in
theorem r13switch_false (s1 s2 : Int) (f1 f2 f3 f4 o1 o2 o3 o4 i1 i2 i3 i4 d1 d2 d3 d4 : Nat) (w : World) (hs : Hd (o1 < 65536 ∧ o2 < 4294967296 ∧ o3 < 65536 ∧ o4 < 256))
    (HF : Hd (∀ W, Calls Try.prog 65 #[.agg #[.int .i64 i1, .int .i64 i2, .int .i64 i3, .int .i64 i4], .agg #[.int .i64 i1, .int .i64 i2, .int .i64 i3, .int .i64 i4]] W (Gives W (.agg #[.int .i64 d1, .int .i64 d2, .int .i64 d3, .int .i64 d4])))) :
    Calls Try.prog 33 #[.agg #[.bool false, .int .i64 s1, .int .i64 s2, .int .i64 f1, .int .i64 f2, .int .i64 f3, .int .i64 f4, .int .i64 o1, .int .i64 o2, .int .i64 o3, .int .i64 o4], .agg #[.int .i64 i1, .int .i64 i2, .int .i64 i3, .int .i64 i4], .int .i64 3000] w (Gives w (.tuple #[.agg #[.bool true, .int .i64 i1, .int .i64 i1, .int .i64 d1, .int .i64 d2, .int .i64 d3, .int .i64 d4, .int .i64 i1, .int .i64 i2, .int .i64 i3, .int .i64 i4], .agg #[.int .i64 i1, .int .i64 i2, .int .i64 i3, .int .i64 i4]])) := by
  obtain ⟨R, hR⟩ : ∃ R : Value, R = .tuple #[.agg #[.bool true, .int .i64 i1, .int .i64 i1, .int .i64 d1, .int .i64 d2, .int .i64 d3, .int .i64 d4, .int .i64 i1, .int .i64 i2, .int .i64 i3, .int .i64 i4], .agg #[.int .i64 i1, .int .i64 i2, .int .i64 i3, .int .i64 i4]] := ⟨_, rfl⟩
  rw [← hR]
  have HRR := hide hR
  clear hR
  have HSS := hs
  have q := hs.out
  have q1 : IntKind.i64.wrap ((o1 : Int) + 1) = (o1 : Int) + 1 := IntWalk.i64_in _ (by omega)
  have q2 : IntKind.i64.wrap ((o2 : Int) + 3000) = (o2 : Int) + 3000 := IntWalk.i64_in _ (by omega)
  have q3 : IntKind.i64.wrap ((o3 : Int) + 1) = (o3 : Int) + 1 := IntWalk.i64_in _ (by omega)
  have q4 : IntKind.i64.wrap ((o4 : Int) + 1) = (o4 : Int) + 1 := IntWalk.i64_in _ (by omega)
  clear q
  obtain ⟨w2, hw2⟩ : ∃ w2, w2 = ((((w.alloc (.cells #[.bool false, .int .i64 s1, .int .i64 s2, .int .i64 f1, .int .i64 f2, .int .i64 f3, .int .i64 f4, .int .i64 o1, .int .i64 o2, .int .i64 o3, .int .i64 o4] 33)).alloc (.cells #[.int .i64 i1, .int .i64 i2, .int .i64 i3, .int .i64 i4] 31)).alloc (.cells #[.bool false, .int .i64 0, .int .i64 0, .int .i64 0, .int .i64 0, .int .i64 0, .int .i64 0, .int .i64 0, .int .i64 0, .int .i64 0, .int .i64 0] 33)).alloc (.cells #[.int .i64 0, .int .i64 0, .int .i64 0, .int .i64 0] 31)).alloc (.cells #[.int .i64 i1, .int .i64 i2, .int .i64 i3, .int .i64 i4] 31) := ⟨_, rfl⟩
  have hl : Le w (w2) := by rw [hw2]; exact ((((Le.refl w).alloc _).alloc _).alloc _).alloc _ |>.alloc _
  have h4 : (w2).heap[w.heap.size + 1]? = some (.cells #[.int .i64 i1, .int .i64 i2, .int .i64 i3, .int .i64 i4] 31 (0, 0)) := by rw [hw2]; exact heap_alloc (heap_alloc (heap_alloc (heap_at (by simp))))
  have h6 : (w2).heap[w.heap.size + 1 + 1]? = some (.cells #[.bool false, .int .i64 0, .int .i64 0, .int .i64 0, .int .i64 0, .int .i64 0, .int .i64 0, .int .i64 0, .int .i64 0, .int .i64 0, .int .i64 0] 33 (0, 0)) := by rw [hw2]; exact heap_alloc (heap_alloc (heap_at (by simp)))
  have h7 : (w2).heap[w.heap.size + 1 + 1 + 1]? = some (.cells #[.int .i64 0, .int .i64 0, .int .i64 0, .int .i64 0] 31 (0, 0)) := by rw [hw2]; exact heap_alloc (heap_at (by simp))
  have h8 : (w2).heap[w.heap.size + 1 + 1 + 1 + 1]? = some (.cells #[.int .i64 i1, .int .i64 i2, .int .i64 i3, .int .i64 i4] 31 (0, 0)) := by rw [hw2]; exact heap_at (by simp)
  have HB := hide (And.intro hl (And.intro h4 (And.intro h6 (And.intro h7 h8))))
  clear hl h4 h6 h7 h8
  go_enter Try.func33, Try.ntmps33
  go_upto_region 4 with fail
  clear q1 q2 q3 q4
  have HLE := hide HB.out.1.out
  have H4 := hide HB.out.2.1
  have H6 := hide HB.out.2.2.1
  have H7 := hide HB.out.2.2.2.1
  have H8 := hide HB.out.2.2.2.2
  rw [← hw2]
  clear hw2
  have hs6 := lt_of_heap H6.out
  have hs7 := lt_of_heap H7.out
  have hsd : w2.drew.heap.size = w2.heap.size := rfl
  refine' wp_region_rows 10 31 (Rn [(w.heap.size + 1 + 1, .cells #[.bool true, .int .i64 i1, .int .i64 i1, .int .i64 d1, .int .i64 d2, .int .i64 d3, .int .i64 d4, .int .i64 i1, .int .i64 i2, .int .i64 i3, .int .i64 i4] 33 (0, 0)), (w.heap.size + 1 + 1 + 1, .cells #[.int .i64 i1, .int .i64 i2, .int .i64 i3, .int .i64 i4] 31 (0, 0))]) (Is _ :: Is _ :: Is _ :: Is _ :: Is _ :: Is _ :: Is _ :: Is _ :: Is _ :: Is _ :: (fun _ W => W.heap[w.heap.size + 1 + 1]? = some (Obj.cells #[.bool true, .int .i64 i1, .int .i64 i1, .int .i64 d1, .int .i64 d2, .int .i64 d3, .int .i64 d4, .int .i64 i1, .int .i64 i2, .int .i64 i3, .int .i64 i4] 33 (0, 0))) :: (fun _ W => W.heap[w.heap.size + 1 + 1 + 1]? = some (Obj.cells #[.int .i64 i1, .int .i64 i2, .int .i64 i3, .int .i64 i4] 31 (0, 0))) :: []) ([] :: [0] :: [] :: [2] :: [] :: [] :: [4, 5] :: [] :: [1, 3, 6, 7] :: [] :: [8] :: [9] :: []) (by kernel_rfl) (by kernel_rfl) (by rfl) (by kernel_rfl) Rn.refl (fun _ _ _ h h' => h.trans h') ⟨St.is, St.is, St.is, St.is, St.is, St.is, St.is, St.is, St.is, St.is, (fun _ _ _ h hk => (h.in_ (p := (w.heap.size + 1 + 1, Obj.cells #[.bool true, .int .i64 i1, .int .i64 i1, .int .i64 d1, .int .i64 d2, .int .i64 d3, .int .i64 d4, .int .i64 i1, .int .i64 i2, .int .i64 i3, .int .i64 i4] 33 (0, 0))) (by simp) hk).elim _root_.id _root_.id), (fun _ _ _ h hk => (h.in_ (p := (w.heap.size + 1 + 1 + 1, Obj.cells #[.int .i64 i1, .int .i64 i2, .int .i64 i3, .int .i64 i4] 31 (0, 0))) (by simp) hk).elim _root_.id _root_.id), trivial⟩ ?m4
  case m4 =>
    simp (maxSteps := 100000000) only [AllV, Obl2, Leans, factAt, allFacts, actOf, putAll, putRow, Act.put, List.set_cons_succ, List.set_cons_zero, List.getElem?_cons_zero, List.getElem?_cons_succ, List.take_succ_cons, List.take_zero, List.drop_succ_cons, List.drop_zero, List.cons_append, List.nil_append, List.length_cons, List.length_nil, Nat.reduceAdd]
    intro x0 x1 x2 x3 x4 x5 x6 x7 x8 x9 x10 x11
    refine ⟨⟨?_, ?_, ?_, ?_, ?_, ?_, ?_, ?_, ?_, ?_, ?_, ?_, trivial⟩, ?_⟩
    -- 0: 31 := Op.fieldAddr 31 t4 0
    · intro wo hw  K hK; go_simp; exact hK _ _ (Rn.refl _) (Is.mk _ _)
    -- 1: 32 := Op.load 2 t31
    · intro wo hw h0 K hK; cases h0; have kk := box_cell (hw.heap H4.out (by simp <;> omega)) 0 (.int .i64 i1) rfl wo (Le.refl _); go_simp; exact hK _ _ (Rn.refl _) (Is.mk _ _)
    -- 2: 33 := Op.fieldAddr 31 t4 0
    · intro wo hw  K hK; go_simp; exact hK _ _ (Rn.refl _) (Is.mk _ _)
    -- 3: 34 := Op.load 2 t33
    · intro wo hw h2 K hK; cases h2; have kk := box_cell (hw.heap H4.out (by simp <;> omega)) 0 (.int .i64 i1) rfl wo (Le.refl _); go_simp; exact hK _ _ (Rn.refl _) (Is.mk _ _)
    -- 4: 35 := Op.load 31 t4
    · intro wo hw  K hK; refine cast (if_pos (show Region.wanted _ _ = true from rfl)).symm ?_; have hz := (hw.heap H4.out (by simp <;> omega)); refine wp_load_blk 31 (.tmp 4) rfl (cs := [.int .i64 i1, .int .i64 i2, .int .i64 i3, .int .i64 i4]) _ rfl Try.underlying31 rfl (by kernel_rfl) hz ?_; exact hK _ _ (Rn.refl _) (Is.mk _ _)
    -- 5: 36 := Op.load 31 t8
    · intro wo hw  K hK; refine cast (if_pos (show Region.wanted _ _ = true from rfl)).symm ?_; have hz := (hw.heap H8.out (by simp <;> omega)); refine wp_load_blk 31 (.tmp 8) rfl (cs := [.int .i64 i1, .int .i64 i2, .int .i64 i3, .int .i64 i4]) _ rfl Try.underlying31 rfl (by kernel_rfl) hz ?_; exact hK _ _ (Rn.refl _) (Is.mk _ _)
    -- 6: 37 := Op.call { value (Operand.func 65), args := #[t35, t36], argTypes := #[31, 31] }
    · intro wo hw h4 h5 K hK; cases h4; cases h5; go_simp; refine (HF.out _).mono ?_; rintro r w' ⟨rfl, hb'⟩; exact hK _ _ (Rn.of_le ⟨hb'⟩ (by have := hw.size; simp; omega)) (Is.mk _ _)
    -- 7: 38 := Op.load 31 t8
    · intro wo hw  K hK; refine cast (if_pos (show Region.wanted _ _ = true from rfl)).symm ?_; have hz := (hw.heap H8.out (by simp <;> omega)); refine wp_load_blk 31 (.tmp 8) rfl (cs := [.int .i64 i1, .int .i64 i2, .int .i64 i3, .int .i64 i4]) _ rfl Try.underlying31 rfl (by kernel_rfl) hz ?_; exact hK _ _ (Rn.refl _) (Is.mk _ _)
    -- 8: 39 := Op.build 33 #[(0, const (Value.bool true)), (1, t32), (2, t34), (3, t37), (4, t38)]
    · intro wo hw h1 h3 h6 h7 K hK; cases h1; cases h3; cases h6; cases h7; go_simp; exact hK _ _ (Rn.refl _) (Is.mk _ _)
    -- 9: 40 := Op.load 31 t8
    · intro wo hw  K hK; refine cast (if_pos (show Region.wanted _ _ = true from rfl)).symm ?_; have hz := (hw.heap H8.out (by simp <;> omega)); refine wp_load_blk 31 (.tmp 8) rfl (cs := [.int .i64 i1, .int .i64 i2, .int .i64 i3, .int .i64 i4]) _ rfl Try.underlying31 rfl (by kernel_rfl) hz ?_; exact hK _ _ (Rn.refl _) (Is.mk _ _)
    -- 10: none := Op.store 33 t6 t39
    · intro wo hw h8 K hK; cases h8; refine cast (if_pos (show Region.wanted _ _ = true from rfl)).symm ?_; rcases hw.in_ (p := (w.heap.size + 1 + 1, Obj.cells #[.bool true, .int .i64 i1, .int .i64 i1, .int .i64 d1, .int .i64 d2, .int .i64 d3, .int .i64 d4, .int .i64 i1, .int .i64 i2, .int .i64 i3, .int .i64 i4] 33 (0, 0))) (by simp) H6.out with ho | ho <;> (refine wp_store_blk 33 (.tmp 6) (.tmp 39) rfl (cs := [.bool true, .int .i64 i1, .int .i64 i1, .int .i64 d1, .int .i64 d2, .int .i64 d3, .int .i64 d4, .int .i64 i1, .int .i64 i2, .int .i64 i3, .int .i64 i4]) rfl rfl (by kernel_rfl) (by simp [Value.oneCell']) ho rfl ?_; intro w' h' hg'; exact hK undef _ (Rn.store hg' (by simp) h' (by simp <;> omega) (by have := hw.size; simp <;> omega)) h')
    -- 11: none := Op.store 31 t7 t40
    · intro wo hw h9 K hK; cases h9; refine cast (if_pos (show Region.wanted _ _ = true from rfl)).symm ?_; rcases hw.in_ (p := (w.heap.size + 1 + 1 + 1, Obj.cells #[.int .i64 i1, .int .i64 i2, .int .i64 i3, .int .i64 i4] 31 (0, 0))) (by simp) H7.out with ho | ho <;> (refine wp_store_blk 31 (.tmp 7) (.tmp 40) rfl (cs := [.int .i64 i1, .int .i64 i2, .int .i64 i3, .int .i64 i4]) rfl rfl (by kernel_rfl) (by simp [Value.oneCell']) ho rfl ?_; intro w' h' hg'; exact hK undef _ (Rn.store hg' (by simp) h' (by simp <;> omega) (by have := hw.size; simp <;> omega)) h')
    · intro wz hz h0 h1 h2 h3 h4 h5 h6 h7 h8 h9 h10 h11; cases h0; cases h1; cases h2; cases h3; cases h4; cases h5; cases h6; cases h7; cases h8; cases h9; skip
      go_wp2_with fail
      refine ret_cc Try.results33 (InCell.mk' rfl h10 Try.underlying33 rfl (by kernel_rfl)) (InCell.mk' rfl h11 Try.underlying31 rfl (by kernel_rfl)) ?_
      rw [HRR.out]
      exact ⟨rfl, hz.below HLE.out.drew (by simp <;> omega) HLE.out.size⟩

set_option maxRecDepth 100000 in
set_option maxHeartbeats 4000000 in
theorem r13switch_true (s1 s2 : Int) (f1 f2 f3 f4 o1 o2 o3 o4 i1 i2 i3 i4 n1 n2 n3 n4 d1 d2 d3 d4 : Nat) (w : World) (hs : Hd (o1 < 65536 ∧ o2 < 4294967296 ∧ o3 < 65536 ∧ o4 < 256))
    (HR : Hd (∀ W, Calls Try.prog 64 #[.agg #[.int .i64 ((o1 : Int) + 1), .int .i64 ((o2 : Int) + 3000), .int .i64 ((o3 : Int) + 1), .int .i64 ((o4 : Int) + 1)]] W (Gives W (.agg #[.int .i64 n1, .int .i64 n2, .int .i64 n3, .int .i64 n4]))))
    (HF : Hd (∀ W, Calls Try.prog 65 #[.agg #[.int .i64 i1, .int .i64 i2, .int .i64 i3, .int .i64 i4], .agg #[.int .i64 n1, .int .i64 n2, .int .i64 n3, .int .i64 n4]] W (Gives W (.agg #[.int .i64 d1, .int .i64 d2, .int .i64 d3, .int .i64 d4])))) :
    Calls Try.prog 33 #[.agg #[.bool true, .int .i64 s1, .int .i64 s2, .int .i64 f1, .int .i64 f2, .int .i64 f3, .int .i64 f4, .int .i64 o1, .int .i64 o2, .int .i64 o3, .int .i64 o4], .agg #[.int .i64 i1, .int .i64 i2, .int .i64 i3, .int .i64 i4], .int .i64 3000] w (Gives w (.tuple #[.agg #[.bool true, .int .i64 i1, .int .i64 i1, .int .i64 d1, .int .i64 d2, .int .i64 d3, .int .i64 d4, .int .i64 n1, .int .i64 n2, .int .i64 n3, .int .i64 n4], .agg #[.int .i64 n1, .int .i64 n2, .int .i64 n3, .int .i64 n4]])) := by
  obtain ⟨R, hR⟩ : ∃ R : Value, R = .tuple #[.agg #[.bool true, .int .i64 i1, .int .i64 i1, .int .i64 d1, .int .i64 d2, .int .i64 d3, .int .i64 d4, .int .i64 n1, .int .i64 n2, .int .i64 n3, .int .i64 n4], .agg #[.int .i64 n1, .int .i64 n2, .int .i64 n3, .int .i64 n4]] := ⟨_, rfl⟩
  rw [← hR]
  have HRR := hide hR
  clear hR
  have HSS := hs
  have q := hs.out
  have q1 : IntKind.i64.wrap ((o1 : Int) + 1) = (o1 : Int) + 1 := IntWalk.i64_in _ (by omega)
  have q2 : IntKind.i64.wrap ((o2 : Int) + 3000) = (o2 : Int) + 3000 := IntWalk.i64_in _ (by omega)
  have q3 : IntKind.i64.wrap ((o3 : Int) + 1) = (o3 : Int) + 1 := IntWalk.i64_in _ (by omega)
  have q4 : IntKind.i64.wrap ((o4 : Int) + 1) = (o4 : Int) + 1 := IntWalk.i64_in _ (by omega)
  clear q
  have hl : Le w (((((w.alloc (.cells #[.bool true, .int .i64 s1, .int .i64 s2, .int .i64 f1, .int .i64 f2, .int .i64 f3, .int .i64 f4, .int .i64 o1, .int .i64 o2, .int .i64 o3, .int .i64 o4] 33)).alloc (.cells #[.int .i64 i1, .int .i64 i2, .int .i64 i3, .int .i64 i4] 31)).alloc (.cells #[.bool false, .int .i64 0, .int .i64 0, .int .i64 0, .int .i64 0, .int .i64 0, .int .i64 0, .int .i64 0, .int .i64 0, .int .i64 0, .int .i64 0] 33)).alloc (.cells #[.int .i64 0, .int .i64 0, .int .i64 0, .int .i64 0] 31)).alloc (.cells #[.int .i64 i1, .int .i64 i2, .int .i64 i3, .int .i64 i4] 31)) := ((((Le.refl w).alloc _).alloc _).alloc _).alloc _ |>.alloc _
  have h4 : (((((w.alloc (.cells #[.bool true, .int .i64 s1, .int .i64 s2, .int .i64 f1, .int .i64 f2, .int .i64 f3, .int .i64 f4, .int .i64 o1, .int .i64 o2, .int .i64 o3, .int .i64 o4] 33)).alloc (.cells #[.int .i64 i1, .int .i64 i2, .int .i64 i3, .int .i64 i4] 31)).alloc (.cells #[.bool false, .int .i64 0, .int .i64 0, .int .i64 0, .int .i64 0, .int .i64 0, .int .i64 0, .int .i64 0, .int .i64 0, .int .i64 0, .int .i64 0] 33)).alloc (.cells #[.int .i64 0, .int .i64 0, .int .i64 0, .int .i64 0] 31)).alloc (.cells #[.int .i64 i1, .int .i64 i2, .int .i64 i3, .int .i64 i4] 31)).heap[w.heap.size + 1]? = some (.cells #[.int .i64 i1, .int .i64 i2, .int .i64 i3, .int .i64 i4] 31 (0, 0)) := heap_alloc (heap_alloc (heap_alloc (heap_at (by simp))))
  have h6 : (((((w.alloc (.cells #[.bool true, .int .i64 s1, .int .i64 s2, .int .i64 f1, .int .i64 f2, .int .i64 f3, .int .i64 f4, .int .i64 o1, .int .i64 o2, .int .i64 o3, .int .i64 o4] 33)).alloc (.cells #[.int .i64 i1, .int .i64 i2, .int .i64 i3, .int .i64 i4] 31)).alloc (.cells #[.bool false, .int .i64 0, .int .i64 0, .int .i64 0, .int .i64 0, .int .i64 0, .int .i64 0, .int .i64 0, .int .i64 0, .int .i64 0, .int .i64 0] 33)).alloc (.cells #[.int .i64 0, .int .i64 0, .int .i64 0, .int .i64 0] 31)).alloc (.cells #[.int .i64 i1, .int .i64 i2, .int .i64 i3, .int .i64 i4] 31)).heap[w.heap.size + 1 + 1]? = some (.cells #[.bool false, .int .i64 0, .int .i64 0, .int .i64 0, .int .i64 0, .int .i64 0, .int .i64 0, .int .i64 0, .int .i64 0, .int .i64 0, .int .i64 0] 33 (0, 0)) := heap_alloc (heap_alloc (heap_at (by simp)))
  have h7 : (((((w.alloc (.cells #[.bool true, .int .i64 s1, .int .i64 s2, .int .i64 f1, .int .i64 f2, .int .i64 f3, .int .i64 f4, .int .i64 o1, .int .i64 o2, .int .i64 o3, .int .i64 o4] 33)).alloc (.cells #[.int .i64 i1, .int .i64 i2, .int .i64 i3, .int .i64 i4] 31)).alloc (.cells #[.bool false, .int .i64 0, .int .i64 0, .int .i64 0, .int .i64 0, .int .i64 0, .int .i64 0, .int .i64 0, .int .i64 0, .int .i64 0, .int .i64 0] 33)).alloc (.cells #[.int .i64 0, .int .i64 0, .int .i64 0, .int .i64 0] 31)).alloc (.cells #[.int .i64 i1, .int .i64 i2, .int .i64 i3, .int .i64 i4] 31)).heap[w.heap.size + 1 + 1 + 1]? = some (.cells #[.int .i64 0, .int .i64 0, .int .i64 0, .int .i64 0] 31 (0, 0)) := heap_alloc (heap_at (by simp))
  have h8 : (((((w.alloc (.cells #[.bool true, .int .i64 s1, .int .i64 s2, .int .i64 f1, .int .i64 f2, .int .i64 f3, .int .i64 f4, .int .i64 o1, .int .i64 o2, .int .i64 o3, .int .i64 o4] 33)).alloc (.cells #[.int .i64 i1, .int .i64 i2, .int .i64 i3, .int .i64 i4] 31)).alloc (.cells #[.bool false, .int .i64 0, .int .i64 0, .int .i64 0, .int .i64 0, .int .i64 0, .int .i64 0, .int .i64 0, .int .i64 0, .int .i64 0, .int .i64 0] 33)).alloc (.cells #[.int .i64 0, .int .i64 0, .int .i64 0, .int .i64 0] 31)).alloc (.cells #[.int .i64 i1, .int .i64 i2, .int .i64 i3, .int .i64 i4] 31)).heap[w.heap.size + 1 + 1 + 1 + 1]? = some (.cells #[.int .i64 i1, .int .i64 i2, .int .i64 i3, .int .i64 i4] 31 (0, 0)) := heap_at (by simp)
  have HB := hide (And.intro hl (And.intro h4 (And.intro h6 (And.intro h7 h8))))
  clear hl h4 h6 h7 h8
  go_enter Try.func33, Try.ntmps33
  go_wp2_with fail
  refine (HR.out _).mono ?_
  rintro e w1 ⟨rfl, hb⟩
  have HB1 := hide (And.intro (HB.out.1.trans ⟨hb⟩) (And.intro ((Le.mk hb).heap HB.out.2.1) (And.intro ((Le.mk hb).heap HB.out.2.2.1) (And.intro ((Le.mk hb).heap HB.out.2.2.2.1) ((Le.mk hb).heap HB.out.2.2.2.2)))))
  clear hb q1 q2 q3 q4
  go_upto_region 4 with (refine wpl_store_blk rfl 31 (.tmp 8) (.tmp 30) (cs := [.int .i64 n1, .int .i64 n2, .int .i64 n3, .int .i64 n4]) rfl rfl rfl (by kernel_rfl) (by simp [Value.oneCell']) HB1.out.2.2.2.2 rfl ?_; intro w2 hn hg; have HG := hide (And.intro hn hg); clear hn hg)
  have HLE := hide (below_row HB1.out.1.out HG.out.2 (by omega) HB1.out.1.size)
  have H4 := hide (heap_grown HG.out.2 HB1.out.2.1 (by simp <;> omega))
  have H6 := hide (heap_grown HG.out.2 HB1.out.2.2.1 (by simp <;> omega))
  have H7 := hide (heap_grown HG.out.2 HB1.out.2.2.2.1 (by simp))
  have H8 := hide HG.out.1
  have hs6 := lt_of_heap H6.out
  have hs7 := lt_of_heap H7.out
  have hsd : w2.drew.heap.size = w2.heap.size := rfl
  refine' wp_region_rows 10 31 (Rn [(w.heap.size + 1 + 1, .cells #[.bool true, .int .i64 i1, .int .i64 i1, .int .i64 d1, .int .i64 d2, .int .i64 d3, .int .i64 d4, .int .i64 n1, .int .i64 n2, .int .i64 n3, .int .i64 n4] 33 (0, 0)), (w.heap.size + 1 + 1 + 1, .cells #[.int .i64 n1, .int .i64 n2, .int .i64 n3, .int .i64 n4] 31 (0, 0))]) (Is _ :: Is _ :: Is _ :: Is _ :: Is _ :: Is _ :: Is _ :: Is _ :: Is _ :: Is _ :: (fun _ W => W.heap[w.heap.size + 1 + 1]? = some (Obj.cells #[.bool true, .int .i64 i1, .int .i64 i1, .int .i64 d1, .int .i64 d2, .int .i64 d3, .int .i64 d4, .int .i64 n1, .int .i64 n2, .int .i64 n3, .int .i64 n4] 33 (0, 0))) :: (fun _ W => W.heap[w.heap.size + 1 + 1 + 1]? = some (Obj.cells #[.int .i64 n1, .int .i64 n2, .int .i64 n3, .int .i64 n4] 31 (0, 0))) :: []) ([] :: [0] :: [] :: [2] :: [] :: [] :: [4, 5] :: [] :: [1, 3, 6, 7] :: [] :: [8] :: [9] :: []) (by kernel_rfl) (by kernel_rfl) (by rfl) (by kernel_rfl) Rn.refl (fun _ _ _ h h' => h.trans h') ⟨St.is, St.is, St.is, St.is, St.is, St.is, St.is, St.is, St.is, St.is, (fun _ _ _ h hk => (h.in_ (p := (w.heap.size + 1 + 1, Obj.cells #[.bool true, .int .i64 i1, .int .i64 i1, .int .i64 d1, .int .i64 d2, .int .i64 d3, .int .i64 d4, .int .i64 n1, .int .i64 n2, .int .i64 n3, .int .i64 n4] 33 (0, 0))) (by simp) hk).elim _root_.id _root_.id), (fun _ _ _ h hk => (h.in_ (p := (w.heap.size + 1 + 1 + 1, Obj.cells #[.int .i64 n1, .int .i64 n2, .int .i64 n3, .int .i64 n4] 31 (0, 0))) (by simp) hk).elim _root_.id _root_.id), trivial⟩ ?m4
  case m4 =>
    simp (maxSteps := 100000000) only [AllV, Obl2, Leans, factAt, allFacts, actOf, putAll, putRow, Act.put, List.set_cons_succ, List.set_cons_zero, List.getElem?_cons_zero, List.getElem?_cons_succ, List.take_succ_cons, List.take_zero, List.drop_succ_cons, List.drop_zero, List.cons_append, List.nil_append, List.length_cons, List.length_nil, Nat.reduceAdd]
    intro x0 x1 x2 x3 x4 x5 x6 x7 x8 x9 x10 x11
    refine ⟨⟨?_, ?_, ?_, ?_, ?_, ?_, ?_, ?_, ?_, ?_, ?_, ?_, trivial⟩, ?_⟩
    -- 0: 31 := Op.fieldAddr 31 t4 0
    · intro wo hw  K hK; go_simp; exact hK _ _ (Rn.refl _) (Is.mk _ _)
    -- 1: 32 := Op.load 2 t31
    · intro wo hw h0 K hK; cases h0; have kk := box_cell (hw.heap H4.out (by simp <;> omega)) 0 (.int .i64 i1) rfl wo (Le.refl _); go_simp; exact hK _ _ (Rn.refl _) (Is.mk _ _)
    -- 2: 33 := Op.fieldAddr 31 t4 0
    · intro wo hw  K hK; go_simp; exact hK _ _ (Rn.refl _) (Is.mk _ _)
    -- 3: 34 := Op.load 2 t33
    · intro wo hw h2 K hK; cases h2; have kk := box_cell (hw.heap H4.out (by simp <;> omega)) 0 (.int .i64 i1) rfl wo (Le.refl _); go_simp; exact hK _ _ (Rn.refl _) (Is.mk _ _)
    -- 4: 35 := Op.load 31 t4
    · intro wo hw  K hK; refine cast (if_pos (show Region.wanted _ _ = true from rfl)).symm ?_; have hz := (hw.heap H4.out (by simp <;> omega)); refine wp_load_blk 31 (.tmp 4) rfl (cs := [.int .i64 i1, .int .i64 i2, .int .i64 i3, .int .i64 i4]) _ rfl Try.underlying31 rfl (by kernel_rfl) hz ?_; exact hK _ _ (Rn.refl _) (Is.mk _ _)
    -- 5: 36 := Op.load 31 t8
    · intro wo hw  K hK; refine cast (if_pos (show Region.wanted _ _ = true from rfl)).symm ?_; have hz := (hw.heap H8.out (by simp <;> omega)); refine wp_load_blk 31 (.tmp 8) rfl (cs := [.int .i64 n1, .int .i64 n2, .int .i64 n3, .int .i64 n4]) _ rfl Try.underlying31 rfl (by kernel_rfl) hz ?_; exact hK _ _ (Rn.refl _) (Is.mk _ _)
    -- 6: 37 := Op.call { value (Operand.func 65), args := #[t35, t36], argTypes := #[31, 31] }
    · intro wo hw h4 h5 K hK; cases h4; cases h5; go_simp; refine (HF.out _).mono ?_; rintro r w' ⟨rfl, hb'⟩; exact hK _ _ (Rn.of_le ⟨hb'⟩ (by have := hw.size; simp; omega)) (Is.mk _ _)
    -- 7: 38 := Op.load 31 t8
    · intro wo hw  K hK; refine cast (if_pos (show Region.wanted _ _ = true from rfl)).symm ?_; have hz := (hw.heap H8.out (by simp <;> omega)); refine wp_load_blk 31 (.tmp 8) rfl (cs := [.int .i64 n1, .int .i64 n2, .int .i64 n3, .int .i64 n4]) _ rfl Try.underlying31 rfl (by kernel_rfl) hz ?_; exact hK _ _ (Rn.refl _) (Is.mk _ _)
    -- 8: 39 := Op.build 33 #[(0, const (Value.bool true)), (1, t32), (2, t34), (3, t37), (4, t38)]
    · intro wo hw h1 h3 h6 h7 K hK; cases h1; cases h3; cases h6; cases h7; go_simp; exact hK _ _ (Rn.refl _) (Is.mk _ _)
    -- 9: 40 := Op.load 31 t8
    · intro wo hw  K hK; refine cast (if_pos (show Region.wanted _ _ = true from rfl)).symm ?_; have hz := (hw.heap H8.out (by simp <;> omega)); refine wp_load_blk 31 (.tmp 8) rfl (cs := [.int .i64 n1, .int .i64 n2, .int .i64 n3, .int .i64 n4]) _ rfl Try.underlying31 rfl (by kernel_rfl) hz ?_; exact hK _ _ (Rn.refl _) (Is.mk _ _)
    -- 10: none := Op.store 33 t6 t39
    · intro wo hw h8 K hK; cases h8; refine cast (if_pos (show Region.wanted _ _ = true from rfl)).symm ?_; rcases hw.in_ (p := (w.heap.size + 1 + 1, Obj.cells #[.bool true, .int .i64 i1, .int .i64 i1, .int .i64 d1, .int .i64 d2, .int .i64 d3, .int .i64 d4, .int .i64 n1, .int .i64 n2, .int .i64 n3, .int .i64 n4] 33 (0, 0))) (by simp) H6.out with ho | ho <;> (refine wp_store_blk 33 (.tmp 6) (.tmp 39) rfl (cs := [.bool true, .int .i64 i1, .int .i64 i1, .int .i64 d1, .int .i64 d2, .int .i64 d3, .int .i64 d4, .int .i64 n1, .int .i64 n2, .int .i64 n3, .int .i64 n4]) rfl rfl (by kernel_rfl) (by simp [Value.oneCell']) ho rfl ?_; intro w' h' hg'; exact hK undef _ (Rn.store hg' (by simp) h' (by simp <;> omega) (by have := hw.size; simp <;> omega)) h')
    -- 11: none := Op.store 31 t7 t40
    · intro wo hw h9 K hK; cases h9; refine cast (if_pos (show Region.wanted _ _ = true from rfl)).symm ?_; rcases hw.in_ (p := (w.heap.size + 1 + 1 + 1, Obj.cells #[.int .i64 n1, .int .i64 n2, .int .i64 n3, .int .i64 n4] 31 (0, 0))) (by simp) H7.out with ho | ho <;> (refine wp_store_blk 31 (.tmp 7) (.tmp 40) rfl (cs := [.int .i64 n1, .int .i64 n2, .int .i64 n3, .int .i64 n4]) rfl rfl (by kernel_rfl) (by simp [Value.oneCell']) ho rfl ?_; intro w' h' hg'; exact hK undef _ (Rn.store hg' (by simp) h' (by simp <;> omega) (by have := hw.size; simp <;> omega)) h')
    · intro wz hz h0 h1 h2 h3 h4 h5 h6 h7 h8 h9 h10 h11; cases h0; cases h1; cases h2; cases h3; cases h4; cases h5; cases h6; cases h7; cases h8; cases h9; skip
      go_wp2_with fail
      refine ret_cc Try.results33 (InCell.mk' rfl h10 Try.underlying33 rfl (by kernel_rfl)) (InCell.mk' rfl h11 Try.underlying31 rfl (by kernel_rfl)) ?_
      rw [HRR.out]
      exact ⟨rfl, hz.below HLE.out.drew (by simp <;> omega) HLE.out.size⟩

theorem r13switch_any (s : Ms) (hs : s.Ok) (i : Nm) (hi : i.Ok) (w : World) : Calls Try.prog 33 #[s.rv, i.rv, .int .i64 3000] w (Gives w (.tuple #[(s.switch i 3000).1.rv, (s.switch i 3000).2.rv])) := by
  obtain ⟨on, s1, s2, ⟨f1, f2, f3, f4⟩, ⟨o1, o2, o3, o4⟩⟩ := s
  obtain ⟨i1, i2, i3, i4⟩ := i
  obtain ⟨_, _, hf, ho⟩ := hs
  have hn := Nm.next_ok ⟨o1, o2, o3, o4⟩ 3000
  have hr := fun W => r13round ((o1 : Int) + 1) ((o2 : Int) + 3000) ((o3 : Int) + 1) ((o4 : Int) + 1) (by have := ho.seq; simp only at this; omega) (by have := ho.time; simp only at this; omega) (by have := ho.pic; simp only at this; omega) (by have := ho.tl0; simp only at this; omega) W
  cases on
  · exact r13switch_false s1 s2 f1 f2 f3 f4 o1 o2 o3 o4 i1 i2 i3 i4 _ _ _ _ w (hide ⟨ho.seq, ho.time, ho.pic, ho.tl0⟩) (hide (fun W => r13less ⟨i1, i2, i3, i4⟩ ⟨i1, i2, i3, i4⟩ hi hi W))
  · exact r13switch_true s1 s2 f1 f2 f3 f4 o1 o2 o3 o4 i1 i2 i3 i4 _ _ _ _ _ _ _ _ w (hide ⟨ho.seq, ho.time, ho.pic, ho.tl0⟩) (hide hr) (hide (fun W => r13less ⟨i1, i2, i3, i4⟩ (Nm.next ⟨o1, o2, o3, o4⟩ 3000) hi hn W))

set_option maxRecDepth 100000 in
set_option maxHeartbeats 4000000 in
theorem r13send_off (x s1 s2 : Int) (f1 f2 f3 f4 o1 o2 o3 o4 i1 i2 i3 i4 d1 d2 d3 d4 : Nat)  (w : World)
    (HX : Hd (∀ W, Calls Try.prog 62 #[.int .i64 s1, .int .i64 i1, .int .i64 65536] W (fun e w' => e = .returned (.int .i64 x) ∧ W = w')))
    (HF : Hd (∀ W, Calls Try.prog 65 #[.agg #[.int .i64 i1, .int .i64 i2, .int .i64 i3, .int .i64 i4], .agg #[.int .i64 f1, .int .i64 f2, .int .i64 f3, .int .i64 f4]] W (Gives W (.agg #[.int .i64 d1, .int .i64 d2, .int .i64 d3, .int .i64 d4])))) :
    Calls Try.prog 35 #[.agg #[.bool false, .int .i64 s1, .int .i64 s2, .int .i64 f1, .int .i64 f2, .int .i64 f3, .int .i64 f4, .int .i64 o1, .int .i64 o2, .int .i64 o3, .int .i64 o4], .agg #[.int .i64 i1, .int .i64 i2, .int .i64 i3, .int .i64 i4]] w (Gives w (.tuple #[.agg #[.bool false, .int .i64 s1, .int .i64 s2, .int .i64 f1, .int .i64 f2, .int .i64 f3, .int .i64 f4, .int .i64 o1, .int .i64 o2, .int .i64 o3, .int .i64 o4], .agg #[.int .i64 0, .int .i64 0, .int .i64 0, .int .i64 0], .bool false])) := by
  obtain ⟨R, hR⟩ : ∃ R : Value, R = .tuple #[.agg #[.bool false, .int .i64 s1, .int .i64 s2, .int .i64 f1, .int .i64 f2, .int .i64 f3, .int .i64 f4, .int .i64 o1, .int .i64 o2, .int .i64 o3, .int .i64 o4], .agg #[.int .i64 0, .int .i64 0, .int .i64 0, .int .i64 0], .bool false] := ⟨_, rfl⟩
  rw [← hR]
  have HRR := hide hR
  clear hR
  obtain ⟨w4, hw4⟩ : ∃ w4, w4 = (((w.alloc (.cells #[.bool false, .int .i64 s1, .int .i64 s2, .int .i64 f1, .int .i64 f2, .int .i64 f3, .int .i64 f4, .int .i64 o1, .int .i64 o2, .int .i64 o3, .int .i64 o4] 33)).alloc (.cells #[.int .i64 i1, .int .i64 i2, .int .i64 i3, .int .i64 i4] 31)).alloc (.cells #[.bool false, .int .i64 0, .int .i64 0, .int .i64 0, .int .i64 0, .int .i64 0, .int .i64 0, .int .i64 0, .int .i64 0, .int .i64 0, .int .i64 0] 33)).alloc (.cells #[.int .i64 0, .int .i64 0, .int .i64 0, .int .i64 0] 31) := ⟨_, rfl⟩
  have hl : Le w (w4) := by rw [hw4]; exact (((Le.refl w).alloc _).alloc _).alloc _ |>.alloc _
  have h2 : (w4).heap[w.heap.size]? = some (.cells #[.bool false, .int .i64 s1, .int .i64 s2, .int .i64 f1, .int .i64 f2, .int .i64 f3, .int .i64 f4, .int .i64 o1, .int .i64 o2, .int .i64 o3, .int .i64 o4] 33 (0, 0)) := by rw [hw4]; exact heap_alloc (heap_alloc (heap_alloc (heap_alloc_new w _)))
  have h3 : (w4).heap[w.heap.size + 1]? = some (.cells #[.int .i64 i1, .int .i64 i2, .int .i64 i3, .int .i64 i4] 31 (0, 0)) := by rw [hw4]; exact heap_alloc (heap_alloc (heap_at (by simp)))
  have h4 : (w4).heap[w.heap.size + 1 + 1]? = some (.cells #[.bool false, .int .i64 0, .int .i64 0, .int .i64 0, .int .i64 0, .int .i64 0, .int .i64 0, .int .i64 0, .int .i64 0, .int .i64 0, .int .i64 0] 33 (0, 0)) := by rw [hw4]; exact heap_alloc (heap_at (by simp))
  have h5 : (w4).heap[w.heap.size + 1 + 1 + 1]? = some (.cells #[.int .i64 0, .int .i64 0, .int .i64 0, .int .i64 0] 31 (0, 0)) := by rw [hw4]; exact heap_at (by simp)
  have HLE := hide hl.out
  have H2 := hide h2
  have H3 := hide h3
  have H4 := hide h4
  have H5 := hide h5
  clear hl h2 h3 h4 h5
  go_enter Try.func35, Try.ntmps35
  go_upto_region 1 with fail
  rw [← hw4]
  clear hw4
  have c0 : w4.cell? ⟨w.heap.size, 1, none⟩ = some (.int .i64 s1) := box_cell H2.out 1 _ rfl _ (Le.refl _)
  have c1 : w4.cell? ⟨w.heap.size + 1, 0, none⟩ = some (.int .i64 i1) := box_cell H3.out 0 _ rfl _ (Le.refl _)
  have c2 : w4.cell? ⟨w.heap.size, 0, none⟩ = some (.bool false) := box_cell H2.out 0 _ rfl _ (Le.refl _)
  have c3 : w4.cell? ⟨w.heap.size, 2, none⟩ = some (.int .i64 s2) := box_cell H2.out 2 _ rfl _ (Le.refl _)
  go_wp2_with fail
  refine (HX.out _).mono ?_
  rintro e w5 ⟨rfl, rfl⟩
  go_wp2_with (first | (refine wpl_load_blk rfl 33 (.tmp 2) rfl (cs := [.bool false, .int .i64 s1, .int .i64 s2, .int .i64 f1, .int .i64 f2, .int .i64 f3, .int .i64 f4, .int .i64 o1, .int .i64 o2, .int .i64 o3, .int .i64 o4]) _ rfl Try.underlying33 rfl (by kernel_rfl) H2.out ?_) | (refine wpl_store_blk rfl 33 (.tmp 4) (.tmp 29) (cs := [.bool false, .int .i64 s1, .int .i64 s2, .int .i64 f1, .int .i64 f2, .int .i64 f3, .int .i64 f4, .int .i64 o1, .int .i64 o2, .int .i64 o3, .int .i64 o4]) rfl rfl rfl (by kernel_rfl) (by simp [Value.oneCell']) H4.out rfl ?_; intro wb hn hg; have hn5 := hide (heap_grown hg H5.out (by simp)); have HG := hide (And.intro hn hg); clear hn hg) | (refine wpl_store_blk rfl 31 (.tmp 5) (.tmp 30) (cs := [.int .i64 0, .int .i64 0, .int .i64 0, .int .i64 0]) rfl rfl rfl (by kernel_rfl) (by simp [Value.oneCell']) hn5.out rfl ?_; intro wc hn2 hg2))
  refine ret_cct Try.results35 (InCell.mk' rfl (heap_grown hg2 HG.out.1 (by simp)) Try.underlying33 rfl (by kernel_rfl)) (InCell.mk' rfl hn2 Try.underlying31 rfl (by kernel_rfl)) rfl ?_
  rw [HRR.out]
  exact ⟨rfl, below_row (below_row HLE.out HG.out.2 (by omega) HLE.out.size) hg2 (by omega) (Nat.le_trans HLE.out.size HG.out.2.size)⟩

set_option maxRecDepth 100000 in
set_option maxHeartbeats 4000000 in
theorem r13send_no (x s1 s2 : Int) (f1 f2 f3 f4 o1 o2 o3 o4 i1 i2 i3 i4 d1 d2 d3 d4 : Nat) (hx1 : x ≤ s1) (hx2 : x ≤ s2) (w : World)
    (HX : Hd (∀ W, Calls Try.prog 62 #[.int .i64 s1, .int .i64 i1, .int .i64 65536] W (fun e w' => e = .returned (.int .i64 x) ∧ W = w')))
    (HF : Hd (∀ W, Calls Try.prog 65 #[.agg #[.int .i64 i1, .int .i64 i2, .int .i64 i3, .int .i64 i4], .agg #[.int .i64 f1, .int .i64 f2, .int .i64 f3, .int .i64 f4]] W (Gives W (.agg #[.int .i64 d1, .int .i64 d2, .int .i64 d3, .int .i64 d4])))) :
    Calls Try.prog 35 #[.agg #[.bool true, .int .i64 s1, .int .i64 s2, .int .i64 f1, .int .i64 f2, .int .i64 f3, .int .i64 f4, .int .i64 o1, .int .i64 o2, .int .i64 o3, .int .i64 o4], .agg #[.int .i64 i1, .int .i64 i2, .int .i64 i3, .int .i64 i4]] w (Gives w (.tuple #[.agg #[.bool true, .int .i64 s1, .int .i64 s2, .int .i64 f1, .int .i64 f2, .int .i64 f3, .int .i64 f4, .int .i64 o1, .int .i64 o2, .int .i64 o3, .int .i64 o4], .agg #[.int .i64 0, .int .i64 0, .int .i64 0, .int .i64 0], .bool false])) := by
  obtain ⟨R, hR⟩ : ∃ R : Value, R = .tuple #[.agg #[.bool true, .int .i64 s1, .int .i64 s2, .int .i64 f1, .int .i64 f2, .int .i64 f3, .int .i64 f4, .int .i64 o1, .int .i64 o2, .int .i64 o3, .int .i64 o4], .agg #[.int .i64 0, .int .i64 0, .int .i64 0, .int .i64 0], .bool false] := ⟨_, rfl⟩
  rw [← hR]
  have HRR := hide hR
  clear hR
  obtain ⟨w4, hw4⟩ : ∃ w4, w4 = (((w.alloc (.cells #[.bool true, .int .i64 s1, .int .i64 s2, .int .i64 f1, .int .i64 f2, .int .i64 f3, .int .i64 f4, .int .i64 o1, .int .i64 o2, .int .i64 o3, .int .i64 o4] 33)).alloc (.cells #[.int .i64 i1, .int .i64 i2, .int .i64 i3, .int .i64 i4] 31)).alloc (.cells #[.bool false, .int .i64 0, .int .i64 0, .int .i64 0, .int .i64 0, .int .i64 0, .int .i64 0, .int .i64 0, .int .i64 0, .int .i64 0, .int .i64 0] 33)).alloc (.cells #[.int .i64 0, .int .i64 0, .int .i64 0, .int .i64 0] 31) := ⟨_, rfl⟩
  have hl : Le w (w4) := by rw [hw4]; exact (((Le.refl w).alloc _).alloc _).alloc _ |>.alloc _
  have h2 : (w4).heap[w.heap.size]? = some (.cells #[.bool true, .int .i64 s1, .int .i64 s2, .int .i64 f1, .int .i64 f2, .int .i64 f3, .int .i64 f4, .int .i64 o1, .int .i64 o2, .int .i64 o3, .int .i64 o4] 33 (0, 0)) := by rw [hw4]; exact heap_alloc (heap_alloc (heap_alloc (heap_alloc_new w _)))
  have h3 : (w4).heap[w.heap.size + 1]? = some (.cells #[.int .i64 i1, .int .i64 i2, .int .i64 i3, .int .i64 i4] 31 (0, 0)) := by rw [hw4]; exact heap_alloc (heap_alloc (heap_at (by simp)))
  have h4 : (w4).heap[w.heap.size + 1 + 1]? = some (.cells #[.bool false, .int .i64 0, .int .i64 0, .int .i64 0, .int .i64 0, .int .i64 0, .int .i64 0, .int .i64 0, .int .i64 0, .int .i64 0, .int .i64 0] 33 (0, 0)) := by rw [hw4]; exact heap_alloc (heap_at (by simp))
  have h5 : (w4).heap[w.heap.size + 1 + 1 + 1]? = some (.cells #[.int .i64 0, .int .i64 0, .int .i64 0, .int .i64 0] 31 (0, 0)) := by rw [hw4]; exact heap_at (by simp)
  have HLE := hide hl.out
  have H2 := hide h2
  have H3 := hide h3
  have H4 := hide h4
  have H5 := hide h5
  clear hl h2 h3 h4 h5
  go_enter Try.func35, Try.ntmps35
  go_upto_region 1 with fail
  rw [← hw4]
  clear hw4
  have c0 : w4.cell? ⟨w.heap.size, 1, none⟩ = some (.int .i64 s1) := box_cell H2.out 1 _ rfl _ (Le.refl _)
  have c1 : w4.cell? ⟨w.heap.size + 1, 0, none⟩ = some (.int .i64 i1) := box_cell H3.out 0 _ rfl _ (Le.refl _)
  have c2 : w4.cell? ⟨w.heap.size, 0, none⟩ = some (.bool true) := box_cell H2.out 0 _ rfl _ (Le.refl _)
  have c3 : w4.cell? ⟨w.heap.size, 2, none⟩ = some (.int .i64 s2) := box_cell H2.out 2 _ rfl _ (Le.refl _)
  go_wp2_with fail
  refine (HX.out _).mono ?_
  rintro e w5 ⟨rfl, rfl⟩
  go_wp2_with (first | (refine wpl_load_blk rfl 33 (.tmp 2) rfl (cs := [.bool true, .int .i64 s1, .int .i64 s2, .int .i64 f1, .int .i64 f2, .int .i64 f3, .int .i64 f4, .int .i64 o1, .int .i64 o2, .int .i64 o3, .int .i64 o4]) _ rfl Try.underlying33 rfl (by kernel_rfl) H2.out ?_) | (refine wpl_store_blk rfl 33 (.tmp 4) (.tmp 29) (cs := [.bool true, .int .i64 s1, .int .i64 s2, .int .i64 f1, .int .i64 f2, .int .i64 f3, .int .i64 f4, .int .i64 o1, .int .i64 o2, .int .i64 o3, .int .i64 o4]) rfl rfl rfl (by kernel_rfl) (by simp [Value.oneCell']) H4.out rfl ?_; intro wb hn hg; have hn5 := hide (heap_grown hg H5.out (by simp)); have HG := hide (And.intro hn hg); clear hn hg) | (refine wpl_store_blk rfl 31 (.tmp 5) (.tmp 30) (cs := [.int .i64 0, .int .i64 0, .int .i64 0, .int .i64 0]) rfl rfl rfl (by kernel_rfl) (by simp [Value.oneCell']) hn5.out rfl ?_; intro wc hn2 hg2))
  refine ret_cct Try.results35 (InCell.mk' rfl (heap_grown hg2 HG.out.1 (by simp)) Try.underlying33 rfl (by kernel_rfl)) (InCell.mk' rfl hn2 Try.underlying31 rfl (by kernel_rfl)) rfl ?_
  rw [HRR.out]
  exact ⟨rfl, below_row (below_row HLE.out HG.out.2 (by omega) HLE.out.size) hg2 (by omega) (Nat.le_trans HLE.out.size HG.out.2.size)⟩

set_option maxRecDepth 100000 in
set_option maxHeartbeats 4000000 in
theorem r13send_late (x s1 s2 : Int) (f1 f2 f3 f4 o1 o2 o3 o4 i1 i2 i3 i4 d1 d2 d3 d4 : Nat) (hx1 : x ≤ s1) (hx2 : ¬ x ≤ s2) (w : World)
    (HX : Hd (∀ W, Calls Try.prog 62 #[.int .i64 s1, .int .i64 i1, .int .i64 65536] W (fun e w' => e = .returned (.int .i64 x) ∧ W = w')))
    (HF : Hd (∀ W, Calls Try.prog 65 #[.agg #[.int .i64 i1, .int .i64 i2, .int .i64 i3, .int .i64 i4], .agg #[.int .i64 f1, .int .i64 f2, .int .i64 f3, .int .i64 f4]] W (Gives W (.agg #[.int .i64 d1, .int .i64 d2, .int .i64 d3, .int .i64 d4])))) :
    Calls Try.prog 35 #[.agg #[.bool true, .int .i64 s1, .int .i64 s2, .int .i64 f1, .int .i64 f2, .int .i64 f3, .int .i64 f4, .int .i64 o1, .int .i64 o2, .int .i64 o3, .int .i64 o4], .agg #[.int .i64 i1, .int .i64 i2, .int .i64 i3, .int .i64 i4]] w (Gives w (.tuple #[.agg #[.bool true, .int .i64 s1, .int .i64 s2, .int .i64 f1, .int .i64 f2, .int .i64 f3, .int .i64 f4, .int .i64 o1, .int .i64 o2, .int .i64 o3, .int .i64 o4], .agg #[.int .i64 d1, .int .i64 d2, .int .i64 d3, .int .i64 d4], .bool true])) := by
  obtain ⟨R, hR⟩ : ∃ R : Value, R = .tuple #[.agg #[.bool true, .int .i64 s1, .int .i64 s2, .int .i64 f1, .int .i64 f2, .int .i64 f3, .int .i64 f4, .int .i64 o1, .int .i64 o2, .int .i64 o3, .int .i64 o4], .agg #[.int .i64 d1, .int .i64 d2, .int .i64 d3, .int .i64 d4], .bool true] := ⟨_, rfl⟩
  rw [← hR]
  have HRR := hide hR
  clear hR
  obtain ⟨w4, hw4⟩ : ∃ w4, w4 = (((w.alloc (.cells #[.bool true, .int .i64 s1, .int .i64 s2, .int .i64 f1, .int .i64 f2, .int .i64 f3, .int .i64 f4, .int .i64 o1, .int .i64 o2, .int .i64 o3, .int .i64 o4] 33)).alloc (.cells #[.int .i64 i1, .int .i64 i2, .int .i64 i3, .int .i64 i4] 31)).alloc (.cells #[.bool false, .int .i64 0, .int .i64 0, .int .i64 0, .int .i64 0, .int .i64 0, .int .i64 0, .int .i64 0, .int .i64 0, .int .i64 0, .int .i64 0] 33)).alloc (.cells #[.int .i64 0, .int .i64 0, .int .i64 0, .int .i64 0] 31) := ⟨_, rfl⟩
  have hl : Le w (w4) := by rw [hw4]; exact (((Le.refl w).alloc _).alloc _).alloc _ |>.alloc _
  have h2 : (w4).heap[w.heap.size]? = some (.cells #[.bool true, .int .i64 s1, .int .i64 s2, .int .i64 f1, .int .i64 f2, .int .i64 f3, .int .i64 f4, .int .i64 o1, .int .i64 o2, .int .i64 o3, .int .i64 o4] 33 (0, 0)) := by rw [hw4]; exact heap_alloc (heap_alloc (heap_alloc (heap_alloc_new w _)))
  have h3 : (w4).heap[w.heap.size + 1]? = some (.cells #[.int .i64 i1, .int .i64 i2, .int .i64 i3, .int .i64 i4] 31 (0, 0)) := by rw [hw4]; exact heap_alloc (heap_alloc (heap_at (by simp)))
  have h4 : (w4).heap[w.heap.size + 1 + 1]? = some (.cells #[.bool false, .int .i64 0, .int .i64 0, .int .i64 0, .int .i64 0, .int .i64 0, .int .i64 0, .int .i64 0, .int .i64 0, .int .i64 0, .int .i64 0] 33 (0, 0)) := by rw [hw4]; exact heap_alloc (heap_at (by simp))
  have h5 : (w4).heap[w.heap.size + 1 + 1 + 1]? = some (.cells #[.int .i64 0, .int .i64 0, .int .i64 0, .int .i64 0] 31 (0, 0)) := by rw [hw4]; exact heap_at (by simp)
  have HLE := hide hl.out
  have H2 := hide h2
  have H3 := hide h3
  have H4 := hide h4
  have H5 := hide h5
  clear hl h2 h3 h4 h5
  go_enter Try.func35, Try.ntmps35
  go_upto_region 1 with fail
  rw [← hw4]
  clear hw4
  have c0 : w4.cell? ⟨w.heap.size, 1, none⟩ = some (.int .i64 s1) := box_cell H2.out 1 _ rfl _ (Le.refl _)
  have c1 : w4.cell? ⟨w.heap.size + 1, 0, none⟩ = some (.int .i64 i1) := box_cell H3.out 0 _ rfl _ (Le.refl _)
  have c2 : w4.cell? ⟨w.heap.size, 0, none⟩ = some (.bool true) := box_cell H2.out 0 _ rfl _ (Le.refl _)
  have c3 : w4.cell? ⟨w.heap.size, 2, none⟩ = some (.int .i64 s2) := box_cell H2.out 2 _ rfl _ (Le.refl _)
  go_wp2_with fail
  refine (HX.out _).mono ?_
  rintro e w5 ⟨rfl, rfl⟩
  go_wp2_with (first | (refine wpl_load_blk rfl 31 (.tmp 3) rfl (cs := [.int .i64 i1, .int .i64 i2, .int .i64 i3, .int .i64 i4]) _ rfl Try.underlying31 rfl (by kernel_rfl) H3.out ?_) | (refine wpl_load_in rfl 31 (.tmp 32) rfl [.bool true, .int .i64 s1, .int .i64 s2] [.int .i64 f1, .int .i64 f2, .int .i64 f3, .int .i64 f4] [.int .i64 o1, .int .i64 o2, .int .i64 o3, .int .i64 o4] _ rfl Try.underlying31 rfl (by kernel_rfl) H2.out ?_))
  refine (HF.out _).mono ?_
  rintro e w5 ⟨rfl, hb⟩
  have hle5 := Le.mk hb
  go_upto_region 5 with fail
  have K2 := hide (heap_alloc (o' := .cells #[.int .i64 d1, .int .i64 d2, .int .i64 d3, .int .i64 d4] 31) (hle5.heap H2.out))
  have K4 := hide (heap_alloc (o' := .cells #[.int .i64 d1, .int .i64 d2, .int .i64 d3, .int .i64 d4] 31) (hle5.heap H4.out))
  have K5 := hide (heap_alloc (o' := .cells #[.int .i64 d1, .int .i64 d2, .int .i64 d3, .int .i64 d4] 31) (hle5.heap H5.out))
  have K8 := hide (heap_alloc_new w5 (.cells #[.int .i64 d1, .int .i64 d2, .int .i64 d3, .int .i64 d4] 31))
  have KL := hide (((Le.mk HLE.out).trans hle5).alloc (.cells #[.int .i64 d1, .int .i64 d2, .int .i64 d3, .int .i64 d4] 31)).out
  have hsz := lt_of_heap (hle5.heap H5.out)
  clear hle5 hb H2 H3 H4 H5 HLE c0 c1 c2 c3
  generalize w5.alloc (.cells #[.int .i64 d1, .int .i64 d2, .int .i64 d3, .int .i64 d4] 31) = w6 at *
  generalize w5.heap.size = g8 at *
  have k0 : w6.cell? ⟨w.heap.size, 1, none⟩ = some (.int .i64 s1) := box_cell K2.out 1 _ rfl _ (Le.refl _)
  go_upto_region 6 with fail
  have hs4 := lt_of_heap K4.out
  have hs5 := lt_of_heap K5.out
  have hsd : w6.drew.heap.size = w6.heap.size := rfl
  refine' wp_region_rows 2 39 (Rn [(w.heap.size + 1 + 1, .cells #[.bool true, .int .i64 s1, .int .i64 s2, .int .i64 f1, .int .i64 f2, .int .i64 f3, .int .i64 f4, .int .i64 o1, .int .i64 o2, .int .i64 o3, .int .i64 o4] 33 (0, 0)), (w.heap.size + 1 + 1 + 1, .cells #[.int .i64 d1, .int .i64 d2, .int .i64 d3, .int .i64 d4] 31 (0, 0))]) (Is _ :: Is _ :: (fun _ W => W.heap[w.heap.size + 1 + 1]? = some (Obj.cells #[.bool true, .int .i64 s1, .int .i64 s2, .int .i64 f1, .int .i64 f2, .int .i64 f3, .int .i64 f4, .int .i64 o1, .int .i64 o2, .int .i64 o3, .int .i64 o4] 33 (0, 0))) :: (fun _ W => W.heap[w.heap.size + 1 + 1 + 1]? = some (Obj.cells #[.int .i64 d1, .int .i64 d2, .int .i64 d3, .int .i64 d4] 31 (0, 0))) :: Is _ :: []) ([] :: [] :: [0] :: [1] :: [] :: []) (by kernel_rfl) (by kernel_rfl) (by rfl) (by kernel_rfl) Rn.refl (fun _ _ _ h h' => h.trans h') ⟨St.is, St.is, (fun _ _ _ h hk => (h.in_ (p := (w.heap.size + 1 + 1, Obj.cells #[.bool true, .int .i64 s1, .int .i64 s2, .int .i64 f1, .int .i64 f2, .int .i64 f3, .int .i64 f4, .int .i64 o1, .int .i64 o2, .int .i64 o3, .int .i64 o4] 33 (0, 0))) (by simp) hk).elim _root_.id _root_.id), (fun _ _ _ h hk => (h.in_ (p := (w.heap.size + 1 + 1 + 1, Obj.cells #[.int .i64 d1, .int .i64 d2, .int .i64 d3, .int .i64 d4] 31 (0, 0))) (by simp) hk).elim _root_.id _root_.id), St.is, trivial⟩ ?m6
  case m6 =>
    simp (maxSteps := 100000000) only [AllV, Obl2, Leans, factAt, allFacts, actOf, putAll, putRow, Act.put, List.setIfInBounds_toArray, List.set_cons_succ, List.set_cons_zero, List.getElem?_cons_zero, List.getElem?_cons_succ, List.take_succ_cons, List.take_zero, List.drop_succ_cons, List.drop_zero, List.cons_append, List.nil_append, List.length_cons, List.length_nil, Nat.reduceAdd]
    intro x0 x1 x2 x3 x4
    refine ⟨⟨?_, ?_, ?_, ?_, ?_, trivial⟩, ?_⟩
    -- 0: 39 := Op.load 33 t2
    · intro wo hw  K hK; refine cast (if_pos (show Region.wanted _ _ = true from rfl)).symm ?_; have hz := (hw.heap K2.out (by simp <;> omega)); refine wp_load_blk 33 (.tmp 2) rfl (cs := [.bool true, .int .i64 s1, .int .i64 s2, .int .i64 f1, .int .i64 f2, .int .i64 f3, .int .i64 f4, .int .i64 o1, .int .i64 o2, .int .i64 o3, .int .i64 o4]) _ rfl Try.underlying33 rfl (by kernel_rfl) hz ?_; exact hK _ _ (Rn.refl _) (Is.mk _ _)
    -- 1: 40 := Op.load 31 t8
    · intro wo hw  K hK; refine cast (if_pos (show Region.wanted _ _ = true from rfl)).symm ?_; have hz := (hw.heap K8.out (by simp <;> omega)); refine wp_load_blk 31 (.tmp 8) rfl (cs := [.int .i64 d1, .int .i64 d2, .int .i64 d3, .int .i64 d4]) _ rfl Try.underlying31 rfl (by kernel_rfl) hz ?_; exact hK _ _ (Rn.refl _) (Is.mk _ _)
    -- 2: none := Op.store 33 t4 t39
    · intro wo hw h0 K hK; cases h0; refine cast (if_pos (show Region.wanted _ _ = true from rfl)).symm ?_; rcases hw.in_ (p := (w.heap.size + 1 + 1, Obj.cells #[.bool true, .int .i64 s1, .int .i64 s2, .int .i64 f1, .int .i64 f2, .int .i64 f3, .int .i64 f4, .int .i64 o1, .int .i64 o2, .int .i64 o3, .int .i64 o4] 33 (0, 0))) (by simp) K4.out with ho | ho <;> (refine wp_store_blk 33 (.tmp 4) (.tmp 39) rfl (cs := [.bool true, .int .i64 s1, .int .i64 s2, .int .i64 f1, .int .i64 f2, .int .i64 f3, .int .i64 f4, .int .i64 o1, .int .i64 o2, .int .i64 o3, .int .i64 o4]) rfl rfl (by kernel_rfl) (by simp [Value.oneCell']) ho rfl ?_; intro w' h' hg'; exact hK undef _ (Rn.store hg' (by simp) h' (by simp <;> omega) (by have := hw.size; simp <;> omega)) h')
    -- 3: none := Op.store 31 t5 t40
    · intro wo hw h1 K hK; cases h1; refine cast (if_pos (show Region.wanted _ _ = true from rfl)).symm ?_; rcases hw.in_ (p := (w.heap.size + 1 + 1 + 1, Obj.cells #[.int .i64 d1, .int .i64 d2, .int .i64 d3, .int .i64 d4] 31 (0, 0))) (by simp) K5.out with ho | ho <;> (refine wp_store_blk 31 (.tmp 5) (.tmp 40) rfl (cs := [.int .i64 d1, .int .i64 d2, .int .i64 d3, .int .i64 d4]) rfl rfl (by kernel_rfl) (by simp [Value.oneCell']) ho rfl ?_; intro w' h' hg'; exact hK undef _ (Rn.store hg' (by simp) h' (by simp <;> omega) (by have := hw.size; simp <;> omega)) h')
    -- 4: 6 := Op.assign (const (Value.bool true))
    · intro wo hw  K hK; go_simp; exact hK _ _ (Rn.refl _) (Is.mk _ _)
    · intro wz hz h0 h1 h2 h3 h4; cases h0; cases h1; cases h4; skip
      go_wp2_with fail
      refine ret_cct Try.results35 (InCell.mk' rfl h2 Try.underlying33 rfl (by kernel_rfl)) (InCell.mk' rfl h3 Try.underlying31 rfl (by kernel_rfl)) rfl ?_
      rw [HRR.out]
      exact ⟨rfl, hz.below KL.out.drew (by simp <;> omega) KL.out.size⟩

set_option maxRecDepth 100000 in
set_option maxHeartbeats 4000000 in
theorem r13send_less (x s1 s2 : Int) (f1 f2 f3 f4 o1 o2 o3 o4 i1 i2 i3 i4 d1 d2 d3 d4 : Nat) (hx1 : ¬ x ≤ s1) (y : Int) (hy : 0 < y) (HY : Hd (∀ W, Calls Try.prog 68 #[.int .i64 d2, .int .i64 o2, .int .i64 4294967296] W (fun e w' => e = .returned (.int .i64 y) ∧ W = w'))) (w : World)
    (HX : Hd (∀ W, Calls Try.prog 62 #[.int .i64 s1, .int .i64 i1, .int .i64 65536] W (fun e w' => e = .returned (.int .i64 x) ∧ W = w')))
    (HF : Hd (∀ W, Calls Try.prog 65 #[.agg #[.int .i64 i1, .int .i64 i2, .int .i64 i3, .int .i64 i4], .agg #[.int .i64 f1, .int .i64 f2, .int .i64 f3, .int .i64 f4]] W (Gives W (.agg #[.int .i64 d1, .int .i64 d2, .int .i64 d3, .int .i64 d4])))) :
    Calls Try.prog 35 #[.agg #[.bool true, .int .i64 s1, .int .i64 s2, .int .i64 f1, .int .i64 f2, .int .i64 f3, .int .i64 f4, .int .i64 o1, .int .i64 o2, .int .i64 o3, .int .i64 o4], .agg #[.int .i64 i1, .int .i64 i2, .int .i64 i3, .int .i64 i4]] w (Gives w (.tuple #[.agg #[.bool true, .int .i64 x, .int .i64 s2, .int .i64 f1, .int .i64 f2, .int .i64 f3, .int .i64 f4, .int .i64 d1, .int .i64 o2, .int .i64 d3, .int .i64 d4], .agg #[.int .i64 d1, .int .i64 o2, .int .i64 d3, .int .i64 d4], .bool true])) := by
  obtain ⟨R, hR⟩ : ∃ R : Value, R = .tuple #[.agg #[.bool true, .int .i64 x, .int .i64 s2, .int .i64 f1, .int .i64 f2, .int .i64 f3, .int .i64 f4, .int .i64 d1, .int .i64 o2, .int .i64 d3, .int .i64 d4], .agg #[.int .i64 d1, .int .i64 o2, .int .i64 d3, .int .i64 d4], .bool true] := ⟨_, rfl⟩
  rw [← hR]
  have HRR := hide hR
  clear hR
  obtain ⟨w4, hw4⟩ : ∃ w4, w4 = (((w.alloc (.cells #[.bool true, .int .i64 s1, .int .i64 s2, .int .i64 f1, .int .i64 f2, .int .i64 f3, .int .i64 f4, .int .i64 o1, .int .i64 o2, .int .i64 o3, .int .i64 o4] 33)).alloc (.cells #[.int .i64 i1, .int .i64 i2, .int .i64 i3, .int .i64 i4] 31)).alloc (.cells #[.bool false, .int .i64 0, .int .i64 0, .int .i64 0, .int .i64 0, .int .i64 0, .int .i64 0, .int .i64 0, .int .i64 0, .int .i64 0, .int .i64 0] 33)).alloc (.cells #[.int .i64 0, .int .i64 0, .int .i64 0, .int .i64 0] 31) := ⟨_, rfl⟩
  have hl : Le w (w4) := by rw [hw4]; exact (((Le.refl w).alloc _).alloc _).alloc _ |>.alloc _
  have h2 : (w4).heap[w.heap.size]? = some (.cells #[.bool true, .int .i64 s1, .int .i64 s2, .int .i64 f1, .int .i64 f2, .int .i64 f3, .int .i64 f4, .int .i64 o1, .int .i64 o2, .int .i64 o3, .int .i64 o4] 33 (0, 0)) := by rw [hw4]; exact heap_alloc (heap_alloc (heap_alloc (heap_alloc_new w _)))
  have h3 : (w4).heap[w.heap.size + 1]? = some (.cells #[.int .i64 i1, .int .i64 i2, .int .i64 i3, .int .i64 i4] 31 (0, 0)) := by rw [hw4]; exact heap_alloc (heap_alloc (heap_at (by simp)))
  have h4 : (w4).heap[w.heap.size + 1 + 1]? = some (.cells #[.bool false, .int .i64 0, .int .i64 0, .int .i64 0, .int .i64 0, .int .i64 0, .int .i64 0, .int .i64 0, .int .i64 0, .int .i64 0, .int .i64 0] 33 (0, 0)) := by rw [hw4]; exact heap_alloc (heap_at (by simp))
  have h5 : (w4).heap[w.heap.size + 1 + 1 + 1]? = some (.cells #[.int .i64 0, .int .i64 0, .int .i64 0, .int .i64 0] 31 (0, 0)) := by rw [hw4]; exact heap_at (by simp)
  have HLE := hide hl.out
  have H2 := hide h2
  have H3 := hide h3
  have H4 := hide h4
  have H5 := hide h5
  clear hl h2 h3 h4 h5
  go_enter Try.func35, Try.ntmps35
  go_upto_region 1 with fail
  rw [← hw4]
  clear hw4
  have c0 : w4.cell? ⟨w.heap.size, 1, none⟩ = some (.int .i64 s1) := box_cell H2.out 1 _ rfl _ (Le.refl _)
  have c1 : w4.cell? ⟨w.heap.size + 1, 0, none⟩ = some (.int .i64 i1) := box_cell H3.out 0 _ rfl _ (Le.refl _)
  have c2 : w4.cell? ⟨w.heap.size, 0, none⟩ = some (.bool true) := box_cell H2.out 0 _ rfl _ (Le.refl _)
  have c3 : w4.cell? ⟨w.heap.size, 2, none⟩ = some (.int .i64 s2) := box_cell H2.out 2 _ rfl _ (Le.refl _)
  go_wp2_with fail
  refine (HX.out _).mono ?_
  rintro e w5 ⟨rfl, rfl⟩
  go_wp2_with (first | (refine wpl_load_blk rfl 31 (.tmp 3) rfl (cs := [.int .i64 i1, .int .i64 i2, .int .i64 i3, .int .i64 i4]) _ rfl Try.underlying31 rfl (by kernel_rfl) H3.out ?_) | (refine wpl_load_in rfl 31 (.tmp 32) rfl [.bool true, .int .i64 s1, .int .i64 s2] [.int .i64 f1, .int .i64 f2, .int .i64 f3, .int .i64 f4] [.int .i64 o1, .int .i64 o2, .int .i64 o3, .int .i64 o4] _ rfl Try.underlying31 rfl (by kernel_rfl) H2.out ?_))
  refine (HF.out _).mono ?_
  rintro e w5 ⟨rfl, hb⟩
  have hle5 := Le.mk hb
  go_upto_region 5 with fail
  have K2 := hide (heap_alloc (o' := .cells #[.int .i64 d1, .int .i64 d2, .int .i64 d3, .int .i64 d4] 31) (hle5.heap H2.out))
  have K4 := hide (heap_alloc (o' := .cells #[.int .i64 d1, .int .i64 d2, .int .i64 d3, .int .i64 d4] 31) (hle5.heap H4.out))
  have K5 := hide (heap_alloc (o' := .cells #[.int .i64 d1, .int .i64 d2, .int .i64 d3, .int .i64 d4] 31) (hle5.heap H5.out))
  have K8 := hide (heap_alloc_new w5 (.cells #[.int .i64 d1, .int .i64 d2, .int .i64 d3, .int .i64 d4] 31))
  have KL := hide (((Le.mk HLE.out).trans hle5).alloc (.cells #[.int .i64 d1, .int .i64 d2, .int .i64 d3, .int .i64 d4] 31))
  have hsz := lt_of_heap (hle5.heap H5.out)
  clear hle5 hb H2 H3 H4 H5 HLE c0 c1 c2 c3
  generalize w5.alloc (.cells #[.int .i64 d1, .int .i64 d2, .int .i64 d3, .int .i64 d4] 31) = w6 at *
  generalize w5.heap.size = g8 at *
  have kc1 := box_cell K2.out 1 (.int .i64 s1) rfl w6 (Le.refl _)
  have kc2 := box_cell K8.out 1 (.int .i64 d2) rfl w6 (Le.refl _)
  have kc3 := box_cell K2.out 8 (.int .i64 o2) rfl w6 (Le.refl _)
  go_wp2_with fail
  refine (HY.out _).mono ?_
  rintro e w7 ⟨rfl, rfl⟩
  go_upto_region 11 with (first | (refine wpl_store_1 rfl 2 (.tmp 51) (.tmp 50) rfl [.int .i64 d1] (v := .int .i64 o2) (old := .int .i64 d2) (post := [.int .i64 d3, .int .i64 d4]) rfl rfl (by kernel_rfl) rfl K8.out ?_; intro w7 hn hg; have H2_1 := hide (heap_grown hg K2.out (by simp <;> omega)); have H4_1 := hide (heap_grown hg K4.out (by simp <;> omega)); have H5_1 := hide (heap_grown hg K5.out (by simp <;> omega)); have H8_1 := hide hn; have LE_1 := hide (Le.mk (below_row KL.out.out hg (by omega) KL.out.size)); clear kc1 kc2 kc3 K2 K4 K5 K8 KL hn hg) | (refine wpl_store_1 rfl 2 (.tmp 53) (.tmp 52) rfl [.bool true] (v := .int .i64 x) (old := .int .i64 s1) (post := [.int .i64 s2, .int .i64 f1, .int .i64 f2, .int .i64 f3, .int .i64 f4, .int .i64 o1, .int .i64 o2, .int .i64 o3, .int .i64 o4]) rfl rfl (by kernel_rfl) rfl H2_1.out ?_; intro w8 hn hg; have H4_2 := hide (heap_grown hg H4_1.out (by simp <;> omega)); have H5_2 := hide (heap_grown hg H5_1.out (by simp <;> omega)); have H8_2 := hide (heap_grown hg H8_1.out (by simp <;> omega)); have H2_2 := hide hn; have LE_2 := hide (Le.mk (below_row LE_1.out.out hg (by omega) LE_1.out.size)); clear H4_1 H5_1 H8_1 H2_1 LE_1 hn hg) | (refine wpl_load_blk rfl 31 (.tmp 8) rfl (cs := [.int .i64 d1, .int .i64 o2, .int .i64 d3, .int .i64 d4]) _ rfl Try.underlying31 rfl (by kernel_rfl) H8_2.out ?_) | (refine wpl_store_in rfl 31 (.tmp 55) (.tmp 54) rfl [.bool true, .int .i64 x, .int .i64 s2, .int .i64 f1, .int .i64 f2, .int .i64 f3, .int .i64 f4] (cs := [.int .i64 d1, .int .i64 o2, .int .i64 d3, .int .i64 d4]) (old := [.int .i64 o1, .int .i64 o2, .int .i64 o3, .int .i64 o4]) (post := []) rfl rfl (by kernel_rfl) (by simp [Value.oneCell']) H2_2.out rfl ?_; intro w9 hn hg; have H4_3 := hide (heap_grown hg H4_2.out (by simp <;> omega)); have H5_3 := hide (heap_grown hg H5_2.out (by simp <;> omega)); have H8_3 := hide (heap_grown hg H8_2.out (by simp <;> omega)); have H2_3 := hide hn; have LE_3 := hide (Le.mk (below_row LE_2.out.out hg (by omega) LE_2.out.size)); clear H4_2 H5_2 H8_2 H2_2 LE_2 hn hg))
  have hsd : w9.drew.heap.size = w9.heap.size := rfl
  have hs4 := lt_of_heap H4_3.out
  have hs5 := lt_of_heap H5_3.out
  refine' wp_region_rows 2 56 (Rn [(w.heap.size + 1 + 1, .cells #[.bool true, .int .i64 x, .int .i64 s2, .int .i64 f1, .int .i64 f2, .int .i64 f3, .int .i64 f4, .int .i64 d1, .int .i64 o2, .int .i64 d3, .int .i64 d4] 33 (0, 0)), (w.heap.size + 1 + 1 + 1, .cells #[.int .i64 d1, .int .i64 o2, .int .i64 d3, .int .i64 d4] 31 (0, 0))]) (Is _ :: Is _ :: (fun _ W => W.heap[w.heap.size + 1 + 1]? = some (Obj.cells #[.bool true, .int .i64 x, .int .i64 s2, .int .i64 f1, .int .i64 f2, .int .i64 f3, .int .i64 f4, .int .i64 d1, .int .i64 o2, .int .i64 d3, .int .i64 d4] 33 (0, 0))) :: (fun _ W => W.heap[w.heap.size + 1 + 1 + 1]? = some (Obj.cells #[.int .i64 d1, .int .i64 o2, .int .i64 d3, .int .i64 d4] 31 (0, 0))) :: Is _ :: []) ([] :: [] :: [0] :: [1] :: [] :: []) (by kernel_rfl) (by kernel_rfl) (by rfl) (by kernel_rfl) Rn.refl (fun _ _ _ h h' => h.trans h') ⟨St.is, St.is, (fun _ _ _ h hk => (h.in_ (p := (w.heap.size + 1 + 1, Obj.cells #[.bool true, .int .i64 x, .int .i64 s2, .int .i64 f1, .int .i64 f2, .int .i64 f3, .int .i64 f4, .int .i64 d1, .int .i64 o2, .int .i64 d3, .int .i64 d4] 33 (0, 0))) (by simp) hk).elim _root_.id _root_.id), (fun _ _ _ h hk => (h.in_ (p := (w.heap.size + 1 + 1 + 1, Obj.cells #[.int .i64 d1, .int .i64 o2, .int .i64 d3, .int .i64 d4] 31 (0, 0))) (by simp) hk).elim _root_.id _root_.id), St.is, trivial⟩ ?m11
  case m11 =>
    simp (maxSteps := 100000000) only [AllV, Obl2, Leans, factAt, allFacts, actOf, putAll, putRow, Act.put, List.setIfInBounds_toArray, List.set_cons_succ, List.set_cons_zero, List.getElem?_cons_zero, List.getElem?_cons_succ, List.take_succ_cons, List.take_zero, List.drop_succ_cons, List.drop_zero, List.cons_append, List.nil_append, List.length_cons, List.length_nil, Nat.reduceAdd]
    intro x0 x1 x2 x3 x4
    refine ⟨⟨?_, ?_, ?_, ?_, ?_, trivial⟩, ?_⟩
    -- 0: 56 := Op.load 33 t2
    · intro wo hw  K hK; refine cast (if_pos (show Region.wanted _ _ = true from rfl)).symm ?_; have hz := (hw.heap H2_3.out (by simp <;> omega)); refine wp_load_blk 33 (.tmp 2) rfl (cs := [.bool true, .int .i64 x, .int .i64 s2, .int .i64 f1, .int .i64 f2, .int .i64 f3, .int .i64 f4, .int .i64 d1, .int .i64 o2, .int .i64 d3, .int .i64 d4]) _ rfl Try.underlying33 rfl (by kernel_rfl) hz ?_; exact hK _ _ (Rn.refl _) (Is.mk _ _)
    -- 1: 57 := Op.load 31 t8
    · intro wo hw  K hK; refine cast (if_pos (show Region.wanted _ _ = true from rfl)).symm ?_; have hz := (hw.heap H8_3.out (by simp <;> omega)); refine wp_load_blk 31 (.tmp 8) rfl (cs := [.int .i64 d1, .int .i64 o2, .int .i64 d3, .int .i64 d4]) _ rfl Try.underlying31 rfl (by kernel_rfl) hz ?_; exact hK _ _ (Rn.refl _) (Is.mk _ _)
    -- 2: none := Op.store 33 t4 t56
    · intro wo hw h0 K hK; cases h0; refine cast (if_pos (show Region.wanted _ _ = true from rfl)).symm ?_; rcases hw.in_ (p := (w.heap.size + 1 + 1, Obj.cells #[.bool true, .int .i64 x, .int .i64 s2, .int .i64 f1, .int .i64 f2, .int .i64 f3, .int .i64 f4, .int .i64 d1, .int .i64 o2, .int .i64 d3, .int .i64 d4] 33 (0, 0))) (by simp) H4_3.out with ho | ho <;> (refine wp_store_blk 33 (.tmp 4) (.tmp 56) rfl (cs := [.bool true, .int .i64 x, .int .i64 s2, .int .i64 f1, .int .i64 f2, .int .i64 f3, .int .i64 f4, .int .i64 d1, .int .i64 o2, .int .i64 d3, .int .i64 d4]) rfl rfl (by kernel_rfl) (by simp [Value.oneCell']) ho rfl ?_; intro w' h' hg'; exact hK undef _ (Rn.store hg' (by simp) h' (by simp <;> omega) (by have := hw.size; simp <;> omega)) h')
    -- 3: none := Op.store 31 t5 t57
    · intro wo hw h1 K hK; cases h1; refine cast (if_pos (show Region.wanted _ _ = true from rfl)).symm ?_; rcases hw.in_ (p := (w.heap.size + 1 + 1 + 1, Obj.cells #[.int .i64 d1, .int .i64 o2, .int .i64 d3, .int .i64 d4] 31 (0, 0))) (by simp) H5_3.out with ho | ho <;> (refine wp_store_blk 31 (.tmp 5) (.tmp 57) rfl (cs := [.int .i64 d1, .int .i64 o2, .int .i64 d3, .int .i64 d4]) rfl rfl (by kernel_rfl) (by simp [Value.oneCell']) ho rfl ?_; intro w' h' hg'; exact hK undef _ (Rn.store hg' (by simp) h' (by simp <;> omega) (by have := hw.size; simp <;> omega)) h')
    -- 4: 6 := Op.assign (const (Value.bool true))
    · intro wo hw  K hK; go_simp; exact hK _ _ (Rn.refl _) (Is.mk _ _)
    · intro wz hz h0 h1 h2 h3 h4; cases h0; cases h1; cases h4; skip
      go_wp2_with fail
      refine ret_cct Try.results35 (InCell.mk' rfl h2 Try.underlying33 rfl (by kernel_rfl)) (InCell.mk' rfl h3 Try.underlying31 rfl (by kernel_rfl)) rfl ?_
      rw [HRR.out]
      exact ⟨rfl, hz.below LE_3.out.out.drew (by simp <;> omega) LE_3.out.out.size⟩

set_option maxRecDepth 100000 in
set_option maxHeartbeats 4000000 in
theorem r13send_on (x s1 s2 : Int) (f1 f2 f3 f4 o1 o2 o3 o4 i1 i2 i3 i4 d1 d2 d3 d4 : Nat) (hx1 : ¬ x ≤ s1) (y : Int) (hy : ¬ 0 < y) (HY : Hd (∀ W, Calls Try.prog 68 #[.int .i64 d2, .int .i64 o2, .int .i64 4294967296] W (fun e w' => e = .returned (.int .i64 y) ∧ W = w'))) (w : World)
    (HX : Hd (∀ W, Calls Try.prog 62 #[.int .i64 s1, .int .i64 i1, .int .i64 65536] W (fun e w' => e = .returned (.int .i64 x) ∧ W = w')))
    (HF : Hd (∀ W, Calls Try.prog 65 #[.agg #[.int .i64 i1, .int .i64 i2, .int .i64 i3, .int .i64 i4], .agg #[.int .i64 f1, .int .i64 f2, .int .i64 f3, .int .i64 f4]] W (Gives W (.agg #[.int .i64 d1, .int .i64 d2, .int .i64 d3, .int .i64 d4])))) :
    Calls Try.prog 35 #[.agg #[.bool true, .int .i64 s1, .int .i64 s2, .int .i64 f1, .int .i64 f2, .int .i64 f3, .int .i64 f4, .int .i64 o1, .int .i64 o2, .int .i64 o3, .int .i64 o4], .agg #[.int .i64 i1, .int .i64 i2, .int .i64 i3, .int .i64 i4]] w (Gives w (.tuple #[.agg #[.bool true, .int .i64 x, .int .i64 s2, .int .i64 f1, .int .i64 f2, .int .i64 f3, .int .i64 f4, .int .i64 d1, .int .i64 d2, .int .i64 d3, .int .i64 d4], .agg #[.int .i64 d1, .int .i64 d2, .int .i64 d3, .int .i64 d4], .bool true])) := by
  obtain ⟨R, hR⟩ : ∃ R : Value, R = .tuple #[.agg #[.bool true, .int .i64 x, .int .i64 s2, .int .i64 f1, .int .i64 f2, .int .i64 f3, .int .i64 f4, .int .i64 d1, .int .i64 d2, .int .i64 d3, .int .i64 d4], .agg #[.int .i64 d1, .int .i64 d2, .int .i64 d3, .int .i64 d4], .bool true] := ⟨_, rfl⟩
  rw [← hR]
  have HRR := hide hR
  clear hR
  obtain ⟨w4, hw4⟩ : ∃ w4, w4 = (((w.alloc (.cells #[.bool true, .int .i64 s1, .int .i64 s2, .int .i64 f1, .int .i64 f2, .int .i64 f3, .int .i64 f4, .int .i64 o1, .int .i64 o2, .int .i64 o3, .int .i64 o4] 33)).alloc (.cells #[.int .i64 i1, .int .i64 i2, .int .i64 i3, .int .i64 i4] 31)).alloc (.cells #[.bool false, .int .i64 0, .int .i64 0, .int .i64 0, .int .i64 0, .int .i64 0, .int .i64 0, .int .i64 0, .int .i64 0, .int .i64 0, .int .i64 0] 33)).alloc (.cells #[.int .i64 0, .int .i64 0, .int .i64 0, .int .i64 0] 31) := ⟨_, rfl⟩
  have hl : Le w (w4) := by rw [hw4]; exact (((Le.refl w).alloc _).alloc _).alloc _ |>.alloc _
  have h2 : (w4).heap[w.heap.size]? = some (.cells #[.bool true, .int .i64 s1, .int .i64 s2, .int .i64 f1, .int .i64 f2, .int .i64 f3, .int .i64 f4, .int .i64 o1, .int .i64 o2, .int .i64 o3, .int .i64 o4] 33 (0, 0)) := by rw [hw4]; exact heap_alloc (heap_alloc (heap_alloc (heap_alloc_new w _)))
  have h3 : (w4).heap[w.heap.size + 1]? = some (.cells #[.int .i64 i1, .int .i64 i2, .int .i64 i3, .int .i64 i4] 31 (0, 0)) := by rw [hw4]; exact heap_alloc (heap_alloc (heap_at (by simp)))
  have h4 : (w4).heap[w.heap.size + 1 + 1]? = some (.cells #[.bool false, .int .i64 0, .int .i64 0, .int .i64 0, .int .i64 0, .int .i64 0, .int .i64 0, .int .i64 0, .int .i64 0, .int .i64 0, .int .i64 0] 33 (0, 0)) := by rw [hw4]; exact heap_alloc (heap_at (by simp))
  have h5 : (w4).heap[w.heap.size + 1 + 1 + 1]? = some (.cells #[.int .i64 0, .int .i64 0, .int .i64 0, .int .i64 0] 31 (0, 0)) := by rw [hw4]; exact heap_at (by simp)
  have HLE := hide hl.out
  have H2 := hide h2
  have H3 := hide h3
  have H4 := hide h4
  have H5 := hide h5
  clear hl h2 h3 h4 h5
  go_enter Try.func35, Try.ntmps35
  go_upto_region 1 with fail
  rw [← hw4]
  clear hw4
  have c0 : w4.cell? ⟨w.heap.size, 1, none⟩ = some (.int .i64 s1) := box_cell H2.out 1 _ rfl _ (Le.refl _)
  have c1 : w4.cell? ⟨w.heap.size + 1, 0, none⟩ = some (.int .i64 i1) := box_cell H3.out 0 _ rfl _ (Le.refl _)
  have c2 : w4.cell? ⟨w.heap.size, 0, none⟩ = some (.bool true) := box_cell H2.out 0 _ rfl _ (Le.refl _)
  have c3 : w4.cell? ⟨w.heap.size, 2, none⟩ = some (.int .i64 s2) := box_cell H2.out 2 _ rfl _ (Le.refl _)
  go_wp2_with fail
  refine (HX.out _).mono ?_
  rintro e w5 ⟨rfl, rfl⟩
  go_wp2_with (first | (refine wpl_load_blk rfl 31 (.tmp 3) rfl (cs := [.int .i64 i1, .int .i64 i2, .int .i64 i3, .int .i64 i4]) _ rfl Try.underlying31 rfl (by kernel_rfl) H3.out ?_) | (refine wpl_load_in rfl 31 (.tmp 32) rfl [.bool true, .int .i64 s1, .int .i64 s2] [.int .i64 f1, .int .i64 f2, .int .i64 f3, .int .i64 f4] [.int .i64 o1, .int .i64 o2, .int .i64 o3, .int .i64 o4] _ rfl Try.underlying31 rfl (by kernel_rfl) H2.out ?_))
  refine (HF.out _).mono ?_
  rintro e w5 ⟨rfl, hb⟩
  have hle5 := Le.mk hb
  go_upto_region 5 with fail
  have K2 := hide (heap_alloc (o' := .cells #[.int .i64 d1, .int .i64 d2, .int .i64 d3, .int .i64 d4] 31) (hle5.heap H2.out))
  have K4 := hide (heap_alloc (o' := .cells #[.int .i64 d1, .int .i64 d2, .int .i64 d3, .int .i64 d4] 31) (hle5.heap H4.out))
  have K5 := hide (heap_alloc (o' := .cells #[.int .i64 d1, .int .i64 d2, .int .i64 d3, .int .i64 d4] 31) (hle5.heap H5.out))
  have K8 := hide (heap_alloc_new w5 (.cells #[.int .i64 d1, .int .i64 d2, .int .i64 d3, .int .i64 d4] 31))
  have KL := hide (((Le.mk HLE.out).trans hle5).alloc (.cells #[.int .i64 d1, .int .i64 d2, .int .i64 d3, .int .i64 d4] 31))
  have hsz := lt_of_heap (hle5.heap H5.out)
  clear hle5 hb H2 H3 H4 H5 HLE c0 c1 c2 c3
  generalize w5.alloc (.cells #[.int .i64 d1, .int .i64 d2, .int .i64 d3, .int .i64 d4] 31) = w6 at *
  generalize w5.heap.size = g8 at *
  have kc1 := box_cell K2.out 1 (.int .i64 s1) rfl w6 (Le.refl _)
  have kc2 := box_cell K8.out 1 (.int .i64 d2) rfl w6 (Le.refl _)
  have kc3 := box_cell K2.out 8 (.int .i64 o2) rfl w6 (Le.refl _)
  go_wp2_with fail
  refine (HY.out _).mono ?_
  rintro e w7 ⟨rfl, rfl⟩
  go_upto_region 11 with (first | (refine wpl_store_1 rfl 2 (.tmp 53) (.tmp 52) rfl [.bool true] (v := .int .i64 x) (old := .int .i64 s1) (post := [.int .i64 s2, .int .i64 f1, .int .i64 f2, .int .i64 f3, .int .i64 f4, .int .i64 o1, .int .i64 o2, .int .i64 o3, .int .i64 o4]) rfl rfl (by kernel_rfl) rfl K2.out ?_; intro w8 hn hg; have H4_1 := hide (heap_grown hg K4.out (by simp <;> omega)); have H5_1 := hide (heap_grown hg K5.out (by simp <;> omega)); have H8_1 := hide (heap_grown hg K8.out (by simp <;> omega)); have H2_1 := hide hn; have LE_1 := hide (Le.mk (below_row KL.out.out hg (by omega) KL.out.size)); clear kc1 kc2 kc3 K4 K5 K8 K2 KL hn hg) | (refine wpl_load_blk rfl 31 (.tmp 8) rfl (cs := [.int .i64 d1, .int .i64 d2, .int .i64 d3, .int .i64 d4]) _ rfl Try.underlying31 rfl (by kernel_rfl) H8_1.out ?_) | (refine wpl_store_in rfl 31 (.tmp 55) (.tmp 54) rfl [.bool true, .int .i64 x, .int .i64 s2, .int .i64 f1, .int .i64 f2, .int .i64 f3, .int .i64 f4] (cs := [.int .i64 d1, .int .i64 d2, .int .i64 d3, .int .i64 d4]) (old := [.int .i64 o1, .int .i64 o2, .int .i64 o3, .int .i64 o4]) (post := []) rfl rfl (by kernel_rfl) (by simp [Value.oneCell']) H2_1.out rfl ?_; intro w9 hn hg; have H4_2 := hide (heap_grown hg H4_1.out (by simp <;> omega)); have H5_2 := hide (heap_grown hg H5_1.out (by simp <;> omega)); have H8_2 := hide (heap_grown hg H8_1.out (by simp <;> omega)); have H2_2 := hide hn; have LE_2 := hide (Le.mk (below_row LE_1.out.out hg (by omega) LE_1.out.size)); clear H4_1 H5_1 H8_1 H2_1 LE_1 hn hg))
  have hsd : w9.drew.heap.size = w9.heap.size := rfl
  have hs4 := lt_of_heap H4_2.out
  have hs5 := lt_of_heap H5_2.out
  refine' wp_region_rows 2 56 (Rn [(w.heap.size + 1 + 1, .cells #[.bool true, .int .i64 x, .int .i64 s2, .int .i64 f1, .int .i64 f2, .int .i64 f3, .int .i64 f4, .int .i64 d1, .int .i64 d2, .int .i64 d3, .int .i64 d4] 33 (0, 0)), (w.heap.size + 1 + 1 + 1, .cells #[.int .i64 d1, .int .i64 d2, .int .i64 d3, .int .i64 d4] 31 (0, 0))]) (Is _ :: Is _ :: (fun _ W => W.heap[w.heap.size + 1 + 1]? = some (Obj.cells #[.bool true, .int .i64 x, .int .i64 s2, .int .i64 f1, .int .i64 f2, .int .i64 f3, .int .i64 f4, .int .i64 d1, .int .i64 d2, .int .i64 d3, .int .i64 d4] 33 (0, 0))) :: (fun _ W => W.heap[w.heap.size + 1 + 1 + 1]? = some (Obj.cells #[.int .i64 d1, .int .i64 d2, .int .i64 d3, .int .i64 d4] 31 (0, 0))) :: Is _ :: []) ([] :: [] :: [0] :: [1] :: [] :: []) (by kernel_rfl) (by kernel_rfl) (by rfl) (by kernel_rfl) Rn.refl (fun _ _ _ h h' => h.trans h') ⟨St.is, St.is, (fun _ _ _ h hk => (h.in_ (p := (w.heap.size + 1 + 1, Obj.cells #[.bool true, .int .i64 x, .int .i64 s2, .int .i64 f1, .int .i64 f2, .int .i64 f3, .int .i64 f4, .int .i64 d1, .int .i64 d2, .int .i64 d3, .int .i64 d4] 33 (0, 0))) (by simp) hk).elim _root_.id _root_.id), (fun _ _ _ h hk => (h.in_ (p := (w.heap.size + 1 + 1 + 1, Obj.cells #[.int .i64 d1, .int .i64 d2, .int .i64 d3, .int .i64 d4] 31 (0, 0))) (by simp) hk).elim _root_.id _root_.id), St.is, trivial⟩ ?m11
  case m11 =>
    simp (maxSteps := 100000000) only [AllV, Obl2, Leans, factAt, allFacts, actOf, putAll, putRow, Act.put, List.setIfInBounds_toArray, List.set_cons_succ, List.set_cons_zero, List.getElem?_cons_zero, List.getElem?_cons_succ, List.take_succ_cons, List.take_zero, List.drop_succ_cons, List.drop_zero, List.cons_append, List.nil_append, List.length_cons, List.length_nil, Nat.reduceAdd]
    intro x0 x1 x2 x3 x4
    refine ⟨⟨?_, ?_, ?_, ?_, ?_, trivial⟩, ?_⟩
    -- 0: 56 := Op.load 33 t2
    · intro wo hw  K hK; refine cast (if_pos (show Region.wanted _ _ = true from rfl)).symm ?_; have hz := (hw.heap H2_2.out (by simp <;> omega)); refine wp_load_blk 33 (.tmp 2) rfl (cs := [.bool true, .int .i64 x, .int .i64 s2, .int .i64 f1, .int .i64 f2, .int .i64 f3, .int .i64 f4, .int .i64 d1, .int .i64 d2, .int .i64 d3, .int .i64 d4]) _ rfl Try.underlying33 rfl (by kernel_rfl) hz ?_; exact hK _ _ (Rn.refl _) (Is.mk _ _)
    -- 1: 57 := Op.load 31 t8
    · intro wo hw  K hK; refine cast (if_pos (show Region.wanted _ _ = true from rfl)).symm ?_; have hz := (hw.heap H8_2.out (by simp <;> omega)); refine wp_load_blk 31 (.tmp 8) rfl (cs := [.int .i64 d1, .int .i64 d2, .int .i64 d3, .int .i64 d4]) _ rfl Try.underlying31 rfl (by kernel_rfl) hz ?_; exact hK _ _ (Rn.refl _) (Is.mk _ _)
    -- 2: none := Op.store 33 t4 t56
    · intro wo hw h0 K hK; cases h0; refine cast (if_pos (show Region.wanted _ _ = true from rfl)).symm ?_; rcases hw.in_ (p := (w.heap.size + 1 + 1, Obj.cells #[.bool true, .int .i64 x, .int .i64 s2, .int .i64 f1, .int .i64 f2, .int .i64 f3, .int .i64 f4, .int .i64 d1, .int .i64 d2, .int .i64 d3, .int .i64 d4] 33 (0, 0))) (by simp) H4_2.out with ho | ho <;> (refine wp_store_blk 33 (.tmp 4) (.tmp 56) rfl (cs := [.bool true, .int .i64 x, .int .i64 s2, .int .i64 f1, .int .i64 f2, .int .i64 f3, .int .i64 f4, .int .i64 d1, .int .i64 d2, .int .i64 d3, .int .i64 d4]) rfl rfl (by kernel_rfl) (by simp [Value.oneCell']) ho rfl ?_; intro w' h' hg'; exact hK undef _ (Rn.store hg' (by simp) h' (by simp <;> omega) (by have := hw.size; simp <;> omega)) h')
    -- 3: none := Op.store 31 t5 t57
    · intro wo hw h1 K hK; cases h1; refine cast (if_pos (show Region.wanted _ _ = true from rfl)).symm ?_; rcases hw.in_ (p := (w.heap.size + 1 + 1 + 1, Obj.cells #[.int .i64 d1, .int .i64 d2, .int .i64 d3, .int .i64 d4] 31 (0, 0))) (by simp) H5_2.out with ho | ho <;> (refine wp_store_blk 31 (.tmp 5) (.tmp 57) rfl (cs := [.int .i64 d1, .int .i64 d2, .int .i64 d3, .int .i64 d4]) rfl rfl (by kernel_rfl) (by simp [Value.oneCell']) ho rfl ?_; intro w' h' hg'; exact hK undef _ (Rn.store hg' (by simp) h' (by simp <;> omega) (by have := hw.size; simp <;> omega)) h')
    -- 4: 6 := Op.assign (const (Value.bool true))
    · intro wo hw  K hK; go_simp; exact hK _ _ (Rn.refl _) (Is.mk _ _)
    · intro wz hz h0 h1 h2 h3 h4; cases h0; cases h1; cases h4; skip
      go_wp2_with fail
      refine ret_cct Try.results35 (InCell.mk' rfl h2 Try.underlying33 rfl (by kernel_rfl)) (InCell.mk' rfl h3 Try.underlying31 rfl (by kernel_rfl)) rfl ?_
      rw [HRR.out]
      exact ⟨rfl, hz.below LE_2.out.out.drew (by simp <;> omega) LE_2.out.out.size⟩

theorem r13send_any (s : Ms) (hs : s.Ok) (i : Nm) (hi : i.Ok) (w : World) : Calls Try.prog 35 #[s.rv, i.rv] w (Gives w (.tuple #[(s.send i).1.rv, (s.send i).2.1.rv, .bool (s.send i).2.2])) := by
  have hx := fun W => rnear_any s.high i.seq hi.seq hs.high.1 hs.high.2 W
  have hf := fun W => r13less i s.off hi hs.off W
  have ho := Nm.from_ok s.off i
  have hy := fun W => rfrom_4294967296 (s.off.from i).time s.out.time ho.time hs.out.time W
  unfold Ms.send
  dsimp only
  unfold less32
  generalize near16 s.high i.seq = x at *
  generalize s.off.from i = d at *
  generalize fromN 4294967296 d.time s.out.time = y at *
  obtain ⟨on, s1, s2, ⟨f1, f2, f3, f4⟩, ⟨o1, o2, o3, o4⟩⟩ := s
  obtain ⟨i1, i2, i3, i4⟩ := i
  obtain ⟨d1, d2, d3, d4⟩ := d
  dsimp only at hx hf hy ⊢
  clear hs hi ho
  cases on
  · rw [if_pos (.inl rfl)]
    exact r13send_off x s1 s2 f1 f2 f3 f4 o1 o2 o3 o4 i1 i2 i3 i4 d1 d2 d3 d4 w (hide hx) (hide hf)
  · by_cases h1 : x ≤ s1
    · by_cases h2 : x ≤ s2
      · rw [if_pos (.inr ⟨h1, h2⟩)]
        exact r13send_no x s1 s2 f1 f2 f3 f4 o1 o2 o3 o4 i1 i2 i3 i4 d1 d2 d3 d4 h1 h2 w (hide hx) (hide hf)
      · rw [if_neg (by simp [h2]), if_pos h1]
        exact r13send_late x s1 s2 f1 f2 f3 f4 o1 o2 o3 o4 i1 i2 i3 i4 d1 d2 d3 d4 h1 h2 w (hide hx) (hide hf)
    · rw [if_neg (by simp [h1]), if_neg h1]
      by_cases h3 : 0 < y
      · simp only [decide_eq_true h3, if_true]
        exact r13send_less x s1 s2 f1 f2 f3 f4 o1 o2 o3 o4 i1 i2 i3 i4 d1 d2 d3 d4 h1 y h3 (hide hy) w (hide hx) (hide hf)
      · simp only [decide_eq_false h3, Bool.false_eq_true, if_false]
        exact r13send_on x s1 s2 f1 f2 f3 f4 o1 o2 o3 o4 i1 i2 i3 i4 d1 d2 d3 d4 h1 y h3 (hide hy) w (hide hx) (hide hf)

set_option maxRecDepth 100000 in
set_option maxHeartbeats 4000000 in
theorem r13drop_off_true (x s1 s2 : Int) (f1 f2 f3 f4 o1 o2 o3 o4 i1 i2 i3 i4 q1 q3 : Nat)  (w : World)
    (HX : Hd (∀ W, Calls Try.prog 62 #[.int .i64 s1, .int .i64 i1, .int .i64 65536] W (fun e w' => e = .returned (.int .i64 x) ∧ W = w')))
    (HQ : Hd (∀ W, Calls Try.prog 63 #[.int .i64 ((f1 : Int) + 1), .int .i64 65536] W (fun e w' => e = .returned (.int .i64 q1) ∧ W = w')))
    (HP : Hd (∀ W, Calls Try.prog 63 #[.int .i64 ((f3 : Int) + 1), .int .i64 65536] W (fun e w' => e = .returned (.int .i64 q3) ∧ W = w')))
    (hw1 : IntKind.i64.wrap ((f1 : Int) + 1) = (f1 : Int) + 1) (hw3 : IntKind.i64.wrap ((f3 : Int) + 1) = (f3 : Int) + 1) :
    Calls Try.prog 30 #[.agg #[.bool false, .int .i64 s1, .int .i64 s2, .int .i64 f1, .int .i64 f2, .int .i64 f3, .int .i64 f4, .int .i64 o1, .int .i64 o2, .int .i64 o3, .int .i64 o4], .agg #[.int .i64 i1, .int .i64 i2, .int .i64 i3, .int .i64 i4], .bool true] w (Gives w (.agg #[.bool false, .int .i64 s1, .int .i64 s2, .int .i64 f1, .int .i64 f2, .int .i64 f3, .int .i64 f4, .int .i64 o1, .int .i64 o2, .int .i64 o3, .int .i64 o4])) := by
  obtain ⟨R, hR⟩ : ∃ R : Value, R = .agg #[.bool false, .int .i64 s1, .int .i64 s2, .int .i64 f1, .int .i64 f2, .int .i64 f3, .int .i64 f4, .int .i64 o1, .int .i64 o2, .int .i64 o3, .int .i64 o4] := ⟨_, rfl⟩
  have HRR := hide hR
  rw [show Gives w (.agg #[.bool false, .int .i64 s1, .int .i64 s2, .int .i64 f1, .int .i64 f2, .int .i64 f3, .int .i64 f4, .int .i64 o1, .int .i64 o2, .int .i64 o3, .int .i64 o4]) = Gives w R by rw [hR]]
  clear hR
  obtain ⟨w4, hw4⟩ : ∃ w4, w4 = ((w.alloc (.cells #[.bool false, .int .i64 s1, .int .i64 s2, .int .i64 f1, .int .i64 f2, .int .i64 f3, .int .i64 f4, .int .i64 o1, .int .i64 o2, .int .i64 o3, .int .i64 o4] 33)).alloc (.cells #[.int .i64 i1, .int .i64 i2, .int .i64 i3, .int .i64 i4] 31)).alloc (.cells #[.bool false, .int .i64 0, .int .i64 0, .int .i64 0, .int .i64 0, .int .i64 0, .int .i64 0, .int .i64 0, .int .i64 0, .int .i64 0, .int .i64 0] 33) := ⟨_, rfl⟩
  have hl : Le w (w4) := by rw [hw4]; exact ((Le.refl w).alloc _).alloc _ |>.alloc _
  have h3 : (w4).heap[w.heap.size]? = some (.cells #[.bool false, .int .i64 s1, .int .i64 s2, .int .i64 f1, .int .i64 f2, .int .i64 f3, .int .i64 f4, .int .i64 o1, .int .i64 o2, .int .i64 o3, .int .i64 o4] 33 (0, 0)) := by rw [hw4]; exact heap_alloc (heap_alloc (heap_alloc_new w _))
  have h4 : (w4).heap[w.heap.size + 1]? = some (.cells #[.int .i64 i1, .int .i64 i2, .int .i64 i3, .int .i64 i4] 31 (0, 0)) := by rw [hw4]; exact heap_alloc (heap_at (by simp))
  have h6 : (w4).heap[w.heap.size + 1 + 1]? = some (.cells #[.bool false, .int .i64 0, .int .i64 0, .int .i64 0, .int .i64 0, .int .i64 0, .int .i64 0, .int .i64 0, .int .i64 0, .int .i64 0, .int .i64 0] 33 (0, 0)) := by rw [hw4]; exact heap_at (by simp)
  have HLE := hide hl.out
  have H3 := hide h3
  have H4 := hide h4
  have H6 := hide h6
  clear hl h3 h4 h6
  go_enter Try.func30, Try.ntmps30
  go_upto_region 1 with fail
  rw [← hw4]
  clear hw4
  have HL2 := hide (Le.mk HLE.out)
  have kc1 := box_cell H3.out 1 (.int .i64 s1) rfl w4 (Le.refl _)
  have kc2 := box_cell H4.out 0 (.int .i64 i1) rfl w4 (Le.refl _)
  have kc3 := box_cell H3.out 0 (.bool false) rfl w4 (Le.refl _)
  go_wp2_with fail
  refine (HX.out _).mono ?_
  rintro e w5 ⟨rfl, rfl⟩
  go_wp2_with (first | (refine wpl_load_blk rfl 33 (.tmp 3) rfl (cs := [.bool false, .int .i64 s1, .int .i64 s2, .int .i64 f1, .int .i64 f2, .int .i64 f3, .int .i64 f4, .int .i64 o1, .int .i64 o2, .int .i64 o3, .int .i64 o4]) _ rfl Try.underlying33 rfl (by kernel_rfl) H3.out ?_) | (refine wpl_store_blk rfl 33 (.tmp 6) (.tmp 22) (cs := [.bool false, .int .i64 s1, .int .i64 s2, .int .i64 f1, .int .i64 f2, .int .i64 f3, .int .i64 f4, .int .i64 o1, .int .i64 o2, .int .i64 o3, .int .i64 o4]) rfl rfl rfl (by kernel_rfl) (by simp [Value.oneCell']) H6.out rfl ?_; intro w6 hn hg; have H6_1 := hide hn; have LE_1 := hide (Le.mk (below_row HL2.out.out hg (by omega) HL2.out.size)); clear kc1 kc2 kc3 H3 H4 H6 HL2 hn hg))
  refine ret_c Try.results30 (InCell.mk' rfl H6_1.out Try.underlying33 rfl (by kernel_rfl)) ?_
  rw [HRR.out]
  exact ⟨rfl, LE_1.out.out⟩

set_option maxRecDepth 100000 in
set_option maxHeartbeats 4000000 in
theorem r13drop_no_true (x s1 s2 : Int) (f1 f2 f3 f4 o1 o2 o3 o4 i1 i2 i3 i4 q1 q3 : Nat) (hx : x ≤ s1) (w : World)
    (HX : Hd (∀ W, Calls Try.prog 62 #[.int .i64 s1, .int .i64 i1, .int .i64 65536] W (fun e w' => e = .returned (.int .i64 x) ∧ W = w')))
    (HQ : Hd (∀ W, Calls Try.prog 63 #[.int .i64 ((f1 : Int) + 1), .int .i64 65536] W (fun e w' => e = .returned (.int .i64 q1) ∧ W = w')))
    (HP : Hd (∀ W, Calls Try.prog 63 #[.int .i64 ((f3 : Int) + 1), .int .i64 65536] W (fun e w' => e = .returned (.int .i64 q3) ∧ W = w')))
    (hw1 : IntKind.i64.wrap ((f1 : Int) + 1) = (f1 : Int) + 1) (hw3 : IntKind.i64.wrap ((f3 : Int) + 1) = (f3 : Int) + 1) :
    Calls Try.prog 30 #[.agg #[.bool true, .int .i64 s1, .int .i64 s2, .int .i64 f1, .int .i64 f2, .int .i64 f3, .int .i64 f4, .int .i64 o1, .int .i64 o2, .int .i64 o3, .int .i64 o4], .agg #[.int .i64 i1, .int .i64 i2, .int .i64 i3, .int .i64 i4], .bool true] w (Gives w (.agg #[.bool true, .int .i64 s1, .int .i64 s2, .int .i64 f1, .int .i64 f2, .int .i64 f3, .int .i64 f4, .int .i64 o1, .int .i64 o2, .int .i64 o3, .int .i64 o4])) := by
  obtain ⟨R, hR⟩ : ∃ R : Value, R = .agg #[.bool true, .int .i64 s1, .int .i64 s2, .int .i64 f1, .int .i64 f2, .int .i64 f3, .int .i64 f4, .int .i64 o1, .int .i64 o2, .int .i64 o3, .int .i64 o4] := ⟨_, rfl⟩
  have HRR := hide hR
  rw [show Gives w (.agg #[.bool true, .int .i64 s1, .int .i64 s2, .int .i64 f1, .int .i64 f2, .int .i64 f3, .int .i64 f4, .int .i64 o1, .int .i64 o2, .int .i64 o3, .int .i64 o4]) = Gives w R by rw [hR]]
  clear hR
  obtain ⟨w4, hw4⟩ : ∃ w4, w4 = ((w.alloc (.cells #[.bool true, .int .i64 s1, .int .i64 s2, .int .i64 f1, .int .i64 f2, .int .i64 f3, .int .i64 f4, .int .i64 o1, .int .i64 o2, .int .i64 o3, .int .i64 o4] 33)).alloc (.cells #[.int .i64 i1, .int .i64 i2, .int .i64 i3, .int .i64 i4] 31)).alloc (.cells #[.bool false, .int .i64 0, .int .i64 0, .int .i64 0, .int .i64 0, .int .i64 0, .int .i64 0, .int .i64 0, .int .i64 0, .int .i64 0, .int .i64 0] 33) := ⟨_, rfl⟩
  have hl : Le w (w4) := by rw [hw4]; exact ((Le.refl w).alloc _).alloc _ |>.alloc _
  have h3 : (w4).heap[w.heap.size]? = some (.cells #[.bool true, .int .i64 s1, .int .i64 s2, .int .i64 f1, .int .i64 f2, .int .i64 f3, .int .i64 f4, .int .i64 o1, .int .i64 o2, .int .i64 o3, .int .i64 o4] 33 (0, 0)) := by rw [hw4]; exact heap_alloc (heap_alloc (heap_alloc_new w _))
  have h4 : (w4).heap[w.heap.size + 1]? = some (.cells #[.int .i64 i1, .int .i64 i2, .int .i64 i3, .int .i64 i4] 31 (0, 0)) := by rw [hw4]; exact heap_alloc (heap_at (by simp))
  have h6 : (w4).heap[w.heap.size + 1 + 1]? = some (.cells #[.bool false, .int .i64 0, .int .i64 0, .int .i64 0, .int .i64 0, .int .i64 0, .int .i64 0, .int .i64 0, .int .i64 0, .int .i64 0, .int .i64 0] 33 (0, 0)) := by rw [hw4]; exact heap_at (by simp)
  have HLE := hide hl.out
  have H3 := hide h3
  have H4 := hide h4
  have H6 := hide h6
  clear hl h3 h4 h6
  go_enter Try.func30, Try.ntmps30
  go_upto_region 1 with fail
  rw [← hw4]
  clear hw4
  have HL2 := hide (Le.mk HLE.out)
  have kc1 := box_cell H3.out 1 (.int .i64 s1) rfl w4 (Le.refl _)
  have kc2 := box_cell H4.out 0 (.int .i64 i1) rfl w4 (Le.refl _)
  have kc3 := box_cell H3.out 0 (.bool true) rfl w4 (Le.refl _)
  go_wp2_with fail
  refine (HX.out _).mono ?_
  rintro e w5 ⟨rfl, rfl⟩
  go_wp2_with (first | (refine wpl_load_blk rfl 33 (.tmp 3) rfl (cs := [.bool true, .int .i64 s1, .int .i64 s2, .int .i64 f1, .int .i64 f2, .int .i64 f3, .int .i64 f4, .int .i64 o1, .int .i64 o2, .int .i64 o3, .int .i64 o4]) _ rfl Try.underlying33 rfl (by kernel_rfl) H3.out ?_) | (refine wpl_store_blk rfl 33 (.tmp 6) (.tmp 22) (cs := [.bool true, .int .i64 s1, .int .i64 s2, .int .i64 f1, .int .i64 f2, .int .i64 f3, .int .i64 f4, .int .i64 o1, .int .i64 o2, .int .i64 o3, .int .i64 o4]) rfl rfl rfl (by kernel_rfl) (by simp [Value.oneCell']) H6.out rfl ?_; intro w6 hn hg; have H6_1 := hide hn; have LE_1 := hide (Le.mk (below_row HL2.out.out hg (by omega) HL2.out.size)); clear kc1 kc2 kc3 H3 H4 H6 HL2 hn hg))
  refine ret_c Try.results30 (InCell.mk' rfl H6_1.out Try.underlying33 rfl (by kernel_rfl)) ?_
  rw [HRR.out]
  exact ⟨rfl, LE_1.out.out⟩

set_option maxRecDepth 100000 in
set_option maxHeartbeats 4000000 in
theorem r13drop_yes_true (x s1 s2 : Int) (f1 f2 f3 f4 o1 o2 o3 o4 i1 i2 i3 i4 q1 q3 : Nat) (hx : ¬ x ≤ s1) (w : World)
    (HX : Hd (∀ W, Calls Try.prog 62 #[.int .i64 s1, .int .i64 i1, .int .i64 65536] W (fun e w' => e = .returned (.int .i64 x) ∧ W = w')))
    (HQ : Hd (∀ W, Calls Try.prog 63 #[.int .i64 ((f1 : Int) + 1), .int .i64 65536] W (fun e w' => e = .returned (.int .i64 q1) ∧ W = w')))
    (HP : Hd (∀ W, Calls Try.prog 63 #[.int .i64 ((f3 : Int) + 1), .int .i64 65536] W (fun e w' => e = .returned (.int .i64 q3) ∧ W = w')))
    (hw1 : IntKind.i64.wrap ((f1 : Int) + 1) = (f1 : Int) + 1) (hw3 : IntKind.i64.wrap ((f3 : Int) + 1) = (f3 : Int) + 1) :
    Calls Try.prog 30 #[.agg #[.bool true, .int .i64 s1, .int .i64 s2, .int .i64 f1, .int .i64 f2, .int .i64 f3, .int .i64 f4, .int .i64 o1, .int .i64 o2, .int .i64 o3, .int .i64 o4], .agg #[.int .i64 i1, .int .i64 i2, .int .i64 i3, .int .i64 i4], .bool true] w (Gives w (.agg #[.bool true, .int .i64 x, .int .i64 x, .int .i64 q1, .int .i64 f2, .int .i64 q3, .int .i64 f4, .int .i64 o1, .int .i64 o2, .int .i64 o3, .int .i64 o4])) := by
  obtain ⟨R, hR⟩ : ∃ R : Value, R = .agg #[.bool true, .int .i64 x, .int .i64 x, .int .i64 q1, .int .i64 f2, .int .i64 q3, .int .i64 f4, .int .i64 o1, .int .i64 o2, .int .i64 o3, .int .i64 o4] := ⟨_, rfl⟩
  have HRR := hide hR
  rw [show Gives w (.agg #[.bool true, .int .i64 x, .int .i64 x, .int .i64 q1, .int .i64 f2, .int .i64 q3, .int .i64 f4, .int .i64 o1, .int .i64 o2, .int .i64 o3, .int .i64 o4]) = Gives w R by rw [hR]]
  clear hR
  obtain ⟨w4, hw4⟩ : ∃ w4, w4 = ((w.alloc (.cells #[.bool true, .int .i64 s1, .int .i64 s2, .int .i64 f1, .int .i64 f2, .int .i64 f3, .int .i64 f4, .int .i64 o1, .int .i64 o2, .int .i64 o3, .int .i64 o4] 33)).alloc (.cells #[.int .i64 i1, .int .i64 i2, .int .i64 i3, .int .i64 i4] 31)).alloc (.cells #[.bool false, .int .i64 0, .int .i64 0, .int .i64 0, .int .i64 0, .int .i64 0, .int .i64 0, .int .i64 0, .int .i64 0, .int .i64 0, .int .i64 0] 33) := ⟨_, rfl⟩
  have hl : Le w (w4) := by rw [hw4]; exact ((Le.refl w).alloc _).alloc _ |>.alloc _
  have h3 : (w4).heap[w.heap.size]? = some (.cells #[.bool true, .int .i64 s1, .int .i64 s2, .int .i64 f1, .int .i64 f2, .int .i64 f3, .int .i64 f4, .int .i64 o1, .int .i64 o2, .int .i64 o3, .int .i64 o4] 33 (0, 0)) := by rw [hw4]; exact heap_alloc (heap_alloc (heap_alloc_new w _))
  have h4 : (w4).heap[w.heap.size + 1]? = some (.cells #[.int .i64 i1, .int .i64 i2, .int .i64 i3, .int .i64 i4] 31 (0, 0)) := by rw [hw4]; exact heap_alloc (heap_at (by simp))
  have h6 : (w4).heap[w.heap.size + 1 + 1]? = some (.cells #[.bool false, .int .i64 0, .int .i64 0, .int .i64 0, .int .i64 0, .int .i64 0, .int .i64 0, .int .i64 0, .int .i64 0, .int .i64 0, .int .i64 0] 33 (0, 0)) := by rw [hw4]; exact heap_at (by simp)
  have HLE := hide hl.out
  have H3 := hide h3
  have H4 := hide h4
  have H6 := hide h6
  clear hl h3 h4 h6
  go_enter Try.func30, Try.ntmps30
  go_upto_region 1 with fail
  rw [← hw4]
  clear hw4
  have HL2 := hide (Le.mk HLE.out)
  have kc1 := box_cell H3.out 1 (.int .i64 s1) rfl w4 (Le.refl _)
  have kc2 := box_cell H4.out 0 (.int .i64 i1) rfl w4 (Le.refl _)
  have kc3 := box_cell H3.out 0 (.bool true) rfl w4 (Le.refl _)
  go_wp2_with fail
  refine (HX.out _).mono ?_
  rintro e w5 ⟨rfl, rfl⟩
  go_wp2_with (first | (refine wpl_store_1 rfl 2 (.tmp 24) (.tmp 23) rfl [.bool true] (v := .int .i64 x) (old := .int .i64 s1) (post := [.int .i64 s2, .int .i64 f1, .int .i64 f2, .int .i64 f3, .int .i64 f4, .int .i64 o1, .int .i64 o2, .int .i64 o3, .int .i64 o4]) rfl rfl (by kernel_rfl) rfl H3.out ?_; intro w6 hn hg; have H6_1 := hide (heap_grown hg H6.out (by simp <;> omega)); have H3_1 := hide hn; have LE_1 := hide (Le.mk (below_row HL2.out.out hg (by omega) HL2.out.size)); clear kc1 kc2 kc3 H4 H6 H3 HL2 hn hg) | (refine wpl_store_1 rfl 2 (.tmp 26) (.tmp 25) rfl [.bool true, .int .i64 x] (v := .int .i64 x) (old := .int .i64 s2) (post := [.int .i64 f1, .int .i64 f2, .int .i64 f3, .int .i64 f4, .int .i64 o1, .int .i64 o2, .int .i64 o3, .int .i64 o4]) rfl rfl (by kernel_rfl) rfl H3_1.out ?_; intro w7 hn hg; have H6_2 := hide (heap_grown hg H6_1.out (by simp <;> omega)); have H3_2 := hide hn; have LE_2 := hide (Le.mk (below_row LE_1.out.out hg (by omega) LE_1.out.size)); clear H6_1 H3_1 LE_1 hn hg; have kc4 := box_cell H3_2.out 3 (.int .i64 f1) rfl w7 (Le.refl _)))
  refine (HQ.out _).mono ?_
  rintro e w7b ⟨rfl, rfl⟩
  go_wp2_with (first | (refine wpl_store_1 rfl 2 (.tmp 33) (.tmp 31) rfl [.bool true, .int .i64 x, .int .i64 x] (v := .int .i64 q1) (old := .int .i64 f1) (post := [.int .i64 f2, .int .i64 f3, .int .i64 f4, .int .i64 o1, .int .i64 o2, .int .i64 o3, .int .i64 o4]) rfl rfl (by kernel_rfl) rfl H3_2.out ?_; intro w8 hn hg; have H6_3 := hide (heap_grown hg H6_2.out (by simp <;> omega)); have H3_3 := hide hn; have LE_3 := hide (Le.mk (below_row LE_2.out.out hg (by omega) LE_2.out.size)); clear kc4 H6_2 H3_2 LE_2 hn hg; have kc5 := box_cell H3_3.out 5 (.int .i64 f3) rfl w8 (Le.refl _)))
  refine (HP.out _).mono ?_
  rintro e w8b ⟨rfl, rfl⟩
  go_wp2_with (first | (refine wpl_store_1 rfl 2 (.tmp 41) (.tmp 39) rfl [.bool true, .int .i64 x, .int .i64 x, .int .i64 q1, .int .i64 f2] (v := .int .i64 q3) (old := .int .i64 f3) (post := [.int .i64 f4, .int .i64 o1, .int .i64 o2, .int .i64 o3, .int .i64 o4]) rfl rfl (by kernel_rfl) rfl H3_3.out ?_; intro w9 hn hg; have H6_4 := hide (heap_grown hg H6_3.out (by simp <;> omega)); have H3_4 := hide hn; have LE_4 := hide (Le.mk (below_row LE_3.out.out hg (by omega) LE_3.out.size)); clear kc5 H6_3 H3_3 LE_3 hn hg) | (refine wpl_load_blk rfl 33 (.tmp 3) rfl (cs := [.bool true, .int .i64 x, .int .i64 x, .int .i64 q1, .int .i64 f2, .int .i64 q3, .int .i64 f4, .int .i64 o1, .int .i64 o2, .int .i64 o3, .int .i64 o4]) _ rfl Try.underlying33 rfl (by kernel_rfl) H3_4.out ?_) | (refine wpl_store_blk rfl 33 (.tmp 6) (.tmp 42) (cs := [.bool true, .int .i64 x, .int .i64 x, .int .i64 q1, .int .i64 f2, .int .i64 q3, .int .i64 f4, .int .i64 o1, .int .i64 o2, .int .i64 o3, .int .i64 o4]) rfl rfl rfl (by kernel_rfl) (by simp [Value.oneCell']) H6_4.out rfl ?_; intro w10 hn hg; have H6_5 := hide hn; have LE_5 := hide (Le.mk (below_row LE_4.out.out hg (by omega) LE_4.out.size)); clear H3_4 H6_4 LE_4 hn hg))
  refine ret_c Try.results30 (InCell.mk' rfl H6_5.out Try.underlying33 rfl (by kernel_rfl)) ?_
  rw [HRR.out]
  exact ⟨rfl, LE_5.out.out⟩

set_option maxRecDepth 100000 in
set_option maxHeartbeats 4000000 in
theorem r13drop_off_false (x s1 s2 : Int) (f1 f2 f3 f4 o1 o2 o3 o4 i1 i2 i3 i4 q1 q3 : Nat)  (w : World)
    (HX : Hd (∀ W, Calls Try.prog 62 #[.int .i64 s1, .int .i64 i1, .int .i64 65536] W (fun e w' => e = .returned (.int .i64 x) ∧ W = w')))
    (HQ : Hd (∀ W, Calls Try.prog 63 #[.int .i64 ((f1 : Int) + 1), .int .i64 65536] W (fun e w' => e = .returned (.int .i64 q1) ∧ W = w')))
    (HP : Hd (∀ W, Calls Try.prog 63 #[.int .i64 ((f3 : Int) + 1), .int .i64 65536] W (fun e w' => e = .returned (.int .i64 q3) ∧ W = w')))
    (hw1 : IntKind.i64.wrap ((f1 : Int) + 1) = (f1 : Int) + 1) (hw3 : IntKind.i64.wrap ((f3 : Int) + 1) = (f3 : Int) + 1) :
    Calls Try.prog 30 #[.agg #[.bool false, .int .i64 s1, .int .i64 s2, .int .i64 f1, .int .i64 f2, .int .i64 f3, .int .i64 f4, .int .i64 o1, .int .i64 o2, .int .i64 o3, .int .i64 o4], .agg #[.int .i64 i1, .int .i64 i2, .int .i64 i3, .int .i64 i4], .bool false] w (Gives w (.agg #[.bool false, .int .i64 s1, .int .i64 s2, .int .i64 f1, .int .i64 f2, .int .i64 f3, .int .i64 f4, .int .i64 o1, .int .i64 o2, .int .i64 o3, .int .i64 o4])) := by
  obtain ⟨R, hR⟩ : ∃ R : Value, R = .agg #[.bool false, .int .i64 s1, .int .i64 s2, .int .i64 f1, .int .i64 f2, .int .i64 f3, .int .i64 f4, .int .i64 o1, .int .i64 o2, .int .i64 o3, .int .i64 o4] := ⟨_, rfl⟩
  have HRR := hide hR
  rw [show Gives w (.agg #[.bool false, .int .i64 s1, .int .i64 s2, .int .i64 f1, .int .i64 f2, .int .i64 f3, .int .i64 f4, .int .i64 o1, .int .i64 o2, .int .i64 o3, .int .i64 o4]) = Gives w R by rw [hR]]
  clear hR
  obtain ⟨w4, hw4⟩ : ∃ w4, w4 = ((w.alloc (.cells #[.bool false, .int .i64 s1, .int .i64 s2, .int .i64 f1, .int .i64 f2, .int .i64 f3, .int .i64 f4, .int .i64 o1, .int .i64 o2, .int .i64 o3, .int .i64 o4] 33)).alloc (.cells #[.int .i64 i1, .int .i64 i2, .int .i64 i3, .int .i64 i4] 31)).alloc (.cells #[.bool false, .int .i64 0, .int .i64 0, .int .i64 0, .int .i64 0, .int .i64 0, .int .i64 0, .int .i64 0, .int .i64 0, .int .i64 0, .int .i64 0] 33) := ⟨_, rfl⟩
  have hl : Le w (w4) := by rw [hw4]; exact ((Le.refl w).alloc _).alloc _ |>.alloc _
  have h3 : (w4).heap[w.heap.size]? = some (.cells #[.bool false, .int .i64 s1, .int .i64 s2, .int .i64 f1, .int .i64 f2, .int .i64 f3, .int .i64 f4, .int .i64 o1, .int .i64 o2, .int .i64 o3, .int .i64 o4] 33 (0, 0)) := by rw [hw4]; exact heap_alloc (heap_alloc (heap_alloc_new w _))
  have h4 : (w4).heap[w.heap.size + 1]? = some (.cells #[.int .i64 i1, .int .i64 i2, .int .i64 i3, .int .i64 i4] 31 (0, 0)) := by rw [hw4]; exact heap_alloc (heap_at (by simp))
  have h6 : (w4).heap[w.heap.size + 1 + 1]? = some (.cells #[.bool false, .int .i64 0, .int .i64 0, .int .i64 0, .int .i64 0, .int .i64 0, .int .i64 0, .int .i64 0, .int .i64 0, .int .i64 0, .int .i64 0] 33 (0, 0)) := by rw [hw4]; exact heap_at (by simp)
  have HLE := hide hl.out
  have H3 := hide h3
  have H4 := hide h4
  have H6 := hide h6
  clear hl h3 h4 h6
  go_enter Try.func30, Try.ntmps30
  go_upto_region 1 with fail
  rw [← hw4]
  clear hw4
  have HL2 := hide (Le.mk HLE.out)
  have kc1 := box_cell H3.out 1 (.int .i64 s1) rfl w4 (Le.refl _)
  have kc2 := box_cell H4.out 0 (.int .i64 i1) rfl w4 (Le.refl _)
  have kc3 := box_cell H3.out 0 (.bool false) rfl w4 (Le.refl _)
  go_wp2_with fail
  refine (HX.out _).mono ?_
  rintro e w5 ⟨rfl, rfl⟩
  go_wp2_with (first | (refine wpl_load_blk rfl 33 (.tmp 3) rfl (cs := [.bool false, .int .i64 s1, .int .i64 s2, .int .i64 f1, .int .i64 f2, .int .i64 f3, .int .i64 f4, .int .i64 o1, .int .i64 o2, .int .i64 o3, .int .i64 o4]) _ rfl Try.underlying33 rfl (by kernel_rfl) H3.out ?_) | (refine wpl_store_blk rfl 33 (.tmp 6) (.tmp 22) (cs := [.bool false, .int .i64 s1, .int .i64 s2, .int .i64 f1, .int .i64 f2, .int .i64 f3, .int .i64 f4, .int .i64 o1, .int .i64 o2, .int .i64 o3, .int .i64 o4]) rfl rfl rfl (by kernel_rfl) (by simp [Value.oneCell']) H6.out rfl ?_; intro w6 hn hg; have H6_1 := hide hn; have LE_1 := hide (Le.mk (below_row HL2.out.out hg (by omega) HL2.out.size)); clear kc1 kc2 kc3 H3 H4 H6 HL2 hn hg))
  refine ret_c Try.results30 (InCell.mk' rfl H6_1.out Try.underlying33 rfl (by kernel_rfl)) ?_
  rw [HRR.out]
  exact ⟨rfl, LE_1.out.out⟩

set_option maxRecDepth 100000 in
set_option maxHeartbeats 4000000 in
theorem r13drop_no_false (x s1 s2 : Int) (f1 f2 f3 f4 o1 o2 o3 o4 i1 i2 i3 i4 q1 q3 : Nat) (hx : x ≤ s1) (w : World)
    (HX : Hd (∀ W, Calls Try.prog 62 #[.int .i64 s1, .int .i64 i1, .int .i64 65536] W (fun e w' => e = .returned (.int .i64 x) ∧ W = w')))
    (HQ : Hd (∀ W, Calls Try.prog 63 #[.int .i64 ((f1 : Int) + 1), .int .i64 65536] W (fun e w' => e = .returned (.int .i64 q1) ∧ W = w')))
    (HP : Hd (∀ W, Calls Try.prog 63 #[.int .i64 ((f3 : Int) + 1), .int .i64 65536] W (fun e w' => e = .returned (.int .i64 q3) ∧ W = w')))
    (hw1 : IntKind.i64.wrap ((f1 : Int) + 1) = (f1 : Int) + 1) (hw3 : IntKind.i64.wrap ((f3 : Int) + 1) = (f3 : Int) + 1) :
    Calls Try.prog 30 #[.agg #[.bool true, .int .i64 s1, .int .i64 s2, .int .i64 f1, .int .i64 f2, .int .i64 f3, .int .i64 f4, .int .i64 o1, .int .i64 o2, .int .i64 o3, .int .i64 o4], .agg #[.int .i64 i1, .int .i64 i2, .int .i64 i3, .int .i64 i4], .bool false] w (Gives w (.agg #[.bool true, .int .i64 s1, .int .i64 s2, .int .i64 f1, .int .i64 f2, .int .i64 f3, .int .i64 f4, .int .i64 o1, .int .i64 o2, .int .i64 o3, .int .i64 o4])) := by
  obtain ⟨R, hR⟩ : ∃ R : Value, R = .agg #[.bool true, .int .i64 s1, .int .i64 s2, .int .i64 f1, .int .i64 f2, .int .i64 f3, .int .i64 f4, .int .i64 o1, .int .i64 o2, .int .i64 o3, .int .i64 o4] := ⟨_, rfl⟩
  have HRR := hide hR
  rw [show Gives w (.agg #[.bool true, .int .i64 s1, .int .i64 s2, .int .i64 f1, .int .i64 f2, .int .i64 f3, .int .i64 f4, .int .i64 o1, .int .i64 o2, .int .i64 o3, .int .i64 o4]) = Gives w R by rw [hR]]
  clear hR
  obtain ⟨w4, hw4⟩ : ∃ w4, w4 = ((w.alloc (.cells #[.bool true, .int .i64 s1, .int .i64 s2, .int .i64 f1, .int .i64 f2, .int .i64 f3, .int .i64 f4, .int .i64 o1, .int .i64 o2, .int .i64 o3, .int .i64 o4] 33)).alloc (.cells #[.int .i64 i1, .int .i64 i2, .int .i64 i3, .int .i64 i4] 31)).alloc (.cells #[.bool false, .int .i64 0, .int .i64 0, .int .i64 0, .int .i64 0, .int .i64 0, .int .i64 0, .int .i64 0, .int .i64 0, .int .i64 0, .int .i64 0] 33) := ⟨_, rfl⟩
  have hl : Le w (w4) := by rw [hw4]; exact ((Le.refl w).alloc _).alloc _ |>.alloc _
  have h3 : (w4).heap[w.heap.size]? = some (.cells #[.bool true, .int .i64 s1, .int .i64 s2, .int .i64 f1, .int .i64 f2, .int .i64 f3, .int .i64 f4, .int .i64 o1, .int .i64 o2, .int .i64 o3, .int .i64 o4] 33 (0, 0)) := by rw [hw4]; exact heap_alloc (heap_alloc (heap_alloc_new w _))
  have h4 : (w4).heap[w.heap.size + 1]? = some (.cells #[.int .i64 i1, .int .i64 i2, .int .i64 i3, .int .i64 i4] 31 (0, 0)) := by rw [hw4]; exact heap_alloc (heap_at (by simp))
  have h6 : (w4).heap[w.heap.size + 1 + 1]? = some (.cells #[.bool false, .int .i64 0, .int .i64 0, .int .i64 0, .int .i64 0, .int .i64 0, .int .i64 0, .int .i64 0, .int .i64 0, .int .i64 0, .int .i64 0] 33 (0, 0)) := by rw [hw4]; exact heap_at (by simp)
  have HLE := hide hl.out
  have H3 := hide h3
  have H4 := hide h4
  have H6 := hide h6
  clear hl h3 h4 h6
  go_enter Try.func30, Try.ntmps30
  go_upto_region 1 with fail
  rw [← hw4]
  clear hw4
  have HL2 := hide (Le.mk HLE.out)
  have kc1 := box_cell H3.out 1 (.int .i64 s1) rfl w4 (Le.refl _)
  have kc2 := box_cell H4.out 0 (.int .i64 i1) rfl w4 (Le.refl _)
  have kc3 := box_cell H3.out 0 (.bool true) rfl w4 (Le.refl _)
  go_wp2_with fail
  refine (HX.out _).mono ?_
  rintro e w5 ⟨rfl, rfl⟩
  go_wp2_with (first | (refine wpl_load_blk rfl 33 (.tmp 3) rfl (cs := [.bool true, .int .i64 s1, .int .i64 s2, .int .i64 f1, .int .i64 f2, .int .i64 f3, .int .i64 f4, .int .i64 o1, .int .i64 o2, .int .i64 o3, .int .i64 o4]) _ rfl Try.underlying33 rfl (by kernel_rfl) H3.out ?_) | (refine wpl_store_blk rfl 33 (.tmp 6) (.tmp 22) (cs := [.bool true, .int .i64 s1, .int .i64 s2, .int .i64 f1, .int .i64 f2, .int .i64 f3, .int .i64 f4, .int .i64 o1, .int .i64 o2, .int .i64 o3, .int .i64 o4]) rfl rfl rfl (by kernel_rfl) (by simp [Value.oneCell']) H6.out rfl ?_; intro w6 hn hg; have H6_1 := hide hn; have LE_1 := hide (Le.mk (below_row HL2.out.out hg (by omega) HL2.out.size)); clear kc1 kc2 kc3 H3 H4 H6 HL2 hn hg))
  refine ret_c Try.results30 (InCell.mk' rfl H6_1.out Try.underlying33 rfl (by kernel_rfl)) ?_
  rw [HRR.out]
  exact ⟨rfl, LE_1.out.out⟩

set_option maxRecDepth 100000 in
set_option maxHeartbeats 4000000 in
theorem r13drop_yes_false (x s1 s2 : Int) (f1 f2 f3 f4 o1 o2 o3 o4 i1 i2 i3 i4 q1 q3 : Nat) (hx : ¬ x ≤ s1) (w : World)
    (HX : Hd (∀ W, Calls Try.prog 62 #[.int .i64 s1, .int .i64 i1, .int .i64 65536] W (fun e w' => e = .returned (.int .i64 x) ∧ W = w')))
    (HQ : Hd (∀ W, Calls Try.prog 63 #[.int .i64 ((f1 : Int) + 1), .int .i64 65536] W (fun e w' => e = .returned (.int .i64 q1) ∧ W = w')))
    (HP : Hd (∀ W, Calls Try.prog 63 #[.int .i64 ((f3 : Int) + 1), .int .i64 65536] W (fun e w' => e = .returned (.int .i64 q3) ∧ W = w')))
    (hw1 : IntKind.i64.wrap ((f1 : Int) + 1) = (f1 : Int) + 1) (hw3 : IntKind.i64.wrap ((f3 : Int) + 1) = (f3 : Int) + 1) :
    Calls Try.prog 30 #[.agg #[.bool true, .int .i64 s1, .int .i64 s2, .int .i64 f1, .int .i64 f2, .int .i64 f3, .int .i64 f4, .int .i64 o1, .int .i64 o2, .int .i64 o3, .int .i64 o4], .agg #[.int .i64 i1, .int .i64 i2, .int .i64 i3, .int .i64 i4], .bool false] w (Gives w (.agg #[.bool true, .int .i64 x, .int .i64 x, .int .i64 q1, .int .i64 f2, .int .i64 f3, .int .i64 f4, .int .i64 o1, .int .i64 o2, .int .i64 o3, .int .i64 o4])) := by
  obtain ⟨R, hR⟩ : ∃ R : Value, R = .agg #[.bool true, .int .i64 x, .int .i64 x, .int .i64 q1, .int .i64 f2, .int .i64 f3, .int .i64 f4, .int .i64 o1, .int .i64 o2, .int .i64 o3, .int .i64 o4] := ⟨_, rfl⟩
  have HRR := hide hR
  rw [show Gives w (.agg #[.bool true, .int .i64 x, .int .i64 x, .int .i64 q1, .int .i64 f2, .int .i64 f3, .int .i64 f4, .int .i64 o1, .int .i64 o2, .int .i64 o3, .int .i64 o4]) = Gives w R by rw [hR]]
  clear hR
  obtain ⟨w4, hw4⟩ : ∃ w4, w4 = ((w.alloc (.cells #[.bool true, .int .i64 s1, .int .i64 s2, .int .i64 f1, .int .i64 f2, .int .i64 f3, .int .i64 f4, .int .i64 o1, .int .i64 o2, .int .i64 o3, .int .i64 o4] 33)).alloc (.cells #[.int .i64 i1, .int .i64 i2, .int .i64 i3, .int .i64 i4] 31)).alloc (.cells #[.bool false, .int .i64 0, .int .i64 0, .int .i64 0, .int .i64 0, .int .i64 0, .int .i64 0, .int .i64 0, .int .i64 0, .int .i64 0, .int .i64 0] 33) := ⟨_, rfl⟩
  have hl : Le w (w4) := by rw [hw4]; exact ((Le.refl w).alloc _).alloc _ |>.alloc _
  have h3 : (w4).heap[w.heap.size]? = some (.cells #[.bool true, .int .i64 s1, .int .i64 s2, .int .i64 f1, .int .i64 f2, .int .i64 f3, .int .i64 f4, .int .i64 o1, .int .i64 o2, .int .i64 o3, .int .i64 o4] 33 (0, 0)) := by rw [hw4]; exact heap_alloc (heap_alloc (heap_alloc_new w _))
  have h4 : (w4).heap[w.heap.size + 1]? = some (.cells #[.int .i64 i1, .int .i64 i2, .int .i64 i3, .int .i64 i4] 31 (0, 0)) := by rw [hw4]; exact heap_alloc (heap_at (by simp))
  have h6 : (w4).heap[w.heap.size + 1 + 1]? = some (.cells #[.bool false, .int .i64 0, .int .i64 0, .int .i64 0, .int .i64 0, .int .i64 0, .int .i64 0, .int .i64 0, .int .i64 0, .int .i64 0, .int .i64 0] 33 (0, 0)) := by rw [hw4]; exact heap_at (by simp)
  have HLE := hide hl.out
  have H3 := hide h3
  have H4 := hide h4
  have H6 := hide h6
  clear hl h3 h4 h6
  go_enter Try.func30, Try.ntmps30
  go_upto_region 1 with fail
  rw [← hw4]
  clear hw4
  have HL2 := hide (Le.mk HLE.out)
  have kc1 := box_cell H3.out 1 (.int .i64 s1) rfl w4 (Le.refl _)
  have kc2 := box_cell H4.out 0 (.int .i64 i1) rfl w4 (Le.refl _)
  have kc3 := box_cell H3.out 0 (.bool true) rfl w4 (Le.refl _)
  go_wp2_with fail
  refine (HX.out _).mono ?_
  rintro e w5 ⟨rfl, rfl⟩
  go_wp2_with (first | (refine wpl_store_1 rfl 2 (.tmp 24) (.tmp 23) rfl [.bool true] (v := .int .i64 x) (old := .int .i64 s1) (post := [.int .i64 s2, .int .i64 f1, .int .i64 f2, .int .i64 f3, .int .i64 f4, .int .i64 o1, .int .i64 o2, .int .i64 o3, .int .i64 o4]) rfl rfl (by kernel_rfl) rfl H3.out ?_; intro w6 hn hg; have H6_1 := hide (heap_grown hg H6.out (by simp <;> omega)); have H3_1 := hide hn; have LE_1 := hide (Le.mk (below_row HL2.out.out hg (by omega) HL2.out.size)); clear kc1 kc2 kc3 H4 H6 H3 HL2 hn hg) | (refine wpl_store_1 rfl 2 (.tmp 26) (.tmp 25) rfl [.bool true, .int .i64 x] (v := .int .i64 x) (old := .int .i64 s2) (post := [.int .i64 f1, .int .i64 f2, .int .i64 f3, .int .i64 f4, .int .i64 o1, .int .i64 o2, .int .i64 o3, .int .i64 o4]) rfl rfl (by kernel_rfl) rfl H3_1.out ?_; intro w7 hn hg; have H6_2 := hide (heap_grown hg H6_1.out (by simp <;> omega)); have H3_2 := hide hn; have LE_2 := hide (Le.mk (below_row LE_1.out.out hg (by omega) LE_1.out.size)); clear H6_1 H3_1 LE_1 hn hg; have kc4 := box_cell H3_2.out 3 (.int .i64 f1) rfl w7 (Le.refl _)))
  refine (HQ.out _).mono ?_
  rintro e w7b ⟨rfl, rfl⟩
  go_wp2_with (first | (refine wpl_store_1 rfl 2 (.tmp 33) (.tmp 31) rfl [.bool true, .int .i64 x, .int .i64 x] (v := .int .i64 q1) (old := .int .i64 f1) (post := [.int .i64 f2, .int .i64 f3, .int .i64 f4, .int .i64 o1, .int .i64 o2, .int .i64 o3, .int .i64 o4]) rfl rfl (by kernel_rfl) rfl H3_2.out ?_; intro w8 hn hg; have H6_3 := hide (heap_grown hg H6_2.out (by simp <;> omega)); have H3_3 := hide hn; have LE_3 := hide (Le.mk (below_row LE_2.out.out hg (by omega) LE_2.out.size)); clear kc4 H6_2 H3_2 LE_2 hn hg) | (refine wpl_load_blk rfl 33 (.tmp 3) rfl (cs := [.bool true, .int .i64 x, .int .i64 x, .int .i64 q1, .int .i64 f2, .int .i64 f3, .int .i64 f4, .int .i64 o1, .int .i64 o2, .int .i64 o3, .int .i64 o4]) _ rfl Try.underlying33 rfl (by kernel_rfl) H3_3.out ?_) | (refine wpl_store_blk rfl 33 (.tmp 6) (.tmp 42) (cs := [.bool true, .int .i64 x, .int .i64 x, .int .i64 q1, .int .i64 f2, .int .i64 f3, .int .i64 f4, .int .i64 o1, .int .i64 o2, .int .i64 o3, .int .i64 o4]) rfl rfl rfl (by kernel_rfl) (by simp [Value.oneCell']) H6_3.out rfl ?_; intro w10 hn hg; have H6_4 := hide hn; have LE_4 := hide (Le.mk (below_row LE_3.out.out hg (by omega) LE_3.out.size)); clear H3_3 H6_3 LE_3 hn hg))
  refine ret_c Try.results30 (InCell.mk' rfl H6_4.out Try.underlying33 rfl (by kernel_rfl)) ?_
  rw [HRR.out]
  exact ⟨rfl, LE_4.out.out⟩

theorem r13drop_any (s : Ms) (hs : s.Ok) (i : Nm) (hi : i.seq < 65536) (b : Bool) (w : World) : Calls Try.prog 30 #[s.rv, i.rv, .bool b] w (Gives w (s.drop i b).rv) := by
  have hx := fun W => rnear_any s.high i.seq hi hs.high.1 hs.high.2 W
  have h1 := hs.off.seq
  have h3 := hs.off.pic
  have hq := fun W => rrest_65536 ((s.off.seq : Int) + 1) (by omega) (by omega) W
  have hp := fun W => rrest_65536 ((s.off.pic : Int) + 1) (by omega) (by omega) W
  rw [show ((s.off.seq : Int) + 1) % 65536 = (((s.off.seq + 1) % 65536 : Nat) : Int) by omega] at hq
  rw [show ((s.off.pic : Int) + 1) % 65536 = (((s.off.pic + 1) % 65536 : Nat) : Int) by omega] at hp
  have w1 : IntKind.i64.wrap ((s.off.seq : Int) + 1) = (s.off.seq : Int) + 1 := IntWalk.i64_in _ (by omega)
  have w3 : IntKind.i64.wrap ((s.off.pic : Int) + 1) = (s.off.pic : Int) + 1 := IntWalk.i64_in _ (by omega)
  unfold Ms.drop
  dsimp only
  generalize near16 s.high i.seq = x at *
  generalize (s.off.seq + 1) % 65536 = q1 at *
  generalize (s.off.pic + 1) % 65536 = q3 at *
  obtain ⟨on, s1, s2, ⟨f1, f2, f3, f4⟩, ⟨o1, o2, o3, o4⟩⟩ := s
  obtain ⟨i1, i2, i3, i4⟩ := i
  dsimp only at hx hq hp w1 w3 ⊢
  clear hs hi h1 h3
  cases on
  · rw [if_pos (.inl rfl)]
    cases b
    · exact r13drop_off_false x s1 s2 f1 f2 f3 f4 o1 o2 o3 o4 i1 i2 i3 i4 q1 q3 w (hide hx) (hide hq) (hide hp) w1 w3
    · exact r13drop_off_true x s1 s2 f1 f2 f3 f4 o1 o2 o3 o4 i1 i2 i3 i4 q1 q3 w (hide hx) (hide hq) (hide hp) w1 w3
  · by_cases h1 : x ≤ s1
    · rw [if_pos (.inr h1)]
      cases b
      · exact r13drop_no_false x s1 s2 f1 f2 f3 f4 o1 o2 o3 o4 i1 i2 i3 i4 q1 q3 h1 w (hide hx) (hide hq) (hide hp) w1 w3
      · exact r13drop_no_true x s1 s2 f1 f2 f3 f4 o1 o2 o3 o4 i1 i2 i3 i4 q1 q3 h1 w (hide hx) (hide hq) (hide hp) w1 w3
    · rw [if_neg (by simp [h1])]
      cases b
      · exact r13drop_yes_false x s1 s2 f1 f2 f3 f4 o1 o2 o3 o4 i1 i2 i3 i4 q1 q3 h1 w (hide hx) (hide hq) (hide hp) w1 w3
      · exact r13drop_yes_true x s1 s2 f1 f2 f3 f4 o1 o2 o3 o4 i1 i2 i3 i4 q1 q3 h1 w (hide hx) (hide hq) (hide hp) w1 w3
end Go.Proofs.Ytekioihjfggmdaa
