/- The reference of layer 1, function by function. -/
import Derived.Test.YtlfomilalkkbeaaOct
namespace Go.Proofs.Ytlfomilalkkbeaa
open Go.RowKit
set_option linter.unusedVariables false

/-- a value comes back, old blocks stay -/
def Gives (w : World) (v : Value) (r : Ending) (w' : World) : Prop := r = .returned v ∧ Below w.heap.size w w'

set_option maxHeartbeats 1000000 in
theorem rnum_any (x : Nat) (n : Int) (w : World) (hx : (x : Int) < 18446744073709551616) :
    Calls Try.prog 16 #[.int .u64 x, .int .i64 n] w (Gives w (.string (str (putOne (x, n))))) := by
  have HX := hide hx
  by_cases h1 : n < 1
  · have HP := hide (show putOne (x, n) = [] by simp [putOne, mayB]; omega)
    go_enter Try.func16, Try.ntmps16
    go_wp2
    go_ret
    exact ⟨by rw [HP.out]; rfl, Below.refl _ _⟩
  · by_cases h8 : 8 < n
    · have HP := hide (show putOne (x, n) = [] by simp [putOne, mayB]; omega)
      go_enter Try.func16, Try.ntmps16
      go_wp2
      go_ret
      exact ⟨by rw [HP.out]; rfl, Below.refl _ _⟩
    · obtain ⟨m, rfl⟩ := Int.eq_ofNat_of_zero_le (show 0 ≤ n by omega)
      have HP := hide (show putOne (x, (m : Int)) = be x m by simp [putOne, mayB]; omega)
      clear hx
      go_enter Try.func16, Try.ntmps16
      go_wp2
      go_loopw [0, 5, 6] (fun y s j wr => ∃ i : Nat, i ≤ m ∧ j = .int .i64 i ∧ s = .string (str (be x i)) ∧ y = .int .u64 ((x / 2 ^ (8 * i) : Nat) : Int) ∧ Below w.heap.size w wr) (fun _ _ j _ => m - (intOf j).toNat)
      case atStart => exact ⟨0, Nat.zero_le _, rfl, rfl, by simp, Below.refl _ _⟩
      case round =>
        obtain ⟨i, hi, rfl, rfl, rfl, hb⟩ := hrel
        have HS := hide (be_succ x i)
        have HD := hide (div_step x i)
        have hbl : (be x i).length ≤ 8 := by rw [be_length]; omega
        have hy : ((x / 2 ^ (8 * i) : Nat) : Int) < 18446744073709551616 := by
          have := Nat.div_le_self x (2 ^ (8 * i)); have := HX.out; omega
        obtain ⟨s, hs⟩ : ∃ s, be x i = s := ⟨_, rfl⟩
        rw [hs] at HS hbl ⊢
        have HSI := hide hs; clear hs
        generalize x / 2 ^ (8 * i) = y at HD hy HS ⊢
        by_cases hlt : i < m
        · have hc := conv_one (P := Try.prog) wr 24 9 5 5 ((y : Int) % 256) Try.underlying24 Try.underlying5 Try.underlying9 (by omega) (by omega)
          go_wp2
          go_roundw
          case rel => exact ⟨i + 1, by omega, by go_num, by rw [HS.out], by rw [← HD.out]; go_num, hb.alloc hb.size _⟩
          case measure => simp [intOf]; omega
        · have hie : i = m := by omega
          have HI := hide hie; clear hie
          go_wp2
          go_ret
          refine ⟨?_, hb⟩
          rw [HP.out, ← HI.out, HSI.out]
          rfl

/-- the pair that the reference gives -/
def cutV (c : List UInt8 × Int × List UInt8) : Value := .tuple #[.agg #[.string (str c.1), .int .i64 c.2.1], .string (str c.2.2)]

set_option maxHeartbeats 1000000 in
theorem some_any (l : List UInt8) (e n : Int) (is : Bool) (w : World) (hl : l.length ≤ 2147483648) (hn : is = true → 0 ≤ n) :
    Calls Try.prog 36 #[.agg #[.string (str l), .int .i64 e], .int .i64 n, .bool is] w (Gives w (cutV (cut l e n is))) := by
  by_cases he : e = 0
  · subst he
    cases is with
    | false =>
      have HC := hide (show cut l 0 n false = (l, 1, []) by simp [cut])
      go_enter Try.func36, Try.ntmps36
      go_wp2
      refine bodyPost_ret (v := .tuple #[.agg #[.string (str l), .int .i64 1], .string (str [])]) (by simp [results, Try.results36, go_sem]; rfl) rfl ⟨by rw [HC.out]; rfl, ?_⟩
      exact ((Below.refl _ _).alloc (Nat.le_refl _) _).alloc (by simp) _
    | true =>
      obtain ⟨k, rfl⟩ := Int.eq_ofNat_of_zero_le (hn rfl)
      clear hn
      by_cases hk : l.length < k
      · have HC := hide (show cut l 0 k true = (l, 10, []) by simp [cut]; omega)
        go_enter Try.func36, Try.ntmps36
        go_wp2
        refine bodyPost_ret (v := .tuple #[.agg #[.string (str l), .int .i64 10], .string (str [])]) (by simp [results, Try.results36, go_sem]; rfl) rfl ⟨by rw [HC.out]; rfl, ?_⟩
        exact ((Below.refl _ _).alloc (Nat.le_refl _) _).alloc (by simp) _
      · have HC := hide (show cut l 0 k true = (l.drop k, 0, l.take k) by simp [cut]; omega)
        go_enter Try.func36, Try.ntmps36
        go_wp2
        refine bodyPost_ret (v := .tuple #[.agg #[.string (str (l.drop k)), .int .i64 0], .string (str (l.take k))]) (by simp [results, Try.results36, go_sem]) rfl ⟨by rw [HC.out]; rfl, ?_⟩
        exact ((Below.refl _ _).alloc (Nat.le_refl _) _).alloc (by simp) _
  · have HC := hide (show cut l e n is = (l, e, []) by simp [cut, he])
    have hne : (e != 0) = true := by simpa using he
    have Hhe := hide he; clear he hn
    go_enter Try.func36, Try.ntmps36
    go_wp2
    refine bodyPost_ret (v := .tuple #[.agg #[.string (str l), .int .i64 e], .string (str [])]) (by simp [results, Try.results36, go_sem]; rfl) rfl ⟨by rw [HC.out]; rfl, ?_⟩
    exact ((Below.refl _ _).alloc (Nat.le_refl _) _).alloc (by simp) _

set_option maxHeartbeats 1000000 in
theorem rbytes_any (l : List UInt8) (e n : Int) (w : World) (hl : l.length ≤ 2147483648) :
    Calls Try.prog 19 #[.agg #[.string (str l), .int .i64 e], .int .i64 n] w (Gives w (cutV (cut l e n (decide (0 ≤ n))))) := by
  have HT := hide (fun w => some_any l e n (decide (0 ≤ n)) w hl (by simp))
  generalize cut l e n (decide (0 ≤ n)) = c at *
  obtain ⟨l', e', o⟩ := c
  go_enter Try.func19, Try.ntmps19
  go_wp2_with fail
  refine (HT.out _).mono ?_
  rintro r w1 ⟨hr, hb⟩
  obtain rfl : r = .returned (.tuple #[.agg #[.string (str l'), .int .i64 e'], .string (str o)]) := hr
  clear HT
  obtain ⟨hc, hf⟩ := bcell hb
  have hz : w.heap.size + 1 < w1.heap.size := by have := hb.size; simp at this; omega
  go_wp2
  refine bodyPost_ret (v := .tuple #[.agg #[.string (str l'), .int .i64 e'], .string (str o)]) (by simp [results, Try.results19, go_sem, hc]) rfl ⟨rfl, ?_⟩
  exact (((((Below.refl _ _).alloc (Nat.le_refl _) _).alloc (by simp) _).trans (hb.mono (by simp; omega))).setCell (by simp) _).setCell (by simp) _

/-- a number taken, as the reference gives it -/
def numV (c : List UInt8 × Int × List UInt8) : Value := .tuple #[.agg #[.string (str c.1), .int .i64 c.2.1], .int .u64 (val c.2.2)]

theorem mayB_and (n : Int) : mayB n = (decide (1 ≤ n) && decide (n ≤ 8)) := rfl

set_option maxHeartbeats 1000000 in
theorem rtake_any (l : List UInt8) (e n : Int) (w : World) (hl : l.length ≤ 2147483648) :
    Calls Try.prog 21 #[.agg #[.string (str l), .int .i64 e], .int .i64 n] w (Gives w (numV (cut l e n (mayB n)))) := by
  have hlen := cut_length l e n
  have hm0 : n < 1 → mayB n = false := fun h => by simp [mayB]; omega
  have hm1 : 1 ≤ n → mayB n = decide (n ≤ 8) := fun h => by simp [mayB, h]
  by_cases h1 : 1 ≤ n
  all_goals
    have HT := hide (fun w => some_any l e n (mayB n) w hl (by simp [mayB]; omega))
    first | rw [hm1 h1] at HT hlen ⊢ | rw [hm0 (by omega)] at HT hlen ⊢
    clear hm0 hm1
    generalize cut l e n _ = c at *
    obtain ⟨l', e', o⟩ := c
    go_enter Try.func21, Try.ntmps21
    go_wp2_with fail
    refine (HT.out _).mono ?_
    rintro r w1 ⟨hr, hb⟩
    obtain rfl : r = .returned (.tuple #[.agg #[.string (str l'), .int .i64 e'], .string (str o)]) := hr
    clear HT
    obtain ⟨hc, hf⟩ := bcell hb
    have hz : w.heap.size + 1 < w1.heap.size := by have := hb.size; simp at this; omega
    have hB0 : w1.heap[w.heap.size]? = some (.cells #[Value.string (str l), Value.int IntKind.i64 e] 38 (0, 0)) := heap_below hb (heap_alloc (heap_alloc_new w _)) (by simp; omega)
    have hB1 : w1.heap[w.heap.size + 1]? = some (.cells #[Value.string { data := #[] }, Value.int IntKind.i64 0] 38 (0, 0)) := heap_below hb (by simpa using heap_alloc_new (w.alloc _) _) (by simp)
    have hS0 := heap_set (i := 1) (Value.int IntKind.i64 e') (heap_set (i := 0) (Value.string (str l')) hB0)
    have hS1 := heap_far (p := w.heap.size) (i := 1) (Value.int IntKind.i64 e') (heap_far (p := w.heap.size) (i := 0) (Value.string (str l')) hB1 (by omega)) (by omega)
    have HB := hide (((((((Below.refl _ _).alloc (Nat.le_refl _) _).alloc (by simp) _).trans (hb.mono (by simp; omega))).setCell (p := ⟨w.heap.size, 0, none⟩) (by simp) (Value.string (str l')))).setCell (p := ⟨w.heap.size, 1, none⟩) (by simp) (Value.int IntKind.i64 e'))
    clear hB0 hB1
    go_wp2_with fail
    clear h1 hc hf
    generalize (w1.setCell ⟨w.heap.size, 0, none⟩ (Value.string (str l'))).setCell ⟨w.heap.size, 1, none⟩ (Value.int IntKind.i64 e') = w2 at *
    simp only [List.setIfInBounds_toArray, List.set_cons_zero, List.set_cons_succ] at hS0
    have c0 := cell_block hS0 0
    have c1 := cell_block hS0 1
    have d0 := cell_block hS1 0
    have d1 := cell_block hS1 1
    have f0 := free_block hS1 0
    have f1 := free_block hS1 1
    clear hS0 hS1 hb
    simp only [List.getElem?_toArray, List.getElem?_cons_zero, List.getElem?_cons_succ] at c0 c1 d0 d1
    go_loop [7, 8] (fun x j => ∃ k : Nat, k ≤ o.length ∧ j = .int .i64 k ∧ x = .int .u64 (val (o.take k))) (fun _ j => o.length - (intOf j).toNat)
    case atStart => exact ⟨0, Nat.zero_le _, rfl, rfl⟩
    case round =>
      obtain ⟨k, hk, rfl, rfl⟩ := hrel
      by_cases hlt : k < o.length
      · have hv := val_lt (o.take k)
        have hv2 : val (o.take k) < 72057594037927936 := Nat.lt_of_lt_of_le hv (Nat.le_trans (Nat.pow_le_pow_right (by omega) (show (o.take k).length ≤ 7 by simp; omega)) (by decide))
        have HS := hide (show val (o.take (k + 1)) = val (o.take k) * 256 + o[k].toNat by rw [List.take_succ_eq_append_getElem hlt, val_snoc])
        have hb8 := o[k].toNat_lt
        clear hv
        generalize val (o.take k) = x at *
        go_wp2
        go_round
        case rel => exact ⟨k + 1, by omega, by go_num, by rw [HS.out]; go_num⟩
        case measure => simp [intOf]; omega
      · have hke : k = o.length := by omega
        have HK := hide hke; clear hke
        go_wp2
        refine bodyPost_ret (v := .tuple #[.agg #[.string (str l'), .int .i64 e'], .int .u64 (val (o.take k))]) (by simp [results, Try.results21, go_sem, d0, d1]) rfl ⟨?_, ?_⟩
        · rw [HK.out, List.take_length]; rfl
        · exact (HB.out.setCell (by simp) _).setCell (by simp) _
end Go.Proofs.Ytlfomilalkkbeaa
