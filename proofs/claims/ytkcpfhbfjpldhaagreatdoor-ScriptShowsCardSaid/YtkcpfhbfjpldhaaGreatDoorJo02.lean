/- Texts of one claim, laid together: Oct -/
import Derived.Test.YtkcpfhbfjpldhaaGreatDoorJo01
/- The octet package, function by function: what each call does. -/
namespace Go.Proofs.YtkcpfhbfjpldhaaGreatDoor
open Go.RowKit
set_option linter.unusedVariables false

theorem sl8 : SlT Tryz.prog 25 5 (.int .u8 0) 1 1 := ⟨Tryz.underlying25, by kernel_rfl, rfl, by omega⟩

theorem may_any (n : Int) (w : World) : Calls Tryz.prog 71 #[.int .i64 n] w fun e w' => e = .returned (.bool (mayB n)) ∧ w = w' := by
  by_cases h1 : 1 ≤ n
  · have e : mayB n = decide (n ≤ 8) := by simp [mayB, h1]
    rw [e]; clear e
    go_enter Tryz.func71, Tryz.ntmps71
    go_wp2
    go_ret
    exact ⟨rfl, rfl⟩
  · have e : mayB n = false := by simp [mayB, h1]
    rw [e]; clear e
    go_enter Tryz.func71, Tryz.ntmps71
    go_wp2
    go_ret
    exact ⟨rfl, rfl⟩

def RPart : Rd (Nat × Int) := fun _ p cs => cs = [.int .u64 p.1, .int .i64 p.2] ∧ (p.1 : Int) < 18446744073709551616
theorem keeps_part : Keeps RPart := fun _ _ _ _ h _ => h

/-- what comes back is a row of its own, of just these bytes -/
def Owns8 (w : World) (l : List UInt8) (e : Ending) (w' : World) : Prop :=
  ∃ v, e = .returned v ∧ w'.ownsRow w.heap.size 5 1 v l.length (u8s l) ∧ Below w.heap.size w w'

set_option maxRecDepth 100000 in
set_option maxHeartbeats 1000000 in
theorem put_any (A : Option Addr) (n cap : Nat) (ps : List (Nat × Int)) (w : World) (hr : RSl 2 RPart w ps (.slice A n cap)) (hn : n ≤ 65536) :
    Calls Tryz.prog 37 #[.slice A n cap] w (Owns8 w (puts ps)) := by
  obtain ⟨A', cap', hv, hcap, hr⟩ := hr
  injection hv with e1 e2 e3
  subst e1 e2 e3
  have HR := hide hr; clear hr
  go_enter Tryz.func37, Tryz.ntmps37
  go_wp2_with fail
  go_loopw [3, 9] (fun v i wr => ∃ k : Nat, k ≤ ps.length ∧ i = .int .i64 k ∧ wr.ownsRow w.heap.size 5 1 v (puts (ps.take k)).length (u8s (puts (ps.take k))) ∧ Below w.heap.size w wr)
    (fun _ i _ => ps.length - (intOf i).toNat)
  case atStart => exact ⟨0, Nat.zero_le _, rfl, by simpa [puts, u8s] using World.ownsRow_nil w w.heap.size _ 1, Below.refl _ _⟩
  case round =>
    obtain ⟨k, hk, rfl, hown, hb⟩ := hrel
    by_cases hlt : k < ps.length
    · obtain ⟨b, off, rfl, hi⟩ := HR.out (by intro e; rw [e] at hlt; simp at hlt)
      obtain ⟨cs, _, hc, hR, hx⟩ := hi k hlt
      subst hR
      have c0 := cell_later hb (show w.cell? ⟨b, off + k * 2, none⟩ = some (.int .u64 ps[k].1) from hc 0 (by omega))
      have c1 := cell_later hb (show w.cell? ⟨b, off + k * 2 + 1, none⟩ = some (.int .i64 ps[k].2) from hc 1 (by omega))
      clear hc hi
      have HX := hide hx; clear hx
      have HT := hide (puts_take ps k hlt)
      have hll := puts_length (ps.take k)
      have htk : (ps.take k).length ≤ k := List.length_take_le _ _
      generalize puts (ps.take k) = l at *
      generalize hx : ps[k] = p at *
      obtain ⟨x, s⟩ := p
      simp only at c0 c1 HX
      clear hx
      by_cases hm : mayB s = true
      · obtain ⟨h1, h8⟩ : 1 ≤ s ∧ s ≤ 8 := by simpa [mayB] using hm
        go_wp2_with fail
        refine (may_any _ _).mono ?_
        rintro e w' ⟨rfl, rfl⟩
        have hP := heap_alloc_new wr (.cells #[Value.int IntKind.u64 ↑x, Value.int IntKind.i64 s] 81)
        have hown1 := hown.alloc (.cells #[Value.int IntKind.u64 ↑x, Value.int IntKind.i64 s] 81)
        have hb1 := hb.alloc hb.size (.cells #[Value.int IntKind.u64 ↑x, Value.int IntKind.i64 s] 81)
        go_wp2_with fail
        generalize wr.alloc (.cells #[Value.int IntKind.u64 ↑x, Value.int IntKind.i64 s] 81) = w1 at *
        generalize wr.heap.size = P at *
        obtain ⟨n, rfl⟩ := Int.eq_ofNat_of_zero_le (show 0 ≤ s by omega)
        go_loopw [3, 19] (fun v j w2 => ∃ i : Nat, i ≤ n ∧ j = .int .i64 i ∧ w2.ownsRow w.heap.size 5 1 v (l.length + i) (u8s (l ++ beTo x n i)) ∧ Below w.heap.size w w2 ∧
            w2.heap[P]? = some (.cells #[Value.int IntKind.u64 ↑x, Value.int IntKind.i64 n] 81 (0, 0)))
          (fun _ j _ => n - (intOf j).toNat)
        case atStart => exact ⟨0, Nat.zero_le _, rfl, by simpa [beTo] using hown1, hb1, hP⟩
        case round =>
          clear hown1 hb1 hP
          obtain ⟨i, hi, rfl, hown1, hb1, hP⟩ := hrel
          have d0 : wr.cell? ⟨P, 0, none⟩ = some (.int .u64 x) := by rw [cell_block hP]; rfl
          have d1 : wr.cell? ⟨P, 1, none⟩ = some (.int .i64 n) := by rw [cell_block hP]; rfl
          by_cases hin : i < n
          · go_wp2_with (first | (at_builtin; go_must (refine wpl_app rfl sl8 (.tmp 22) (.tmp 33) rfl (hown1.alloc _) rfl rfl (cells_new _ [_] _) rfl (by simp [Value.oneCell']) (by omega) (by omega) (le_alloc hb1.size) ?_); intro v' w' hown2 hg2 hat2))
            go_roundw
            case rel =>
              refine ⟨i + 1, by omega, by go_num, ?_, below_grown (hb1.alloc hb1.size _) (hown1.alloc _) hg2 (Nat.le_refl _) (le_alloc hb1.size), heap_grown hg2 (heap_alloc hP) (own_ne hown1 hP (by decide))⟩
              rw [beTo_succ, ← List.append_assoc, u8s_append, ← Nat.add_assoc]
              rw [bAt_cell] at hown2
              exact hown2
            case measure => simp [intOf]; omega
          · have hie : i = n := by omega
            subst hie
            go_wp2
            go_roundw
            case rel =>
              refine ⟨k + 1, by omega, by go_num, ?_, hb1⟩
              have e : puts (ps.take (k + 1)) = l ++ beTo x i i := by rw [HT.out]; simp [putOne, hm, be, beTo]
              rw [e]
              simpa [beTo_length] using hown1
            case measure => simp [intOf]; omega
      · have hm0 : mayB s = false := by simpa using hm
        clear hm
        go_wp2_with (go_at_call 71; refine (may_any _ _).mono ?_; rintro e w' ⟨rfl, rfl⟩)
        go_roundw
        case rel =>
          refine ⟨k + 1, by omega, by go_num, ?_, hb.alloc hb.size _⟩
          have e : puts (ps.take (k + 1)) = l := by rw [HT.out]; simp [putOne, hm0]
          rw [e]
          exact hown.alloc _
        case measure => simp [intOf]; omega
    · have hke : k = ps.length := by omega
      have HK := hide hke; clear hke
      go_wp2
      go_ret
      refine ⟨_, rfl, ?_, hb⟩
      have e : ps.take k = ps := by rw [HK.out]; exact List.take_length
      rw [e] at hown
      exact hown

/-- a Cut behind a pointer: what is left, and what went wrong -/
def CutAt (w : World) (base p : Nat) (l : List UInt8) (e : Int) : Prop :=
  base ≤ p ∧ ∃ A cap, w.heap[p]? = some (.cells #[.slice A l.length cap, .int .i64 e] 132 (0, 0)) ∧ l.length ≤ cap ∧
    (l ≠ [] → ∃ g off cur, A = some ⟨g, off, none⟩ ∧ base ≤ g ∧ w.heap[g]? = some (.cells cur 5 (0, 0)) ∧ ∀ j (h : j < l.length), cur[off + j]? = some (.int .u8 l[j].toNat))

theorem CutAt.base {w : World} {base base' p : Nat} {l : List UInt8} {e : Int} (h : CutAt w base p l e) (hb : base' ≤ base) : CutAt w base' p l e := by
  obtain ⟨h1, A, cap, hp, hc, hd⟩ := h
  refine ⟨Nat.le_trans hb h1, A, cap, hp, hc, fun hne => ?_⟩
  obtain ⟨g, off, cur, h2, h3, h4⟩ := hd hne
  exact ⟨g, off, cur, h2, Nat.le_trans hb h3, h4⟩
theorem CutAt.keep {w w' : World} {base p : Nat} {l : List UInt8} {e : Int} (h : CutAt w base p l e) {B : Nat} (hb : Below B w w') (hB : w.heap.size ≤ B) : CutAt w' base p l e := by
  obtain ⟨h1, A, cap, hp, hc, hd⟩ := h
  have hlt : ∀ {k : Nat} {o : Obj}, w.heap[k]? = some o → k < B := fun h => Nat.lt_of_lt_of_le (Array.getElem?_eq_some_iff.1 h).1 hB
  refine ⟨h1, A, cap, heap_below hb hp (hlt hp), hc, fun hne => ?_⟩
  obtain ⟨g, off, cur, h2, h3, h4, h5⟩ := hd hne
  exact ⟨g, off, cur, h2, h3, heap_below hb h4 (hlt h4), h5⟩

/-- another Cut is written, this one stays -/
theorem CutAt.other {w w' : World} {base base2 p p2 : Nat} {l l2 : List UInt8} {e e2 : Int} (h : CutAt w base p l e) (h2 : CutAt w base2 p2 l2 e2) (hne : p ≠ p2) (hg : w.grownBy w' (some p2)) : CutAt w' base p l e := by
  obtain ⟨h1, A, cap, hp, hc, hd⟩ := h
  obtain ⟨_, A2, cap2, hp2, _⟩ := h2
  refine ⟨h1, A, cap, heap_grown hg hp (by simpa using fun e => hne e.symm), hc, fun hn => ?_⟩
  obtain ⟨g, off, cur, h3, h4, h5, h6⟩ := hd hn
  refine ⟨g, off, cur, h3, h4, heap_grown hg h5 (fun e => ?_), h6⟩
  injection e with e
  rw [← e, hp2] at h5
  injection h5 with h5
  injection h5 with _ h5 _
  exact absurd h5 (by decide)
theorem CutAt.lt {w : World} {base p : Nat} {l : List UInt8} {e : Int} (h : CutAt w base p l e) : p < w.heap.size := by
  obtain ⟨_, A, cap, hp, _⟩ := h
  exact (Array.getElem?_eq_some_iff.1 hp).1

theorem err_nil (w : World) : Calls Tryz.prog 43 #[.pointer none] w fun e w' => e = .returned (.int .i64 1) ∧ w = w' := by
  go_enter Tryz.func43, Tryz.ntmps43
  go_wp2
  go_ret
  exact ⟨rfl, rfl⟩

theorem err_at (p : Nat) (e : Int) (w : World) (h : w.cell? ⟨p, 1, none⟩ = some (.int .i64 e)) : Calls Tryz.prog 43 #[.pointer (some ⟨p, 0, none⟩)] w fun r w' => r = .returned (.int .i64 e) ∧ w = w' := by
  go_enter Tryz.func43, Tryz.ntmps43
  go_wp2
  go_ret
  exact ⟨rfl, rfl⟩

theorem left_nil (w : World) : Calls Tryz.prog 40 #[.pointer none] w fun e w' => e = .returned (.int .i64 0) ∧ w = w' := by
  go_enter Tryz.func40, Tryz.ntmps40
  go_wp2
  go_ret
  exact ⟨rfl, rfl⟩

theorem left_at (p : Nat) (a : Option Addr) (n cap : Nat) (w : World) (h : w.cell? ⟨p, 0, none⟩ = some (.slice a n cap)) : Calls Tryz.prog 40 #[.pointer (some ⟨p, 0, none⟩)] w fun r w' => r = .returned (.int .i64 n) ∧ w = w' := by
  go_enter Tryz.func40, Tryz.ntmps40
  go_wp2
  go_ret
  exact ⟨rfl, rfl⟩

theorem CutAt.err {w : World} {base p : Nat} {l : List UInt8} {e : Int} (h : CutAt w base p l e) : Calls Tryz.prog 43 #[.pointer (some ⟨p, 0, none⟩)] w fun r w' => r = .returned (.int .i64 e) ∧ w = w' := by
  obtain ⟨_, A, cap, hp, _⟩ := h
  exact err_at p e w (by rw [cell_block hp]; rfl)
theorem CutAt.left {w : World} {base p : Nat} {l : List UInt8} {e : Int} (h : CutAt w base p l e) : Calls Tryz.prog 40 #[.pointer (some ⟨p, 0, none⟩)] w fun r w' => r = .returned (.int .i64 l.length) ∧ w = w' := by
  obtain ⟨_, A, cap, hp, _⟩ := h
  exact left_at p A l.length cap w (by rw [cell_block hp]; rfl)

/-- bytes that lie in a row of bytes -/
def D8 (w : World) (l : List UInt8) (v : Value) : Prop :=
  ∃ A cap, v = .slice A l.length cap ∧ l.length ≤ cap ∧ (l ≠ [] → ∃ g off cur fr, A = some ⟨g, off, none⟩ ∧ w.heap[g]? = some (.cells cur 5 fr) ∧ ∀ j (h : j < l.length), cur[off + j]? = some (.int .u8 l[j].toNat))
theorem D8.nil {w : World} : D8 w [] (.slice none 0 0) := ⟨none, 0, rfl, by simp, fun h => absurd rfl h⟩
theorem D8.rsl {w : World} {l : List UInt8} {v : Value} (h : D8 w l v) : RSl 1 RU8 w l v := by
  obtain ⟨A, cap, rfl, hc, hd⟩ := h
  refine ⟨A, cap, rfl, hc, fun hne => ?_⟩
  obtain ⟨g, off, cur, fr, rfl, hg, hj⟩ := hd hne
  refine ⟨g, off, rfl, fun i hi => ⟨[.int .u8 l[i].toNat], rfl, fun j hj' => ?_, rfl⟩⟩
  obtain rfl : j = 0 := by omega
  rw [cell_block hg]
  simpa using hj i hi
theorem D8.grown {w w' : World} {l : List UInt8} {v : Value} (h : D8 w l v) {row : Option Nat} (hg : w.grownBy w' row) (hne : ∀ g cur fr, w.heap[g]? = some (.cells cur 5 fr) → row ≠ some g) : D8 w' l v := by
  obtain ⟨A, cap, rfl, hc, hd⟩ := h
  refine ⟨A, cap, rfl, hc, fun hn => ?_⟩
  obtain ⟨g, off, cur, fr, rfl, h1, h2⟩ := hd hn
  exact ⟨g, off, cur, fr, rfl, heap_grown hg h1 (hne g cur fr h1), h2⟩
theorem D8.keep {w w' : World} {l : List UInt8} {v : Value} (h : D8 w l v) (hb : Below w.heap.size w w') : D8 w' l v := by
  obtain ⟨A, cap, rfl, hc, hd⟩ := h
  refine ⟨A, cap, rfl, hc, fun hn => ?_⟩
  obtain ⟨g, off, cur, fr, rfl, h1, h2⟩ := hd hn
  exact ⟨g, off, cur, fr, rfl, heap_below hb h1 (Array.getElem?_eq_some_iff.1 h1).1, h2⟩

/-- what taking leaves -/
def TakeP (w : World) (base p : Nat) (x : List UInt8 × Int × List UInt8) (r : Ending) (w' : World) : Prop :=
  ∃ v, r = .returned v ∧ CutAt w' base p x.1 x.2.1 ∧ D8 w' x.2.2 v ∧ w.grownBy w' (some p)

theorem grown_set {w : World} {p i : Nat} (u : Value) : w.grownBy (w.setCell ⟨p, i, none⟩ u) (some p) :=
  ⟨rfl, rfl, rfl, by simp [World.setCell], fun k _ hne => Below.heap_setCell w ⟨p, i, none⟩ u k (fun e => hne (by rw [e]))⟩
theorem heap_set {w : World} {p i : Nat} {cs : Array Value} {t : TypeId} {fr : Nat × Nat} (u : Value) (h : w.heap[p]? = some (.cells cs t fr)) : (w.setCell ⟨p, i, none⟩ u).heap[p]? = some (.cells (cs.setIfInBounds i u) t fr) := by
  simp [World.setCell, Array.getElem?_modify, h]
theorem heap_far {w : World} {g p i : Nat} {o : Obj} (u : Value) (h : w.heap[g]? = some o) (hne : g ≠ p) : (w.setCell ⟨p, i, none⟩ u).heap[g]? = some o := (Below.heap_setCell w ⟨p, i, none⟩ u g hne).trans h

theorem take_fits {w : World} {base p : Nat} {l : List UInt8} {A A' : Option Addr} {cap k : Nat} (hbp : base ≤ p) (hp : w.heap[p]? = some (.cells #[.slice A l.length cap, .int .i64 0] 132 (0, 0))) (hcap : l.length ≤ cap)
    (hdata : l ≠ [] → ∃ g off cur, A = some ⟨g, off, none⟩ ∧ base ≤ g ∧ w.heap[g]? = some (.cells cur 5 (0, 0)) ∧ ∀ j (h : j < l.length), cur[off + j]? = some (.int .u8 l[j].toNat))
    (hk : k ≤ l.length) (hA : (cap = k ∧ A' = A) ∨ A' = A.map (·.add k)) :
    TakeP w base p (cut l 0 k true) (.returned (.slice A k k)) (w.setCell ⟨p, 0, none⟩ (.slice A' (l.length - k) (cap - k))) := by
  have e : cut l 0 k true = (l.drop k, 0, l.take k) := by simp [cut]; omega
  rw [e]
  have hset := heap_set (i := 0) (.slice A' (l.length - k) (cap - k)) hp
  have hpg : ∀ {g : Nat} {cur : Array Value}, w.heap[g]? = some (.cells cur 5 (0, 0)) → g ≠ p := by
    intro g cur h3 e
    rw [e, hp] at h3
    injection h3 with h3
    injection h3 with _ h3 _
    exact absurd h3 (by decide)
  refine ⟨_, rfl, ⟨hbp, A', cap - k, by simpa using hset, by simp; omega, fun hne => ?_⟩, ⟨A, k, by simp; omega, by simp; omega, fun hne => ?_⟩, grown_set _⟩
  · have hlt : k < l.length := by
      rcases Nat.lt_or_ge k l.length with h | h
      · exact h
      · exact absurd (List.drop_eq_nil_of_le h) hne
    obtain ⟨g, off, cur, h1, h2, h3, h4⟩ := hdata (by intro e; rw [e] at hlt; simp at hlt)
    refine ⟨g, off + k, cur, ?_, h2, heap_far _ h3 (hpg h3), fun j hj => ?_⟩
    · rcases hA with ⟨hc, _⟩ | hA
      · omega
      · rw [hA, h1]; simp [addr_add]
    · simp at hj
      have := h4 (k + j) (by omega)
      rw [Nat.add_assoc, this]
      simp
  · have hne' : l ≠ [] := by rintro rfl; simp at hne
    obtain ⟨g, off, cur, h1, h2, h3, h4⟩ := hdata hne'
    refine ⟨g, off, cur, _, h1, heap_far _ h3 (hpg h3), fun j hj => ?_⟩
    have := h4 j (by simp at hj; omega)
    simpa using this

theorem take_any (w : World) (base p : Nat) (l : List UInt8) (e n : Int) (is : Bool) (h : CutAt w base p l e) (hl : l.length ≤ 2147483648) (hn : is = true → 0 ≤ n) :
    Calls Tryz.prog 72 #[.pointer (some ⟨p, 0, none⟩), .int .i64 n, .bool is] w (TakeP w base p (cut l e n is)) := by
  obtain ⟨hbp, A, cap, hp, hcap, hdata⟩ := h
  have HD := hide hdata; clear hdata
  have HP := hide hp
  have c0 : w.cell? ⟨p, 0, none⟩ = some (.slice A l.length cap) := by rw [cell_block hp]; rfl
  have c1 : w.cell? ⟨p, 1, none⟩ = some (.int .i64 e) := by rw [cell_block hp]; rfl
  have f0 : w.frozen? ⟨p, 0, none⟩ = false := free_block hp 0
  have f1 : w.frozen? ⟨p, 1, none⟩ = false := free_block hp 1
  clear hp
  have HL := fun (e' : Int) (he : cut l e n is = (l, e', [])) (W' : World) (hW : W'.heap[p]? = some (.cells #[.slice A l.length cap, .int .i64 e'] 132 (0, 0))) (hg : w.grownBy W' (some p)) =>
    (show TakeP w base p (cut l e n is) (.returned (.slice none 0 0)) W' from by
      rw [he]
      refine ⟨_, rfl, ⟨hbp, A, cap, hW, hcap, fun hne => ?_⟩, D8.nil, hg⟩
      obtain ⟨g, off, cur, h1, h2, h3, h4⟩ := HD.out hne
      refine ⟨g, off, cur, h1, h2, heap_grown hg h3 (fun e => ?_), h4⟩
      simp only [Option.some.injEq] at e
      rw [← e, HP.out] at h3
      injection h3 with h3
      injection h3 with _ h3 _
      exact absurd h3 (by decide))
  by_cases he : e = 0
  · subst he
    cases is with
    | false =>
      have HL1 := hide (HL 1 (by simp [cut])); clear HL
      go_enter Tryz.func72, Tryz.ntmps72
      go_wp2_with (go_at_call 43; refine (err_at _ _ _ c1).mono ?_; rintro e w' ⟨rfl, rfl⟩)
      go_ret
      exact HL1.out _ (heap_set (i := 1) (.int .i64 1) HP.out) (grown_set _)
    | true =>
      have hn0 := hn rfl
      clear hn
      obtain ⟨k, rfl⟩ := Int.eq_ofNat_of_zero_le hn0
      by_cases hk : l.length < k
      · have HL1 := hide (HL 10 (by simp [cut]; omega)); clear HL
        go_enter Tryz.func72, Tryz.ntmps72
        go_wp2_with (go_at_call 43; refine (err_at _ _ _ c1).mono ?_; rintro e w' ⟨rfl, rfl⟩)
        go_ret
        exact HL1.out _ (heap_set (i := 1) (.int .i64 10) HP.out) (grown_set _)
      · clear HL
        by_cases hck : cap = k
        · subst hck
          have HF := hide (take_fits (A' := A) hbp HP.out hcap HD.out (k := cap) (by omega) (.inl ⟨rfl, rfl⟩))
          go_enter Tryz.func72, Tryz.ntmps72
          go_wp2_with (go_at_call 43; refine (err_at _ _ _ c1).mono ?_; rintro e w' ⟨rfl, rfl⟩)
          go_ret
          have e0 : l.length - cap = 0 := by omega
          simpa [e0] using HF.out
        · have HF := hide (take_fits (k := k) hbp HP.out hcap HD.out (by omega) (.inr rfl))
          go_enter Tryz.func72, Tryz.ntmps72
          go_wp2_with (go_at_call 43; refine (err_at _ _ _ c1).mono ?_; rintro e w' ⟨rfl, rfl⟩)
          go_ret
          exact HF.out
  · have hne : (e != 0) = true := by simpa using he
    have HL1 := hide (HL e (by simp [cut, he])); clear HL
    have Hhe := hide he; clear he
    go_enter Tryz.func72, Tryz.ntmps72
    go_wp2_with (go_at_call 43; refine (err_at _ _ _ c1).mono ?_; rintro e w' ⟨rfl, rfl⟩)
    go_ret
    exact HL1.out _ HP.out (World.grownBy.refl _ _)

theorem bytes_any (w : World) (base p : Nat) (l : List UInt8) (e n : Int) (h : CutAt w base p l e) (hl : l.length ≤ 2147483648) :
    Calls Tryz.prog 42 #[.pointer (some ⟨p, 0, none⟩), .int .i64 n] w (TakeP w base p (cut l e n (decide (0 ≤ n)))) := by
  have HT := hide (take_any w base p l e n (decide (0 ≤ n)) h hl (by simp))
  clear h
  go_enter Tryz.func42, Tryz.ntmps42
  go_wp2_with fail
  refine HT.out.mono ?_
  rintro r w' ⟨v, rfl, h1, h2, h3⟩
  go_wp2
  go_ret
  exact ⟨v, rfl, h1, h2, h3⟩

/-- what a number's taking leaves -/
def NumP (w : World) (base p : Nat) (x : List UInt8 × Int × List UInt8) (r : Ending) (w' : World) : Prop :=
  r = .returned (.int .u64 (val x.2.2)) ∧ CutAt w' base p x.1 x.2.1 ∧ w.grownBy w' (some p)

set_option maxHeartbeats 1000000 in
theorem num_any (w : World) (base p : Nat) (l : List UInt8) (e n : Int) (h : CutAt w base p l e) (hl : l.length ≤ 2147483648) :
    Calls Tryz.prog 41 #[.pointer (some ⟨p, 0, none⟩), .int .i64 n] w (NumP w base p (cut l e n (mayB n))) := by
  have HT := hide (take_any w base p l e n (mayB n) h hl (by simp [mayB]; omega))
  clear h
  have hlen : (cut l e n (mayB n)).2.2.length ≤ 8 := by
    unfold cut
    repeat' split
    all_goals simp
    rename_i h1 h2 h3
    simp [mayB] at h2
    omega
  generalize cut l e n (mayB n) = c at *
  obtain ⟨l', e', out⟩ := c
  simp only at hlen
  go_enter Tryz.func41, Tryz.ntmps41
  go_wp2_with fail
  refine (may_any _ _).mono ?_
  rintro _ _ ⟨rfl, rfl⟩
  go_wp2_with fail
  refine HT.out.mono ?_
  rintro r w1 ⟨v, rfl, h1, h2, h3⟩
  obtain ⟨A, cap, rfl, hcap, hr⟩ := h2.rsl
  have HC := hide (show CutAt w1 base p l' e' from h1)
  have HR := hide hr
  have HG := hide h3
  clear HT h1 h2 hr h3
  simp only at hcap
  go_wp2_with fail
  go_loop [5, 14] (fun x j => ∃ k : Nat, k ≤ out.length ∧ j = .int .i64 k ∧ x = .int .u64 (val (out.take k))) (fun _ j => out.length - (intOf j).toNat)
  case atStart => exact ⟨0, Nat.zero_le _, rfl, rfl⟩
  case round =>
    obtain ⟨k, hk, rfl, rfl⟩ := hrel
    by_cases hlt : k < out.length
    · obtain ⟨b, off, rfl, hi⟩ := HR.out (by rintro rfl; simp at hlt)
      obtain ⟨cs, _, hc, hR⟩ := hi k hlt
      have c0 := hc 0 (by omega)
      rw [show cs = [.int .u8 out[k].toNat] from hR] at c0
      simp only [Nat.mul_one, Nat.add_zero, List.getElem?_cons_zero] at c0
      have hv := val_lt (out.take k)
      have hv2 : val (out.take k) < 72057594037927936 := Nat.lt_of_lt_of_le hv (Nat.le_trans (Nat.pow_le_pow_right (by omega) (show (out.take k).length ≤ 7 by simp; omega)) (by decide))
      have HS := hide (show val (out.take (k + 1)) = val (out.take k) * 256 + out[k].toNat by rw [List.take_succ_eq_append_getElem hlt, val_snoc])
      have hb := out[k].toNat_lt
      clear hc hR hi hv
      generalize val (out.take k) = x at *
      generalize out[k].toNat = y at *
      go_wp2
      go_round
      case rel => exact ⟨k + 1, by omega, by go_num, by rw [HS.out, or_bytes x y hv2 hb]⟩
      case measure => simp [intOf]; omega
    · have hke : k = out.length := by omega
      have HK := hide hke; clear hke
      go_wp2
      go_ret
      refine ⟨?_, HC.out, HG.out⟩
      have e : out.take k = out := by rw [HK.out]; exact List.take_length
      rw [e]
      rfl

theorem clone_any (w : World) (A : Option Addr) (n cap : Nat) (l : List UInt8) (hr : RSl 1 RU8 w l (.slice A n cap)) (hl : l.length ≤ 2147483648) :
    Calls Tryz.prog 53 #[.slice A n cap] w (Owns8 w l) := by
  have HC := hide (cells_of_rsl hr)
  obtain ⟨A', cap', hv, hcap, hr⟩ := hr
  injection hv with e1 e2 e3
  subst e1 e2 e3
  have hnil := fun (W : World) => Lib.run_eql_slice_nil (P := Tryz.prog) W 25 5 A l.length cap 0 0 Tryz.underlying25
  cases A with
  | none =>
    have hl0 : l = [] := by
      apply Decidable.byContradiction
      intro h
      obtain ⟨b, off, h1, _⟩ := hr h
      cases h1
    have HL := hide hl0; clear hl0 hr
    go_enter Tryz.func53, Tryz.ntmps53
    go_wp2
    go_ret
    refine ⟨_, rfl, ?_, Below.refl _ _⟩
    rw [HL.out]
    exact World.ownsRow_nil _ _ _ _
  | some ad =>
    clear hr
    have hm := fun (x : World) => World.ownsRow_made x #[] 0 (base := w.heap.size) (e := 5) (size := 1)
    have HM := hide (hm w (Nat.le_refl _) (by simp [maxLen]) rfl)
    clear hm
    go_enter Tryz.func53, Tryz.ntmps53
    go_wp2_with (first | (at_builtin; go_must (refine wpl_app rfl sl8 (.tmp 5) (.tmp 6) rfl HM.out rfl rfl (news := u8s l) (fun h => ?_) (by simp [u8s]) u8s_one (by omega) (by omega) (le_alloc (Nat.le_refl _)) ?_); rotate_right; intro v' w' hown2 hg2 hat2))
    · go_ret
      refine ⟨_, rfl, by simpa using hown2, ((Below.refl _ _).alloc (Nat.le_refl _) _).grown hg2 (le_alloc (Nat.le_refl _)) (by simp [Value.ownBlock])⟩
    · obtain ⟨b, off, h1, h2⟩ := HC.out h
      exact ⟨b, off, h1, fun j u hu => (World.cell?_alloc_lt w _ _ (block_lt (h2 j u hu))).trans (h2 j u hu)⟩

def NewP (w : World) (l : List UInt8) (r : Ending) (w' : World) : Prop :=
  ∃ p, r = .returned (.pointer (some ⟨p, 0, none⟩)) ∧ CutAt w' w.heap.size p l 0 ∧ Below w.heap.size w w'

theorem new_any (w : World) (A : Option Addr) (n cap : Nat) (l : List UInt8) (hr : RSl 1 RU8 w l (.slice A n cap)) (hl : l.length ≤ 2147483648) :
    Calls Tryz.prog 39 #[.slice A n cap] w (NewP w l) := by
  have HT := hide (clone_any w A n cap l hr hl)
  clear hr
  go_enter Tryz.func39, Tryz.ntmps39
  go_wp2_with fail
  refine HT.out.mono ?_
  rintro r w1 ⟨v, rfl, hown, hb⟩
  clear HT
  rcases hown.2 with ⟨rfl, hn⟩ | ⟨g, cap1, cur, rfl, hg, hh, hnc, _, hcs, ht⟩
  · have HN := hide hn; clear hn
    go_wp2
    go_ret
    refine ⟨w1.heap.size, rfl, ⟨hb.size, none, 0, ?_, by rw [HN.out]; omega, fun hne => absurd (List.eq_nil_of_length_eq_zero HN.out) hne⟩, hb.alloc hb.size _⟩
    rw [HN.out]; exact heap_alloc_new w1 _
  · have HT := hide ht
    have HH := hide hh
    clear ht hh
    go_wp2
    go_ret
    refine ⟨w1.heap.size, rfl, ⟨hb.size, some ⟨g, 0, none⟩, cap1, heap_alloc_new w1 _, hnc, fun hne => ⟨g, 0, cur, rfl, hg, heap_alloc HH.out, fun j hj => ?_⟩⟩, hb.alloc hb.size _⟩
    have h1 : (cur.toList.take (l.length * 1))[j]? = (u8s l)[j]? := by rw [HT.out]
    rw [List.getElem?_take, if_pos (by omega)] at h1
    simpa [u8s, hj] using h1

theorem take_nil (n : Int) (is : Bool) (w : World) : Calls Tryz.prog 72 #[.pointer none, .int .i64 n, .bool is] w fun e w' => e = .returned (.slice none 0 0) ∧ w = w' := by
  go_enter Tryz.func72, Tryz.ntmps72
  go_wp2_with (go_at_call 43; refine (err_nil _).mono ?_; rintro e w' ⟨rfl, rfl⟩)
  go_ret
  exact ⟨rfl, rfl⟩
theorem bytes_nil (n : Int) (w : World) : Calls Tryz.prog 42 #[.pointer none, .int .i64 n] w fun e w' => e = .returned (.slice none 0 0) ∧ w = w' := by
  go_enter Tryz.func42, Tryz.ntmps42
  go_wp2_with (go_at_call 72; refine (take_nil _ _ _).mono ?_; rintro e w' ⟨rfl, rfl⟩)
  go_ret
  exact ⟨rfl, rfl⟩
theorem num_nil (n : Int) (w : World) : Calls Tryz.prog 41 #[.pointer none, .int .i64 n] w fun e w' => e = .returned (.int .u64 0) ∧ w = w' := by
  go_enter Tryz.func41, Tryz.ntmps41
  go_wp2_with (first | (go_at_call 71; refine (may_any _ _).mono ?_; rintro e w' ⟨rfl, rfl⟩) | (go_at_call 72; refine (take_nil _ _ _).mono ?_; rintro e w' ⟨rfl, rfl⟩))
  go_loop [5, 14] (fun x j => x = .int .u64 0 ∧ j = .int .i64 0) (fun _ _ => 0)
  case atStart => exact ⟨rfl, rfl⟩
  case round =>
    obtain ⟨rfl, rfl⟩ := hrel
    go_wp2
    go_ret
    exact ⟨rfl, rfl⟩

/-- what the call leaves, cell by cell -/
theorem bytes_at (w : World) (p : Nat) (A : Option Addr) (n cap k : Nat) (hp : w.heap[p]? = some (.cells #[.slice A n cap, .int .i64 0] 132 (0, 0))) (hk : k ≤ n) (hn : n ≤ cap) (hcap : n ≤ 2147483648) :
    Calls Tryz.prog 42 #[.pointer (some ⟨p, 0, none⟩), .int .i64 k] w fun e w' => e = .returned (.slice A k k) ∧ w.setCell ⟨p, 0, none⟩ (.slice (if cap = k then A else A.map (·.add k)) (n - k) (cap - k)) = w' := by
  have HP := hide hp
  have c0 : w.cell? ⟨p, 0, none⟩ = some (.slice A n cap) := by rw [cell_block hp]; rfl
  have c1 : w.cell? ⟨p, 1, none⟩ = some (.int .i64 0) := by rw [cell_block hp]; rfl
  have f0 : w.frozen? ⟨p, 0, none⟩ = false := free_block hp 0
  clear hp HP
  by_cases hck : cap = k
  · subst hck
    obtain rfl : n = cap := by omega
    go_enter Tryz.func42, Tryz.ntmps42
    go_wp2_with (first | (go_at_call 43; refine (err_at _ _ _ c1).mono ?_; rintro e w' ⟨rfl, rfl⟩) | go_in)
    go_ret
    exact ⟨rfl, by simp⟩
  · go_enter Tryz.func42, Tryz.ntmps42
    go_wp2_with (first | (go_at_call 43; refine (err_at _ _ _ c1).mono ?_; rintro e w' ⟨rfl, rfl⟩) | go_in)
    go_ret
    exact ⟨rfl, by simp⟩
end Go.Proofs.YtkcpfhbfjpldhaaGreatDoor
