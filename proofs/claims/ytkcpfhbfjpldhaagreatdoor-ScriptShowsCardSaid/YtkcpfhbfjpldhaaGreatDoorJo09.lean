/- Texts of one claim, laid together: AwkJ AwkL2 MapI -/
import Derived.Maps.OwnSet
import Derived.Test.YtkcpfhbfjpldhaaGreatDoorJo08
import Derived.Test.YtkcpfhbfjpldhaaGreatDoorJo07
import Derived.Test.YtkcpfhbfjpldhaaGreatDoorJo04
/- awake24: the events are given out. -/
namespace Go.Proofs.YtkcpfhbfjpldhaaGreatDoor
open Go.RowKit
set_option linter.unusedVariables false

/-- events' cells in a block of their own -/
def EvB (w : World) (G : Nat) (xs : List Value) : Prop := ∃ cur : Array Value, w.heap[G]? = some (.cells cur 51 (0, 0)) ∧ ∀ (j : Nat) (u : Value), xs[j]? = some u → cur[j]? = some u
theorem EvB.cell {w : World} {G : Nat} {xs : List Value} (h : EvB w G xs) (j : Nat) (u : Value) (hj : xs[j]? = some u) : w.cell? ⟨G, j, none⟩ = some u := by
  obtain ⟨cur, h1, h2⟩ := h
  exact (cell_block h1 j).trans (h2 j u hj)
theorem EvB.free {w : World} {G : Nat} {xs : List Value} (h : EvB w G xs) (j : Nat) : w.frozen? ⟨G, j, none⟩ = false := by
  obtain ⟨cur, h1, h2⟩ := h
  exact free_block h1 j
theorem EvB.le {w w' : World} {G : Nat} {xs : List Value} (h : EvB w G xs) (hl : Le w w') : EvB w' G xs := by
  obtain ⟨cur, h1, h2⟩ := h
  exact ⟨cur, hl.heap h1, h2⟩
theorem EvB.set {w : World} {G : Nat} {xs : List Value} (h : EvB w G xs) (i : Nat) (v : Value) (hi : i < xs.length) : EvB (w.setCell ⟨G, i, none⟩ v) G (xs.set i v) := by
  obtain ⟨cur, h1, h2⟩ := h
  refine ⟨_, heap_set (i := i) v h1, fun j u hj => ?_⟩
  by_cases e : i = j
  · subst e
    rw [List.getElem?_set_self hi] at hj
    have h3 := h2 i (xs[i]) (List.getElem?_eq_getElem hi)
    have h4 := (Array.getElem?_eq_some_iff.1 h3).1
    rw [Array.getElem?_setIfInBounds_self_of_lt h4]
    exact hj
  · rw [List.getElem?_set_ne e] at hj
    rw [Array.getElem?_setIfInBounds_ne e]
    exact h2 j u hj
theorem EvB.d8 {w : World} {G : Nat} {xs : List Value} (h : EvB w G xs) (i : Nat) (v : Value) {l : List UInt8} {u : Value} (hd : D8 w l u) : D8 (w.setCell ⟨G, i, none⟩ v) l u := by
  obtain ⟨cur, h1, h2⟩ := h
  exact hd.grown (grown_set v) (fun g cs fr hg e => by injection e with e; exact blk_ne' hg h1 (by decide) e.symm)
theorem d8_zero {w : World} {A : Option Addr} {c : Nat} : D8 w [] (.slice A 0 c) := ⟨A, c, rfl, Nat.zero_le _, fun h => absurd rfl h⟩

theorem sl32' : SlT Tryz.prog 42 45 (.int .u32 0) 1 4 := ⟨Tryz.underlying42, by kernel_rfl, rfl, by omega⟩
theorem clone32_nil (w : World) : Calls Tryz.prog 70 #[.slice none 0 0] w (Gives w (.slice none 0 0)) := by
  have hnil := fun (W : World) => Lib.run_eql_slice_nil (P := Tryz.prog) W 42 45 none 0 0 0 0 Tryz.underlying42
  go_enter Tryz.func70, Tryz.ntmps70
  go_wp2
  go_ret
  exact ⟨rfl, Below.refl _ _⟩
theorem cloneEv (w : World) (base g k cap : Nat) (xs : List Value) (ho : w.ownsRow base 51 24 (.slice (some ⟨g, 0, none⟩) k cap) k xs) (hk : k ≤ 1000000) (h1 : ∀ u ∈ xs, u.oneCell' = true) :
    Calls Tryz.prog 69 #[.slice (some ⟨g, 0, none⟩) k cap] w (fun e w' => ∃ v, e = .returned v ∧ w'.ownsRow w.heap.size 51 24 v k xs ∧ Le w w') := by
  have hnil := fun (W : World) => Lib.run_eql_slice_nil (P := Tryz.prog) W 63 51 (some ⟨g, 0, none⟩) k cap 0 0 Tryz.underlying63
  have hlen := ho.1
  obtain ⟨_, _, he, _, hc0⟩ := own_slice ho
  injection he with e1 e2 e3
  subst e1 e3
  have HC := hide hc0
  have H1 := hide h1
  have hm := fun (x : World) => World.ownsRow_made x #[] 0 (base := w.heap.size) (e := 51) (size := 24)
  have HM := hide (hm w (Nat.le_refl _) (by simp [maxLen]) rfl)
  clear hm ho hc0 h1
  go_enter Tryz.func69, Tryz.ntmps69
  go_wp2_with (first | (at_builtin; go_must (refine wpl_app rfl slEv (.tmp 5) (.tmp 6) rfl HM.out rfl rfl (news := xs) (fun h => ?_) hlen H1.out (by omega) (by omega) (le_alloc (Nat.le_refl _)) ?_); rotate_right; intro v' w' hown2 hg2 hat2))
  · go_ret
    refine ⟨_, rfl, by simpa using hown2, ⟨((Below.refl _ _).alloc (Nat.le_refl _) _).grown hg2 (le_alloc (Nat.le_refl _)) (by simp [Value.ownBlock])⟩⟩
  · obtain ⟨b, off, h1, h2⟩ := HC.out h
    exact ⟨b, off, by simpa using h1, fun j u hu => (World.cell?_alloc_lt w _ _ (block_lt (h2 j u hu))).trans (h2 j u hu)⟩
/-- a row of one's own, in a block -/
theorem evb_own {w : World} {base k : Nat} {v : Value} {xs : List Value} (h : w.ownsRow base 51 24 v k xs) (hk : 0 < k) : ∃ G cap, v = .slice (some ⟨G, 0, none⟩) k cap ∧ base ≤ G ∧ EvB w G xs := by
  rcases h.2 with ⟨_, h0⟩ | ⟨g, cap, cur, rfl, hb, hh, _, _, _, ht⟩
  · omega
  · refine ⟨g, cap, rfl, hb, cur, hh, fun j u hu => ?_⟩
    rw [← ht, List.getElem?_take] at hu
    split at hu
    · simpa using hu
    · cases hu
/-- an event's cells, by its slices -/
def evD (kind n : Int) (id : Nat) (e : Int) (o b : Value) : List Value := [.int .i64 kind, .int .i64 n, .int .i64 0, .int .u64 id, .int .i64 e, .int .i64 0, .int .i64 0, .int .i64 0, .int .i64 0, .int .i64 0, .slice none 0 0, .int .i64 0, .int .i64 0, .int .u64 0, .int .i64 0, .int .i64 0, .int .i64 0, .int .u32 0, o, .int .i64 0, .int .u64 0, .int .i64 0, .int .u32 0, b]
/-- the two events that were given out -/
def Two2 (W : World) (G : Nat) (l : List UInt8) : Prop := ∃ o0 p0 b0 c0 o1 p1 b1 c1, EvB W G (evD 0 0 0 0 (.slice o0 0 p0) (.slice b0 l.length c0) ++ evD 2 0 0 10 (.slice o1 0 p1) (.slice b1 0 c1)) ∧ D8 W l (.slice b0 l.length c0)

set_option maxRecDepth 100000 in
set_option maxHeartbeats 4000000 in
theorem events_two {s : Nat} {w : World} {B a p b C A Q : Nat} {ws ev : Value} {ring : List Value} {f n : Nat} (l : List UInt8) (hl : l.length ≤ 1000000) (A1 : Option Addr) (c1 : Nat) (h : Sfu s w B a p b C A Q ws ev 2 (evC 0 0 0 0 (.slice A1 l.length c1) ++ evC 2 0 0 10 (.slice none 0 0)) ring f n) (hd : D8 w l (.slice A1 l.length c1)) :
    Calls Tryz.prog 33 #[.pointer (some ⟨B, 0, none⟩)] w (fun e w' => ∃ G cap, e = .returned (.slice (some ⟨G, 0, none⟩) 2 cap) ∧ Two2 w' G l ∧ Le w w') := by
  obtain ⟨g, cap, rfl, _, _⟩ := evb_own h.hE (by omega)
  have y0 : w.cell? ⟨B, 17, none⟩ = some (.slice (some ⟨g, 0, none⟩) 2 cap) := cell_block h.hB 17
  have HH := hide h
  have HD := hide hd
  clear h hd
  go_enter Tryz.func33, Tryz.ntmps33
  go_wp2_with fail
  refine (cloneEv w _ g 2 cap _ HH.out.hE (by omega) (by simp [evC, Value.oneCell'])).mono ?_
  rintro r w1 ⟨v, rfl, ho1, hl1⟩
  obtain ⟨G, cap1, rfl, hG, hE1⟩ := evb_own ho1 (by omega)
  have H1 := hide (show Two2 w1 G l from ⟨none, 0, A1, c1, none, 0, none, 0, hE1, HD.out.keep hl1.out⟩)
  have HG := hide hG
  have HL := hide hl1
  clear ho1 hl1 hG hE1 y0
  go_wp2_with fail
  go_loopw [4, 14] (fun s4 j wr => ∃ k : Nat, k ≤ 2 ∧ j = .int .i64 k ∧ Hd (Two2 wr G l) ∧ Le w wr) (fun _ j _ => 2 - (intOf j).toNat)
  case atStart => exact ⟨0, by omega, rfl, H1, HL.out⟩
  case round =>
    clear H1 HL
    obtain ⟨k, hk, rfl, HT, hle⟩ := hrel
    rcases (show k = 0 ∨ k = 1 ∨ k = 2 by omega) with rfl | rfl | rfl
    · obtain ⟨o0, p0, b0, c0, o1, p1, b1, c1, hE, hD⟩ := HT.out
      have y1 := hE.cell 23 _ rfl
      have HE := hide hE
      have HDD := hide hD
      have HLE := hide hle
      clear hE hD HT hle
      go_wp2_with fail
      refine (clone_any wr b0 l.length c0 l HDD.out.rsl (by first | omega | simp)).mono ?_
      rintro r w2 ⟨v, rfl, ho, hb⟩
      obtain ⟨b3, c3, rfl, _, _⟩ := own_slice ho
      have hO := d8_own ho
      have hE2 := HE.out.le (Le.mk hb)
      have HE2 := hide hE2
      have HD2 := hide (show D8 w2 l (.slice b3 l.length c3) from hO)
      have HL2 := hide (HLE.out.trans (Le.mk hb))
      have z1 := hE2.cell 23 _ rfl
      have z2 := hE2.free 23
      have z3 := hE2.cell 18 _ rfl
      clear y1 ho hb hO hE2 HE HDD HLE
      skip
      go_wp2_with fail
      have hE3 : EvB _ G (evD 0 0 0 0 (.slice o0 0 p0) (.slice b3 l.length c3) ++ evD 2 0 0 10 (.slice o1 0 p1) (.slice b1 0 c1)) := HE2.out.set 23 (.slice b3 l.length c3) (by simp [evD])
      have hD3 := HE2.out.d8 23 (.slice b3 l.length c3) HD2.out
      have hL3 : Le w (w2.setCell ⟨G, 23, none⟩ (.slice b3 l.length c3)) := ⟨HL2.out.out.setCell (Nat.le_trans (Nat.le_refl _) HG.out) _⟩
      have HE3 := hide hE3
      have HD3 := hide hD3
      have HL3 := hide hL3
      clear hE3 hD3 hL3 z1 z2 z3 HE2 HD2 HL2
      generalize World.setCell _ _ _ = w3 at *
      refine (clone_any w3 o0 0 p0 [] d8_zero.rsl (by first | omega | simp)).mono ?_
      rintro r w4 ⟨v, rfl, ho, hb⟩
      obtain ⟨o3, p3, rfl, _, _⟩ := own_slice ho
      have hE4 := HE3.out.le (Le.mk hb)
      have HE4 := hide hE4
      have HD4 := hide (HD3.out.keep hb)
      have HL4 := hide (HL3.out.trans (Le.mk hb))
      have z1 := hE4.cell 18 _ rfl
      have z2 := hE4.free 18
      have z3 := hE4.cell 10 _ rfl
      clear ho hb hE4 HE3 HD3 HL3
      simp only [List.length_nil]
      go_wp2_with fail
      have hE5 : EvB _ G (evD 0 0 0 0 (.slice o3 0 p3) (.slice b3 l.length c3) ++ evD 2 0 0 10 (.slice o1 0 p1) (.slice b1 0 c1)) := HE4.out.set 18 (.slice o3 0 p3) (by simp [evD])
      have hD5 := HE4.out.d8 18 (.slice o3 0 p3) HD4.out
      have hL5 : Le w (w4.setCell ⟨G, 18, none⟩ (.slice o3 0 p3)) := ⟨HL4.out.out.setCell (Nat.le_trans (Nat.le_refl _) HG.out) _⟩
      have HE5 := hide hE5
      have HD5 := hide hD5
      have HL5 := hide hL5
      clear hE5 hD5 hL5 z1 z2 z3 HE4 HD4 HL4
      generalize World.setCell _ _ _ = w5 at *
      refine (clone32_nil w5).mono ?_
      rintro r w6 ⟨rfl, hb⟩
      have hE6 := HE5.out.le (Le.mk hb)
      have HE6 := hide hE6
      have HD6 := hide (HD5.out.keep hb)
      have HL6 := hide (HL5.out.trans (Le.mk hb))
      have z1 := hE6.cell 10 _ rfl
      have z2 := hE6.free 10
      clear hb hE6 HE5 HD5 HL5
      go_wp2_with fail
      go_roundw
      case rel =>
        have hE7 : EvB _ G (evD 0 0 0 0 (.slice o3 0 p3) (.slice b3 l.length c3) ++ evD 2 0 0 10 (.slice o1 0 p1) (.slice b1 0 c1)) := HE6.out.set 10 (.slice none 0 0) (by simp [evD])
        exact ⟨1, by omega, rfl, hide ⟨o3, p3, b3, c3, o1, p1, b1, c1, hE7, HE6.out.d8 10 _ HD6.out⟩, ⟨HL6.out.out.setCell HG.out _⟩⟩
      case measure => simp [intOf]
    · obtain ⟨o0, p0, b0, c0, o1, p1, b1, c1, hE, hD⟩ := HT.out
      have y1 := hE.cell 47 _ rfl
      have HE := hide hE
      have HDD := hide hD
      have HLE := hide hle
      clear hE hD HT hle
      go_wp2_with fail
      refine (clone_any wr b1 0 c1 [] (d8_zero (w := wr) (A := b1) (c := c1)).rsl (by first | omega | simp)).mono ?_
      rintro r w2 ⟨v, rfl, ho, hb⟩
      obtain ⟨b3, c3, rfl, _, _⟩ := own_slice ho
      have hO := d8_own ho
      have hE2 := HE.out.le (Le.mk hb)
      have HE2 := hide hE2
      have HD2 := hide (show D8 w2 l (.slice b0 l.length c0) from (HDD.out.keep hb))
      have HL2 := hide (HLE.out.trans (Le.mk hb))
      have z1 := hE2.cell 47 _ rfl
      have z2 := hE2.free 47
      have z3 := hE2.cell 42 _ rfl
      clear y1 ho hb hO hE2 HE HDD HLE
      simp only [List.length_nil] at HD2 ⊢
      go_wp2_with fail
      have hE3 : EvB _ G (evD 0 0 0 0 (.slice o0 0 p0) (.slice b0 l.length c0) ++ evD 2 0 0 10 (.slice o1 0 p1) (.slice b3 0 c3)) := HE2.out.set 47 (.slice b3 0 c3) (by simp [evD])
      have hD3 := HE2.out.d8 47 (.slice b3 0 c3) HD2.out
      have hL3 : Le w (w2.setCell ⟨G, 47, none⟩ (.slice b3 0 c3)) := ⟨HL2.out.out.setCell (Nat.le_trans (Nat.le_refl _) HG.out) _⟩
      have HE3 := hide hE3
      have HD3 := hide hD3
      have HL3 := hide hL3
      clear hE3 hD3 hL3 z1 z2 z3 HE2 HD2 HL2
      generalize World.setCell _ _ _ = w3 at *
      refine (clone_any w3 o1 0 p1 [] d8_zero.rsl (by first | omega | simp)).mono ?_
      rintro r w4 ⟨v, rfl, ho, hb⟩
      obtain ⟨o3, p3, rfl, _, _⟩ := own_slice ho
      have hE4 := HE3.out.le (Le.mk hb)
      have HE4 := hide hE4
      have HD4 := hide (HD3.out.keep hb)
      have HL4 := hide (HL3.out.trans (Le.mk hb))
      have z1 := hE4.cell 42 _ rfl
      have z2 := hE4.free 42
      have z3 := hE4.cell 34 _ rfl
      clear ho hb hE4 HE3 HD3 HL3
      simp only [List.length_nil]
      go_wp2_with fail
      have hE5 : EvB _ G (evD 0 0 0 0 (.slice o0 0 p0) (.slice b0 l.length c0) ++ evD 2 0 0 10 (.slice o3 0 p3) (.slice b3 0 c3)) := HE4.out.set 42 (.slice o3 0 p3) (by simp [evD])
      have hD5 := HE4.out.d8 42 (.slice o3 0 p3) HD4.out
      have hL5 : Le w (w4.setCell ⟨G, 42, none⟩ (.slice o3 0 p3)) := ⟨HL4.out.out.setCell (Nat.le_trans (Nat.le_refl _) HG.out) _⟩
      have HE5 := hide hE5
      have HD5 := hide hD5
      have HL5 := hide hL5
      clear hE5 hD5 hL5 z1 z2 z3 HE4 HD4 HL4
      generalize World.setCell _ _ _ = w5 at *
      refine (clone32_nil w5).mono ?_
      rintro r w6 ⟨rfl, hb⟩
      have hE6 := HE5.out.le (Le.mk hb)
      have HE6 := hide hE6
      have HD6 := hide (HD5.out.keep hb)
      have HL6 := hide (HL5.out.trans (Le.mk hb))
      have z1 := hE6.cell 34 _ rfl
      have z2 := hE6.free 34
      clear hb hE6 HE5 HD5 HL5
      go_wp2_with fail
      go_roundw
      case rel =>
        have hE7 : EvB _ G (evD 0 0 0 0 (.slice o0 0 p0) (.slice b0 l.length c0) ++ evD 2 0 0 10 (.slice o3 0 p3) (.slice b3 0 c3)) := HE6.out.set 34 (.slice none 0 0) (by simp [evD])
        exact ⟨2, by omega, rfl, hide ⟨o0, p0, b0, c0, o3, p3, b3, c3, hE7, HE6.out.d8 34 _ HD6.out⟩, ⟨HL6.out.out.setCell HG.out _⟩⟩
      case measure => simp [intOf]
    · go_wp2_with fail
      go_ret
      exact ⟨G, cap1, rfl, HT.out, hle⟩
end Go.Proofs.YtkcpfhbfjpldhaaGreatDoor

/- awake24: the row of calls. -/
namespace Go.Proofs.YtkcpfhbfjpldhaaGreatDoor
open Go.RowKit
set_option linter.unusedVariables false

def fnV (n : Nat) : Value := .func (Fn.func n) #[] #[]
/-- a closure that holds a call -/
def Clo (v : Value) (n : Nat) (W : World) : Prop := ∃ g, v = .func (Fn.func 75) #[] #[.pointer (some ⟨g, 0, none⟩)] ∧ W.heap[g]? = some (.cells #[.func (Fn.func n) #[] #[]] 136 (0, 0))
theorem Clo.le {v : Value} {n : Nat} {w w' : World} (h : Clo v n w) (hl : Le w w') : Clo v n w' := by
  obtain ⟨g, h1, h2⟩ := h
  exact ⟨g, h1, hl.heap h2⟩
theorem Clo.grown {v : Value} {n g : Nat} {cs : Array Value} {fr : Nat × Nat} {w w' : World} (h : Clo v n w) (hg : w.grownBy w' (some g)) (hk : w.heap[g]? = some (.cells cs 94 fr)) : Clo v n w' := by
  obtain ⟨g', h1, h2⟩ := h
  exact ⟨g', h1, heap_grown hg h2 (fun e => by injection e with e; exact blk_ne' h2 hk (by decide) e.symm)⟩
set_option maxRecDepth 100000 in
theorem of_any (n : Nat) (w : World) : Calls Tryz.prog 74 #[.func (Fn.func n) #[] #[]] w (fun e w' => ∃ v, e = .returned v ∧ Clo v n w' ∧ Le w w') := by
  go_enter Tryz.func74, Tryz.ntmps74
  go_wp2_with fail
  go_ret
  exact ⟨_, rfl, ⟨_, rfl, heap_alloc_new w _⟩, (Le.refl w).alloc _⟩
/-- the calls -/
def CallsV (v4 v5 v6 v7 : Value) : Array Value := #[fnV 76, fnV 77, fnV 78, fnV 79, v4, v5, v6, v7, fnV 80]
def CallsP (w : World) (e : Ending) (w' : World) : Prop := ∃ v4 v5 v6 v7, e = .returned (.agg (CallsV v4 v5 v6 v7)) ∧ Clo v4 28 w' ∧ Clo v5 29 w' ∧ Clo v6 30 w' ∧ Clo v7 31 w' ∧ Le w w'
set_option maxRecDepth 100000 in
set_option maxHeartbeats 4000000 in
theorem calls_any (w : World) : Calls Tryz.prog 46 #[] w (CallsP w) := by
  go_enter Tryz.func46, Tryz.ntmps46
  go_wp2_with fail
  have HX := hide (heap_alloc_new w (.cells #[Value.nilFunc, Value.nilFunc, Value.nilFunc, Value.nilFunc, Value.nilFunc, Value.nilFunc, Value.nilFunc, Value.nilFunc, Value.nilFunc] 94))
  have HL := hide ((Le.refl w).alloc (.cells #[Value.nilFunc, Value.nilFunc, Value.nilFunc, Value.nilFunc, Value.nilFunc, Value.nilFunc, Value.nilFunc, Value.nilFunc, Value.nilFunc] 94))
  generalize hgx : w.heap.size = gx at HX ⊢
  have HGX := hide hgx
  clear hgx
  generalize w.alloc _ = w1 at *
  refine (of_any _ _).mono ?_
  rintro r w2 ⟨v4, rfl, hv4, hl2⟩
  have H2 := hide (And.intro hv4 hl2)
  clear hv4 hl2
  go_wp2_with fail
  refine (of_any _ _).mono ?_
  rintro r w3 ⟨v5, rfl, hv5, hl3⟩
  have H3 := hide (And.intro hv5 hl3)
  clear hv5 hl3
  go_wp2_with fail
  refine (of_any _ _).mono ?_
  rintro r w4 ⟨v6, rfl, hv6, hl4⟩
  have H4 := hide (And.intro hv6 hl4)
  clear hv6 hl4
  go_wp2_with fail
  refine (of_any _ _).mono ?_
  rintro r w5 ⟨v7, rfl, hv7, hl5⟩
  have H5 := hide (And.intro hv7 hl5)
  clear hv7 hl5
  obtain ⟨g4, rfl, HG4⟩ := H2.out.1
  obtain ⟨g5, rfl, HG5⟩ := H3.out.1
  obtain ⟨g6, rfl, HG6⟩ := H4.out.1
  obtain ⟨g7, rfl, HG7⟩ := H5.out.1
  go_wp2_with (refine wpl_store_blk rfl 94 (.tmp 0) (.tmp 10) (cs := (CallsV (.func (Fn.func 75) #[] #[.pointer (some ⟨g4, 0, none⟩)]) (.func (Fn.func 75) #[] #[.pointer (some ⟨g5, 0, none⟩)]) (.func (Fn.func 75) #[] #[.pointer (some ⟨g6, 0, none⟩)]) (.func (Fn.func 75) #[] #[.pointer (some ⟨g7, 0, none⟩)])).toList) (old := [Value.nilFunc, Value.nilFunc, Value.nilFunc, Value.nilFunc, Value.nilFunc, Value.nilFunc, Value.nilFunc, Value.nilFunc, Value.nilFunc]) rfl rfl rfl (by kernel_rfl) (by simp [CallsV, fnV, Value.oneCell']) ((H2.out.2.trans (H3.out.2.trans (H4.out.2.trans H5.out.2))).heap HX.out) rfl ?_; intro w6 h6 hg6; have H6 := hide h6; have HG := hide hg6; clear h6 hg6)
  have h26 := le_boxed (HL.out.trans (H2.out.2.trans (H3.out.2.trans (H4.out.2.trans H5.out.2)))) HG.out (Nat.le_of_eq HGX.out)
  have hk := (H2.out.2.trans (H3.out.2.trans (H4.out.2.trans H5.out.2))).heap HX.out
  have e4 := (H2.out.1.le (H3.out.2.trans (H4.out.2.trans H5.out.2))).grown HG.out hk
  have e5 := (H3.out.1.le (H4.out.2.trans H5.out.2)).grown HG.out hk
  have e6 := (H4.out.1.le H5.out.2).grown HG.out hk
  have e7 := H5.out.1.grown HG.out hk
  exact bodyPost_ret (results_cell_row Tryz.results46 _ _ _ 94 _ (0, 0) _ rfl H6.out Tryz.underlying94 rfl (by kernel_rfl)) rfl ⟨_, _, _, _, rfl, e4, e5, e6, e7, h26⟩
end Go.Proofs.YtkcpfhbfjpldhaaGreatDoor

/- A map from numbers of 16 bits to ints, as a function; blocks that may be written, all others stay. -/
namespace Go.Proofs.YtkcpfhbfjpldhaaGreatDoor
open Go.RowKit
set_option linter.unusedVariables false

/-- block b is a map of at most n entries that reads as f -/
def MapI (w : World) (b n : Nat) (f : Nat → Option Nat) : Prop :=
  ∃ D : DataW Unit, w.ownsMap Tryz.prog 39 (plainElem Tryz.prog 3) b n D ∧ ∀ k : Nat, k < 65536 → Maps.has D (.int .u16 k) = (f k).isSome ∧ ∀ i z, f k = some i → D.atKey (.int .u16 k) z = .lit (.int .i64 i)
def mupd (f : Nat → Option Nat) (k : Nat) (v : Option Nat) : Nat → Option Nat := fun x => if x = k then v else f x
theorem mupd_same (f : Nat → Option Nat) (k : Nat) (v : Option Nat) : mupd f k v k = v := by simp [mupd]
theorem mupd_ne {f : Nat → Option Nat} {k x : Nat} {v : Option Nat} (h : x ≠ k) : mupd f k v x = f x := by simp [mupd, h]

theorem key16 {k : Nat} (hk : k < 65536) : (Lit.int .u16 (k : Int)).wf = true := by simp [Lit.wf, IntKind.min, IntKind.max, IntKind.signed, IntKind.bits]; omega
theorem keyOf16 {k : Nat} (hk : k < 65536) : keyOf Tryz.prog 39 (.int .u16 k) = some (.int .u16 k) := Maps.keyOf_int_mk Tryz.underlying39 (key16 hk)
theorem zero_int (w : World) : (zeroValue 3).run Tryz.prog w = .ok (.int .i64 0) w := by kernel_rfl
theorem isKey16 (k : Nat) : WideAt.IsKeyLit (.int .u16 k) := by simp [WideAt.IsKeyLit]
theorem lit16_ne {k x : Nat} (h : x ≠ k) : (Lit.int .u16 (x : Int)) ≠ .int .u16 k := by intro e; injection e with _ e; omega

theorem lit_inj {a b : Int} (h : (DataW.lit (.int .i64 a) : DataW Unit) = .lit (.int .i64 b)) : b = a := by
  simp only [DataW.lit.injEq, Lit.int.injEq, true_and] at h
  exact h.symm
theorem wf64 {v : Nat} (h : v ≤ 1000000) : (Lit.int .i64 (v : Int)).wf = true := by
  simp only [Lit.wf, IntKind.min, IntKind.max, IntKind.signed, IntKind.bits]
  simp
  omega
theorem MapI.made (w : World) : MapI (w.alloc (.map #[] 0)) w.heap.size 0 (fun _ => none) :=
  ⟨.map [], World.ownsMap_made w _ _ _, fun k _ => ⟨rfl, fun i z h => by cases h⟩⟩
theorem MapI.mono {w : World} {b n n' : Nat} {f : Nat → Option Nat} (h : MapI w b n f) (hn : n ≤ n') : MapI w b n' f := by
  obtain ⟨D, h1, h2⟩ := h
  exact ⟨D, h1.mono hn, h2⟩
theorem MapI.lt {w : World} {b n : Nat} {f : Nat → Option Nat} (h : MapI w b n f) : b < w.heap.size := h.choose_spec.1.lt
theorem MapI.same {w w' : World} {b n : Nat} {f : Nat → Option Nat} (h : MapI w b n f) (he : w'.heap[b]? = w.heap[b]?) : MapI w' b n f := by
  obtain ⟨D, ⟨es, clock, hb, r⟩, h2⟩ := h
  exact ⟨D, ⟨es, clock, he.trans hb, r⟩, h2⟩
theorem MapI.look {w : World} {b n : Nat} {f : Nat → Option Nat} (h : MapI w b n f) {k : Nat} (hk : k < 65536) :
    (Instr.lookup 256 (.map (some b)) (.int .u16 k) true).run Tryz.prog w = .ok (.tuple #[.int .i64 ((f k).getD 0 : Nat), .bool (f k).isSome]) w := by
  obtain ⟨D, h1, h2⟩ := h
  obtain ⟨v, ps, hr, hv⟩ := h1.look_ok (Maps.int_keyed Tryz.underlying39) Tryz.underlying256 (zero_int w) (plainElem_int Tryz.underlying3 (q := .i64) (a := 0) (by decide)) (keyOf16 hk)
  obtain ⟨c, rfl, hc, _⟩ := plainElem_int_inv Tryz.underlying3 hv
  obtain ⟨h3, h4⟩ := h2 k hk
  rw [hr, h3]
  simp only [Prod.mk.injEq] at hc
  cases hf : f k with
  | none =>
    rw [hf] at h3
    rw [Maps.atKey_of_not_has (by simpa using h3)] at hc
    have : c = 0 := lit_inj hc.1
    rw [this]; rfl
  | some i =>
    rw [h4 i _ hf] at hc
    have : c = i := lit_inj hc.1
    rw [this]; rfl
theorem MapI.store {w : World} {b n : Nat} {f : Nat → Option Nat} (h : MapI w b n f) {k : Nat} (hk : k < 65536) {v : Nat} (hv : v ≤ 1000000) (hn : n ≤ 1000000) :
    ∃ w', (Instr.mapUpdate 256 (.map (some b)) (.int .u16 k) (.int .i64 v)).run Tryz.prog w = .ok () w' ∧ MapI w' b (n + 1) (mupd f k (some v)) ∧ w.grownBy w' (some b) := by
  obtain ⟨D, h1, h2⟩ := h
  obtain ⟨w', hr, h3, h4⟩ := h1.update (Maps.int_keyed Tryz.underlying39) Tryz.underlying256 (Nat.lt_of_le_of_lt hn (by decide)) (keyOf16 hk) (plainElem_int Tryz.underlying3 (q := .i64) (a := (v : Int)) (wf64 hv))
  refine ⟨w', hr, ⟨_, h3, fun x hx => ?_⟩, h4⟩
  by_cases e : x = k
  · subst e
    rw [mupd_same]
    exact ⟨Maps.has_put_same h1.isMap (isKey16 x) _, fun i z hi => by obtain rfl := Option.some.inj hi; exact Maps.atKey_put_same h1.isMap (isKey16 x) _ z⟩
  · rw [mupd_ne e]
    rw [Maps.has_put_other (lit16_ne e)]
    exact ⟨(h2 x hx).1, fun i z hi => by rw [Maps.atKey_put_other (lit16_ne e)]; exact (h2 x hx).2 i z hi⟩
theorem MapI.drop {w : World} {b n : Nat} {f : Nat → Option Nat} (h : MapI w b n f) {k : Nat} (hk : k < 65536) (ty : TypeId) :
    ∃ w', (Builtin.delete_ #[256, 39] ty #[.map (some b), .int .u16 k]).run Tryz.prog w = .ok (.tuple #[]) w' ∧ MapI w' b n (mupd f k none) ∧ w.grownBy w' (some b) := by
  obtain ⟨D, h1, h2⟩ := h
  obtain ⟨w', hr, h3, h4⟩ := h1.drop (Maps.int_keyed Tryz.underlying39) Tryz.underlying256 (keyOf16 hk) ty
  refine ⟨w', hr, ⟨_, h3, fun x hx => ?_⟩, h4.grown⟩
  by_cases e : x = k
  · subst e
    rw [mupd_same]
    exact ⟨Maps.has_del_same, fun i z hi => by cases hi⟩
  · rw [mupd_ne e]
    rw [Maps.has_del_other (lit16_ne e)]
    exact ⟨(h2 x hx).1, fun i z hi => by rw [Maps.atKey_del_other (lit16_ne e)]; exact (h2 x hx).2 i z hi⟩

/-- blocks of S may have been written, all others stay -/
structure Fp (S : Nat → Prop) (w w' : World) : Prop where
  os : w'.os = w.os
  tape : w'.tape = w.tape
  output : w'.output = w.output
  size : w.heap.size ≤ w'.heap.size
  block : ∀ k, k < w.heap.size → ¬ S k → w'.heap[k]? = w.heap[k]?
section
variable {S : Nat → Prop} {w w' w'' : World}
theorem Fp.refl (S : Nat → Prop) (w : World) : Fp S w w := ⟨rfl, rfl, rfl, Nat.le_refl _, fun _ _ _ => rfl⟩
theorem Fp.trans (h : Fp S w w') (h' : Fp S w' w'') : Fp S w w'' :=
  ⟨h'.os.trans h.os, h'.tape.trans h.tape, h'.output.trans h.output, Nat.le_trans h.size h'.size, fun k hk hs => (h'.block k (Nat.lt_of_lt_of_le hk h.size) hs).trans (h.block k hk hs)⟩
theorem Fp.of_le (h : Le w w') : Fp S w w' := ⟨h.out.os, h.out.tape, h.out.output, h.out.size, fun k hk _ => h.out.block k hk⟩
theorem Fp.of_below (h : Below w.heap.size w w') : Fp S w w' := Fp.of_le ⟨h⟩
theorem Fp.of_grown {b : Nat} (h : w.grownBy w' (some b)) (hb : S b) : Fp S w w' := ⟨h.os, h.tape, h.output, h.size, fun k hk hs => h.block k hk (fun e => hs (by injection e with e; rw [e]; exact hb))⟩
theorem Fp.mono {T : Nat → Prop} (h : Fp S w w') (hs : ∀ k, S k → T k) : Fp T w w' := ⟨h.os, h.tape, h.output, h.size, fun k hk ht => h.block k hk (fun e => ht (hs k e))⟩
theorem Fp.drew (h : Fp S w w') : Fp S w w'.drew := ⟨h.os, h.tape, h.output, h.size, h.block⟩
theorem Fp.drewN (h : Fp S w w') (n : Nat) : Fp S w (w'.drewN n) := h.trans (Fp.of_le ((Le.refl w').drewN n))
theorem Fp.alloc (h : Fp S w w') (o : Obj) : Fp S w (w'.alloc o) := h.trans (Fp.of_le ((Le.refl w').alloc o))
theorem Fp.heap (h : Fp S w w') {k : Nat} {o : Obj} (hk : w.heap[k]? = some o) (hs : ¬ S k) : w'.heap[k]? = some o := (h.block k (lt_of_heap hk) hs).trans hk
theorem Fp.below (h : Fp S w w') {B : Nat} {w0 : World} (hb : Below B w0 w) (hB : B ≤ w.heap.size) (hs : ∀ k, S k → B ≤ k) : Below B w0 w' :=
  ⟨h.os.trans hb.os, h.tape.trans hb.tape, h.output.trans hb.output, Nat.le_trans hb.size h.size, fun k hk => (h.block k (by omega) (fun e => by have := hs k e; omega)).trans (hb.block k hk)⟩
theorem Fp.setCell (h : Fp S w w') {p : Addr} (hp : S p.block) (u : Value) : Fp S w (w'.setCell p u) :=
  h.trans ⟨rfl, rfl, rfl, by simp [World.setCell], fun k hk hs => Below.heap_setCell _ _ _ _ (fun e => hs (by rw [e]; exact hp))⟩
end

/-- bytes that nobody writes: nothing, or the whole of a block -/
def B8 (w : World) (l : List UInt8) (v : Value) : Prop :=
  (l = [] ∧ v = .slice none 0 0) ∨ ∃ g, v = .slice (some ⟨g, 0, none⟩) l.length l.length ∧ w.heap[g]? = some (.cells (u8s l).toArray 5 (0, 0))
theorem B8.nil {w : World} : B8 w [] (.slice none 0 0) := .inl ⟨rfl, rfl⟩
theorem B8.rsl {w : World} {l : List UInt8} {v : Value} (h : B8 w l v) : RSl 1 RU8 w l v := by
  rcases h with ⟨rfl, rfl⟩ | ⟨g, rfl, hg⟩
  · exact RSl.nil
  · refine ⟨_, _, rfl, Nat.le_refl _, fun hne => ⟨g, 0, rfl, fun i hi => ⟨[.int .u8 l[i].toNat], rfl, fun j hj => ?_, rfl⟩⟩⟩
    obtain rfl : j = 0 := by omega
    rw [cell_block hg]
    simp [u8s, hi]
theorem B8.later {S : Nat → Prop} {w w' : World} {l : List UInt8} {v : Value} (h : B8 w l v) (hf : Fp S w w') (hs : ∀ k cs fr, S k → w.heap[k]? ≠ some (.cells cs 5 fr)) : B8 w' l v := by
  rcases h with h | ⟨g, rfl, hg⟩
  · exact .inl h
  · exact .inr ⟨g, rfl, hf.heap hg (fun e => hs g _ _ e hg)⟩
theorem B8.le {w w' : World} {l : List UInt8} {v : Value} (h : B8 w l v) (hl : Le w w') : B8 w' l v := by
  rcases h with h | ⟨g, rfl, hg⟩
  · exact .inl h
  · exact .inr ⟨g, rfl, hl.heap hg⟩
theorem B8.slice {w : World} {l : List UInt8} {v : Value} (h : B8 w l v) : ∃ A, v = .slice A l.length l.length := by
  rcases h with ⟨rfl, rfl⟩ | ⟨g, rfl, hg⟩
  · exact ⟨_, rfl⟩
  · exact ⟨_, rfl⟩
end Go.Proofs.YtkcpfhbfjpldhaaGreatDoor
