/- Texts of one claim, laid together: ScrPar -/
import Derived.Test.YtkcpfhbfjpldhaaGreatDoorJo13
/- script.Parse. (Written by gen_scpar.py.) -/
namespace Go.Proofs.YtkcpfhbfjpldhaaGreatDoor
open Go.RowKit
set_option linter.unusedVariables false

/-- steps in a row of their own, bytes in blocks of bytes; an error -/
def SParT (w : World) (out : List Sp) (err : Int) (e : Ending) (w' : World) : Prop :=
  ∃ A cap vs, e = .returned (.tuple #[.slice A out.length cap, .int .i64 err]) ∧ w'.ownsRow w.heap.size 70 3 (.slice A out.length cap) out.length (encS out vs) ∧ SDatas w' out vs ∧ (∀ s ∈ out, s.Num) ∧ Below w.heap.size w w'
theorem SParT.rsl {w : World} {out : List Sp} {err : Int} {e : Ending} {w' : World} (h : SParT w out err e w') : ∃ A cap, e = .returned (.tuple #[.slice A out.length cap, .int .i64 err]) ∧ RSl 3 RSp w' out (.slice A out.length cap) ∧ Below w.heap.size w w' := by
  obtain ⟨A, cap, vs, h1, h2, h3, h4, h5⟩ := h
  exact ⟨A, cap, h1, rsl_steps h2 h3 h4, h5⟩
theorem sparT_mk {w w' : World} {R : List Sp × Int} {out : List Sp} {err : Int} {A : Option Addr} {n cap : Nat} {vs : List Value} (hR : R = (out, err)) (hn : n = out.length) (ho : w'.ownsRow w.heap.size 70 3 (.slice A n cap) n (encS out vs)) (hd : SDatas w' out vs) (hN : ∀ s ∈ out, s.Num) (hb : Below w.heap.size w w') :
    SParT w R.1 R.2 (.returned (.tuple #[.slice A n cap, .int .i64 err])) w' := by
  subst hR hn
  exact ⟨A, cap, vs, rfl, ho, hd, hN, hb⟩
theorem sparT_no {w w' : World} {R : List Sp × Int} {err : Int} (hR : R = ([], err)) (hb : Below w.heap.size w w') : SParT w R.1 R.2 (.returned (.tuple #[.slice none 0 0, .int .i64 err])) w' :=
  sparT_mk hR rfl (World.ownsRow_nil _ _ _ _) SDatas.nil (by simp) hb
theorem cut_heap {w : World} {base p : Nat} {l : List UInt8} {e : Int} (h : CutAt w base p l e) : w.heap[p]? = some (.cells #[.slice h.2.choose l.length h.2.choose_spec.choose, .int .i64 e] 132 (0, 0)) := h.2.choose_spec.choose_spec.1
theorem cut_cell {w : World} {base p : Nat} {l : List UInt8} {e : Int} (h : CutAt w base p l e) : ∃ A cap, w.cell? ⟨p, 0, none⟩ = some (.slice A l.length cap) := by
  obtain ⟨_, A, cap, hp, _⟩ := h
  exact ⟨A, cap, cell_block hp 0⟩
theorem cut_ne {w : World} {base p : Nat} {l : List UInt8} {e : Int} (h : CutAt w base p l e) {g : Nat} {cs : Array Value} {t : TypeId} {fr : Nat × Nat} (hg : w.heap[g]? = some (.cells cs t fr)) (ht : t ≠ 132) : some p ≠ some g := by
  intro e'
  injection e' with e'
  subst e'
  obtain ⟨_, A, cap, hp, _⟩ := h
  rw [hg] at hp
  injection hp with hp
  injection hp with _ hp _
  exact ht hp
theorem cutS_grown {w w' : World} {base p : Nat} {l : List UInt8} {e : Int} (h : CutAt w base p l e) {row : Option Nat} (hg : w.grownBy w' row) (hne : ∀ g cs t fr, w.heap[g]? = some (.cells cs t fr) → t ≠ 70 → row ≠ some g) : CutAt w' base p l e := by
  obtain ⟨h1, A, cap, hp, hc, hd⟩ := h
  refine ⟨h1, A, cap, heap_grown hg hp (hne _ _ _ _ hp (by decide)), hc, fun hn => ?_⟩
  obtain ⟨g, off, cur, h3, h4, h5, h6⟩ := hd hn
  exact ⟨g, off, cur, h3, h4, heap_grown hg h5 (hne _ _ _ _ h5 (by decide)), h6⟩
theorem slStep : SlT Tryz.prog 22 70 (.agg #[.int .i64 0, .int .i64 0, .slice none 0 0]) 3 40 := ⟨Tryz.underlying22, by kernel_rfl, rfl, by omega⟩
theorem num_small (a sh : Nat) (b : List UInt8) (ha : a < 256) (hs : sh < 256) (hb : b.length ≤ 9223372036854775807) : (Sp.mk a sh b).Num := ⟨by constructor <;> (simp only; omega), by constructor <;> (simp only; omega), hb⟩
theorem step1_big {a : UInt8} {L : List UInt8} (h : 9 ≤ a.toNat) : step1 (a :: L) = .bad 11 := by
  unfold step1; dsimp only; rw [if_pos (by omega)]
theorem step1_n {a : UInt8} {L : List UInt8} (h : 4 ≤ a.toNat) (h2 : a.toNat < 9) : step1 (a :: L) = .ok ⟨a.toNat, 0, []⟩ L := by
  unfold step1; dsimp only; rw [if_neg (by omega), if_neg (by omega), if_neg (by omega)]
theorem step1_s {a s : UInt8} {L : List UInt8} (h : 2 ≤ a.toNat) (h2 : a.toNat < 4) : step1 (a :: s :: L) = .ok ⟨a.toNat, s.toNat, []⟩ L := by
  unfold step1; dsimp only; rw [if_neg (by omega), if_neg (by omega), if_pos (by omega)]
theorem step1_s0 {a : UInt8} (h : 2 ≤ a.toNat) (h2 : a.toNat < 4) : step1 [a] = .bad 10 := by
  unfold step1; dsimp only; rw [if_neg (by omega), if_neg (by omega), if_pos (by omega)]
theorem step1_b0 {a : UInt8} {L : List UInt8} (h : a.toNat < 2) (hL : L.length < 2) : step1 (a :: L) = .bad 10 := by
  unfold step1; dsimp only; rw [if_neg (by omega), if_pos (by omega)]
  rcases L with _ | ⟨x, _ | ⟨y, t⟩⟩
  · rfl
  · rfl
  · exact absurd hL (by simp only [List.length_cons]; omega)
theorem step1_b1 {a x y : UInt8} {t : List UInt8} (h : a.toNat < 2) (ht : t.length < 256 * x.toNat + y.toNat) : step1 (a :: x :: y :: t) = .bad 10 := by
  unfold step1; dsimp only; rw [if_neg (by omega), if_pos (by omega)]
  simp only [if_pos ht]
theorem step1_b {a x y : UInt8} {t : List UInt8} (h : a.toNat < 2) (ht : ¬ t.length < 256 * x.toNat + y.toNat) : step1 (a :: x :: y :: t) = .ok ⟨a.toNat, 0, t.take (256 * x.toNat + y.toNat)⟩ (t.drop (256 * x.toNat + y.toNat)) := by
  unfold step1; dsimp only; rw [if_neg (by omega), if_pos (by omega)]
  simp only [if_neg ht]

set_option maxRecDepth 100000 in
set_option maxHeartbeats 4000000 in
theorem scParse_any (l : List UInt8) (A : Option Addr) (n cap : Nat) (w : World) (hr : RSl 1 RU8 w l (.slice A n cap)) (hl : l.length ≤ 200000) :
    Calls Tryz.prog 16 #[.slice A n cap] w (SParT w (parseS l []).1 (parseS l []).2) := by
  have HR := hide hr
  obtain ⟨A', cap', hv, hcap, _⟩ := hr
  injection hv with e1 e2 e3
  subst e1 e2 e3
  obtain ⟨R, hR⟩ : ∃ R, parseS l [] = R := ⟨_, rfl⟩
  rw [hR]
  have HR0 := hide hR
  clear hR
  go_enter Tryz.func16, Tryz.ntmps16
  go_wp2_with fail
  refine (new_any w A l.length cap l HR.out (by omega)).mono ?_
  rintro e w1 ⟨p, rfl, hc1, hb1⟩
  have HC0 := hide hc1
  have HLE0 := Le.mk hb1
  clear hc1 hb1
  go_wp2_with fail
  go_loopw [5] (fun v wr => ∃ (L : List UInt8) (out : List Sp) (vs : List Value), out.length + L.length ≤ 200000 ∧ Hd (parseS L out = R) ∧ Hd (CutAt wr w.heap.size p L 0) ∧ Hd (wr.ownsRow w.heap.size 70 3 v out.length (encS out vs)) ∧ Hd (SDatas wr out vs) ∧ Hd (∀ s ∈ out, s.Num) ∧ Le w wr)
      (fun v wr => match wr.cell? ⟨p, 0, none⟩ with | some (.slice _ n _) => n | _ => 0)
  case atStart => exact ⟨l, [], [], by simpa using hl, HR0, HC0, hide (World.ownsRow_nil _ _ _ _), hide SDatas.nil, hide (by simp), HLE0⟩
  case round =>
    clear HR0 HC0 HLE0
    obtain ⟨L, out, vs, hf, HF, HC, HO, HD, HNUM, hle⟩ := hrel
    have hm0 := cut_cell HC.out
    obtain ⟨Am0, cm0, hm0⟩ := hm0
    obtain ⟨A, cap, rfl, _, _⟩ := own_slice HO.out
    rcases L with _ | ⟨a, L⟩
    · have HE := hide (show R = (out, 0) by rw [← HF.out, parseS_nil])
      go_wp2_with (go_at_call 40; refine HC.out.left.mono ?_; rintro r w4 ⟨rfl, rfl⟩)
      go_ret2
      exact sparT_mk HE.out rfl HO.out HD.out HNUM.out hle.out
    have hL' : out.length + L.length + 1 ≤ 200000 := by simp at hf; omega
    clear hf
    have ha := a.toNat_lt
    have hpos : (0 : Int) < (((a :: L).length : Nat) : Int) := by rw [List.length_cons]; omega
    go_wp2_with (go_at_call 40; refine HC.out.left.mono ?_; rintro r w4 ⟨rfl, rfl⟩)
    have hnum := num_any wr w.heap.size p (a :: L) 0 1 HC.out (by simp; omega)
    rw [show cut (a :: L) 0 1 (mayB 1) = (L, 0, [a]) by rw [cut, if_neg (by simp), if_neg (by decide), if_neg (by simp; omega)]; rfl] at hnum
    refine hnum.mono ?_
    clear hnum
    rintro r w2 ⟨hr, hc2, hg2⟩
    obtain rfl : r = .returned (.int .u64 (a.toNat : Nat)) := by rw [hr]; simp [val]
    have hc2 : CutAt w2 w.heap.size p L 0 := hc2
    have ho2 := HO.out.kept hg2 (Or.inr (own_ne HO.out (cut_heap HC.out) (by decide)))
    have hd2 := HD.out.grown hg2 (fun g cur fr h => cut_ne HC.out h (by decide))
    have hle2 : Le w w2 := ⟨below_row hle.out hg2 HC.out.1 hle.size⟩
    clear hg2 hle
    have HG := hide (heap_alloc_new w2 (.cells #[.int .i64 (a.toNat : Int), .int .i64 0, .slice none 0 0] 70))
    have HOG2 := hide (show (Value.slice A out.length cap).ownBlock ≠ some w2.heap.size from fun e => Nat.lt_irrefl _ (ho2.lt _ e).2)
    have HGE := hide hle2.size
    have hall := (Le.refl w2).alloc (.cells #[.int .i64 (a.toNat : Int), .int .i64 0, .slice none 0 0] 70)
    have HC3 := hide (hc2.keep hall.out (Nat.le_refl _))
    have HO3 := hide (ho2.alloc (.cells #[.int .i64 (a.toNat : Int), .int .i64 0, .slice none 0 0] 70))
    have HD3 := hide (hd2.keep hall.out)
    have HLE3 := hide (hle2.trans hall)
    clear hc2 ho2 hd2 hle2 hall hr
    have wg0 := cell_block HG.out 0
    simp only [List.getElem?_toArray, List.getElem?_cons_zero] at wg0
    by_cases h9 : 9 ≤ a.toNat
    · have HF3 := hide (show R = ([], 11) by rw [← HF.out]; exact parseS_bad (by simp) (step1_big h9) out)
      have h9I : (9 : Int) ≤ (a.toNat : Int) := by omega
      clear h9
      go_wp2_with fail
      go_ret2
      exact sparT_no HF3.out HLE3.out.out
    have h9I : ¬ (9 : Int) ≤ (a.toNat : Int) := by omega
    by_cases h4 : 4 ≤ a.toNat
    · have hbo : bOp (a.toNat : Int) = false := by simp [bOp]; omega
      have hso : sOp (a.toNat : Int) = false := by simp [sOp]; omega
      have HF3 := hide (show parseS L (out ++ [⟨a.toNat, 0, []⟩]) = R by rw [← HF.out]; exact (parseS_ok (by simp) (step1_n h4 (by omega)) out).symm)
      have HNX := hide (num_small a.toNat 0 [] ha (by omega) (by simp))
      have HDX := hide (show D8 (w2.alloc (.cells #[.int .i64 (a.toNat : Int), .int .i64 0, .slice none 0 0] 70)) [] (.slice none 0 0) from D8.nil)
      clear h4 h9
      go_wp2_with (first
        | (go_at_call 36; refine (bOp_any _ _).mono ?_; rintro e w' ⟨rfl, rfl⟩))
      generalize w2.alloc (.cells #[.int .i64 (a.toNat : Int), .int .i64 0, .slice none 0 0] 70) = w3 at *
      generalize w2.heap.size = g at *
      have z0 := cell_block HG.out 0
      have z1 := cell_block HG.out 1
      have z2 := cell_block HG.out 2
      simp only [List.getElem?_toArray, List.getElem?_cons_zero, List.getElem?_cons_succ] at z0 z1 z2
      have HNE := hide (fun (g : Nat) (cs : Array Value) (t : TypeId) (fr : Nat × Nat) (h : (w3.alloc (.cells #[.int .i64 (a.toNat : Int), .int .i64 0, (.slice none 0 0)] 70)).heap[g]? = some (.cells cs t fr)) (ht : 70 ≠ t) => own_ne (HO3.out.alloc (.cells #[.int .i64 (a.toNat : Int), .int .i64 0, (.slice none 0 0)] 70)) h ht)
      have HDV := hide HD3.out.1
      have hHS : w.heap.size ≤ w3.heap.size := HLE3.out.size
      go_wp2_with (first
        | (go_at_call 38; refine (sOp_any _ _).mono ?_; rintro e w' ⟨rfl, rfl⟩)
        | (go_at_call 43; refine HC3.out.err.mono ?_; rintro r w4 ⟨rfl, rfl⟩)
        | (at_builtin; go_must (refine wpl_app rfl slStep (.tmp 43) (.tmp 45) rfl (HO3.out.alloc _) rfl rfl (news := [.int .i64 (a.toNat : Int), .int .i64 0, (.slice none 0 0)]) (cells_new _ _ _) rfl (by simp [Value.oneCell']) (by omega) (by omega) (le_alloc hHS) ?_); intro v9 w9 ho9 hg9 hat9; have HG5 := hide hg9; have HO5 := hide ho9; clear hg9 ho9 hat9))
      go_roundw
      case rel =>
        refine ⟨L, out ++ [⟨a.toNat, 0, []⟩], vs ++ [(.slice none 0 0)], ?_, HF3, hide ?_, hide ?_, hide ?_, hide ?_, ⟨below_grown (HLE3.out.out.alloc hHS _) (HO3.out.alloc _) HG5.out (Nat.le_refl _) (le_alloc hHS)⟩⟩
        · rw [List.length_append, List.length_singleton]
          first | omega | (simp only [List.length_drop]; omega)
        · exact cutS_grown (HC3.out.keep ((Le.refl w3).alloc _).out (Nat.le_refl _)) HG5.out (fun g cs t fr h ht => HNE.out g cs t fr h (Ne.symm ht))
        · rw [encS_snoc _ _ _ _ HDV.out, List.length_append]
          exact HO5.out
        · exact SDatas.snoc ((HD3.out.keep ((Le.refl w3).alloc _).out).grown HG5.out (fun g cur fr h => HNE.out g cur _ fr h (by decide))) ((HDX.out.keep ((Le.refl w3).alloc _).out).grown HG5.out (fun g cur fr h => HNE.out g cur _ fr h (by decide)))
        · intro s hs
          rw [List.mem_append, List.mem_singleton] at hs
          rcases hs with hs | rfl
          · exact HNUM.out s hs
          · exact HNX.out
      case measure =>
        have hm5 := cut_cell (cutS_grown (HC3.out.keep ((Le.refl w3).alloc _).out (Nat.le_refl _)) HG5.out (fun g cs t fr h ht => HNE.out g cs t fr h (Ne.symm ht)))
        obtain ⟨Am, cm, hm5⟩ := hm5
        rw [hm5, hm0]
        first | (simp only [List.length_cons]; omega) | (simp only [List.length_drop, List.length_cons]; omega)
    by_cases h2 : 2 ≤ a.toNat
    · have hbo : bOp (a.toNat : Int) = false := by simp [bOp]; omega
      have hso : sOp (a.toNat : Int) = true := by simp [sOp]; omega
      go_wp2_with (first
        | (go_at_call 36; refine (bOp_any _ _).mono ?_; rintro e w' ⟨rfl, rfl⟩)
        | (go_at_call 38; refine (sOp_any _ _).mono ?_; rintro e w' ⟨rfl, rfl⟩))
      generalize w2.alloc (.cells #[.int .i64 (a.toNat : Int), .int .i64 0, .slice none 0 0] 70) = w3 at *
      generalize w2.heap.size = g at *
      rcases L with _ | ⟨s, L⟩
      · have HF3 := hide (show R = ([], 10) by rw [← HF.out]; exact parseS_bad (by simp) (step1_s0 h2 (by omega)) out)
        have hnum := num_any w3 w.heap.size p [] 0 1 HC3.out (by simp)
        rw [show cut [] 0 1 (mayB 1) = ([], 10, []) by decide] at hnum
        refine hnum.mono ?_
        clear hnum
        rintro r w4 ⟨hr, hc4, hg4⟩
        obtain rfl : r = .returned (.int .u64 (0 : Nat)) := hr
        have hgb := heap_grown hg4 HG.out (cut_ne HC3.out HG.out (by decide))
        have HGB := hide hgb
        have y1 := cell_block hgb 1
        have f1 := free_block hgb 1
        simp only [List.getElem?_toArray, List.getElem?_cons_zero, List.getElem?_cons_succ] at y1
        have HC4 := hide (show CutAt w4 w.heap.size p [] 10 from hc4)
        have HLE4 := hide (show Le w w4 from ⟨below_row HLE3.out.out hg4 HC3.out.1 HLE3.out.size⟩)
        have HOG := hide (show w.heap.size ≤ g from HGE.out)
        have HC5 := hide (fun u => HC4.out.set_other (i := 1) HGB.out (by decide) (by decide) u)
        clear hc4 hg4 hgb wg0 h2
        go_wp2_with (go_at_call 43; refine (HC5.out _).err.mono ?_; rintro r w5 ⟨rfl, rfl⟩)
        go_ret2
        exact sparT_no HF3.out (HLE4.out.out.setCell HOG.out _)
      · have HF3 := hide (show parseS L (out ++ [⟨a.toNat, s.toNat, []⟩]) = R by rw [← HF.out]; exact (parseS_ok (by simp) (step1_s h2 (by omega)) out).symm)
        have hsl := s.toNat_lt
        have hL2 : out.length + L.length + 2 ≤ 200000 := by simp at hL'; omega
        have HNX := hide (num_small a.toNat s.toNat [] ha hsl (by simp))
        have hnum := num_any w3 w.heap.size p (s :: L) 0 1 HC3.out (by simp; omega)
        rw [show cut (s :: L) 0 1 (mayB 1) = (L, 0, [s]) by rw [cut, if_neg (by simp), if_neg (by decide), if_neg (by simp; omega)]; rfl] at hnum
        refine hnum.mono ?_
        clear hnum
        rintro r w4 ⟨hr, hc4, hg4⟩
        obtain rfl : r = .returned (.int .u64 (s.toNat : Nat)) := by rw [hr]; simp [val]
        have hgb := heap_grown hg4 HG.out (cut_ne HC3.out HG.out (by decide))
        have HGB := hide hgb
        have y1 := cell_block hgb 1
        have f1 := free_block hgb 1
        simp only [List.getElem?_toArray, List.getElem?_cons_zero, List.getElem?_cons_succ] at y1
        have HOG := hide (show w.heap.size ≤ g from HGE.out)
        have HC4 := hide ((show CutAt w4 w.heap.size p L 0 from hc4).set_other (i := 1) hgb (by decide) (by decide) (.int .i64 (s.toNat : Int)))
        have HO4 := hide ((HO3.out.kept hg4 (Or.inr (own_ne HO3.out (cut_heap HC3.out) (by decide)))).kept (grown_set (p := g) (i := 1) (.int .i64 (s.toNat : Int))) (Or.inr HOG2.out))
        have HD4 := hide ((HD3.out.grown hg4 (fun g cur fr h => cut_ne HC3.out h (by decide))).grown (grown_set (p := g) (i := 1) (.int .i64 (s.toNat : Int))) (fun g' cur fr h => by intro e; injection e with e; subst e; rw [hgb] at h; injection h with h; injection h with _ h _; exact absurd h (by decide)))
        have HLE4 := hide (show Le w (w4.setCell ⟨g, 1, none⟩ (.int .i64 (s.toNat : Int))) from ⟨(below_row HLE3.out.out hg4 HC3.out.1 HLE3.out.size).setCell HOG.out _⟩)
        have hgb5 : (w4.setCell ⟨g, 1, none⟩ (.int .i64 (s.toNat : Int))).heap[g]? = some (.cells #[.int .i64 (a.toNat : Int), .int .i64 (s.toNat : Int), .slice none 0 0] 70 (0, 0)) := heap_set (i := 1) (.int .i64 (s.toNat : Int)) hgb
        have HGB5 := hide hgb5
        have HDX := hide (show D8 (w4.setCell ⟨g, 1, none⟩ (.int .i64 (s.toNat : Int))) [] (.slice none 0 0) from D8.nil)
        clear hr hc4 hg4 wg0 h2 h9 h4
        go_wp2_with fail
        generalize w4.setCell ⟨g, 1, none⟩ (.int .i64 (s.toNat : Int)) = w5 at *
        have z0 := cell_block HGB5.out 0
        have z1 := cell_block HGB5.out 1
        have z2 := cell_block HGB5.out 2
        simp only [List.getElem?_toArray, List.getElem?_cons_zero, List.getElem?_cons_succ] at z0 z1 z2
        have HNE := hide (fun (g : Nat) (cs : Array Value) (t : TypeId) (fr : Nat × Nat) (h : (w5.alloc (.cells #[.int .i64 (a.toNat : Int), .int .i64 (s.toNat : Int), (.slice none 0 0)] 70)).heap[g]? = some (.cells cs t fr)) (ht : 70 ≠ t) => own_ne (HO4.out.alloc (.cells #[.int .i64 (a.toNat : Int), .int .i64 (s.toNat : Int), (.slice none 0 0)] 70)) h ht)
        have HDV := hide HD4.out.1
        have hHS : w.heap.size ≤ w5.heap.size := HLE4.out.size
        go_wp2_with (first
          | (go_at_call 38; refine (sOp_any _ _).mono ?_; rintro e w' ⟨rfl, rfl⟩)
          | (go_at_call 43; refine HC4.out.err.mono ?_; rintro r w4 ⟨rfl, rfl⟩)
          | (at_builtin; go_must (refine wpl_app rfl slStep (.tmp 43) (.tmp 45) rfl (HO4.out.alloc _) rfl rfl (news := [.int .i64 (a.toNat : Int), .int .i64 (s.toNat : Int), (.slice none 0 0)]) (cells_new _ _ _) rfl (by simp [Value.oneCell']) (by omega) (by omega) (le_alloc hHS) ?_); intro v9 w9 ho9 hg9 hat9; have HG5 := hide hg9; have HO5 := hide ho9; clear hg9 ho9 hat9))
        go_roundw
        case rel =>
          refine ⟨L, out ++ [⟨a.toNat, s.toNat, []⟩], vs ++ [(.slice none 0 0)], ?_, HF3, hide ?_, hide ?_, hide ?_, hide ?_, ⟨below_grown (HLE4.out.out.alloc hHS _) (HO4.out.alloc _) HG5.out (Nat.le_refl _) (le_alloc hHS)⟩⟩
          · rw [List.length_append, List.length_singleton]
            first | omega | (simp only [List.length_drop]; omega)
          · exact cutS_grown (HC4.out.keep ((Le.refl w5).alloc _).out (Nat.le_refl _)) HG5.out (fun g cs t fr h ht => HNE.out g cs t fr h (Ne.symm ht))
          · rw [encS_snoc _ _ _ _ HDV.out, List.length_append]
            exact HO5.out
          · exact SDatas.snoc ((HD4.out.keep ((Le.refl w5).alloc _).out).grown HG5.out (fun g cur fr h => HNE.out g cur _ fr h (by decide))) ((HDX.out.keep ((Le.refl w5).alloc _).out).grown HG5.out (fun g cur fr h => HNE.out g cur _ fr h (by decide)))
          · intro s hs
            rw [List.mem_append, List.mem_singleton] at hs
            rcases hs with hs | rfl
            · exact HNUM.out s hs
            · exact HNX.out
        case measure =>
          have hm5 := cut_cell (cutS_grown (HC4.out.keep ((Le.refl w5).alloc _).out (Nat.le_refl _)) HG5.out (fun g cs t fr h ht => HNE.out g cs t fr h (Ne.symm ht)))
          obtain ⟨Am, cm, hm5⟩ := hm5
          rw [hm5, hm0]
          first | (simp only [List.length_cons]; omega) | (simp only [List.length_drop, List.length_cons]; omega)
    · have hbo : bOp (a.toNat : Int) = true := by simp [bOp]; omega
      have hso : sOp (a.toNat : Int) = false := by simp [sOp]; omega
      have ha2 : a.toNat < 2 := by omega
      go_wp2_with (first
        | (go_at_call 36; refine (bOp_any _ _).mono ?_; rintro e w' ⟨rfl, rfl⟩))
      generalize w2.alloc (.cells #[.int .i64 (a.toNat : Int), .int .i64 0, .slice none 0 0] 70) = w3 at *
      generalize w2.heap.size = g at *
      clear h9 h4 h2 h9I
      by_cases hL2 : L.length < 2
      · have HF3 := hide (show R = ([], 10) by rw [← HF.out]; exact parseS_bad (by simp) (step1_b0 ha2 hL2) out)
        have hnum := num_any w3 w.heap.size p L 0 2 HC3.out (by omega)
        rw [show cut L 0 2 (mayB 2) = (L, 10, []) by rw [cut, if_neg (by simp), if_neg (by decide), if_pos (by omega)]] at hnum
        refine hnum.mono ?_
        clear hnum
        rintro r w4 ⟨hr, hc4, hg4⟩
        obtain rfl : r = .returned (.int .u64 (0 : Nat)) := hr
        have HGB := hide (heap_grown hg4 HG.out (cut_ne HC3.out HG.out (by decide)))
        have HC4 := hide (show CutAt w4 w.heap.size p L 10 from hc4)
        have HLE4 := hide (show Le w w4 from ⟨below_row HLE3.out.out hg4 HC3.out.1 HLE3.out.size⟩)
        clear hc4 hg4 wg0
        go_wp2_with fail
        refine (bytes_any w4 w.heap.size p L 10 0 HC4.out (by omega)).mono ?_
        rw [show cut L 10 0 (decide ((0 : Int) ≤ 0)) = (L, 10, []) by rw [cut, if_pos (by decide)]]
        rintro r w5 ⟨v5, rfl, hc5, hd5, hg5⟩
        obtain ⟨A5, cap5, rfl⟩ : ∃ A5 cap5, v5 = .slice A5 0 cap5 := by obtain ⟨A5, cap5, h, _⟩ := hd5; exact ⟨A5, cap5, h⟩
        have hgb := heap_grown hg5 HGB.out (cut_ne HC4.out HGB.out (by decide))
        have HC5 := hide ((show CutAt w5 w.heap.size p L 10 from hc5).set_other (i := 2) hgb (by decide) (by decide) (.slice A5 0 cap5))
        have HLE5 := hide (show Le w (w5.setCell ⟨g, 2, none⟩ (.slice A5 0 cap5)) from ⟨(below_row HLE4.out.out hg5 HC4.out.1 HLE4.out.size).setCell HGE.out _⟩)
        have HGB5 := hide (show (w5.setCell ⟨g, 2, none⟩ (.slice A5 0 cap5)).heap[g]? = some (.cells #[.int .i64 (a.toNat : Int), .int .i64 0, .slice A5 0 cap5] 70 (0, 0)) from heap_set (i := 2) (.slice A5 0 cap5) hgb)
        have y0 := cell_block hgb 0
        have y2 := cell_block hgb 2
        have f2 := free_block hgb 2
        simp only [List.getElem?_toArray, List.getElem?_cons_zero, List.getElem?_cons_succ] at y0 y2
        clear hc5 hd5 hg5 hgb
        go_wp2_with fail
        generalize w5.setCell ⟨g, 2, none⟩ (.slice A5 0 cap5) = w6 at *
        have z0 := cell_block HGB5.out 0
        simp only [List.getElem?_toArray, List.getElem?_cons_zero] at z0
        go_wp2_with (first
          | (go_at_call 38; refine (sOp_any _ _).mono ?_; rintro e w' ⟨rfl, rfl⟩)
          | (go_at_call 43; refine HC5.out.err.mono ?_; rintro r w7 ⟨rfl, rfl⟩))
        go_ret2
        exact sparT_no HF3.out HLE5.out.out
      · obtain ⟨x, y, t, rfl⟩ : ∃ x y t, L = x :: y :: t := by
          rcases L with _ | ⟨x, _ | ⟨y, t⟩⟩
          · simp at hL2
          · simp at hL2
          · exact ⟨x, y, t, rfl⟩
        have hL3 : out.length + t.length + 3 ≤ 200000 := by simp at hL'; omega
        have hx := x.toNat_lt
        have hy := y.toNat_lt
        have hnum := num_any w3 w.heap.size p (x :: y :: t) 0 2 HC3.out (by simp; omega)
        rw [show cut (x :: y :: t) 0 2 (mayB 2) = (t, 0, [x, y]) by rw [cut, if_neg (by simp), if_neg (by decide), if_neg (by simp; omega)]; rfl] at hnum
        refine hnum.mono ?_
        clear hnum hL2 hL'
        rintro r w4 ⟨hr, hc4, hg4⟩
        have HSB := hide (fun (h : t.length < 256 * x.toNat + y.toNat) => show R = ([], 10) by rw [← HF.out]; exact parseS_bad (by simp) (step1_b1 ha2 h) out)
        have HSO := hide (fun (h : ¬ t.length < 256 * x.toNat + y.toNat) => show parseS (t.drop (256 * x.toNat + y.toNat)) (out ++ [⟨a.toNat, 0, t.take (256 * x.toNat + y.toNat)⟩]) = R by rw [← HF.out]; exact (parseS_ok (by simp) (step1_b ha2 h) out).symm)
        obtain ⟨m, hm⟩ : ∃ m, 256 * x.toNat + y.toNat = m := ⟨_, rfl⟩
        have hm16 : m ≤ 65535 := by omega
        obtain rfl : r = .returned (.int .u64 (m : Nat)) := by rw [hr]; simp [val]; omega
        rw [hm] at HSB HSO
        have HGB := hide (heap_grown hg4 HG.out (cut_ne HC3.out HG.out (by decide)))
        have HC4 := hide (show CutAt w4 w.heap.size p t 0 from hc4)
        have HO4 := hide (HO3.out.kept hg4 (Or.inr (own_ne HO3.out (cut_heap HC3.out) (by decide))))
        have HD4 := hide (HD3.out.grown hg4 (fun g cur fr h => cut_ne HC3.out h (by decide)))
        have HLE4 := hide (show Le w w4 from ⟨below_row HLE3.out.out hg4 HC3.out.1 HLE3.out.size⟩)
        clear hc4 hg4 wg0 hr hm hx hy
        go_wp2_with fail
        refine (bytes_any w4 w.heap.size p t 0 (m : Int) HC4.out (by omega)).mono ?_
        rintro r w5 ⟨v5, rfl, hc5, hd5, hg5⟩
        have hgb := heap_grown hg5 HGB.out (cut_ne HC4.out HGB.out (by decide))
        have y0 := cell_block hgb 0
        have y2 := cell_block hgb 2
        have f2 := free_block hgb 2
        simp only [List.getElem?_toArray, List.getElem?_cons_zero, List.getElem?_cons_succ] at y0 y2
        by_cases hsh : t.length < m
        · have HF3 := hide (HSB.out hsh)
          rw [show cut t 0 (m : Int) (decide (0 ≤ (m : Int))) = (t, 10, []) by rw [cut, if_neg (by simp), if_neg (by simp), if_pos (by omega)]] at hc5 hd5
          obtain ⟨A5, cap5, rfl⟩ : ∃ A5 cap5, v5 = .slice A5 0 cap5 := by obtain ⟨A5, cap5, h, _⟩ := hd5; exact ⟨A5, cap5, h⟩
          have HC5 := hide ((show CutAt w5 w.heap.size p t 10 from hc5).set_other (i := 2) hgb (by decide) (by decide) (.slice A5 0 cap5))
          have HLE5 := hide (show Le w (w5.setCell ⟨g, 2, none⟩ (.slice A5 0 cap5)) from ⟨(below_row HLE4.out.out hg5 HC4.out.1 HLE4.out.size).setCell HGE.out _⟩)
          have HGB5 := hide (show (w5.setCell ⟨g, 2, none⟩ (.slice A5 0 cap5)).heap[g]? = some (.cells #[.int .i64 (a.toNat : Int), .int .i64 0, .slice A5 0 cap5] 70 (0, 0)) from heap_set (i := 2) (.slice A5 0 cap5) hgb)
          clear hc5 hd5 hg5 hgb hsh
          go_wp2_with fail
          generalize w5.setCell ⟨g, 2, none⟩ (.slice A5 0 cap5) = w6 at *
          have z0 := cell_block HGB5.out 0
          simp only [List.getElem?_toArray, List.getElem?_cons_zero] at z0
          go_wp2_with (first
            | (go_at_call 38; refine (sOp_any _ _).mono ?_; rintro e w' ⟨rfl, rfl⟩)
            | (go_at_call 43; refine HC5.out.err.mono ?_; rintro r w7 ⟨rfl, rfl⟩))
          go_ret2
          exact sparT_no HF3.out HLE5.out.out
        · have HF3 := hide (HSO.out hsh)
          have hcut : cut t 0 (m : Int) (decide (0 ≤ (m : Int))) = (t.drop m, 0, t.take m) := by
            rw [cut, if_neg (by simp), if_neg (by simp), if_neg (by omega)]
            rw [show ((m : Int) : Int).toNat = m by omega]
          rw [hcut] at hc5 hd5
          have hd5' : D8 w5 (t.take m) v5 := hd5
          have hln : (t.take m).length = m := by simp; omega
          obtain ⟨A3, cap3, rfl, hcp3, _⟩ := id hd5'
          have HNX := hide (num_small a.toNat 0 (t.take m) ha (by omega) (by rw [hln]; omega))
          have hc5 : CutAt w5 w.heap.size p (t.drop m) 0 := hc5
          rw [hln] at hd5' ⊢
          have hdl : (t.drop m).length = t.length - m := List.length_drop
          have HC6 := hide ((show CutAt w5 w.heap.size p (t.drop m) 0 from hc5).set_other (i := 2) hgb (by decide) (by decide) (.slice A3 m cap3))
          have HO6 := hide ((HO4.out.kept hg5 (Or.inr (own_ne HO4.out (cut_heap HC4.out) (by decide)))).kept (grown_set (p := g) (i := 2) (.slice A3 m cap3)) (Or.inr HOG2.out))
          have HD6 := hide ((HD4.out.grown hg5 (fun g cur fr h => cut_ne HC4.out h (by decide))).grown (grown_set (p := g) (i := 2) (.slice A3 m cap3)) (fun g' cur fr h => by intro e; injection e with e; subst e; rw [hgb] at h; injection h with h; injection h with _ h _; exact absurd h (by decide)))
          have HLE6 := hide (show Le w (w5.setCell ⟨g, 2, none⟩ (.slice A3 m cap3)) from ⟨(below_row HLE4.out.out hg5 HC4.out.1 HLE4.out.size).setCell HGE.out _⟩)
          have HGB6 := hide (show (w5.setCell ⟨g, 2, none⟩ (.slice A3 m cap3)).heap[g]? = some (.cells #[.int .i64 (a.toNat : Int), .int .i64 0, (.slice A3 m cap3)] 70 (0, 0)) from heap_set (i := 2) (.slice A3 m cap3) hgb)
          have HDX := hide ((hd5'.grown (grown_set (p := g) (i := 2) (.slice A3 m cap3)) (fun g' cur fr h => by intro e; injection e with e; subst e; rw [hgb] at h; injection h with h; injection h with _ h _; exact absurd h (by decide))))
          clear hc5 hd5 hd5' hg5 hgb hsh hln hcut hcp3
          go_wp2_with fail
          generalize w5.setCell ⟨g, 2, none⟩ (.slice A3 m cap3) = w6 at *
          have z0 := cell_block HGB6.out 0
          have z1 := cell_block HGB6.out 1
          have z2 := cell_block HGB6.out 2
          simp only [List.getElem?_toArray, List.getElem?_cons_zero, List.getElem?_cons_succ] at z0 z1 z2
          have HNE := hide (fun (g : Nat) (cs : Array Value) (t : TypeId) (fr : Nat × Nat) (h : (w6.alloc (.cells #[.int .i64 (a.toNat : Int), .int .i64 0, (.slice A3 m cap3)] 70)).heap[g]? = some (.cells cs t fr)) (ht : 70 ≠ t) => own_ne (HO6.out.alloc (.cells #[.int .i64 (a.toNat : Int), .int .i64 0, (.slice A3 m cap3)] 70)) h ht)
          have HDV := hide HD6.out.1
          have hHS : w.heap.size ≤ w6.heap.size := HLE6.out.size
          go_wp2_with (first
            | (go_at_call 38; refine (sOp_any _ _).mono ?_; rintro e w' ⟨rfl, rfl⟩)
            | (go_at_call 43; refine HC6.out.err.mono ?_; rintro r w4 ⟨rfl, rfl⟩)
            | (at_builtin; go_must (refine wpl_app rfl slStep (.tmp 43) (.tmp 45) rfl (HO6.out.alloc _) rfl rfl (news := [.int .i64 (a.toNat : Int), .int .i64 0, (.slice A3 m cap3)]) (cells_new _ _ _) rfl (by simp [Value.oneCell']) (by omega) (by omega) (le_alloc hHS) ?_); intro v9 w9 ho9 hg9 hat9; have HG5 := hide hg9; have HO5 := hide ho9; clear hg9 ho9 hat9))
          go_roundw
          case rel =>
            refine ⟨(t.drop m), out ++ [⟨a.toNat, 0, t.take m⟩], vs ++ [(.slice A3 m cap3)], ?_, HF3, hide ?_, hide ?_, hide ?_, hide ?_, ⟨below_grown (HLE6.out.out.alloc hHS _) (HO6.out.alloc _) HG5.out (Nat.le_refl _) (le_alloc hHS)⟩⟩
            · rw [List.length_append, List.length_singleton]
              first | omega | (simp only [List.length_drop]; omega)
            · exact cutS_grown (HC6.out.keep ((Le.refl w6).alloc _).out (Nat.le_refl _)) HG5.out (fun g cs t fr h ht => HNE.out g cs t fr h (Ne.symm ht))
            · rw [encS_snoc _ _ _ _ HDV.out, List.length_append]
              exact HO5.out
            · exact SDatas.snoc ((HD6.out.keep ((Le.refl w6).alloc _).out).grown HG5.out (fun g cur fr h => HNE.out g cur _ fr h (by decide))) ((HDX.out.keep ((Le.refl w6).alloc _).out).grown HG5.out (fun g cur fr h => HNE.out g cur _ fr h (by decide)))
            · intro s hs
              rw [List.mem_append, List.mem_singleton] at hs
              rcases hs with hs | rfl
              · exact HNUM.out s hs
              · exact HNX.out
          case measure =>
            have hm5 := cut_cell (cutS_grown (HC6.out.keep ((Le.refl w6).alloc _).out (Nat.le_refl _)) HG5.out (fun g cs t fr h ht => HNE.out g cs t fr h (Ne.symm ht)))
            obtain ⟨Am, cm, hm5⟩ := hm5
            rw [hm5, hm0]
            first | (simp only [List.length_cons]; omega) | (simp only [List.length_drop, List.length_cons]; omega)
end Go.Proofs.YtkcpfhbfjpldhaaGreatDoor
