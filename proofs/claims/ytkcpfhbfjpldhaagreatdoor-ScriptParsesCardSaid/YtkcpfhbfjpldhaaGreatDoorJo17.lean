/- Texts of one claim, laid together: ScrRPar ScriptParses -/
import Derived.BigQuiet
import Derived.Test.YtkcpfhbfjpldhaaGreatDoorJo15
import Derived.Test.YtkcpfhbfjpldhaaGreatDoorJo07
import Derived.Test.YtkcpfhbfjpldhaaGreatDoorJo16
/- louverref24.Parse. -/
namespace Go.Proofs.YtkcpfhbfjpldhaaGreatDoor
open Go.RowKit
set_option linter.unusedVariables false

def RParQ (w : World) (out : List Sp) (err : Int) (e : Ending) (w' : World) : Prop :=
  ∃ A cap, e = .returned (.tuple #[.slice A out.length cap, .int .i64 err]) ∧ RSl 3 RSr w' out (.slice A out.length cap) ∧ Below w.heap.size w w'
theorem rparQ_mk {w w' : World} {R : List Sp × Int} {out : List Sp} {err : Int} {A : Option Addr} {n cap : Nat} (hR : R = (out, err)) (hn : n = out.length) (hr : RSl 3 RSr w' out (.slice A n cap)) (hb : Below w.heap.size w w') :
    RParQ w R.1 R.2 (.returned (.tuple #[.slice A n cap, .int .i64 err])) w' := by
  subst hR hn
  exact ⟨A, cap, rfl, hr, hb⟩

theorem own_fresh_at {w w' : World} {base : Nat} {e : TypeId} {size n : Nat} {v : Value} {xs : List Value} {g : Nat} (h : w.ownsRow base e size v n xs) (_ : Le w w') (hg : w.heap.size ≤ g) : v.ownBlock ≠ some g := fun e => by
  have := (h.lt _ e).2
  omega
set_option maxRecDepth 100000 in
set_option maxHeartbeats 8000000 in
theorem rscParse_any (l : List UInt8) (w : World) (hl : l.length ≤ 200000) :
    Calls Tryz.prog 17 #[.string (str l)] w (RParQ w (parseS l []).1 (parseS l []).2) := by
  obtain ⟨R, hR⟩ : ∃ R, parseS l [] = R := ⟨_, rfl⟩
  rw [hR]
  have HR0 := hide hR
  clear hR
  go_enter Tryz.func17, Tryz.ntmps17
  go_wp2_with fail
  go_loopw [0, 4, 5, 6] (fun s0 s4 s5 s6 wr => ∃ (L : List UInt8) (out : List Sp), out.length + L.length ≤ 200000 ∧ s0 = .string (str L) ∧ Hd (parseS L out = R) ∧ Hd (wr.ownsRow w.heap.size 83 3 s4 out.length (encR out)) ∧ Le w wr) (fun s0 _ _ _ _ => match s0 with | .string s => s.size | _ => 0)
  case atStart => exact ⟨l, [], by simpa using hl, rfl, HR0, hide (World.ownsRow_nil _ _ _ _), Le.refl _⟩
  case round =>
    clear HR0
    obtain ⟨L, out, hL, rfl, HF, HO, hle⟩ := hrel
    obtain ⟨A, cap, rfl, _, _⟩ := own_slice HO.out
    rcases L with _ | ⟨a, L⟩
    · have HE := hide (show R = (out, 0) by rw [← HF.out, parseS_nil])
      have hem : (([] : List UInt8) == []) = true := rfl
      go_wp2_with fail
      go_ret2
      exact rparQ_mk HE.out rfl (rsl_refs HO.out) hle.out
    have hL' : out.length + L.length + 1 ≤ 200000 := by simp at hL; omega
    clear hL
    have ha := a.toNat_lt
    have hpos : (0 : Int) < (((a :: L).length : Nat) : Int) := by rw [List.length_cons]; omega
    have hne : ((a :: L) == ([] : List UInt8)) = false := rfl
    have h1l : (1 : Int) ≤ (((a :: L).length : Nat) : Int) := by rw [List.length_cons]; omega
    have hx2 : (str (a :: L)).extract 1 (a :: L).length = str L := by rw [str_extract_end]; rfl
    have hx3 : (str (a :: L)).extract 1 (str (a :: L)).size = str L := by rw [str_size]; exact hx2
    go_upto_region 4 with (refine wpl_store_blk rfl 83 (.tmp 5) (.tmp 12) (cs := [.int .i64 (a.toNat : Int), .int .i64 0, .string ByteArray.empty]) (old := [.int .i64 0, .int .i64 0, .string ByteArray.empty]) rfl rfl rfl (by kernel_rfl) (by simp [Value.oneCell']) (heap_alloc_new wr _) rfl ?_; intro w5 h5 hg5; have H5 := hide (And.intro h5 (le_boxed ((Le.refl wr).alloc _) hg5 (Nat.le_refl _))); have GSZ := hide (Nat.le_refl wr.heap.size); generalize hgs : wr.heap.size = gs at H5 ⊢; rw [hgs] at GSZ; have GSZ := hide (show wr.heap.size ≤ gs from Nat.le_of_eq hgs); clear hgs; clear h5 hg5)
    have z0 : w5.cell? ⟨gs, 0, none⟩ = some (.int .i64 (a.toNat : Int)) := cell_block H5.out.1 0
    have HLE := hide (hle.trans H5.out.2)
    have HO5 := hide (H5.out.2.own HO.out)
    have GSB := hide (Nat.le_trans hle.size GSZ.out)
    have GSO := hide (own_fresh_at HO.out H5.out.2 GSZ.out)
    clear hle HO
    by_cases h9 : 9 ≤ a.toNat
    · have HE := hide (show R = ([], 11) by rw [← HF.out, parseS_bad (by simp) (step1_big h9)])
      have h9I : (8 : Int) < (a.toNat : Int) := by omega
      go_wp2_with fail
      go_ret2
      exact rparQ_mk HE.out rfl RSl.nil HLE.out.out
    have h9I : ¬ (8 : Int) < (a.toNat : Int) := by omega
    by_cases h2 : a.toNat < 2
    · have h2I : (a.toNat : Int) < 2 := by omega
      have h2a : ((a.toNat : Int) == 2) = false := by rw [beq_eq_false_iff_ne]; omega
      have h2b : ((a.toNat : Int) == 3) = false := by rw [beq_eq_false_iff_ne]; omega
      go_upto_region 8 with fail
      by_cases hs : L.length < 2
      · have HE := hide (show R = ([], 10) by rw [← HF.out, parseS_bad (by simp) (step1_b0 h2 hs)])
        have hsI : (L.length : Int) < 2 := by omega
        have hsd : decide ((L.length : Int) < 2) = true := by simp; omega
        clear hs
        go_quiet (fail)
        go_wp2_with fail
        go_ret2
        exact rparQ_mk HE.out rfl RSl.nil (HLE.out.drewN _).out
      rcases L with _ | ⟨x, _ | ⟨y, t⟩⟩
      · simp at hs
      · simp at hs
      clear hs
      have hsI : ¬ ((t.length : Int) + 1 + 1 < 2) := by omega
      have hsd : decide ((t.length : Int) + 1 + 1 < 2) = false := by simp; omega
      have h0I : (0 : Int) < (t.length : Int) + 1 + 1 := by omega
      have h1I : (1 : Int) < (t.length : Int) + 1 + 1 := by omega
      have h0J : (0 : Int) < (((x :: y :: t).length : Nat) : Int) := by simp only [List.length_cons]; omega
      have h1J : (1 : Int) < (((x :: y :: t).length : Nat) : Int) := by simp only [List.length_cons]; omega
      have hxl := x.toNat_lt
      have hyl := y.toNat_lt
      obtain ⟨m, hm⟩ : ∃ m, m = 256 * x.toNat + y.toNat := ⟨_, rfl⟩
      obtain ⟨m2, hm2⟩ : ∃ m2, m2 = 2 + m := ⟨_, rfl⟩
      have hmI : 2 + 256 * (x.toNat : Int) + (y.toNat : Int) = (m2 : Int) := by omega
      have hmw : IntKind.i64.wrap (m2 : Int) = m2 := IntWalk.i64_in _ (by omega)
      by_cases ht : t.length < m
      · have HE := hide (show R = ([], 10) by rw [← HF.out, parseS_bad (by simp) (step1_b1 h2 (by rw [← hm]; exact ht))])
        have htI : (t.length : Int) + 1 + 1 < (m2 : Int) := by omega
        have htd : decide ((t.length : Int) + 1 + 1 < (m2 : Int)) = true := by simp; omega
        clear ht
        go_quiet (fail)
        go_wp2_with fail
        go_ret2
        exact rparQ_mk HE.out rfl RSl.nil (HLE.out.drewN _).out
      have HE := hide (show parseS (t.drop m) (out ++ [⟨a.toNat, 0, t.take m⟩]) = R by
        have := step1_b h2 (by rw [← hm]; exact ht)
        rw [← hm] at this
        rw [← HF.out, parseS_ok (by simp) this])
      have htI : ¬ ((t.length : Int) + 1 + 1 < (m2 : Int)) := by omega
      have htd : decide ((t.length : Int) + 1 + 1 < (m2 : Int)) = false := by simp; omega
      have htJ : (m2 : Int) ≤ (t.length : Int) + 1 + 1 := by omega
      have htK : (m2 : Int) ≤ (((x :: y :: t).length : Nat) : Int) := by simp only [List.length_cons]; omega
      have h2m : (2 : Int) ≤ (m2 : Int) := by omega
      have hy1 : (str (x :: y :: t)).extract 2 m2 = str (t.take m) := by rw [str_extract, hm2]; congr 1; simp
      have hy2 : (str (x :: y :: t)).extract m2 (x :: y :: t).length = str (t.drop m) := by rw [str_extract_end, hm2, show 2 + m = m + 2 by omega]; rfl
      have hy3 : (str (x :: y :: t)).extract m2 (str (x :: y :: t)).size = str (t.drop m) := by rw [str_size]; exact hy2
      have hld : (t.drop m).length ≤ t.length := by simp
      have hz1 : w5.cell? ⟨gs, 2, none⟩ = some (.string ByteArray.empty) := cell_block H5.out.1 2
      have hz2 := free_block H5.out.1 2
      have hL2 : out.length + t.length + 3 ≤ 200000 := by simp only [List.length_cons] at hL'; omega
      have HST := hide (show Value.string (str (List.take (t.length + 1 + 1 - m2) (List.drop m2 (x :: y :: t)))) = .string (str (t.drop m)) by
        rw [hm2, show 2 + m = m + 2 by omega]
        show Value.string (str (List.take (t.length + 1 + 1 - (m + 2)) (t.drop m))) = _
        rw [List.take_of_length_le (by rw [List.length_drop]; omega)])
      clear hm hm2 ht hL'
      go_quiet (fail)
      go_wp2_with fail
      go_quiet (fail)
      go_upto_region 18 with fail
      have HHB : ∀ N W, (w5.drewN N).setCell ⟨gs, 2, none⟩ (.string (str (t.take m))) = W → W.heap[gs]? = some (.cells #[.int .i64 (a.toNat : Int), .int .i64 0, .string (str (t.take m))] 83 (0, 0)) ∧ Le w W ∧ W.ownsRow w.heap.size 83 3 (.slice A out.length cap) out.length (encR out) := by
        rintro N W rfl
        have hl := (Le.refl w5).drewN N
        exact ⟨heap_set (i := 2) _ (hl.heap H5.out.1), ⟨(HLE.out.trans hl).out.setCell (p := ⟨gs, 2, none⟩) GSB.out _⟩, ownsRow_setCell_other (a := ⟨gs, 2, none⟩) (hl.own HO5.out) GSO.out _⟩
      generalize hw7 : World.setCell _ _ _ = w7
      have H7 := hide (HHB _ _ hw7)
      clear hw7 HHB
      go_wp2_with (first
        | (refine wpl_load_blk rfl 83 (.tmp 5) rfl (cs := [.int .i64 (a.toNat : Int), .int .i64 0, .string (str (t.take m))]) _ rfl Tryz.underlying83 rfl (by kernel_rfl) H7.out.1 ?_)
        | (at_builtin; go_must (refine wpl_app rfl slSR (.tmp 70) (.tmp 72) rfl (H7.out.2.2.alloc _) rfl rfl (news := [.int .i64 (a.toNat : Int), .int .i64 0, .string (str (t.take m))]) (cells_new _ _ _) rfl (by simp [Value.oneCell']) (by omega) (by omega) (le_alloc H7.out.2.1.size) ?_); intro v8 w8 ho8 hg8 hat8; have HO8 := hide ho8; have HB8 := hide (below_grown (H7.out.2.1.out.alloc H7.out.2.1.size _) (H7.out.2.2.alloc _) hg8 (Nat.le_refl _) (le_alloc H7.out.2.1.size)); clear ho8 hg8 hat8))
      go_roundw
      case rel => exact ⟨t.drop m, out ++ [⟨a.toNat, 0, t.take m⟩], by simp only [List.length_append, List.length_cons, List.length_nil]; omega, HST.out, HE, hide (by rw [List.length_append, encR_snoc]; exact HO8.out), ⟨HB8.out⟩⟩
      case measure => simp only [str_size, List.length_take, List.length_drop, List.length_cons]; omega
    have h2I : ¬ (a.toNat : Int) < 2 := by omega
    by_cases h4 : 4 ≤ a.toNat
    · have h4a : ((a.toNat : Int) == 2) = false := by rw [beq_eq_false_iff_ne]; omega
      have h4b : ((a.toNat : Int) == 3) = false := by rw [beq_eq_false_iff_ne]; omega
      have HE := hide (show parseS L (out ++ [⟨a.toNat, 0, []⟩]) = R by rw [← HF.out, parseS_ok (by simp) (step1_n h4 (by omega))])
      go_wp2_with (first
        | (refine wpl_load_blk rfl 83 (.tmp 5) rfl (cs := [.int .i64 (a.toNat : Int), .int .i64 0, .string ByteArray.empty]) _ rfl Tryz.underlying83 rfl (by kernel_rfl) H5.out.1 ?_)
        | (at_builtin; go_must (refine wpl_app rfl slSR (.tmp 70) (.tmp 72) rfl (HO5.out.alloc _) rfl rfl (news := [.int .i64 (a.toNat : Int), .int .i64 0, .string (str [])]) (cells_new _ _ _) rfl (by simp [Value.oneCell']) (by omega) (by omega) (le_alloc HLE.out.size) ?_); intro v6 w6 ho6 hg6 hat6; have HO6 := hide ho6; have HB6 := hide (below_grown (HLE.out.out.alloc HLE.out.size _) (HO5.out.alloc _) hg6 (Nat.le_refl _) (le_alloc HLE.out.size)); clear ho6 hg6 hat6))
      go_roundw
      case rel => exact ⟨L, out ++ [⟨a.toNat, 0, []⟩], by simp; omega, rfl, HE, hide (by rw [List.length_append, encR_snoc]; exact HO6.out), ⟨HB6.out⟩⟩
      case measure => simp [str_size]
    have h4a : ((a.toNat : Int) == 2 || (a.toNat : Int) == 3) = true := by
      have h : a.toNat = 2 ∨ a.toNat = 3 := by omega
      rcases h with h | h <;> simp [h]
    have h4c : (((a.toNat : Int) == 2) = true) ∨ (((a.toNat : Int) == 2) = false ∧ ((a.toNat : Int) == 3) = true) := by
      have h : a.toNat = 2 ∨ a.toNat = 3 := by omega
      rcases h with h | h <;> simp [h]
    clear h4a
    rcases L with _ | ⟨s, t⟩
    · have HE := hide (show R = ([], 10) by rw [← HF.out, parseS_bad (by simp) (step1_s0 (by omega) (by omega))])
      have hem : (([] : List UInt8) == []) = true := rfl
      rcases h4c with h4c | ⟨h4c, h4d⟩
      · go_wp2_with fail
        go_ret2
        exact rparQ_mk HE.out rfl RSl.nil HLE.out.out
      · go_wp2_with fail
        go_ret2
        exact rparQ_mk HE.out rfl RSl.nil HLE.out.out
    have HE := hide (show parseS t (out ++ [⟨a.toNat, s.toNat, []⟩]) = R by rw [← HF.out, parseS_ok (by simp) (step1_s (by omega) (by omega))])
    have hem : ((s :: t) == ([] : List UInt8)) = false := rfl
    have hp0 : (0 : Int) < (((s :: t).length : Nat) : Int) := by rw [List.length_cons]; omega
    have hp1 : (1 : Int) ≤ (((s :: t).length : Nat) : Int) := by rw [List.length_cons]; omega
    have hp2 : (0 : Int) < (t.length : Int) + 1 := by omega
    have hp3 : (1 : Int) ≤ (t.length : Int) + 1 := by omega
    have hs2 : (str (s :: t)).extract 1 (s :: t).length = str t := by rw [str_extract_end]; rfl
    have hs3 : (str (s :: t)).extract 1 (str (s :: t)).size = str t := by rw [str_size]; exact hs2
    have hz1 : w5.cell? ⟨gs, 1, none⟩ = some (.int .i64 0) := cell_block H5.out.1 1
    have hz2 := free_block H5.out.1 1
    have hsl := s.toNat_lt
    have hL2 : out.length + t.length + 2 ≤ 200000 := by simp only [List.length_cons] at hL'; omega
    have HH := hide (And.intro (heap_set (i := 1) (.int .i64 (s.toNat : Int)) H5.out.1) (⟨HLE.out.out.setCell (p := ⟨gs, 1, none⟩) GSB.out _⟩ : Le w (w5.setCell ⟨gs, 1, none⟩ (.int .i64 (s.toNat : Int)))))
    have HOX := hide (ownsRow_setCell_other (a := ⟨gs, 1, none⟩) HO5.out GSO.out (.int .i64 (s.toNat : Int)))
    rcases h4c with h4c | ⟨h4c, h4d⟩
    · go_upto_region 18 with fail
      have HHB : ∀ W, w5.setCell ⟨gs, 1, none⟩ (.int .i64 (s.toNat : Int)) = W → W.heap[gs]? = some (.cells #[.int .i64 (a.toNat : Int), .int .i64 (s.toNat : Int), .string ByteArray.empty] 83 (0, 0)) ∧ Le w W ∧ W.ownsRow w.heap.size 83 3 (.slice A out.length cap) out.length (encR out) := by
        rintro W rfl
        exact ⟨HH.out.1, HH.out.2, HOX.out⟩
      generalize hw7 : World.setCell _ _ _ = w7
      have H7 := hide (HHB _ hw7)
      clear hw7 HHB HH HOX
      go_wp2_with (first
        | (refine wpl_load_blk rfl 83 (.tmp 5) rfl (cs := [.int .i64 (a.toNat : Int), .int .i64 (s.toNat : Int), .string ByteArray.empty]) _ rfl Tryz.underlying83 rfl (by kernel_rfl) H7.out.1 ?_)
        | (at_builtin; go_must (refine wpl_app rfl slSR (.tmp 70) (.tmp 72) rfl (H7.out.2.2.alloc _) rfl rfl (news := [.int .i64 (a.toNat : Int), .int .i64 (s.toNat : Int), .string (str [])]) (cells_new _ _ _) rfl (by simp [Value.oneCell']) (by omega) (by omega) (le_alloc H7.out.2.1.size) ?_); intro v8 w8 ho8 hg8 hat8; have HO8 := hide ho8; have HB8 := hide (below_grown (H7.out.2.1.out.alloc H7.out.2.1.size _) (H7.out.2.2.alloc _) hg8 (Nat.le_refl _) (le_alloc H7.out.2.1.size)); clear ho8 hg8 hat8))
      go_roundw
      case rel => exact ⟨t, out ++ [⟨a.toNat, s.toNat, []⟩], by simp only [List.length_append, List.length_cons, List.length_nil]; omega, rfl, HE, hide (by rw [List.length_append, encR_snoc]; exact HO8.out), ⟨HB8.out⟩⟩
      case measure => simp only [str_size, List.length_cons]; omega
    · go_upto_region 18 with fail
      have HHB : ∀ W, w5.setCell ⟨gs, 1, none⟩ (.int .i64 (s.toNat : Int)) = W → W.heap[gs]? = some (.cells #[.int .i64 (a.toNat : Int), .int .i64 (s.toNat : Int), .string ByteArray.empty] 83 (0, 0)) ∧ Le w W ∧ W.ownsRow w.heap.size 83 3 (.slice A out.length cap) out.length (encR out) := by
        rintro W rfl
        exact ⟨HH.out.1, HH.out.2, HOX.out⟩
      generalize hw7 : World.setCell _ _ _ = w7
      have H7 := hide (HHB _ hw7)
      clear hw7 HHB HH HOX
      go_wp2_with (first
        | (refine wpl_load_blk rfl 83 (.tmp 5) rfl (cs := [.int .i64 (a.toNat : Int), .int .i64 (s.toNat : Int), .string ByteArray.empty]) _ rfl Tryz.underlying83 rfl (by kernel_rfl) H7.out.1 ?_)
        | (at_builtin; go_must (refine wpl_app rfl slSR (.tmp 70) (.tmp 72) rfl (H7.out.2.2.alloc _) rfl rfl (news := [.int .i64 (a.toNat : Int), .int .i64 (s.toNat : Int), .string (str [])]) (cells_new _ _ _) rfl (by simp [Value.oneCell']) (by omega) (by omega) (le_alloc H7.out.2.1.size) ?_); intro v8 w8 ho8 hg8 hat8; have HO8 := hide ho8; have HB8 := hide (below_grown (H7.out.2.1.out.alloc H7.out.2.1.size _) (H7.out.2.2.alloc _) hg8 (Nat.le_refl _) (le_alloc H7.out.2.1.size)); clear ho8 hg8 hat8))
      go_roundw
      case rel => exact ⟨t, out ++ [⟨a.toNat, s.toNat, []⟩], by simp only [List.length_append, List.length_cons, List.length_nil]; omega, rfl, HE, hide (by rw [List.length_append, encR_snoc]; exact HO8.out), ⟨HB8.out⟩⟩
      case measure => simp only [str_size, List.length_cons]; omega
end Go.Proofs.YtkcpfhbfjpldhaaGreatDoor

/- ScriptParses: the law's walk. -/
namespace Go.Proofs.YtkcpfhbfjpldhaaGreatDoor
open Go.RowKit
set_option linter.unusedVariables false

theorem parseN_len : ∀ (n : Nat) (l : List UInt8) (out : List Sp), (parseN n l out).1.length ≤ out.length + l.length
  | 0, l, out => by simp [parseN]
  | n + 1, l, out => by
    unfold parseN
    split
    · simp
    · cases hs : step1 l with
      | bad e => simp
      | ok s r =>
        have h1 := step1_len hs
        have h2 := parseN_len n r (out ++ [s])
        rw [List.length_append, List.length_cons, List.length_nil] at h2
        show (parseN n r (out ++ [s])).1.length ≤ _
        omega
theorem parseS_len (l : List UInt8) : (parseS l []).1.length ≤ l.length := by
  have := parseN_len l.length l []
  simpa [parseS] using this
set_option maxRecDepth 100000 in
set_option maxHeartbeats 2000000 in
theorem scriptParses_walk (w : World) (l : List UInt8) (A : Option Addr) (n cap : Nat) (hr : RSl 1 RU8 w l (.slice A n cap)) :
    Calls Tryz.prog 4 #[.slice A n cap] w (Gives w (.bool true)) := by
  have HR := hide hr
  obtain ⟨A', cap', hv, hcap, _⟩ := hr
  injection hv with e1 e2 e3
  subst e1 e2 e3
  go_enter Tryz.func4, Tryz.ntmps4
  go_wp2_with fail
  refine (awake24 _).mono ?_
  rintro r w1 ⟨rfl, hb1⟩
  have hl1 : Le w w1 := ⟨hb1⟩
  clear hb1
  by_cases hbig : 3000 < l.length
  · have hbI : (3000 : Int) < (l.length : Int) := by omega
    go_wp2_with fail
    go_ret
    exact ⟨rfl, hl1.out⟩
  have hbI : ¬ (3000 : Int) < (l.length : Int) := by omega
  have HBD := hide (parseS_len l)
  go_wp2_with fail
  refine (scParse_any l A l.length cap w1 (hl1.rsl keeps_u8 HR.out) (by omega)).mono ?_
  have HRF := hide (fun W => rscParse_any l W (by omega))
  generalize parseS l [] = X at *
  obtain ⟨O, E⟩ := X
  have hO : O.length ≤ l.length := HBD.out
  rintro r w2 H2
  obtain ⟨A2, cap2, rfl, hr2, hb2⟩ := H2.rsl
  clear H2
  have hl2 := hl1.trans ⟨hb2⟩
  have HR2 := hide hr2
  have f1 := conv_le (hl2.rsl keeps_u8 HR.out) w2 (Le.refl _)
  clear hl1 hb2 hr2 HBD
  go_wp2_with fail
  refine (HRF.out _).mono ?_
  rintro r w3 ⟨A3, cap3, rfl, hr3, hb3⟩
  have hl23 : Le w2 w3 := ⟨hb3⟩
  have HR3 := hide hr3
  have HL3 := hide (hl2.trans hl23)
  have e0 : (E == E) = true := by simp
  clear hb3 hl2 hr3 f1 HRF
  simp only
  go_wp2_with fail
  refine (steps_any O A2 O.length cap2 w3 (hl23.rsl keeps_sp HR2.out) (by omega)).mono ?_
  rintro r w4 ⟨A4, cap4, rfl, hr4, hb4⟩
  have hl34 : Le w3 w4 := ⟨hb4⟩
  clear hb4
  go_wp2_with fail
  have hs := rsame24_any O O A4 O.length cap4 A3 O.length cap3 w4 hr4 (hl34.rsl keeps_sr HR3.out) (by omega)
  rw [decide_eq_true (rfl : O = O)] at hs
  refine hs.mono ?_
  rintro r w5 ⟨rfl, hb5⟩
  have HL := hide (HL3.out.trans (hl34.trans ⟨hb5⟩))
  go_wp2_with fail
  go_ret
  exact ⟨rfl, HL.out.out⟩
end Go.Proofs.YtkcpfhbfjpldhaaGreatDoor
