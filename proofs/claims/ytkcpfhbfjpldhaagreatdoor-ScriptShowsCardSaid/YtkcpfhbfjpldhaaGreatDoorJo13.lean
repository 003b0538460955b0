/- Texts of one claim, laid together: ScrPut -/
import Derived.Test.YtkcpfhbfjpldhaaGreatDoorJo12
import Derived.Test.YtkcpfhbfjpldhaaGreatDoorJo04
/- script.Put. -/
namespace Go.Proofs.YtkcpfhbfjpldhaaGreatDoor
open Go.RowKit
set_option linter.unusedVariables false

theorem put_bad {l : List Sp} {k : Nat} (h : k < l.length) (hb : l[k].may = false) : l.all Sp.may = false := by
  rw [List.all_eq_false]
  exact ⟨l[k], List.getElem_mem h, by simp [hb]⟩
theorem out_len : ∀ (l : List Sp) (h : ∀ s ∈ l, s.b.length ≤ 200), (l.flatMap Sp.out).length ≤ 204 * l.length
  | [], _ => by simp
  | s :: l, h => by
    have ih := out_len l (fun x hx => h x (List.mem_cons_of_mem _ hx))
    have hs := h s (List.mem_cons_self ..)
    rw [List.flatMap_cons, List.length_append, List.length_cons]
    have : s.out.length ≤ 204 := by
      unfold Sp.out
      simp only [List.length_cons, List.length_append]
      split <;> split <;> simp [be_length] <;> omega
    omega
theorem out_take (l : List Sp) (k : Nat) (h : k < l.length) : (l.take (k + 1)).flatMap Sp.out = (l.take k).flatMap Sp.out ++ l[k].out := by
  rw [List.take_add_one, List.getElem?_eq_getElem h, Option.toList_some, List.flatMap_append, List.flatMap_singleton]
/-- steps' bytes, an error -/
def PutQ (w : World) (l : List UInt8) (err : Int) (e : Ending) (w' : World) : Prop :=
  ∃ v, e = .returned (.tuple #[v, .int .i64 err]) ∧ w'.ownsRow w.heap.size 5 1 v l.length (u8s l) ∧ Below w.heap.size w w'
theorem PutQ.none {w w' : World} {l : List Sp} (h : l.all Sp.may = false) (hb : Below w.heap.size w w') : PutQ w (putSB l) (putSE l) (.returned (.tuple #[.slice none 0 0, .int .i64 1])) w' := by
  have e1 : putSB l = [] := by rw [putSB, h]; rfl
  have e2 : putSE l = 1 := by rw [putSE, h]; rfl
  rw [e1, e2]
  exact ⟨_, rfl, World.ownsRow_nil _ _ _ _, hb⟩

set_option maxRecDepth 100000 in
set_option maxHeartbeats 4000000 in
theorem scPut_any (l : List Sp) (A : Option Addr) (cap : Nat) (w : World) (hr : RSl 3 RSp w l (.slice A l.length cap)) (hl : l.length ≤ 600) (hb : ∀ s ∈ l, s.b.length ≤ 200) :
    Calls Tryz.prog 13 #[.slice A l.length cap] w (PutQ w (putSB l) (putSE l)) := by
  obtain ⟨A', cap', hv, hcap, hi⟩ := hr
  injection hv with e1 e2 e3
  subst e1 e3
  have HI := hide hi
  have HBL := hide hb
  clear hi e2 hb
  go_enter Tryz.func13, Tryz.ntmps13
  go_wp2_with fail
  go_loopw [4, 9] (fun v i wr => ∃ k : Nat, k ≤ l.length ∧ i = .int .i64 k ∧ Hd (∀ s ∈ l.take k, s.may = true) ∧ wr.ownsRow w.heap.size 5 1 v ((l.take k).flatMap Sp.out).length (u8s ((l.take k).flatMap Sp.out)) ∧ Below w.heap.size w wr) (fun _ i _ => l.length - (intOf i).toNat)
  case atStart => exact ⟨0, Nat.zero_le _, rfl, hide (by simp), by simpa [u8s] using World.ownsRow_nil w w.heap.size _ 1, Below.refl _ _⟩
  case round =>
    obtain ⟨k, hk, rfl, HM, hown, hb⟩ := hrel
    obtain ⟨A0, cap0, rfl, _, _⟩ := own_slice hown
    by_cases hlt : k < l.length
    · obtain ⟨b, off, rfl, hg⟩ := HI.out (by rintro rfl; simp at hlt)
      obtain ⟨cs, _, hc, v, hcs, hv, hN⟩ := hg k hlt
      subst hcs
      obtain ⟨A1, cp1, hv1, _⟩ := id hv
      subst hv1
      have c0 := (Le.mk hb).cell (show w.cell? ⟨b, off + k * 3, none⟩ = some (.int .i64 l[k].op) from hc 0 (by decide))
      have c1 := (Le.mk hb).cell (show w.cell? ⟨b, off + k * 3 + 1, none⟩ = some (.int .i64 l[k].shard) from hc 1 (by decide))
      have c2 := (Le.mk hb).cell (show w.cell? ⟨b, off + k * 3 + 2, none⟩ = some (.slice A1 l[k].b.length cp1) from hc 2 (by decide))
      have HT := hide (out_take l k hlt)
      have HBAD := hide (fun (h : l[k].may = false) => put_bad hlt h)
      have HGOOD := hide (fun (h : l[k].may = true) => show ∀ s ∈ l.take (k + 1), s.may = true from fun s hs => by
        rw [List.take_add_one, List.getElem?_eq_getElem hlt, List.mem_append] at hs
        rcases hs with hs | hs
        · exact HM.out s hs
        · simp at hs; rw [hs]; exact h)
      have hbl : l[k].b.length ≤ 200 := HBL.out _ (List.getElem_mem hlt)
      have hS := out_len (l.take k) (fun s hs => HBL.out s (List.mem_of_mem_take hs))
      have htk : (l.take k).length ≤ k := List.length_take_le _ _
      generalize (l.take k).flatMap Sp.out = S at *
      generalize l[k] = x at *
      have HXB := hide hv
      have hltI : (k : Int) < (l.length : Int) := by omega
      have hSl : S.length ≤ 122400 := by omega
      clear hc hg hv htk hS
      by_cases hm : x.may = true
      · obtain ⟨g0, g9, gb, gs, gl, gs0, gs1⟩ := may_parts hm
        have HM2 := hide (HGOOD.out hm)
        obtain ⟨op, sh, xb⟩ := x
        simp only at c0 c1 c2 hbl HXB g0 g9 gb gs gl gs0 gs1 hm HT HM2 ⊢
        obtain ⟨o, rfl⟩ := Int.eq_ofNat_of_zero_le g0
        obtain ⟨sh, rfl⟩ := Int.eq_ofNat_of_zero_le gs0
        have HMAY := hide hm
        have hwo : IntKind.u8.wrap ((o : Nat) : Int) = ((o : Nat) : Int) := IntWalk.u8_in _ (by omega)
        have hws : IntKind.u8.wrap ((sh : Nat) : Int) = ((sh : Nat) : Int) := IntWalk.u8_in _ (by omega)
        have hof : ([Value.int .u8 ((o : Nat) : Int)] : List Value) = u8s [UInt8.ofNat o] := by simp only [u8s, List.map_cons, List.map_nil, u8_of o (by omega)]
        have hofs : ([Value.int .u8 ((sh : Nat) : Int)] : List Value) = u8s [UInt8.ofNat sh] := by simp only [u8s, List.map_cons, List.map_nil, u8_of sh (by omega)]
        have HOF := hide hof
        have HOFS := hide hofs
        clear hm g0 gs0 hof hofs
        cases hbo : bOp ((o : Nat) : Int) with
        | false =>
          cases hso : sOp ((o : Nat) : Int) with
          | false =>
            go_wp2_with (first
              | (go_at_call 35; refine (spMay_any ⟨o, sh, xb⟩ _ _ _).mono ?_; rintro e w2 ⟨rfl, hb'⟩; have HB := hide (((Le.mk hb).alloc (.cells #[.int .i64 ((o : Nat) : Int), .int .i64 ((sh : Nat) : Int), .slice A1 xb.length cp1] 70)).trans ⟨hb'⟩); have HBX := hide ((Le.mk hb').heap (heap_alloc_new wr (.cells #[.int .i64 ((o : Nat) : Int), .int .i64 ((sh : Nat) : Int), .slice A1 xb.length cp1] 70))); have HO := hide ((Le.mk hb').own (hown.alloc (.cells #[.int .i64 ((o : Nat) : Int), .int .i64 ((sh : Nat) : Int), .slice A1 xb.length cp1] 70))); have hmm := HMAY.out; have z0 := cell_block HBX.out 0; have z1 := cell_block HBX.out 1; have z2 := cell_block HBX.out 2; simp only [List.getElem?_toArray, List.getElem?_cons_zero, List.getElem?_cons_succ] at z0 z1 z2; clear hb')
              | (go_at_call 36; refine (bOp_any _ _).mono ?_; rintro e w' ⟨rfl, rfl⟩)
              | (go_at_call 38; refine (sOp_any _ _).mono ?_; rintro e w' ⟨rfl, rfl⟩)
              | (at_builtin; (refine wpl_app rfl sl8 (.tmp 16) (.tmp 20) rfl (HO.out.alloc _) rfl rfl (news := [Value.int .u8 ((o : Nat) : Int)]) (cells_new _ _ _) rfl (by simp [Value.oneCell']) (by omega) (by omega) (le_alloc HB.out.size) ?_); intro v3 w3 ho3 hg3 hat3; obtain ⟨A3, cap3, rfl, _, _⟩ := own_slice ho3; have HB3 := hide (Le.mk (below_grown (HB.out.out.alloc HB.out.size _) (HO.out.alloc _) hg3 (Nat.le_refl _) (le_alloc HB.out.size))); have hne3 := own_ne (HO.out.alloc (.cells #[.int .u8 ((o : Nat) : Int)] 5)) (heap_alloc HBX.out) (by decide); have HBX3 := hide (heap_grown hg3 (heap_alloc HBX.out) hne3); clear hne3; rw [show ([Value.int .u8 ((o : Nat) : Int)] : List Value) = u8s [UInt8.ofNat o] from HOF.out, ← u8s_append] at ho3; have HO3 := hide ho3; clear z0 z1 z2 hg3 ho3 hat3; have z0 := cell_block HBX3.out 0; have z1 := cell_block HBX3.out 1; have z2 := cell_block HBX3.out 2; simp only [List.getElem?_toArray, List.getElem?_cons_zero, List.getElem?_cons_succ] at z0 z1 z2))
            go_roundw
            case rel =>
              refine ⟨k + 1, by omega, by go_num, HM2, ?_, HB3.out.out⟩
              rw [HT.out]
              have e : S ++ Sp.out ⟨o, sh, xb⟩ = S ++ [UInt8.ofNat o] := by simp [Sp.out, hbo, hso]
              rw [e, List.length_append]
              exact HO3.out
            case measure => simp [intOf]; omega
          | true =>
            go_wp2_with (first
              | (go_at_call 35; refine (spMay_any ⟨o, sh, xb⟩ _ _ _).mono ?_; rintro e w2 ⟨rfl, hb'⟩; have HB := hide (((Le.mk hb).alloc (.cells #[.int .i64 ((o : Nat) : Int), .int .i64 ((sh : Nat) : Int), .slice A1 xb.length cp1] 70)).trans ⟨hb'⟩); have HBX := hide ((Le.mk hb').heap (heap_alloc_new wr (.cells #[.int .i64 ((o : Nat) : Int), .int .i64 ((sh : Nat) : Int), .slice A1 xb.length cp1] 70))); have HO := hide ((Le.mk hb').own (hown.alloc (.cells #[.int .i64 ((o : Nat) : Int), .int .i64 ((sh : Nat) : Int), .slice A1 xb.length cp1] 70))); have hmm := HMAY.out; have z0 := cell_block HBX.out 0; have z1 := cell_block HBX.out 1; have z2 := cell_block HBX.out 2; simp only [List.getElem?_toArray, List.getElem?_cons_zero, List.getElem?_cons_succ] at z0 z1 z2; clear hb')
              | (go_at_call 36; refine (bOp_any _ _).mono ?_; rintro e w' ⟨rfl, rfl⟩)
              | (go_at_call 38; refine (sOp_any _ _).mono ?_; rintro e w' ⟨rfl, rfl⟩)
              | (at_builtin; (refine wpl_app rfl sl8 (.tmp 16) (.tmp 20) rfl (HO.out.alloc _) rfl rfl (news := [Value.int .u8 ((o : Nat) : Int)]) (cells_new _ _ _) rfl (by simp [Value.oneCell']) (by omega) (by omega) (le_alloc HB.out.size) ?_); intro v3 w3 ho3 hg3 hat3; obtain ⟨A3, cap3, rfl, _, _⟩ := own_slice ho3; have HB3 := hide (Le.mk (below_grown (HB.out.out.alloc HB.out.size _) (HO.out.alloc _) hg3 (Nat.le_refl _) (le_alloc HB.out.size))); have hne3 := own_ne (HO.out.alloc (.cells #[.int .u8 ((o : Nat) : Int)] 5)) (heap_alloc HBX.out) (by decide); have HBX3 := hide (heap_grown hg3 (heap_alloc HBX.out) hne3); clear hne3; rw [show ([Value.int .u8 ((o : Nat) : Int)] : List Value) = u8s [UInt8.ofNat o] from HOF.out, ← u8s_append] at ho3; have HO3 := hide ho3; clear z0 z1 z2 hg3 ho3 hat3; have z0 := cell_block HBX3.out 0; have z1 := cell_block HBX3.out 1; have z2 := cell_block HBX3.out 2; simp only [List.getElem?_toArray, List.getElem?_cons_zero, List.getElem?_cons_succ] at z0 z1 z2)
              | (at_builtin; go_must (refine wpl_app rfl sl8 (.tmp 41) (.tmp 45) rfl (HO3.out.alloc _) rfl rfl (news := [Value.int .u8 ((sh : Nat) : Int)]) (cells_new _ _ _) rfl (by simp [Value.oneCell']) (by first | omega | (simp; omega)) (by first | omega | (simp; omega)) (le_alloc HB3.out.size) ?_); intro v5 w5 ho5 hg5 hat5; have HB5 := hide (Le.mk (below_grown (HB3.out.out.alloc HB3.out.size _) (HO3.out.alloc _) hg5 (Nat.le_refl _) (le_alloc HB3.out.size))); rw [show ([Value.int .u8 ((sh : Nat) : Int)] : List Value) = u8s [UInt8.ofNat sh] from HOFS.out, ← u8s_append] at ho5; have HO5 := hide ho5; clear hg5 ho5 hat5))
            go_roundw
            case rel =>
              refine ⟨k + 1, by omega, by go_num, HM2, ?_, HB5.out.out⟩
              rw [HT.out]
              have e : S ++ Sp.out ⟨o, sh, xb⟩ = S ++ [UInt8.ofNat o] ++ [UInt8.ofNat sh] := by simp [Sp.out, hbo, hso]
              rw [e, List.length_append, List.length_append]
              exact HO5.out
            case measure => simp [intOf]; omega
        | true =>
          have hso : sOp ((o : Nat) : Int) = false := by
            simp only [bOp, Bool.or_eq_true, decide_eq_true_eq] at hbo
            simp only [sOp, Bool.or_eq_false_iff, decide_eq_false_iff_not]
            omega
          go_wp2_with (first
              | (go_at_call 35; refine (spMay_any ⟨o, sh, xb⟩ _ _ _).mono ?_; rintro e w2 ⟨rfl, hb'⟩; have HB := hide (((Le.mk hb).alloc (.cells #[.int .i64 ((o : Nat) : Int), .int .i64 ((sh : Nat) : Int), .slice A1 xb.length cp1] 70)).trans ⟨hb'⟩); have HBX := hide ((Le.mk hb').heap (heap_alloc_new wr (.cells #[.int .i64 ((o : Nat) : Int), .int .i64 ((sh : Nat) : Int), .slice A1 xb.length cp1] 70))); have HO := hide ((Le.mk hb').own (hown.alloc (.cells #[.int .i64 ((o : Nat) : Int), .int .i64 ((sh : Nat) : Int), .slice A1 xb.length cp1] 70))); have hmm := HMAY.out; have z0 := cell_block HBX.out 0; have z1 := cell_block HBX.out 1; have z2 := cell_block HBX.out 2; simp only [List.getElem?_toArray, List.getElem?_cons_zero, List.getElem?_cons_succ] at z0 z1 z2; clear hb')
              | (go_at_call 36; refine (bOp_any _ _).mono ?_; rintro e w' ⟨rfl, rfl⟩)
              | (go_at_call 38; refine (sOp_any _ _).mono ?_; rintro e w' ⟨rfl, rfl⟩)
              | (at_builtin; (refine wpl_app rfl sl8 (.tmp 16) (.tmp 20) rfl (HO.out.alloc _) rfl rfl (news := [Value.int .u8 ((o : Nat) : Int)]) (cells_new _ _ _) rfl (by simp [Value.oneCell']) (by omega) (by omega) (le_alloc HB.out.size) ?_); intro v3 w3 ho3 hg3 hat3; obtain ⟨A3, cap3, rfl, _, _⟩ := own_slice ho3; have HB3 := hide (Le.mk (below_grown (HB.out.out.alloc HB.out.size _) (HO.out.alloc _) hg3 (Nat.le_refl _) (le_alloc HB.out.size))); have hne3 := own_ne (HO.out.alloc (.cells #[.int .u8 ((o : Nat) : Int)] 5)) (heap_alloc HBX.out) (by decide); have HBX3 := hide (heap_grown hg3 (heap_alloc HBX.out) hne3); clear hne3; rw [show ([Value.int .u8 ((o : Nat) : Int)] : List Value) = u8s [UInt8.ofNat o] from HOF.out, ← u8s_append] at ho3; have HO3 := hide ho3; clear z0 z1 z2 hg3 ho3 hat3; have z0 := cell_block HBX3.out 0; have z1 := cell_block HBX3.out 1; have z2 := cell_block HBX3.out 2; simp only [List.getElem?_toArray, List.getElem?_cons_zero, List.getElem?_cons_succ] at z0 z1 z2))
          have HPA := hide (rsl_parts (l := [(xb.length, 2)]) (A := some ⟨w3.heap.size, 0, none⟩) (n := 1) (cap := 1) rfl (by omega) (by simp; omega) (cells_new w3 [.int .u64 xb.length, .int .i64 2] 81))
          refine (put_any _ 1 1 [(xb.length, 2)] _ HPA.out (by omega)).mono ?_
          rintro e w4 ⟨v4, rfl, ho4, hb4⟩
          rw [show puts [(xb.length, 2)] = be xb.length 2 from by simp [puts, putOne, mayB]] at ho4
          rw [be_length] at ho4
          obtain ⟨A4, cap4, rfl, _, hc4⟩ := own_slice ho4
          have HC4 := hide (show Cells w4 A4 (u8s (be xb.length 2)) from hc4)
          have HL4 := hide (((Le.refl w3).alloc (.cells #[.int .u64 xb.length, .int .i64 2] 81)).trans ⟨hb4⟩)
          have HBX4 := hide (HL4.out.heap HBX3.out)
          have HO4 := hide (HL4.out.own HO3.out)
          have HB4 := hide (HB3.out.trans HL4.out)
          have HU := hide (show (u8s (be xb.length 2)).length = 2 * 1 by simp only [u8s, List.length_map]; exact be_length _ _)
          clear ho4 hb4 hc4 z0 z1 z2
          have z0 := cell_block HBX4.out 0
          have z1 := cell_block HBX4.out 1
          have z2 := cell_block HBX4.out 2
          simp only [List.getElem?_toArray, List.getElem?_cons_zero, List.getElem?_cons_succ] at z0 z1 z2
          go_wp2_with (first
              | (go_at_call 38; refine (sOp_any _ _).mono ?_; rintro e w' ⟨rfl, rfl⟩)
              | (at_builtin; (refine wpl_app rfl sl8 (.tmp 25) (.tmp 32) rfl HO4.out rfl rfl HC4.out HU.out u8s_one (by first | omega | (simp; omega)) (by first | omega | (simp; omega)) HB4.out.size ?_); intro v5 w5 ho5 hg5 hat5; obtain ⟨A5, cap5, rfl, _, _⟩ := own_slice ho5; have HB5 := hide (Le.mk (below_grown HB4.out.out HO4.out hg5 (Nat.le_refl _) HB4.out.size)); have HBX5 := hide (heap_grown hg5 HBX4.out (own_ne HO4.out HBX4.out (by decide))); rw [← u8s_append] at ho5; have HO5 := hide ho5; have HX5 := hide (cells_of_rsl (HB5.out.rsl keeps_u8 HXB.out)); clear z0 z1 z2 hg5 ho5 hat5; have z0 := cell_block HBX5.out 0; have z1 := cell_block HBX5.out 1; have z2 := cell_block HBX5.out 2; simp only [List.getElem?_toArray, List.getElem?_cons_zero, List.getElem?_cons_succ] at z0 z1 z2; )
              | (at_builtin; go_must (refine wpl_app rfl sl8 (.tmp 34) (.tmp 36) rfl HO5.out rfl rfl HX5.out (by simp [u8s]) u8s_one (by first | omega | (simp; omega)) (by first | omega | (simp; omega)) HB5.out.size ?_); intro v6 w6 ho6 hg6 hat6; have HB6 := hide (Le.mk (below_grown HB5.out.out HO5.out hg6 (Nat.le_refl _) HB5.out.size)); have HBX6 := hide (heap_grown hg6 HBX5.out (own_ne HO5.out HBX5.out (by decide))); rw [← u8s_append] at ho6; have HO6 := hide ho6; clear z0 z1 z2 hg6 ho6 hat6; have z0 := cell_block HBX6.out 0; have z1 := cell_block HBX6.out 1; have z2 := cell_block HBX6.out 2; simp only [List.getElem?_toArray, List.getElem?_cons_zero, List.getElem?_cons_succ] at z0 z1 z2; ))
          go_roundw
          case rel =>
            refine ⟨k + 1, by omega, by go_num, HM2, ?_, HB6.out.out⟩
            rw [HT.out]
            have e : S ++ Sp.out ⟨o, sh, xb⟩ = S ++ [UInt8.ofNat o] ++ be xb.length 2 ++ xb := by simp [Sp.out, hbo, hso]
            have e2 : (S ++ Sp.out ⟨o, sh, xb⟩).length = S.length + 1 + 2 + xb.length := by rw [e, List.length_append, List.length_append, List.length_append, be_length]; rfl
            rw [e2, e]
            exact HO6.out
          case measure => simp [intOf]; omega
      · have hm0 : x.may = false := by simpa using hm
        have HE := hide (HBAD.out hm0)
        clear hm
        go_wp2_with (go_at_call 35; refine (spMay_any x _ _ _).mono ?_; rintro e w' ⟨rfl, hb'⟩; have HB := hide (((Le.mk hb).alloc _).trans ⟨hb'⟩); clear hb')
        go_ret2
        exact PutQ.none HE.out HB.out.out
    · obtain rfl : k = l.length := by omega
      have hltI : ¬ ((l.length : Nat) : Int) < (l.length : Int) := by omega
      rw [List.take_length] at hown HM ⊢
      have ha : l.all Sp.may = true := List.all_eq_true.2 HM.out
      have HS := hide (show putSB l = l.flatMap Sp.out by rw [putSB, ha]; rfl)
      have HE := hide (show putSE l = 0 by rw [putSE, ha]; rfl)
      generalize l.flatMap Sp.out = S at *
      have HO := hide hown
      clear hown ha
      go_wp2_with fail
      go_ret2
      rw [HS.out, HE.out]
      exact ⟨_, rfl, HO.out, hb⟩
end Go.Proofs.YtkcpfhbfjpldhaaGreatDoor
