/- Texts of one claim, laid together: Rn ExtRPut Ref1 Vp8Q Vp8RP Vp8RW Cat -/
import Derived.Laws.ResultCell
import Derived.StillTactics
import Derived.Laws.Rows
import Derived.Test.YtekioihjfggmdaaJo21
import Derived.Test.YtekioihjfggmdaaJo19
import Derived.Test.YtekioihjfggmdaaJo24
import Derived.Test.YtekioihjfggmdaaJo04
import Derived.Test.YtekioihjfggmdaaJo02
/- A region in which some old blocks get what they end with, in any order. -/
namespace Go.Proofs.Ytekioihjfggmdaa
open Go.RowKit
set_option linter.unusedVariables false

/-- old blocks stay, but for some, that hold what they held or what they end with -/
structure Rn (L : List (Nat × Obj)) (w w' : World) : Prop where
  os : w'.os = w.os
  tape : w'.tape = w.tape
  output : w'.output = w.output
  size : w.heap.size ≤ w'.heap.size
  block : ∀ k, k < w.heap.size → (∀ p ∈ L, p.1 ≠ k) → w'.heap[k]? = w.heap[k]?
  at_ : ∀ p ∈ L, w'.heap[p.1]? = w.heap[p.1]? ∨ w'.heap[p.1]? = some p.2
section
variable {L : List (Nat × Obj)} {w w' w'' : World}
theorem Rn.refl (w : World) : Rn L w w := ⟨rfl, rfl, rfl, Nat.le_refl _, fun _ _ _ => rfl, fun _ _ => .inl rfl⟩
theorem Rn.trans (h : Rn L w w') (h' : Rn L w' w'') : Rn L w w'' :=
  ⟨h'.os.trans h.os, h'.tape.trans h.tape, h'.output.trans h.output, Nat.le_trans h.size h'.size, fun k hk hn => (h'.block k (Nat.lt_of_lt_of_le hk h.size) hn).trans (h.block k hk hn), fun p hp => by
    rcases h'.at_ p hp with h2 | h2
    · rcases h.at_ p hp with h1 | h1
      · exact .inl (h2.trans h1)
      · exact .inr (h2.trans h1)
    · exact .inr h2⟩
theorem Rn.heap (h : Rn L w w') {g : Nat} {o : Obj} (hg : w.heap[g]? = some o) (hne : ∀ p ∈ L, p.1 ≠ g) : w'.heap[g]? = some o := (h.block g (lt_of_heap hg) hne).trans hg
theorem Rn.in_ (h : Rn L w w') {p : Nat × Obj} (hp : p ∈ L) {o : Obj} (hg : w.heap[p.1]? = some o) : w'.heap[p.1]? = some o ∨ w'.heap[p.1]? = some p.2 := (h.at_ p hp).imp (fun e => e.trans hg) _root_.id
theorem Rn.of_le (h : Le w w') (hl : ∀ p ∈ L, p.1 < w.heap.size) : Rn L w w' := ⟨h.out.os, h.out.tape, h.out.output, h.out.size, fun k hk _ => h.out.block k hk, fun p hp => .inl (h.out.block _ (hl p hp))⟩
theorem Rn.store {g : Nat} {D : Obj} (hg : w.grownBy w' (some g)) (hm : (g, D) ∈ L) (h : w'.heap[g]? = some D) (hu : ∀ p ∈ L, p.1 = g → p.2 = D) (hl : ∀ p ∈ L, p.1 < w.heap.size) : Rn L w w' :=
  ⟨hg.os, hg.tape, hg.output, hg.size, fun k hk hn => hg.block k hk (fun e => by injection e with e; exact hn _ hm e.symm), fun p hp => by
    by_cases e : p.1 = g
    · exact .inr (by rw [e, h, hu p hp e])
    · exact .inl (hg.block _ (hl p hp) (fun e' => by injection e' with e'; exact e e'))⟩
theorem Rn.below (h : Rn L w w') {B : Nat} {w0 : World} (hb : Below B w0 w) (hl : ∀ p ∈ L, B ≤ p.1) (hB : B ≤ w.heap.size) : Below B w0 w' :=
  ⟨h.os.trans hb.os, h.tape.trans hb.tape, h.output.trans hb.output, Nat.le_trans hb.size h.size, fun k hk => (h.block k (Nat.lt_of_lt_of_le hk hB) (fun p hp e => by have := hl p hp; omega)).trans (hb.block k hk)⟩
theorem Rn.lt (h : Rn L w w') {g : Nat} (hg : g < w.heap.size) : g < w'.heap.size := Nat.lt_of_lt_of_le hg h.size
end

/-- store of one cell into a known block -/
theorem wp_store_1 {P : Program} {o : Oper} {a : Act} {w : World} {Q : Exit → Act → World → Prop} {K : Act → World → Prop} (ty : TypeId) (x y : Operand) (ho : o.op = .store ty x y) {g : Nat} (pre : List Value) {v old : Value} {post : List Value} {T : TypeId} (hx : a.eval x = .pointer (some ⟨g, pre.length, none⟩)) (hy : a.eval y = v)
    (hi : (P.info? ty).map (·.size) = some 1) (h1 : v.oneCell' = true) (hg : w.heap[g]? = some (.cells (pre ++ (old :: post)).toArray T (0, 0)))
    (h : ∀ w', w'.heap[g]? = some (.cells (pre ++ (v :: post)).toArray T (0, 0)) → w.grownBy w' (some g) → K (a.put o.dst undef) w') : o.wp P a w K Q := by
  have ht : w.there g pre.length [v].length := fun j hj => by
    obtain rfl : j = 0 := by simp at hj; omega
    rw [Nat.add_zero, cell_block hg, free_block hg, List.getElem?_toArray]
    simp
  have hc : v.cells = #[v] := by cases v <;> first | rfl | cases h1
  have hr := run_storeVar_mid (P := P) w g pre.length ty #[v] (by simpa using ht) (by simpa using hi) (by simpa using h1)
  have hr' : (storeVar ty ⟨g, pre.length, none⟩ v).run P w = .ok () (w.setCells g pre.length [v]) := by
    unfold storeVar at hr ⊢
    rw [hc]
    exact hr
  unfold Oper.wp execOp
  simp only [ho, hx, hy, Instr.storeAt, Instr.sureAddr, Sem.run_bind, Sem.run_pure, Result.andThen_ok, hr']
  refine h _ ?_ (setCells_grown g _ _ w)
  have := heap_setCells_mid g post [v] pre [old] w rfl hg
  simpa using this
theorem wpl_store_1 {P : Program} {ops : Array Oper} {rest : List Oper} {o : Oper} {a : Act} {w : World} {Q : Exit → Act → World → Prop} (hgd : o.guard = none) (ty : TypeId) (x y : Operand) (ho : o.op = .store ty x y) {g : Nat} (pre : List Value) {v old : Value} {post : List Value} {T : TypeId} (hx : a.eval x = .pointer (some ⟨g, pre.length, none⟩)) (hy : a.eval y = v)
    (hi : (P.info? ty).map (·.size) = some 1) (h1 : v.oneCell' = true) (hg : w.heap[g]? = some (.cells (pre ++ (old :: post)).toArray T (0, 0)))
    (h : ∀ w', w'.heap[g]? = some (.cells (pre ++ (v :: post)).toArray T (0, 0)) → w.grownBy w' (some g) → wpList P ops Q rest (a.put o.dst undef) w') : wpList P ops Q (o :: rest) a w :=
  wpList_plain hgd fun _ hK => wp_store_1 ty x y ho pre hx hy hi h1 hg fun w' h2 h3 => hK _ _ (h w' h2 h3)

/-- a result that lies in a cell -/
structure InCell (P : Program) (W : World) (tmps : Array Value) (t : Tmp) (ty : TypeId) (v : Value) : Prop where
  out : ∃ g : Nat, tmps[t]?.getD undef = .pointer (some ⟨g, 0, none⟩) ∧ (loadVar ty ⟨g, 0, none⟩).run P W = .ok v W
theorem InCell.mk' {P : Program} {W : World} {tmps : Array Value} {t : Tmp} {ty T : TypeId} {g : Nat} {cs : List Value} {fr : Nat × Nat} {d : TypeDesc} (ht : tmps.getD t undef = .pointer (some ⟨g, 0, none⟩)) (hg : W.heap[g]? = some (.cells cs.toArray T fr))
    (hu : P.underlying ty = some d) (hd : (match d with | .struct _ | .array _ _ => true | _ => false) = true) (hi : (P.info? ty).map (·.size) = some cs.length) : InCell P W tmps t ty (.agg cs.toArray) :=
  ⟨g, by simpa using ht, run_loadVar_row (P := P) W g T ty _ fr d hg hu hd (by simpa using hi)⟩
section
variable {P : Program} {f : Func} {Q : Ending → World → Prop} {W : World} {tmps : Array Value} {t u x y z : Tmp} {ty ty2 : TypeId} {v v2 a b c : Value}
theorem ret_c (hr : f.results = #[.cell t ty]) (h : InCell P W tmps t ty v) (hQ : Q (.returned v) W) : bodyPost P f Q .ret { tmps := tmps, defers := [] } W := by
  obtain ⟨g, h1, h2⟩ := h.out
  exact bodyPost_ret (v := v) (by simp [results, hr, h1, asAddr, h2]) rfl hQ
theorem ret_cc (hr : f.results = #[.cell t ty, .cell u ty2]) (h : InCell P W tmps t ty v) (h' : InCell P W tmps u ty2 v2) (hQ : Q (.returned (.tuple #[v, v2])) W) : bodyPost P f Q .ret { tmps := tmps, defers := [] } W := by
  obtain ⟨g, h1, h2⟩ := h.out
  obtain ⟨k, h3, h4⟩ := h'.out
  exact bodyPost_ret (v := .tuple #[v, v2]) (by simp [results, hr, h1, h3, asAddr, h2, h4]) rfl hQ
theorem ret_cct (hr : f.results = #[.cell t ty, .cell u ty2, .tmp x]) (h : InCell P W tmps t ty v) (h' : InCell P W tmps u ty2 v2) (hx : tmps.getD x undef = a) (hQ : Q (.returned (.tuple #[v, v2, a])) W) : bodyPost P f Q .ret { tmps := tmps, defers := [] } W := by
  obtain ⟨g, h1, h2⟩ := h.out
  obtain ⟨k, h3, h4⟩ := h'.out
  have hx' : tmps[x]?.getD undef = a := by simpa using hx
  exact bodyPost_ret (v := .tuple #[v, v2, a]) (by simp [results, hr, h1, h3, hx', asAddr, h2, h4]) rfl hQ
theorem ret_ct (hr : f.results = #[.cell t ty, .tmp x]) (h : InCell P W tmps t ty v) (hx : tmps.getD x undef = a) (hQ : Q (.returned (.tuple #[v, a])) W) : bodyPost P f Q .ret { tmps := tmps, defers := [] } W := by
  obtain ⟨g, h1, h2⟩ := h.out
  have hx' : tmps[x]?.getD undef = a := by simpa using hx
  exact bodyPost_ret (v := .tuple #[v, a]) (by simp [results, hr, h1, hx', asAddr, h2]) rfl hQ
theorem ret_ctt (hr : f.results = #[.cell t ty, .tmp x, .tmp y]) (h : InCell P W tmps t ty v) (hx : tmps.getD x undef = a) (hy : tmps.getD y undef = b) (hQ : Q (.returned (.tuple #[v, a, b])) W) : bodyPost P f Q .ret { tmps := tmps, defers := [] } W := by
  obtain ⟨g, h1, h2⟩ := h.out
  have hx' : tmps[x]?.getD undef = a := by simpa using hx
  have hy' : tmps[y]?.getD undef = b := by simpa using hy
  exact bodyPost_ret (v := .tuple #[v, a, b]) (by simp [results, hr, h1, hx', hy', asAddr, h2]) rfl hQ
theorem ret_cttt (hr : f.results = #[.cell t ty, .tmp x, .tmp y, .tmp z]) (h : InCell P W tmps t ty v) (hx : tmps.getD x undef = a) (hy : tmps.getD y undef = b) (hz : tmps.getD z undef = c) (hQ : Q (.returned (.tuple #[v, a, b, c])) W) : bodyPost P f Q .ret { tmps := tmps, defers := [] } W := by
  obtain ⟨g, h1, h2⟩ := h.out
  have hx' : tmps[x]?.getD undef = a := by simpa using hx
  have hy' : tmps[y]?.getD undef = b := by simpa using hy
  have hz' : tmps[z]?.getD undef = c := by simpa using hz
  exact bodyPost_ret (v := .tuple #[v, a, b, c]) (by simp [results, hr, h1, hx', hy', hz', asAddr, h2]) rfl hQ
end
end Go.Proofs.Ytekioihjfggmdaa

/- louverref05.Put. -/
namespace Go.Proofs.Ytekioihjfggmdaa
open Go.RowKit
set_option linter.unusedVariables false

theorem conv_pair (w : World) (x y : Int) (a b : UInt8) (hx : x = (a.toNat : Int)) (hy : y = (b.toNat : Int)) :
    (convert 44 9 (.slice (some ⟨w.heap.size, 0, none⟩) 2 2)).run Try.prog (w.alloc (.cells #[.int .u8 x, .int .u8 y] 5)) = .ok (.string (str [a, b])) (w.alloc (.cells #[.int .u8 x, .int .u8 y] 5)) := by
  subst hx hy
  refine run_convert_bytes_back _ _ _ 5 _ 2 [a, b] Try.underlying44 Try.underlying5 Try.underlying9 (fun j hj => ?_)
  rw [addr_add, cell_block (heap_alloc_new w _)]
  obtain rfl | rfl : j = 0 ∨ j = 1 := by simp at hj; omega
  all_goals rfl
theorem short_of {l : List It} : shortB l = l.all smallB := by
  unfold shortB
  induction l with
  | nil => rfl
  | cons x l ih =>
    rw [List.any_cons, List.all_cons, Bool.not_or, ih]
    simp [bigB]

set_option maxRecDepth 100000 in
set_option maxHeartbeats 4000000 in
theorem rextPut_any (l : List It) (A : Option Addr) (n cap : Nat) (w : World) (hr : RSl 2 RI w l (.slice A n cap)) (hl : l.length ≤ 100000) :
    Calls Try.prog 60 #[.slice A n cap] w (Gives w (.tuple #[.int .u16 (extProf l : Nat), .string (str (extB l)), .int .i64 (extErr l)])) := by
  obtain ⟨A', cap', hv, hcap, hi⟩ := hr
  injection hv with e1 e2 e3
  subst e1 e2 e3
  have HI := hide hi
  clear hi
  have hbadv : ∀ err : Int, extErr l = err → err ≠ 0 → extProf l = 0 ∧ extB l = [] := fun err h hne => ⟨by rw [extProf, if_neg (by omega)], by rw [extB, if_neg (by omega)]⟩
  have HBV := hide hbadv
  clear hbadv
  by_cases hbig : 14 < l.length
  · have HE := hide (show extErr l = 13 by rw [extErr, if_pos hbig])
    go_enter Try.func60, Try.ntmps60
    go_wp2_with fail
    go_ret3
    exact ⟨by rw [(HBV.out 13 HE.out (by omega)).1, (HBV.out 13 HE.out (by omega)).2, HE.out]; rfl, Below.refl _ _⟩
  have hbigI : ¬ (14 : Int) < (l.length : Int) := by omega
  have HBIG := hide hbig
  clear hbig
  go_enter Try.func60, Try.ntmps60
  go_wp2_with fail
  go_loop [5, 6, 7] (fun v j _ => ∃ k : Nat, k ≤ l.length ∧ j = .int .i64 k ∧ v = .bool ((l.take k).all smallB) ∧ Hd (∀ i (h : i < l.length), i < k → badB l[i] = false)) (fun _ j _ => l.length - (intOf j).toNat)
  case atStart => exact ⟨0, Nat.zero_le _, rfl, rfl, hide (fun i _ h => by omega)⟩
  case round =>
    obtain ⟨k, hk, rfl, rfl, HN⟩ := hrel
    by_cases hlt : k < l.length
    · obtain ⟨b, off, rfl, hg⟩ := HI.out (by rintro rfl; simp at hlt)
      obtain ⟨cs, _, hc, hR⟩ := hg k hlt
      rw [show cs = encR l[k] from hR] at hc
      have c0 := (show w.cell? ⟨b, off + k * 2, none⟩ = some (.int .u8 (l[k].1.toNat : Nat)) from hc 0 (by omega))
      have c1 := (show w.cell? ⟨b, off + k * 2 + 1, none⟩ = some (.string (str l[k].2)) from hc 1 (by omega))
      have HX := hide (fun (h : badB l[k] = false) => (hide (show ∀ i (h : i < l.length), i < k + 1 → badB l[i] = false from fun i hi h' => by
        by_cases e : i = k
        · subst e; exact h
        · exact HN.out i hi (by omega))))
      have HY := hide (fun (h : badB l[k] = true) => show extErr l = 1 by rw [extErr, if_neg HBIG.out, if_pos (List.any_eq_true.2 ⟨l[k], List.getElem_mem hlt, h⟩)])
      have HA := hide (show (l.take (k + 1)).all smallB = ((l.take k).all smallB && smallB l[k]) by rw [List.take_succ_eq_append_getElem hlt, List.all_append]; simp)
      generalize l[k] = x at *
      obtain ⟨xi, xd⟩ := x
      simp only at c0 c1
      have hxi := xi.toNat_lt
      have hltI : (k : Int) < (l.length : Int) := by omega
      clear hc hg hR
      by_cases h0 : xi.toNat = 0
      · have HE := hide (HY.out (by simp [badB, badN, h0]))
        have h0I : ((xi.toNat : Int) == 0) = true := by rw [beq_iff_eq]; omega
        clear h0
        go_wp2_with fail
        go_ret3
        exact ⟨by rw [(HBV.out 1 HE.out (by omega)).1, (HBV.out 1 HE.out (by omega)).2, HE.out]; rfl, Below.refl _ _⟩
      have h0I : ((xi.toNat : Int) == 0) = false := by rw [beq_eq_false_iff_ne]; omega
      by_cases h255 : 255 < xd.length
      · have HE := hide (HY.out (by simp [badB, badN]; omega))
        have hI : (255 : Int) < (xd.length : Int) := by omega
        clear h0
        go_wp2_with fail
        go_ret3
        exact ⟨by rw [(HBV.out 1 HE.out (by omega)).1, (HBV.out 1 HE.out (by omega)).2, HE.out]; rfl, Below.refl _ _⟩
      have hI : ¬ (255 : Int) < (xd.length : Int) := by omega
      have HE := HX.out (by simp only [badB, badN]; simp [h0]; omega)
      have hS : ∀ c : Bool, (c = true ↔ (xi.toNat < 15 ∧ 0 < xd.length ∧ xd.length < 17)) → c = smallB (xi, xd) := fun c h => by
        rw [Bool.eq_iff_iff, h]; simp only [smallB, smallN, Bool.and_eq_true, decide_eq_true_eq]; omega
      have HS := hide hS
      clear h0 hS
      cases hb : (l.take k).all smallB
      · rw [hb] at HA
        have HB := hide hb
        clear hb
        go_wp2_with fail
        go_round
        case rel => exact ⟨k + 1, by omega, by go_num, by rw [HA.out]; rfl, HE⟩
        case measure => simp [intOf]; omega
      · rw [hb] at HA
        have HB := hide hb
        clear hb
        go_wp2
        all_goals
          go_round
          case rel =>
            refine ⟨k + 1, by omega, by go_num, ?_, HE⟩
            rw [HA.out, Bool.true_and, ← HS.out _ ?_]
            simp
            omega
          case measure => simp [intOf]; omega
    · have hltI : ¬ (k : Int) < (l.length : Int) := by omega
      obtain rfl : k = l.length := by omega
      have hgd : l.any badB = false := by
        rw [List.any_eq_false]
        intro x hx
        obtain ⟨i, hi, rfl⟩ := List.getElem_of_mem hx
        rw [HN.out i hi hi]; simp
      have HE0 := hide (show extErr l = 0 by rw [extErr, if_neg HBIG.out, hgd]; rfl)
      have HGD := hide hgd
      rw [show l.take l.length = l from List.take_length, ← short_of]
      clear hgd HN
      cases hsh : l.any bigB
      · have hs : shortB l = true := by rw [shortB, hsh]; rfl
        rw [hs]
        have HSH := hide hsh
        clear hsh hs
        go_wp2_with fail
        go_loopw [8, 9] (fun v j wr => ∃ k : Nat, k ≤ l.length ∧ j = .int .i64 k ∧ v = .string (str (bodyB true (l.take k))) ∧ Le w wr) (fun _ j _ => l.length - (intOf j).toNat)
        case atStart => exact ⟨0, Nat.zero_le _, rfl, rfl, Le.refl _⟩
        case round =>
          obtain ⟨k, hk, rfl, rfl, hle⟩ := hrel
          by_cases hlt : k < l.length
          · obtain ⟨b, off, rfl, hg⟩ := HI.out (by rintro rfl; simp at hlt)
            obtain ⟨cs, _, hc, hR⟩ := hg k hlt
            rw [show cs = encR l[k] from hR] at hc
            have c0 := hle.cell (show w.cell? ⟨b, off + k * 2, none⟩ = some (.int .u8 (l[k].1.toNat : Nat)) from hc 0 (by omega))
            have c1 := hle.cell (show w.cell? ⟨b, off + k * 2 + 1, none⟩ = some (.string (str l[k].2)) from hc 1 (by omega))
            have hsm := short_all HSH.out l[k] (List.getElem_mem hlt)
            have hgd := good_all HGD.out l[k] (List.getElem_mem hlt)
            have HT := hide (bodyB_take true l k hlt)
            have hbl := bodyB_len true 255 (l.take k) (fun x hx => (good_all HGD.out x (List.mem_of_mem_take hx)).2)
            have htk : (l.take k).length ≤ k := List.length_take_le _ _
            have hbb : (bodyB true (l.take k)).length ≤ 4000 := by omega
            generalize bodyB true (l.take k) = S at *
            generalize l[k] = x at *
            obtain ⟨xi, xd⟩ := x
            simp only at c0 c1 hgd hsm
            have hxi := xi.toNat_lt
            have hltI : (k : Int) < (l.length : Int) := by omega
            clear hc hg hbl htk hR
            have hcv := conv_one (P := Try.prog) wr 44 9 5 5 ((xi.toNat : Int) * 16 + (xd.length : Int) - 1) Try.underlying44 Try.underlying5 Try.underlying9 (by omega) (by omega)
            rw [show ((xi.toNat : Int) * 16 + (xd.length : Int) - 1).toNat = 16 * xi.toNat + xd.length - 1 by omega] at hcv
            have c1a : ∀ o, (wr.alloc o).cell? ⟨b, off + k * 2 + 1, none⟩ = some (.string (str xd)) := fun o => (World.cell?_alloc_lt wr o _ (block_lt c1)).trans c1
            have hs1 : ¬ 9223372036854775807 < S.length + 1 := by omega
            have hs2 : ¬ 9223372036854775807 < S.length + 1 + xd.length := by omega
            have HLE := hide (hle.alloc (.cells #[.int .u8 ((xi.toNat : Int) * 16 + (xd.length : Int) - 1)] 5))
            go_wp2_with fail
            go_roundw
            case rel =>
              refine ⟨k + 1, by omega, by go_num, ?_, HLE.out⟩
              rw [HT.out]
              simp [itemB]
            case measure => simp [intOf]; omega
          · have hltI : ¬ (k : Int) < (l.length : Int) := by omega
            obtain rfl : k = l.length := by omega
            have hbl := bodyB_len true 255 l (fun x hx => (good_all HGD.out x hx).2)
            have hS : (bodyB true l).length ≤ 4000 := by omega
            have HX := hide (show extB l = padB (bodyB true l) by rw [extB, if_pos HE0.out]; simp only [shortB]; rw [HSH.out]; rfl)
            have HP := hide (show extProf l = 48862 by rw [extProf, if_pos HE0.out]; rw [shortB, HSH.out]; rfl)
            rw [show l.take l.length = l from List.take_length]
            generalize bodyB true l = S at *
            have HLE := hide hle
            clear hbl hle
            go_wp2_with fail
            go_loopw [8] (fun v wr => ∃ m : Nat, m ≤ padN S.length ∧ v = .string (str (S ++ List.replicate m 0)) ∧ Le w wr) (fun v _ => match v with | .string s => (4 - s.size % 4) % 4 | _ => 0)
            case atStart => exact ⟨0, Nat.zero_le _, by simp, HLE.out⟩
            case round =>
              clear HLE
              obtain ⟨m, hm, rfl, hle⟩ := hrel
              have hm3 : m ≤ 3 := by unfold padN at hm; omega
              have hrl : (S ++ List.replicate m (0 : UInt8)).length = S.length + m := by simp
              by_cases hz : (S.length + m) % 4 = 0
              · have hme : m = padN S.length := by unfold padN at hm ⊢; omega
                have HM := hide hme
                obtain ⟨T, hT⟩ : ∃ T, S ++ List.replicate m (0 : UInt8) = T := ⟨_, rfl⟩
                rw [hT] at hrl ⊢
                have HT := hide hT
                have hzI : (((T.length : Nat) : Int) % 4 != 0) = false := by rw [bne_eq_false_iff_eq]; omega
                clear hm hme hz hT hrl
                go_wp2_with fail
                go_ret3
                refine ⟨?_, hle.out⟩
                rw [HX.out, HP.out, HE0.out, padB, ← HM.out, HT.out]
                rfl
              · have hlt : m < padN S.length := by unfold padN at hm ⊢; omega
                have HLT := hide hlt
                have HZ := hide hz
                obtain ⟨T, hT⟩ : ∃ T, S ++ List.replicate m (0 : UInt8) = T := ⟨_, rfl⟩
                rw [hT] at hrl ⊢
                have HT := hide hT
                have HRL := hide hrl
                have hzI : (((T.length : Nat) : Int) % 4 != 0) = true := by rw [bne_iff_ne]; omega
                have hs9 : ¬ 9223372036854775807 < T.length + 1 := by omega
                have hcc : str T ++ (⟨#[0]⟩ : ByteArray) = str (T ++ [0]) := str_app T [0]
                clear hz hm hlt hT hrl
                go_wp2_with fail
                go_roundw
                case rel =>
                  refine ⟨m + 1, HLT.out, ?_, hle⟩
                  rw [List.replicate_succ', ← List.append_assoc, HT.out]
                case measure =>
                  have h1 := HZ.out
                  have h2 := HRL.out
                  simp only [str_size, List.length_append, List.length_cons, List.length_nil]
                  omega

      · have hs : shortB l = false := by rw [shortB, hsh]; rfl
        rw [hs]
        have HSH := hide hsh
        clear hsh hs
        go_wp2_with fail
        go_loopw [8, 9] (fun v j wr => ∃ k : Nat, k ≤ l.length ∧ j = .int .i64 k ∧ v = .string (str (bodyB false (l.take k))) ∧ Le w wr) (fun _ j _ => l.length - (intOf j).toNat)
        case atStart => exact ⟨0, Nat.zero_le _, rfl, rfl, Le.refl _⟩
        case round =>
          obtain ⟨k, hk, rfl, rfl, hle⟩ := hrel
          by_cases hlt : k < l.length
          · obtain ⟨b, off, rfl, hg⟩ := HI.out (by rintro rfl; simp at hlt)
            obtain ⟨cs, _, hc, hR⟩ := hg k hlt
            rw [show cs = encR l[k] from hR] at hc
            have c0 := hle.cell (show w.cell? ⟨b, off + k * 2, none⟩ = some (.int .u8 (l[k].1.toNat : Nat)) from hc 0 (by omega))
            have c1 := hle.cell (show w.cell? ⟨b, off + k * 2 + 1, none⟩ = some (.string (str l[k].2)) from hc 1 (by omega))
            have hgd := good_all HGD.out l[k] (List.getElem_mem hlt)
            have HT := hide (bodyB_take false l k hlt)
            have hbl := bodyB_len false 255 (l.take k) (fun x hx => (good_all HGD.out x (List.mem_of_mem_take hx)).2)
            have htk : (l.take k).length ≤ k := List.length_take_le _ _
            have hbb : (bodyB false (l.take k)).length ≤ 4000 := by omega
            generalize bodyB false (l.take k) = S at *
            generalize l[k] = x at *
            obtain ⟨xi, xd⟩ := x
            simp only at c0 c1 hgd
            have hxi := xi.toNat_lt
            have hltI : (k : Int) < (l.length : Int) := by omega
            clear hc hg hbl htk hR
            have hcv := conv_pair wr (xi.toNat : Int) (xd.length : Int) xi (UInt8.ofNat xd.length) rfl (by rw [UInt8.toNat_ofNat']; omega)
            have c1a : ∀ o, (wr.alloc o).cell? ⟨b, off + k * 2 + 1, none⟩ = some (.string (str xd)) := fun o => (World.cell?_alloc_lt wr o _ (block_lt c1)).trans c1
            have hs1 : ¬ 9223372036854775807 < S.length + 2 := by omega
            have hs2 : ¬ 9223372036854775807 < S.length + 2 + xd.length := by omega
            have HLE := hide (hle.alloc (.cells #[.int .u8 (xi.toNat : Int), .int .u8 (xd.length : Int)] 5))
            go_wp2_with fail
            go_roundw
            case rel =>
              refine ⟨k + 1, by omega, by go_num, ?_, HLE.out⟩
              rw [HT.out]
              simp [itemB]
            case measure => simp [intOf]; omega
          · have hltI : ¬ (k : Int) < (l.length : Int) := by omega
            obtain rfl : k = l.length := by omega
            have hbl := bodyB_len false 255 l (fun x hx => (good_all HGD.out x hx).2)
            have hS : (bodyB false l).length ≤ 4000 := by omega
            have HX := hide (show extB l = padB (bodyB false l) by rw [extB, if_pos HE0.out]; simp only [shortB]; rw [HSH.out]; rfl)
            have HP := hide (show extProf l = 4096 by rw [extProf, if_pos HE0.out]; rw [shortB, HSH.out]; rfl)
            rw [show l.take l.length = l from List.take_length]
            generalize bodyB false l = S at *
            have HLE := hide hle
            clear hbl hle
            go_wp2_with fail
            go_loopw [8] (fun v wr => ∃ m : Nat, m ≤ padN S.length ∧ v = .string (str (S ++ List.replicate m 0)) ∧ Le w wr) (fun v _ => match v with | .string s => (4 - s.size % 4) % 4 | _ => 0)
            case atStart => exact ⟨0, Nat.zero_le _, by simp, HLE.out⟩
            case round =>
              clear HLE
              obtain ⟨m, hm, rfl, hle⟩ := hrel
              have hm3 : m ≤ 3 := by unfold padN at hm; omega
              have hrl : (S ++ List.replicate m (0 : UInt8)).length = S.length + m := by simp
              by_cases hz : (S.length + m) % 4 = 0
              · have hme : m = padN S.length := by unfold padN at hm ⊢; omega
                have HM := hide hme
                obtain ⟨T, hT⟩ : ∃ T, S ++ List.replicate m (0 : UInt8) = T := ⟨_, rfl⟩
                rw [hT] at hrl ⊢
                have HT := hide hT
                have hzI : (((T.length : Nat) : Int) % 4 != 0) = false := by rw [bne_eq_false_iff_eq]; omega
                clear hm hme hz hT hrl
                go_wp2_with fail
                go_ret3
                refine ⟨?_, hle.out⟩
                rw [HX.out, HP.out, HE0.out, padB, ← HM.out, HT.out]
                rfl
              · have hlt : m < padN S.length := by unfold padN at hm ⊢; omega
                have HLT := hide hlt
                have HZ := hide hz
                obtain ⟨T, hT⟩ : ∃ T, S ++ List.replicate m (0 : UInt8) = T := ⟨_, rfl⟩
                rw [hT] at hrl ⊢
                have HT := hide hT
                have HRL := hide hrl
                have hzI : (((T.length : Nat) : Int) % 4 != 0) = true := by rw [bne_iff_ne]; omega
                have hs9 : ¬ 9223372036854775807 < T.length + 1 := by omega
                have hcc : str T ++ (⟨#[0]⟩ : ByteArray) = str (T ++ [0]) := str_app T [0]
                clear hz hm hlt hT hrl
                go_wp2_with fail
                go_roundw
                case rel =>
                  refine ⟨m + 1, HLT.out, ?_, hle⟩
                  rw [List.replicate_succ', ← List.append_assoc, HT.out]
                case measure =>
                  have h1 := HZ.out
                  have h2 := HRL.out
                  simp only [str_size, List.length_append, List.length_cons, List.length_nil]
                  omega

end Go.Proofs.Ytekioihjfggmdaa

/- The reference of layer 1, function by function. -/
namespace Go.Proofs.Ytekioihjfggmdaa
open Go.RowKit
set_option linter.unusedVariables false


set_option maxHeartbeats 1000000 in
theorem rnum_any (x : Nat) (n : Int) (w : World) (hx : (x : Int) < 18446744073709551616) :
    Calls Try.prog 61 #[.int .u64 x, .int .i64 n] w (Gives w (.string (str (putOne (x, n))))) := by
  have HX := hide hx
  by_cases h1 : n < 1
  · have HP := hide (show putOne (x, n) = [] by simp [putOne, mayB]; omega)
    go_enter Try.func61, Try.ntmps61
    go_wp2
    go_ret
    exact ⟨by rw [HP.out]; rfl, Below.refl _ _⟩
  · by_cases h8 : 8 < n
    · have HP := hide (show putOne (x, n) = [] by simp [putOne, mayB]; omega)
      go_enter Try.func61, Try.ntmps61
      go_wp2
      go_ret
      exact ⟨by rw [HP.out]; rfl, Below.refl _ _⟩
    · obtain ⟨m, rfl⟩ := Int.eq_ofNat_of_zero_le (show 0 ≤ n by omega)
      have HP := hide (show putOne (x, (m : Int)) = be x m by simp [putOne, mayB]; omega)
      clear hx
      go_enter Try.func61, Try.ntmps61
      go_wp2
      go_loopw [0, 5, 6] (fun y s j wr => ∃ i : Nat, i ≤ m ∧ j = .int .i64 i ∧ s = .string (str (be x i)) ∧ y = .int .u64 ((x / 2 ^ (8 * i) : Nat) : Int) ∧ Below w.heap.size w wr) (fun _ _ j _ => m - (intOf j).toNat)
      case atStart => exact ⟨0, Nat.zero_le _, rfl, rfl, by simp, Below.refl _ _⟩
      case round =>
        obtain ⟨i, hi, rfl, rfl, rfl, hb⟩ := hrel
        have HS := hide (be_succ x i)
        have HD := hide (div_step x i)
        have hbl : (be x i).length ≤ 8 := by rw [be_length]; omega
        have hy : ((x / 2 ^ (8 * i) : Nat) : Int) < 18446744073709551616 := by
          have := Nat.div_le_self x (2 ^ (8 * i)); have := HX.out; omega
        obtain ⟨s, hs⟩ : ∃ s, be x i = s := ⟨_, rfl⟩
        rw [hs] at HS hbl ⊢
        have HSI := hide hs; clear hs
        generalize x / 2 ^ (8 * i) = y at HD hy HS ⊢
        by_cases hlt : i < m
        · have hc := conv_one (P := Try.prog) wr 44 9 5 5 ((y : Int) % 256) Try.underlying44 Try.underlying5 Try.underlying9 (by omega) (by omega)
          go_wp2
          go_roundw
          case rel => exact ⟨i + 1, by omega, by go_num, by rw [HS.out], by rw [← HD.out]; go_num, hb.alloc hb.size _⟩
          case measure => simp [intOf]; omega
        · have hie : i = m := by omega
          have HI := hide hie; clear hie
          go_wp2
          go_ret
          refine ⟨?_, hb⟩
          rw [HP.out, ← HI.out, HSI.out]
          rfl

end Go.Proofs.Ytekioihjfggmdaa

/- louverref07.Parse: what it needs. -/
namespace Go.Proofs.Ytekioihjfggmdaa
open Go.RowKit
set_option linter.unusedVariables false

theorem rbit_any (c v : Nat) (hc : c < 256) (hv : v = 128 ∨ v = 64 ∨ v = 32 ∨ v = 16) (w : World) : Calls Try.prog 59 #[.int .u8 c, .int .i64 v] w fun e w' => e = .returned (.bool (bt c v)) ∧ w' = w := by
  obtain ⟨q, hq⟩ : ∃ q, q = c / v := ⟨_, rfl⟩
  have hq2 : q < 256 := by rw [hq]; exact Nat.lt_of_le_of_lt (Nat.div_le_self c v) hc
  have hb : bt c v = decide (q % 2 = 1) := by rw [bt, hq]
  have hd : (c : Int).tdiv (v : Int) = (q : Nat) := by rw [hq]; rfl
  have hd2 : (c : Int) / (v : Int) = (q : Nat) := by rw [hq]; rfl
  have hm : (q : Int).tmod 2 = (q : Int) % 2 := Int.tmod_eq_emod_of_nonneg (by omega)
  have hv0 : ((v : Int) == 0) = false := by rw [beq_eq_false_iff_ne]; omega
  have hv1 : ¬ v = 0 := by omega
  have hwc : IntKind.i64.wrap (c : Int) = c := IntWalk.i64_in _ (by omega)
  have hwq : IntKind.i64.wrap (q : Int) = q := IntWalk.i64_in _ (by omega)
  rw [hb]
  have hpar : ((q : Int) % 2 = 1 ∧ decide (q % 2 = 1) = true) ∨ ((q : Int) % 2 = 0 ∧ decide (q % 2 = 1) = false) := by
    by_cases h : q % 2 = 1
    · exact .inl ⟨by omega, by simp [h]⟩
    · exact .inr ⟨by omega, by simp [h]⟩
  clear hb hq
  rcases hpar with ⟨h1, h2⟩ | ⟨h1, h2⟩
  all_goals
    rw [h2]
    clear h2
    go_enter Try.func59, Try.ntmps59
    go_wp2_with fail
    go_ret
    exact ⟨rfl, rfl⟩

def Dsc.rcs (d : Dsc) : Array Value := #[.bool d.more, .bool d.lone, .bool d.start, .int .i64 d.part, .bool d.hasPic, .bool d.wide, .int .i64 d.pic, .bool d.hasTl0, .int .i64 d.tl0, .bool d.hasTid, .int .i64 d.tid, .bool d.sync, .bool d.hasKey, .int .i64 d.key]

/-- louverref07.Parse's answers -/
def vpP (b : List UInt8) : Int := if vpE b = 0 then (vpParse b).pp else 0
def vpT (b : List UInt8) : Int := if vpE b = 0 then (vpParse b).tp else 0
def rpV (b : List UInt8) : Value := .tuple #[(vpD b).ref, .int .i64 (vpN b), .int .i64 (vpP b), .int .i64 (vpT b), .int .i64 (vpE b)]
theorem rpV_bad (b : List UInt8) (h : vpE b ≠ 0) : rpV b = .tuple #[Dsc.zero.ref, .int .i64 0, .int .i64 0, .int .i64 0, .int .i64 10] := by
  have h2 := vpE_two b
  have h3 : vpE b = 10 := by omega
  rw [rpV, vpD, vpN, vpP, vpT, h3]
  rfl
theorem rpV_good (b : List UInt8) (r : Rd8) (l : List UInt8) (h : vpParse b = r) (hs : r.s = (l, 0)) : rpV b = .tuple #[r.d.ref, .int .i64 ((b.length : Int) - l.length), .int .i64 r.pp, .int .i64 r.tp, .int .i64 0] := by
  have h3 : vpE b = 0 := by rw [vpE, h, hs]
  rw [rpV, vpD, vpN, vpP, vpT, h3, h, hs]
  rfl

theorem rparse_ret {w : World} {Q : Ending → World → Prop} {tmps : Array Value} {g2 : Nat} {cs : Array Value} {a b c e : Int} (h2 : tmps.getD 2 undef = .pointer (some ⟨g2, 0, none⟩))
    (h3 : tmps.getD 3 undef = .int .i64 a) (h4 : tmps.getD 4 undef = .int .i64 b) (h5 : tmps.getD 5 undef = .int .i64 c) (h6 : tmps.getD 6 undef = .int .i64 e)
    (hg2 : w.heap[g2]? = some (.cells cs 99 (0, 0))) (hs : cs.size = 14)
    (hQ : Q (.returned (.tuple #[.agg cs, .int .i64 a, .int .i64 b, .int .i64 c, .int .i64 e])) w) :
    bodyPost Try.prog Try.f28 Q .ret { tmps := tmps, defers := [] } w := by
  have r2 := run_loadVar_row (P := Try.prog) w g2 99 99 cs (0, 0) _ hg2 Try.underlying99 rfl (by rw [hs]; kernel_rfl)
  have h2' : tmps[2]?.getD undef = .pointer (some ⟨g2, 0, none⟩) := by simpa using h2
  have h3' : tmps[3]?.getD undef = .int .i64 a := by simpa using h3
  have h4' : tmps[4]?.getD undef = .int .i64 b := by simpa using h4
  have h5' : tmps[5]?.getD undef = .int .i64 c := by simpa using h5
  have h6' : tmps[6]?.getD undef = .int .i64 e := by simpa using h6
  refine bodyPost_ret (v := .tuple #[.agg cs, .int .i64 a, .int .i64 b, .int .i64 c, .int .i64 e]) ?_ rfl hQ
  simp [results, Try.results28, h2', h3', h4', h5', h6', asAddr, r2]

/-- what the reference has at hand: its result's block, its descriptor's -/
structure RSt (w wx : World) (g2 p7 : Nat) (d : Dsc) : Prop where
  le : Below w.heap.size w wx
  h2 : wx.heap[g2]? = some (.cells Dsc.zero.rcs 99 (0, 0))
  h7 : wx.heap[p7]? = some (.cells d.rcs 99 (0, 0))
  ge2 : w.heap.size ≤ g2
  lt : g2 < p7
theorem RSt.put {w wx : World} {g2 p7 : Nat} {d : Dsc} (h : RSt w wx g2 p7 d) (i : Nat) (u : Value) (d' : Dsc) (e : d.rcs.setIfInBounds i u = d'.rcs) : RSt w (wx.setCell ⟨p7, i, none⟩ u) g2 p7 d' :=
  ⟨h.le.setCell (Nat.le_of_lt (Nat.lt_of_le_of_lt h.ge2 h.lt)) u, heap_far u h.h2 (Nat.ne_of_lt h.lt), by rw [← e]; exact heap_set u h.h7, h.ge2, h.lt⟩
theorem RSt.drew {w wx : World} {g2 p7 : Nat} {d : Dsc} (h : RSt w wx g2 p7 d) : RSt w wx.drew g2 p7 d := ⟨h.le.trans ((Below.refl _ _).drew), h.h2, h.h7, h.ge2, h.lt⟩
end Go.Proofs.Ytekioihjfggmdaa

/- louverref07.Parse. -/
namespace Go.Proofs.Ytekioihjfggmdaa
open Go.RowKit
set_option linter.unusedVariables false

set_option maxRecDepth 100000 in
set_option maxHeartbeats 8000000 in
theorem rparse_any (b : List UInt8) (w : World) (hn : b.length ≤ 1000) : Calls Try.prog 28 #[.string (str b)] w (Gives w (rpV b)) := by
  have hbad := rpV_bad b
  have hgood := rpV_good b
  obtain ⟨R, hR⟩ : ∃ R, R = rpV b := ⟨_, rfl⟩
  rw [← hR] at hbad hgood ⊢
  clear hR
  have hz := heap_alloc_new w (.cells Dsc.zero.rcs 99)
  have hl := (Le.refl w).alloc (.cells Dsc.zero.rcs 99)
  simp only [Dsc.zero, Dsc.rcs, Int.ofNat_zero] at hz hl
  have HZ := hide hz
  have HL := hide hl
  clear hz hl
  cases b with
  | nil =>
    have HB := hide (hbad (by decide))
    clear hbad hgood
    go_enter Try.func28, Try.ntmps28
    go_wp2_with (refine wpl_store_blk rfl 99 (.tmp 2) (.tmp 13) rfl rfl rfl (by kernel_rfl) (by simp [Value.oneCell']) (HZ.out) rfl ?_; intro wz hz2 hgz)
    exact rparse_ret rfl rfl rfl rfl rfl hz2 rfl ⟨congrArg Ending.returned HB.out.symm, (below_row HL.out.out hgz (Nat.le_refl _) HL.out.size)⟩
  | cons a t =>
    obtain ⟨c0, hc0e⟩ : ∃ c0 : Nat, c0 = a.toNat := ⟨_, rfl⟩
    have hc0 : c0 < 256 := by rw [hc0e]; exact a.toNat_lt
    have hp0 : ∀ h, ((a :: t)[0]'h).toNat = c0 := fun _ => hc0e.symm
    have hlone := lone_parse a t
    have hmore : bt a.toNat 128 = true → vpParse (a :: t) = (((rd1 (a :: t)).one (a :: t).length).two (a :: t).length).three := by
      intro h
      rw [vpParse, by1_cons, h]
      rfl
    rw [← hc0e] at hlone hmore
    have hrd : (rd1 (a :: t)) = ⟨(Dsc.head c0).has (by1 (t, 0)), 0, 0, tk (t, 0)⟩ := by rw [hc0e]; simp [rd1, rd0, by1_cons, tk_cons]
    have hl1 : (a :: t).length = t.length + 1 := rfl
    have hpos : 0 < (a :: t).length := by simp
    have hb0 : ¬ (a :: t) = [] := by simp
    have hb1 : ((a :: t) == ([] : List UInt8)) = false := rfl
    generalize hbd : a :: t = b at *
    have HBD := hide hbd
    clear hbd
    have HG := hide (And.intro hgood (And.intro hlone (And.intro hmore hrd)))
    have HB := hide hbad
    have HRG := hide hgood
    clear hgood hlone hmore hrd hbad hc0e
    have htm : (c0 : Int).tmod 8 = ((c0 % 8 : Nat) : Int) := rfl
    have hw8 : IntKind.i64.wrap ((c0 % 8 : Nat) : Int) = ((c0 % 8 : Nat) : Int) := IntWalk.i64_in _ (by omega)
    have hw8' : IntKind.i64.wrap ((c0 : Int) % 8) = (c0 : Int) % 8 := IntWalk.i64_in _ (by omega)
    go_enter Try.func28, Try.ntmps28
    go_upto_region 3 with fail
    generalize hw2 : World.alloc w _ = w2 at *
    clear hw2
    refine' wp_region_tail 15 14 14 Le (Is _ :: Is _ :: Is _ :: Is _ :: Is _ :: Is _ :: Is _ :: Is _ :: Is _ :: Is _ :: Is _ :: Is _ :: Is _ :: Is _ :: (fun v w => ∃ g : Nat, v = .pointer (some ⟨g, 0, none⟩) ∧ w2.heap.size ≤ g ∧ w.heap[g]? = some (.cells Dsc.zero.rcs 99 (0, 0))) :: []) ([] :: [0] :: [1] :: [] :: [3] :: [4] :: [] :: [6] :: [7] :: [] :: [9] :: [10] :: [11] :: [2, 5, 8, 12] :: [] :: []) (by kernel_rfl) (by kernel_rfl) (by rfl) (by kernel_rfl) (by kernel_rfl) Le.refl (fun _ _ _ h h' => h.trans h') ⟨St.is, St.is, St.is, St.is, St.is, St.is, St.is, St.is, St.is, St.is, St.is, St.is, St.is, St.is, fun v w w' h ⟨g, e1, e2, e3⟩ => ⟨g, e1, e2, h.heap e3⟩, trivial⟩ ?m3
    case m3 =>
      simp (maxSteps := 100000000) only [AllV, Obl2, Leans, factAt, allFacts, actOf, putAll, putRow, Act.put, List.setIfInBounds_toArray, List.set_cons_succ, List.set_cons_zero, List.getElem?_cons_zero, List.getElem?_cons_succ, List.take_succ_cons, List.take_zero, List.drop_succ_cons, List.drop_zero, List.cons_append, List.nil_append, List.length_cons, List.length_nil, Nat.reduceAdd]
      intro x0 x1 x2 x3 x4 x5 x6 x7 x8 x9 x10 x11 x12 x13 x14
      refine ⟨⟨?_, ?_, ?_, ?_, ?_, ?_, ?_, ?_, ?_, ?_, ?_, ?_, ?_, ?_, ?_, trivial⟩, ?_⟩
      -- 0: 14 := Op.move t0
      · intro w hw  K hK; go_simp; exact hK _ _ (Le.refl _) (Is.mk _ _)
      -- 1: 15 := Op.index 9 t14 (const (0:i64))
      · intro w hw h0 K hK; cases h0; go_simp; exact hK _ _ (Le.refl _) (Is.mk _ _)
      -- 2: 16 := Op.call { value (Operand.func 49), args := #[t15, const (128:i64)], argTypes := #[5, 3] }
      · intro w hw h1 K hK; cases h1; go_simp; refine (rbit_any c0 128 hc0 (by simp) w).mono ?_; rintro r w' ⟨rfl, rfl⟩; exact hK _ _ (Le.refl _) (Is.mk _ _)
      -- 3: 17 := Op.move t0
      · intro w hw  K hK; go_simp; exact hK _ _ (Le.refl _) (Is.mk _ _)
      -- 4: 18 := Op.index 9 t17 (const (0:i64))
      · intro w hw h3 K hK; cases h3; go_simp; exact hK _ _ (Le.refl _) (Is.mk _ _)
      -- 5: 19 := Op.call { value (Operand.func 49), args := #[t18, const (32:i64)], argTypes := #[5, 3] }
      · intro w hw h4 K hK; cases h4; go_simp; refine (rbit_any c0 32 hc0 (by simp) w).mono ?_; rintro r w' ⟨rfl, rfl⟩; exact hK _ _ (Le.refl _) (Is.mk _ _)
      -- 6: 20 := Op.move t0
      · intro w hw  K hK; go_simp; exact hK _ _ (Le.refl _) (Is.mk _ _)
      -- 7: 21 := Op.index 9 t20 (const (0:i64))
      · intro w hw h6 K hK; cases h6; go_simp; exact hK _ _ (Le.refl _) (Is.mk _ _)
      -- 8: 22 := Op.call { value (Operand.func 49), args := #[t21, const (16:i64)], argTypes := #[5, 3] }
      · intro w hw h7 K hK; cases h7; go_simp; refine (rbit_any c0 16 hc0 (by simp) w).mono ?_; rintro r w' ⟨rfl, rfl⟩; exact hK _ _ (Le.refl _) (Is.mk _ _)
      -- 9: 23 := Op.move t0
      · intro w hw  K hK; go_simp; exact hK _ _ (Le.refl _) (Is.mk _ _)
      -- 10: 24 := Op.index 9 t23 (const (0:i64))
      · intro w hw h9 K hK; cases h9; go_simp; exact hK _ _ (Le.refl _) (Is.mk _ _)
      -- 11: 25 := Op.binOp BinOp.rem 5 t24 (const (8:u8)) 5
      · intro w hw h10 K hK; cases h10; go_simp; exact hK _ _ (Le.refl _) (Is.mk _ _)
      -- 12: 26 := Op.convert 5 3 t25
      · intro w hw h11 K hK; cases h11; go_simp; exact hK _ _ (Le.refl _) (Is.mk _ _)
      -- 13: 27 := Op.build 53 #[(0, t16), (1, t19), (2, t22), (3, t26)]
      · intro w hw h2 h5 h8 h12 K hK; cases h2; cases h5; cases h8; cases h12; go_simp; exact hK _ _ (Le.refl _) (Is.mk _ _)
      -- 14: 7 := Op.alloc 53
      · intro w hw  K hK; go_simp; exact hK _ _ ((Le.refl _).alloc _) ⟨_, rfl, hw.size, heap_alloc_new _ _⟩
      · intro wz hz h0 h1 h2 h3 h4 h5 h6 h7 h8 h9 h10 h11 h12 h13 h14; cases h0; cases h1; cases h2; cases h3; cases h4; cases h5; cases h6; cases h7; cases h8; cases h9; cases h10; cases h11; cases h12; cases h13; obtain ⟨g, rfl, hgl, hg⟩ := h14; skip
        have hgz := hz.trans (Le.refl wz)
        have hws := HL.out.size
        have hw2s : w.heap.size < w2.heap.size := lt_of_heap HZ.out
        go_upto_region 4 with (refine wpl_store_blk rfl 99 (.tmp 7) (.tmp 27) rfl (old := Dsc.zero.rcs.toList) rfl rfl (by kernel_rfl) (by simp [Value.oneCell']) hg rfl ?_; intro w3 h3 hg3)
        have hst : RSt w w3 w.heap.size g (Dsc.head c0) :=
          ⟨below_row ((HL.out.drew.trans hz).out) hg3 (by omega) (HL.out.drew.trans hz).size, heap_grown hg3 (hz.heap HZ.out) (fun e => by have := Option.some.inj e; omega), h3, Nat.le_refl _, by omega⟩
        clear h3 hg3 hg hz hgz hgl hws hw2s
        have y0 := cell_block hst.h7 0
        have y1 := cell_block hst.h7 1
        have y2 := cell_block hst.h7 2
        have y3 := cell_block hst.h7 3
        have y4 := cell_block hst.h7 4
        have y5 := cell_block hst.h7 5
        have y6 := cell_block hst.h7 6
        have y7 := cell_block hst.h7 7
        have y8 := cell_block hst.h7 8
        have y9 := cell_block hst.h7 9
        have y10 := cell_block hst.h7 10
        have y11 := cell_block hst.h7 11
        have y12 := cell_block hst.h7 12
        have y13 := cell_block hst.h7 13
        simp only [Dsc.rcs, Dsc.head, Dsc.zero, List.getElem?_toArray, List.getElem?_cons_zero, List.getElem?_cons_succ] at y0 y1 y2 y3 y4 y5 y6 y7 y8 y9 y10 y11 y12 y13
        cases hb : bt c0 128
        · rw [hb] at y0
          have HBV := hide hb
          have hres : R = .tuple #[(Dsc.head c0).ref, .int .i64 1, .int .i64 0, .int .i64 0, .int .i64 0] := by
            rw [HG.out.1 _ t (HG.out.2.1 hb) rfl]
            rw [show (b.length : Int) - t.length = 1 by omega]
          rw [show Dsc.ref (Dsc.head c0) = .agg (Dsc.head c0).rcs from rfl] at hres
          have HRS := hide hres
          clear hres hb
          go_wp2_with (refine wpl_store_blk rfl 99 (.tmp 2) (.tmp 31) rfl rfl rfl (by kernel_rfl) (by simp [Value.oneCell']) (hst.h2) rfl ?_; intro wq hq2 hgq)
          exact rparse_ret rfl rfl rfl rfl rfl hq2 rfl ⟨congrArg Ending.returned (HRS.out.trans (by simp only [Dsc.rcs, HBV.out, Dsc.head, Dsc.zero]; rfl)).symm, below_row hst.le hgq (Nat.le_refl _) hst.le.size⟩
        · rw [hb] at y0
          have HMO := hide (HG.out.2.2.1 hb)
          clear hb
          have hE0 : (((rd1 b).one b.length).two b.length).three.s.2 ≠ 0 → vpE b ≠ 0 := by
            intro h
            rw [vpE, HMO.out]
            exact h
          have HE0 := hide hE0
          clear hE0
          cases t with
          | nil =>
            have hlt : (b.length : Int) < 2 := by have := hl1; simp at this; omega
            have hbad2 : (rd1 b).s.2 ≠ 0 := by rw [HG.out.2.2.2, tk_nil]; exact (by decide : (10 : Int) ≠ 0)
            have HSB := hide (HB.out (HE0.out (three_stays _ (two_stays _ _ (one_stays _ _ hbad2)))))
            go_wp2_with (refine wpl_store_blk rfl 99 (.tmp 2) (.tmp 35) rfl rfl rfl (by kernel_rfl) (by simp [Value.oneCell']) (hst.h2) rfl ?_; intro wq hq2 hgq)
            exact rparse_ret rfl rfl rfl rfl rfl hq2 rfl ⟨congrArg Ending.returned HSB.out.symm, below_row hst.le hgq (Nat.le_refl _) hst.le.size⟩
          | cons x1 t2 =>
            have hl2 : b.length = t2.length + 2 := by rw [hl1]; rfl
            obtain ⟨c1, hc1e⟩ : ∃ c1 : Nat, c1 = x1.toNat := ⟨_, rfl⟩
            have hc1 : c1 < 256 := by rw [hc1e]; exact x1.toNat_lt
            have hp1 : ∀ h, (b[1]'h).toNat = c1 := by
              intro h
              have := HBD.out
              subst this
              exact hc1e.symm
            have hr1 : rd1 b = ⟨(Dsc.head c0).has c1, 0, 0, (t2, 0)⟩ := by rw [HG.out.2.2.2, by1_cons, tk_cons, hc1e]
            have hdr : b.drop 2 = t2 := by
              have := HBD.out
              subst this
              rfl
            have hge : ¬ (b.length : Int) < 2 := by omega
            have hge1 : (1 : Int) < (b.length : Int) := by omega
            have HL2 := hide hl2
            have HR1 := hide hr1
            have HDR := hide hdr
            clear hl1 hl2 hr1 hdr hc1e
            have f4 : w3.frozen? ⟨g, 4, none⟩ = false := free_block hst.h7 4
            have f7 : w3.frozen? ⟨g, 7, none⟩ = false := free_block hst.h7 7
            have f9 : w3.frozen? ⟨g, 9, none⟩ = false := free_block hst.h7 9
            have f12 : w3.frozen? ⟨g, 12, none⟩ = false := free_block hst.h7 12
            have B128 : ∀ W, Calls Try.prog 59 #[.int .u8 (c1 : Nat), .int .i64 128] W fun e w' => e = .returned (.bool (bt c1 128)) ∧ w' = W := fun W => rbit_any c1 128 hc1 (by simp) W
            have B64 : ∀ W, Calls Try.prog 59 #[.int .u8 (c1 : Nat), .int .i64 64] W fun e w' => e = .returned (.bool (bt c1 64)) ∧ w' = W := fun W => rbit_any c1 64 hc1 (by simp) W
            have B32 : ∀ W, Calls Try.prog 59 #[.int .u8 (c1 : Nat), .int .i64 32] W fun e w' => e = .returned (.bool (bt c1 32)) ∧ w' = W := fun W => rbit_any c1 32 hc1 (by simp) W
            have B16 : ∀ W, Calls Try.prog 59 #[.int .u8 (c1 : Nat), .int .i64 16] W fun e w' => e = .returned (.bool (bt c1 16)) ∧ w' = W := fun W => rbit_any c1 16 hc1 (by simp) W
            go_wp2_with fail
            refine (B128 _).mono ?_
            rintro r w' ⟨rfl, rfl⟩
            go_wp2_with fail
            refine (B64 _).mono ?_
            rintro r w' ⟨rfl, rfl⟩
            go_wp2_with fail
            refine (B32 _).mono ?_
            rintro r w' ⟨rfl, rfl⟩
            go_wp2_with fail
            refine (B16 _).mono ?_
            rintro r w' ⟨rfl, rfl⟩
            go_upto_region 12 with fail
            have hst4 : RSt w _ w.heap.size g ((Dsc.head c0).has c1) := (((hst.put 4 (.bool (bt c1 128)) { Dsc.head c0 with hasPic := bt c1 128 } rfl).put 7 (.bool (bt c1 64)) { Dsc.head c0 with hasPic := bt c1 128, hasTl0 := bt c1 64 } rfl).put 9 (.bool (bt c1 32)) { Dsc.head c0 with hasPic := bt c1 128, hasTl0 := bt c1 64, hasTid := bt c1 32 } rfl).put 12 (.bool (bt c1 16)) ((Dsc.head c0).has c1) rfl
            generalize hw4 : World.setCell (World.setCell (World.setCell (World.setCell _ _ _) _ _) _ _) _ _ = w4 at *
            have hw1 : ((Dsc.head c0).has c1).wide = false := rfl
            clear hw4 hst B128 B64 B32 B16 f4 f7 f9 f12 htm hw8 hw8' y0 y1 y2 y3 y4 y5 y6 y7 y8 y9 y10 y11 y12 y13
            generalize (Dsc.head c0).has c1 = d1 at *
            have HP0 := hide hp0
            clear hp0 hp1 hge1 hb0 hb1
            have hy4 : w4.cell? ⟨g, 4, none⟩ = some (.bool d1.hasPic) := cell_block hst4.h7 4
            go_upto_if 53 with fail
            clear hy4
            go_cut [8, 9] (fun s8 s9 wx => ∃ (l : List UInt8) (k : Nat), ((rd1 b).one b.length).s = (l, 0) ∧ ((rd1 b).one b.length).tp = 0 ∧ k + l.length = b.length ∧ b.drop k = l ∧ s8 = .int .i64 (k : Nat) ∧ s9 = .int .i64 ((rd1 b).one b.length).pp ∧ RSt w wx w.heap.size g ((rd1 b).one b.length).d)
            case first =>
              have y5 := cell_block hst4.h7 5
              have y6 := cell_block hst4.h7 6
              have g5 : w4.frozen? ⟨g, 5, none⟩ = false := free_block hst4.h7 5
              have g6 : w4.frozen? ⟨g, 6, none⟩ = false := free_block hst4.h7 6
              simp only [Dsc.rcs, List.getElem?_toArray, List.getElem?_cons_zero, List.getElem?_cons_succ] at y5 y6
              cases hq : d1.hasPic
              · have ho : (rd1 b).one b.length = ⟨d1, 0, 0, (t2, 0)⟩ := by rw [HR1.out, Rd8.one]; simp [hq]
                have HO := hide ho
                clear ho
                go_wp2_with fail
                go_meet
                rw [HO.out]
                exact ⟨t2, 2, rfl, rfl, by have := HL2.out; omega, HDR.out, rfl, rfl, hst4⟩
              · cases t2 with
                | nil =>
                  have ho : ((rd1 b).one b.length).s.2 ≠ 0 := by rw [HR1.out, Rd8.one]; simp [hq, firstS, by1_nil, tk_nil, bt]
                  have hlt : (b.length : Int) < 3 := by have := HL2.out; simp at this; omega
                  have HSB := hide (HB.out (HE0.out (three_stays _ (two_stays _ _ ho))))
                  go_wp2_with (refine wpl_store_blk rfl 99 (.tmp 2) (.tmp 72) rfl rfl rfl (by kernel_rfl) (by simp [Value.oneCell']) (hst4.h2) rfl ?_; intro wq hq2 hgq)
                  exact rparse_ret rfl rfl rfl rfl rfl hq2 rfl ⟨congrArg Ending.returned HSB.out.symm, below_row hst4.le hgq (Nat.le_refl _) hst4.le.size⟩
                | cons y l =>
                  obtain ⟨c2, hc2e⟩ : ∃ c2 : Nat, c2 = y.toNat := ⟨_, rfl⟩
                  have hc2 : c2 < 256 := by rw [hc2e]; exact y.toNat_lt
                  have HC2E := hide hc2e
                  clear hc2e
                  have hp2 : ∀ h, (b[2]'h).toNat = c2 := by
                    intro h
                    have := HBD.out
                    subst this
                    exact HC2E.out.symm
                  have hge3 : ¬ (b.length : Int) < 3 := by have := HL2.out; simp at this; omega
                  have hge2 : (2 : Int) < (b.length : Int) := by omega
                  have hm128 : (c2 : Int).tmod 128 = ((c2 % 128 : Nat) : Int) := rfl
                  have hwm : IntKind.i64.wrap ((c2 : Int) % 128) = (c2 : Int) % 128 := IntWalk.i64_in _ (by omega)
                  cases hy : bt c2 128
                  · have hy2 : c2 < 128 := by
                      have h : ¬ c2 / 128 % 2 = 1 := by simpa [bt] using hy
                      omega
                    have h127 : ¬ (127 : Int) < (c2 : Int) := by omega
                    have ho : (rd1 b).one b.length = ⟨{ d1 with pic := c2 }, 2, 0, (l, 0)⟩ := by
                      rw [HC2E.out] at hy ⊢
                      rw [HR1.out, Rd8.one, if_pos hq]
                      simp only [Dsc.first, firstS, by1_cons, tk_cons, hy, Bool.false_eq_true, if_false, List.length_cons]
                      rw [← hw1, show (b.length : Int) - ((l.length + 1 : Nat) : Int) = 2 by have := HL2.out; simp at this; omega]
                    have HO := hide ho
                    clear ho hy
                    go_wp2_with fail
                    go_meet
                    rw [HO.out]
                    have h6 := hst4.put 6 (.int .i64 ((c2 : Int) % 128)) { d1 with pic := c2 } (by rw [show (c2 : Int) % 128 = c2 by omega]; rfl)
                    exact ⟨l, 3, rfl, rfl, by have := HL2.out; simp at this; omega, by have := HBD.out; subst this; rfl, rfl, rfl, h6⟩
                  · have hy2 : 128 ≤ c2 := by
                      have h : c2 / 128 % 2 = 1 := by simpa [bt] using hy
                      omega
                    have h127 : (127 : Int) < (c2 : Int) := by omega
                    cases l with
                    | nil =>
                      have ho : ((rd1 b).one b.length).s.2 ≠ 0 := by
                        rw [HC2E.out] at hy
                        rw [HR1.out, Rd8.one]; simp [hq, firstS, by1_cons, tk_cons, hy, tk_nil]
                      have hlt : (b.length : Int) < 4 := by have := HL2.out; simp at this; omega
                      clear hy
                      have HSB := hide (HB.out (HE0.out (three_stays _ (two_stays _ _ ho))))
                      go_wp2_with (refine wpl_store_blk rfl 99 (.tmp 2) (.tmp 72) rfl rfl rfl (by kernel_rfl) (by simp [Value.oneCell']) (hst4.h2) rfl ?_; intro wq hq2 hgq)
                      exact rparse_ret rfl rfl rfl rfl rfl hq2 rfl ⟨congrArg Ending.returned HSB.out.symm, below_row hst4.le hgq (Nat.le_refl _) hst4.le.size⟩
                    | cons z l2 =>
                      obtain ⟨c3, hc3e⟩ : ∃ c3 : Nat, c3 = z.toNat := ⟨_, rfl⟩
                      have hc3 : c3 < 256 := by rw [hc3e]; exact z.toNat_lt
                      have HC3E := hide hc3e
                      clear hc3e
                      have hp3 : ∀ h, (b[3]'h).toNat = c3 := by
                        intro h
                        have := HBD.out
                        subst this
                        exact HC3E.out.symm
                      have hge4 : ¬ (b.length : Int) < 4 := by have := HL2.out; simp at this; omega
                      have hgt3 : (3 : Int) < (b.length : Int) := by omega
                      have ho : (rd1 b).one b.length = ⟨{ d1 with wide := true, pic := (c2 % 128) * 256 + c3 }, 2, 0, (l2, 0)⟩ := by
                        rw [HC2E.out] at hy ⊢
                        rw [HC3E.out, HR1.out, Rd8.one, if_pos hq]
                        simp only [Dsc.first, firstS, by1_cons, tk_cons, hy, if_true, List.length_cons]
                        rw [show (b.length : Int) - ((l2.length + 1 + 1 : Nat) : Int) = 2 by have := HL2.out; simp at this; omega]
                      have HO := hide ho
                      have hwc3 : IntKind.i64.wrap (c3 : Int) = c3 := IntWalk.i64_in _ (by omega)
                      have hwm2 : IntKind.i64.wrap (256 * ((c2 : Int) % 128)) = 256 * ((c2 : Int) % 128) := IntWalk.i64_in _ (by omega)
                      have hwm3 : IntKind.i64.wrap (256 * ((c2 : Int) % 128) + c3) = 256 * ((c2 : Int) % 128) + c3 := IntWalk.i64_in _ (by omega)
                      clear ho hy
                      go_upto_region 23 with fail
                      have h6 := (hst4.put 6 (.int .i64 ((c2 : Int) % 128)) { d1 with pic := c2 % 128 } rfl).put 5 (.bool true) { d1 with wide := true, pic := c2 % 128 } rfl
                      generalize (w4.setCell ⟨g, 6, none⟩ (.int .i64 ((c2 : Int) % 128))).setCell ⟨g, 5, none⟩ (.bool true) = w5 at *
                      have h6d := h6.drew
                      have e6 : w5.drew.cell? ⟨g, 6, none⟩ = some (.int .i64 ((c2 : Int) % 128)) := cell_block h6d.h7 6
                      have k6 : w5.drew.frozen? ⟨g, 6, none⟩ = false := free_block h6d.h7 6
                      clear y5 y6 g5 g6
                      go_still_tail 9, (by kernel_rfl)
                      change wpList _ _ _ _ _ w5.drew
                      go_wp2_with fail
                      go_meet
                      rw [HO.out]
                      have h7 := h6d.put 6 (.int .i64 (256 * ((c2 : Int) % 128) + c3)) { d1 with wide := true, pic := (c2 % 128) * 256 + c3 } (by rw [show 256 * ((c2 : Int) % 128) + c3 = (((c2 % 128) * 256 + c3 : Nat) : Int) by omega]; rfl)
                      exact ⟨l2, 4, rfl, rfl, by have := HL2.out; simp at this; omega, by have := HBD.out; subst this; rfl, rfl, rfl, h7⟩
            case rest =>
              obtain ⟨l, k, ho1, htp, hk, hdk, rfl, rfl, hs5⟩ := hcut
              generalize wc = wb at *
              clear hst4 HR1 HDR HL2 hge hw1 hc1 HG
              generalize (rd1 b).one b.length = r2 at *
              obtain ⟨d2, pp2, tp2, s2⟩ := r2
              simp only at ho1 htp hs5
              subst ho1 htp
              have hy7 : wb.cell? ⟨g, 7, none⟩ = some (.bool d2.hasTl0) := cell_block hs5.h7 7
              have hwk0 : IntKind.i64.wrap ((k : Int) + 1) = (k : Int) + 1 := IntWalk.i64_in _ (by omega)
              go_upto_if 99 with fail
              clear hy7
              go_cut [8, 10] (fun s8 s10 wx => ∃ (l' : List UInt8) (k' : Nat), (Rd8.two b.length ⟨d2, pp2, 0, (l, 0)⟩).s = (l', 0) ∧ (Rd8.two b.length ⟨d2, pp2, 0, (l, 0)⟩).pp = pp2 ∧ k' + l'.length = b.length ∧ b.drop k' = l' ∧ s8 = .int .i64 (k' : Nat) ∧ s10 = .int .i64 (Rd8.two b.length ⟨d2, pp2, 0, (l, 0)⟩).tp ∧ RSt w wx w.heap.size g (Rd8.two b.length ⟨d2, pp2, 0, (l, 0)⟩).d)
              case first =>
                cases hq : d2.hasTl0
                · have ho : Rd8.two b.length ⟨d2, pp2, 0, (l, 0)⟩ = ⟨d2, pp2, 0, (l, 0)⟩ := by rw [Rd8.two]; simp [hq]
                  have HO := hide ho
                  have HK := hide hk
                  clear ho hk
                  go_wp2_with fail
                  go_meet
                  rw [HO.out]
                  exact ⟨l, k, rfl, rfl, HK.out, hdk, rfl, rfl, hs5⟩
                · cases l with
                  | nil =>
                    have ho : (Rd8.two b.length ⟨d2, pp2, 0, ([], 0)⟩).s.2 ≠ 0 := by rw [Rd8.two]; simp [hq, tk_nil]
                    have hkn : (b.length : Int) < (k : Int) + 1 := by simp at hk; omega
                    have HK := hide hk
                    clear hk
                    have HSB := hide (HB.out (HE0.out (three_stays _ ho)))
                    go_wp2_with (refine wpl_store_blk rfl 99 (.tmp 2) (.tmp 105) rfl rfl rfl (by kernel_rfl) (by simp [Value.oneCell']) (hs5.h2) rfl ?_; intro wq hq2 hgq)
                    exact rparse_ret rfl rfl rfl rfl rfl hq2 rfl ⟨congrArg Ending.returned HSB.out.symm, below_row hs5.le hgq (Nat.le_refl _) hs5.le.size⟩
                  | cons y l =>
                    obtain ⟨c4, c4e⟩ : ∃ c4 : Nat, c4 = y.toNat := ⟨_, rfl⟩
                    have hc4 : c4 < 256 := by rw [c4e]; exact y.toNat_lt
                    have hpk : ∀ h, (b[k]'h).toNat = c4 := by
                      intro h
                      have e : b[k]? = some y := by rw [← List.head?_drop, hdk]; rfl
                      rw [List.getElem?_eq_getElem h] at e
                      rw [c4e, Option.some.inj e]
                    have Hc4 := hide c4e
                    have hdk2 : b.drop (k + 1) = l := by rw [← List.drop_drop, hdk]; rfl
                    have hkl : k + 1 + l.length = b.length := by rw [← hk, List.length_cons]; omega
                    have HDK2 := hide hdk2
                    have HKL := hide hkl
                    have hkn : ¬ (b.length : Int) < (k : Int) + 1 := by omega
                    have hki : (k : Int) < (b.length : Int) := by omega
                    have hwk : IntKind.i64.wrap ((k : Int) + 1) = (k : Int) + 1 := IntWalk.i64_in _ (by omega)
                    have hwc : IntKind.i64.wrap (c4 : Int) = c4 := IntWalk.i64_in _ (by omega)
                    have HHK := hide hk
                    clear c4e hdk2 hkl hdk hk
                    have ho : Rd8.two b.length ⟨d2, pp2, 0, (y :: l, 0)⟩ = ⟨d2.second c4, pp2, (k : Nat), (l, 0)⟩ := by
                      rw [Rd8.two, if_pos hq, Hc4.out]
                      simp only [by1_cons, tk_cons, List.length_cons]
                      rw [show (b.length : Int) - ((l.length + 1 : Nat) : Int) = k by have := HKL.out; omega]
                    have HO := hide ho
                    have y8 := cell_block hs5.h7 8
                    have g8 : wb.frozen? ⟨g, 8, none⟩ = false := free_block hs5.h7 8
                    simp only [Dsc.rcs, List.getElem?_toArray, List.getElem?_cons_zero, List.getElem?_cons_succ] at y8
                    clear ho
                    go_wp2_with fail
                    go_meet
                    rw [HO.out]
                    exact ⟨l, k + 1, rfl, rfl, HKL.out, HDK2.out, rfl, rfl, hs5.put 8 _ _ rfl⟩
              case rest =>
                obtain ⟨l', k', ho1, hpp, hk', hdk', rfl, rfl, hs6⟩ := hcut
                generalize wc = we at *
                clear hs5 hk hdk hwk0
                generalize Rd8.two b.length ⟨d2, pp2, 0, (l, 0)⟩ = r3 at *
                obtain ⟨d3, pp3, tp3, s3⟩ := r3
                simp only at ho1 hpp hs6
                subst ho1 hpp
                generalize l' = l at *
                generalize k' = k at *
                have hk := hk'
                have hdk := hdk'
                clear hk' hdk'
                have hy9 : we.cell? ⟨g, 9, none⟩ = some (.bool d3.hasTid) := cell_block hs6.h7 9
                have hy12 : we.cell? ⟨g, 12, none⟩ = some (.bool d3.hasKey) := cell_block hs6.h7 12
                go_upto_region 31 with fail
                go_cut [119] (fun s wx => s = .bool (d3.hasTid || d3.hasKey) ∧ wx = we)
                case first =>
                  cases hti : d3.hasTid
                  · rw [hti] at hy9
                    have HTI := hide hti
                    clear hti
                    go_wp2_with fail
                    go_meet
                    exact ⟨by rw [HTI.out]; rfl, rfl⟩
                  · rw [hti] at hy9
                    have HTI := hide hti
                    clear hti
                    go_wp2_with fail
                    go_meet
                    exact ⟨by rw [HTI.out]; rfl, rfl⟩
                case rest =>
                  obtain ⟨rfl, hwc⟩ := hcut
                  rw [hwc]
                  clear hwc
                  go_upto_if 119 with fail
                  go_cut [8] (fun s8 wx => ∃ (l' : List UInt8) (k' : Nat), (Rd8.three ⟨d3, pp3, tp3, (l, 0)⟩).s = (l', 0) ∧ (Rd8.three ⟨d3, pp3, tp3, (l, 0)⟩).pp = pp3 ∧ (Rd8.three ⟨d3, pp3, tp3, (l, 0)⟩).tp = tp3 ∧ k' + l'.length = b.length ∧ s8 = .int .i64 (k' : Nat) ∧ RSt w wx w.heap.size g (Rd8.three ⟨d3, pp3, tp3, (l, 0)⟩).d)
                  case first =>
                    cases hq : (d3.hasTid || d3.hasKey)
                    · have ho : Rd8.three ⟨d3, pp3, tp3, (l, 0)⟩ = ⟨d3, pp3, tp3, (l, 0)⟩ := by simp only [Rd8.three, hq]; simp
                      have HO := hide ho
                      have HK := hide hk
                      clear ho hk hq
                      go_wp2_with fail
                      go_meet
                      rw [HO.out]
                      exact ⟨l, k, rfl, rfl, rfl, HK.out, rfl, hs6⟩
                    · cases l with
                      | nil =>
                        have ho : (Rd8.three ⟨d3, pp3, tp3, ([], 0)⟩).s.2 ≠ 0 := by simp only [Rd8.three, hq, if_true, tk_nil]; decide
                        have hkn : (b.length : Int) < (k : Int) + 1 := by simp at hk; omega
                        have hwk : IntKind.i64.wrap ((k : Int) + 1) = (k : Int) + 1 := IntWalk.i64_in _ (by simp at hk; omega)
                        have HK := hide hk
                        clear hk hq
                        have HSB := hide (HB.out (HE0.out ho))
                        go_wp2_with (refine wpl_store_blk rfl 99 (.tmp 2) (.tmp 125) rfl rfl rfl (by kernel_rfl) (by simp [Value.oneCell']) (hs6.h2) rfl ?_; intro wq hq2 hgq)
                        exact rparse_ret rfl rfl rfl rfl rfl hq2 rfl ⟨congrArg Ending.returned HSB.out.symm, below_row hs6.le hgq (Nat.le_refl _) hs6.le.size⟩
                      | cons y l =>
                        obtain ⟨c5, c5e⟩ : ∃ c5 : Nat, c5 = y.toNat := ⟨_, rfl⟩
                        have hc5 : c5 < 256 := by rw [c5e]; exact y.toNat_lt
                        have hpk : ∀ h, (b[k]'h).toNat = c5 := by
                          intro h
                          have e : b[k]? = some y := by rw [← List.head?_drop, hdk]; rfl
                          rw [List.getElem?_eq_getElem h] at e
                          rw [c5e, Option.some.inj e]
                        have Hc5 := hide c5e
                        have hdk2 : b.drop (k + 1) = l := by rw [← List.drop_drop, hdk]; rfl
                        have hkl : k + 1 + l.length = b.length := by rw [← hk, List.length_cons]; omega
                        have HDK2 := hide hdk2
                        have HKL := hide hkl
                        have hkn : ¬ (b.length : Int) < (k : Int) + 1 := by omega
                        have hki : (k : Int) < (b.length : Int) := by omega
                        have hwk : IntKind.i64.wrap ((k : Int) + 1) = (k : Int) + 1 := IntWalk.i64_in _ (by omega)
                        have hwc : IntKind.i64.wrap (c5 : Int) = c5 := IntWalk.i64_in _ (by omega)
                        have HHK := hide hk
                        clear c5e hdk2 hkl hdk hk
                        have ho : Rd8.three ⟨d3, pp3, tp3, (y :: l, 0)⟩ = ⟨d3.third c5, pp3, tp3, (l, 0)⟩ := by
                          simp only [Rd8.three, hq, if_true, by1_cons, tk_cons, Hc5.out]
                        have HO := hide ho
                        have HQ := hide hq
                        have B32 : ∀ W, Calls Try.prog 59 #[.int .u8 (c5 : Nat), .int .i64 32] W fun e w' => e = .returned (.bool (bt c5 32)) ∧ w' = W := fun W => rbit_any c5 32 hc5 (by simp) W
                        have hd64 : (c5 : Int).tdiv 64 = ((c5 / 64 : Nat) : Int) := rfl
                        have hm32 : (c5 : Int).tmod 32 = ((c5 % 32 : Nat) : Int) := rfl
                        have hwd : IntKind.i64.wrap ((c5 : Int) / 64) = (c5 : Int) / 64 := IntWalk.i64_in _ (by omega)
                        have hwm : IntKind.i64.wrap ((c5 : Int) % 32) = (c5 : Int) % 32 := IntWalk.i64_in _ (by omega)
                        have hk8 : IntKind.u8.wrap ((c5 : Int) / 64) = (c5 : Int) / 64 := by simp [IntKind.wrap, IntKind.signed, IntKind.bits]; omega
                        have y10 := cell_block hs6.h7 10
                        have y11 := cell_block hs6.h7 11
                        have y13 := cell_block hs6.h7 13
                        have g10 : we.frozen? ⟨g, 10, none⟩ = false := free_block hs6.h7 10
                        have g11 : we.frozen? ⟨g, 11, none⟩ = false := free_block hs6.h7 11
                        have g13 : we.frozen? ⟨g, 13, none⟩ = false := free_block hs6.h7 13
                        simp only [Dsc.rcs, List.getElem?_toArray, List.getElem?_cons_zero, List.getElem?_cons_succ] at y10 y11 y13
                        clear ho hq
                        cases hti : d3.hasTid
                        · cases hke : d3.hasKey
                          · have := HQ.out; rw [hti, hke] at this; cases this
                          · have HT3 := hide (show d3.third c5 = { d3 with key := c5 % 32 } by rw [third_eq, hti, hke]; rfl)
                            rw [hti] at hy9
                            rw [hke] at hy12
                            clear hti hke
                            go_wp2_with fail
                            go_meet
                            rw [HO.out, HT3.out]
                            exact ⟨l, k + 1, rfl, rfl, rfl, HKL.out, rfl, hs6.put 13 _ _ rfl⟩
                        · cases hke : d3.hasKey
                          · have HT3 := hide (show d3.third c5 = { d3 with tid := c5 / 64, sync := bt c5 32 } by rw [third_eq, hti, hke]; rfl)
                            rw [hti] at hy9
                            rw [hke] at hy12
                            clear hti hke
                            go_wp2_with fail
                            refine (B32 _).mono ?_
                            rintro r w' ⟨rfl, rfl⟩
                            go_wp2_with fail
                            go_meet
                            rw [HO.out, HT3.out]
                            exact ⟨l, k + 1, rfl, rfl, rfl, HKL.out, rfl, (hs6.put 10 (.int .i64 ((c5 : Int) / 64)) { d3 with tid := c5 / 64 } rfl).put 11 _ _ rfl⟩
                          · have HT3 := hide (show d3.third c5 = { d3 with tid := c5 / 64, sync := bt c5 32, key := c5 % 32 } by rw [third_eq, hti, hke]; rfl)
                            rw [hti] at hy9
                            rw [hke] at hy12
                            clear hti hke
                            go_wp2_with fail
                            refine (B32 _).mono ?_
                            rintro r w' ⟨rfl, rfl⟩
                            go_wp2_with fail
                            go_meet
                            rw [HO.out, HT3.out]
                            exact ⟨l, k + 1, rfl, rfl, rfl, HKL.out, rfl, ((hs6.put 10 (.int .i64 ((c5 : Int) / 64)) { d3 with tid := c5 / 64 } rfl).put 11 (.bool (bt c5 32)) { d3 with tid := c5 / 64, sync := bt c5 32 } rfl).put 13 _ _ rfl⟩
                  case rest =>
                    obtain ⟨l', k', ho1, hpp, htp, hk', rfl, hs7⟩ := hcut
                    generalize wc = wf at *
                    clear hs6 hk hdk hy9 hy12
                    have hres := HRG.out _ l' HMO.out ho1
                    generalize Rd8.three ⟨d3, pp3, tp3, (l, 0)⟩ = r4 at *
                    obtain ⟨d4, pp4, tp4, s4⟩ := r4
                    simp only at ho1 hpp htp hs7 hres
                    subst ho1 hpp htp
                    rw [show (b.length : Int) - l'.length = (k' : Nat) by omega] at hres
                    have HRS := hide hres
                    clear hres hk'
                    have y0 := cell_block hs7.h7 0
                    have y1 := cell_block hs7.h7 1
                    have y2 := cell_block hs7.h7 2
                    have y3 := cell_block hs7.h7 3
                    have y4 := cell_block hs7.h7 4
                    have y5 := cell_block hs7.h7 5
                    have y6 := cell_block hs7.h7 6
                    have y7 := cell_block hs7.h7 7
                    have y8 := cell_block hs7.h7 8
                    have y9 := cell_block hs7.h7 9
                    have y10 := cell_block hs7.h7 10
                    have y11 := cell_block hs7.h7 11
                    have y12 := cell_block hs7.h7 12
                    have y13 := cell_block hs7.h7 13
                    simp only [Dsc.rcs, List.getElem?_toArray, List.getElem?_cons_zero, List.getElem?_cons_succ] at y0 y1 y2 y3 y4 y5 y6 y7 y8 y9 y10 y11 y12 y13
                    go_wp2_with (refine wpl_store_blk rfl 99 (.tmp 2) (.tmp 149) rfl rfl rfl (by kernel_rfl) (by simp [Value.oneCell']) (hs7.h2) rfl ?_; intro wq hq2 hgq)
                    exact rparse_ret rfl rfl rfl rfl rfl hq2 rfl ⟨congrArg Ending.returned HRS.out.symm, below_row hs7.le hgq (Nat.le_refl _) hs7.le.size⟩
end Go.Proofs.Ytekioihjfggmdaa

/- louverref07.Write. -/
namespace Go.Proofs.Ytekioihjfggmdaa
open Go.RowKit
set_option linter.unusedVariables false

theorem set_one (l : List UInt8) (k : Nat) (u : UInt8) (h : k < l.length) : l.take k ++ u :: l.drop (k + 1) = l.set k u := by
  rw [List.set_eq_take_append_cons_drop, if_pos h]
theorem set_two (l : List UInt8) (k : Nat) (u v : UInt8) (h : k + 1 < l.length) : l.take k ++ u :: v :: l.drop (k + 2) = (l.set k u).set (k + 1) v := by
  rw [← set_one (l.set k u) (k + 1) v (by simpa using h)]
  have e1 : (l.set k u).take (k + 1) = l.take k ++ [u] := by
    rw [List.take_succ_eq_append_getElem (by simp; omega), List.take_set_of_le (Nat.le_refl k)]
    simp
  have e2 : (l.set k u).drop (k + 1 + 1) = l.drop (k + 2) := by
    rw [List.drop_set_of_lt (by omega)]
  rw [e1, e2]
  simp
theorem conv_blk {w : World} {g : Nat} {l : List UInt8} (h : w.heap[g]? = some (.cells (u8s l).toArray 5 (0, 0))) : (convert 44 9 (.slice (some ⟨g, 0, none⟩) l.length l.length)).run Try.prog w = .ok (.string (str l)) w := by
  have hr : RSl 1 RU8 w l (.slice (some ⟨g, 0, none⟩) l.length l.length) := by
    refine ⟨_, _, rfl, Nat.le_refl _, fun hne => ⟨g, 0, rfl, fun i hi => ⟨[.int .u8 l[i].toNat], rfl, fun j hj => ?_, rfl⟩⟩⟩
    obtain rfl : j = 0 := by omega
    rw [cell_block h]
    simp [u8s, hi]
  exact conv_le hr w (Le.refl w)

set_option maxRecDepth 100000 in
set_option maxHeartbeats 8000000 in
theorem rwrite_any (l : List UInt8) (pic tl0 : Nat) (w : World) (hn : l.length ≤ 1000) (hpic : pic < 65536) (ht0 : tl0 < 256) :
    Calls Try.prog 66 #[.string (str l), .int .i64 pic, .int .i64 tl0] w (Gives w (.tuple #[.string (str (vpWr l pic tl0)), .int .i64 (vpE l)])) := by
  have hp := rparse_any l w hn
  have hpl := vp_places l
  have hee := vpE_two l
  have hwr : vpE l = 0 → vpWr l pic tl0 = wrT (vpD l) (vpT l).toNat tl0 (wrP (vpD l) (vpP l).toNat pic l) := by
    intro h
    rw [vpWr, vpD, vpT, vpP, if_pos h, if_pos h, if_pos h, if_pos h]
  have hpl2 : vpE l = 0 → ∃ pn tn : Nat, vpP l = pn ∧ vpT l = tn ∧ ((vpD l).hasPic = true → pn < l.length) ∧ ((vpD l).wide = true → pn + 1 < l.length) ∧ ((vpD l).hasTl0 = true → tn < l.length) := by
    intro h
    obtain ⟨_, pn, tn, h1, h2, h3⟩ := hpl h
    rw [vpD, vpP, vpT, if_pos h, if_pos h, if_pos h]
    exact ⟨pn, tn, h1, h2, h3⟩
  have hbad : vpE l = 10 → vpWr l pic tl0 = [] := fun h => by rw [vpWr, if_neg (by omega)]
  rw [rpV] at hp
  obtain ⟨R, hR⟩ : ∃ R, R = vpWr l pic tl0 := ⟨_, rfl⟩
  rw [← hR] at hwr hbad ⊢
  clear hpl hR
  generalize vpE l = E at *
  generalize vpP l = pp at *
  generalize vpT l = tp at *
  generalize vpN l = nn at *
  generalize vpD l = d at *
  obtain ⟨more, lone, start, part, hasPic, wide, pc, hasTl0, t0, hasTid, tid, sync, hasKey, key⟩ := d
  simp only [Dsc.ref] at hp hpl2
  have HP := hide hp
  have HWR := hide hwr
  have HPL := hide hpl2
  have HBD := hide hbad
  clear hp hwr hpl2 hbad
  rcases hee with rfl | rfl
  · obtain ⟨pn, tn, rfl, rfl, hb1, hb2, hb3⟩ := HPL.out rfl
    have hw := HWR.out rfl
    rw [Int.toNat_natCast, Int.toNat_natCast] at hw
    have HW := hide hw
    have hpn : hasPic = true ∨ wide = true → pn ≤ 1001 := by
      intro h
      rcases h with h | h
      · have := hb1 h; omega
      · have := hb2 h; omega
    have HPN0 := hide hpn
    clear hpn
    have HB1 := hide hb1
    have HB2 := hide hb2
    have HB3 := hide hb3
    clear hw hb1 hb2 hb3 HPL HWR HBD
    go_enter Try.func66, Try.ntmps66
    go_wp2_with fail
    refine HP.out.mono ?_
    rintro e w1 ⟨rfl, hb⟩
    have HL := hide ((Le.mk hb).alloc (.cells #[.bool more, .bool lone, .bool start, .int .i64 part, .bool hasPic, .bool wide, .int .i64 pc, .bool hasTl0, .int .i64 t0, .bool hasTid, .int .i64 tid, .bool sync, .bool hasKey, .int .i64 key] 99))
    have hz := heap_alloc_new w1 (.cells #[.bool more, .bool lone, .bool start, .int .i64 part, .bool hasPic, .bool wide, .int .i64 pc, .bool hasTl0, .int .i64 t0, .bool hasTid, .int .i64 tid, .bool sync, .bool hasKey, .int .i64 key] 99)
    clear hb HP
    go_upto_region 4 with fail
    generalize w1.alloc _ = w2 at *
    generalize w1.heap.size = p8 at *
    have HZ := hide hz
    have y5 := box_cell hz 5 (.bool wide) rfl w2 (Le.refl w2)
    have y4 := box_cell hz 4 (.bool hasPic) rfl w2 (Le.refl w2)
    clear hz
    go_upto_if 25 with fail
    go_cut [0] (fun v wx => v = .string (str (wrP ⟨more, lone, start, part, hasPic, wide, pc, hasTl0, t0, hasTid, tid, sync, hasKey, key⟩ pn pic l)) ∧ Le w2 wx)
    case first =>
      obtain ⟨U1, hU1⟩ : ∃ U1 : UInt8, U1 = UInt8.ofNat (128 + pic / 256 % 128) := ⟨_, rfl⟩
      obtain ⟨U2, hU2⟩ : ∃ U2 : UInt8, U2 = UInt8.ofNat (pic % 256) := ⟨_, rfl⟩
      obtain ⟨U3, hU3⟩ : ∃ U3 : UInt8, U3 = UInt8.ofNat (pic % 128) := ⟨_, rfl⟩
      have v1 : (U1.toNat : Int) = ((128 + pic / 256 % 128 : Nat) : Int) := by rw [hU1, u8_nat _ (by omega)]
      have v2 : (U2.toNat : Int) = ((pic % 256 : Nat) : Int) := by rw [hU2, u8_nat _ (by omega)]
      have v3 : (U3.toNat : Int) = ((pic % 128 : Nat) : Int) := by rw [hU3, u8_nat _ (by omega)]
      have HU := hide (And.intro hU1 (And.intro hU2 hU3))
      clear hU1 hU2 hU3
      obtain ⟨Q1, hQ1⟩ : ∃ Q1, Q1 = pic / 256 := ⟨_, rfl⟩
      obtain ⟨Q2, hQ2⟩ : ∃ Q2, Q2 = Q1 % 128 := ⟨_, rfl⟩
      obtain ⟨Q3, hQ3⟩ : ∃ Q3, Q3 = pic % 256 := ⟨_, rfl⟩
      obtain ⟨Q4, hQ4⟩ : ∃ Q4, Q4 = pic % 128 := ⟨_, rfl⟩
      have e1 : (pic : Int) / 256 = (Q1 : Nat) := by omega
      have e1' : (pic : Int).tdiv 256 = (Q1 : Nat) := by rw [hQ1]; rfl
      have e2 : IntKind.i64.wrap (Q1 : Int) = Q1 := IntWalk.i64_in _ (by omega)
      have e3 : (Q1 : Int).tmod 128 = (Q2 : Nat) := by rw [hQ2]; rfl
      have e3' : (Q1 : Int) % 128 = (Q2 : Nat) := by omega
      have e4 : IntKind.i64.wrap (Q2 : Int) = Q2 := IntWalk.i64_in _ (by omega)
      have e5 : IntKind.i64.wrap (128 + (Q2 : Int)) = 128 + (Q2 : Int) := IntWalk.i64_in _ (by omega)
      have e6 : IntKind.u8.wrap (128 + (Q2 : Int)) = (U1.toNat : Int) := by rw [v1]; simp [IntKind.wrap, IntKind.signed, IntKind.bits]; omega
      have e7 : (pic : Int) % 256 = (Q3 : Nat) := by omega
      have e7' : (pic : Int).tmod 256 = (Q3 : Nat) := by rw [hQ3]; rfl
      have e8 : IntKind.i64.wrap (Q3 : Int) = Q3 := IntWalk.i64_in _ (by omega)
      have e9 : IntKind.u8.wrap (Q3 : Int) = (U2.toNat : Int) := by rw [v2]; simp [IntKind.wrap, IntKind.signed, IntKind.bits]; omega
      have e10 : (pic : Int) % 128 = (Q4 : Nat) := by omega
      have e10' : (pic : Int).tmod 128 = (Q4 : Nat) := by rw [hQ4]; rfl
      have e11 : IntKind.i64.wrap (Q4 : Int) = Q4 := IntWalk.i64_in _ (by omega)
      have e12 : IntKind.u8.wrap (Q4 : Int) = (U3.toNat : Int) := by rw [v3]; simp [IntKind.wrap, IntKind.signed, IntKind.bits]; omega
      clear hQ1 hQ2 hQ3 hQ4 v1 v2 v3
      cases wide
      · cases hasPic
        · go_wp2_with fail
          go_meet
          exact ⟨rfl, Le.refl _⟩
        · have hb1 := HB1.out rfl
          have hp0 : pn ≤ l.length := by omega
          have hp1I : (pn : Int) + 1 ≤ (l.length : Int) := by omega
          have htn : ((pn : Int) + 1).toNat = pn + 1 := by omega
          have ew1 : IntKind.i64.wrap ((pn : Int) + 1) = (pn : Int) + 1 := IntWalk.i64_in _ (by omega)
          have hs3 : ¬ 9223372036854775807 < l.length := by omega
          have hs1 : ¬ 9223372036854775807 < pn + 1 := by omega
          have hs2 : ¬ 9223372036854775807 < pn + 1 + (l.length - (pn + 1)) := by omega
          go_upto_region 7 with fail
          refine' wp_region_tail 14 14 47 Le (Is _ :: Is _ :: Is _ :: Is _ :: Is _ :: Is _ :: (fun v w => ∃ g : Nat, v = .slice (some ⟨g, 0, none⟩) 1 1 ∧ w.heap[g]? = some (.cells #[.int .u8 (U3).toNat] 5 (0, 0))) :: Is _ :: Is _ :: Is _ :: Is _ :: Is _ :: Is _ :: Is _ :: []) ([] :: [] :: [0, 1] :: [] :: [3] :: [4] :: [5] :: [6] :: [2, 7] :: [] :: [] :: [10] :: [9, 11] :: [8, 12] :: []) (by kernel_rfl) (by kernel_rfl) (by rfl) (by kernel_rfl) (by kernel_rfl) Le.refl (fun _ _ _ h h' => h.trans h') ⟨St.is, St.is, St.is, St.is, St.is, St.is, fun v w w' h ⟨g, e1, e2⟩ => ⟨g, e1, h.heap e2⟩, St.is, St.is, St.is, St.is, St.is, St.is, St.is, trivial⟩ ?m7
          case m7 =>
            simp (maxSteps := 100000000) only [AllV, Obl2, Leans, factAt, allFacts, actOf, putAll, putRow, List.set_cons_succ, List.set_cons_zero, List.getElem?_cons_zero, List.getElem?_cons_succ, List.take_succ_cons, List.take_zero, List.drop_succ_cons, List.drop_zero, List.cons_append, List.nil_append, List.length_cons, List.length_nil, Nat.reduceAdd]
            intro x0 x1 x2 x3 x4 x5 x6 x7 x8 x9 x10 x11 x12 x13
            refine ⟨⟨?_, ?_, ?_, ?_, ?_, ?_, ?_, ?_, ?_, ?_, ?_, ?_, ?_, ?_, trivial⟩, ?_⟩
            -- 0: 47 := Op.move t0
            · intro w hw  K hK; go_simp; exact hK _ _ (Le.refl _) (Is.mk _ _)
            -- 1: 48 := Op.move t10
            · intro w hw  K hK; go_simp; exact hK _ _ (Le.refl _) (Is.mk _ _)
            -- 2: 49 := Op.slice 9 t47 none (some t48) none
            · intro w hw h0 h1 K hK; cases h0; cases h1; go_simp; exact hK _ _ (Le.refl _) (Is.mk _ _)
            -- 3: 50 := Op.move t1
            · intro w hw  K hK; go_simp; exact hK _ _ (Le.refl _) (Is.mk _ _)
            -- 4: 51 := Op.binOp BinOp.rem 3 t50 (const (128:i64)) 3
            · intro w hw h3 K hK; cases h3; go_simp; exact hK _ _ (Le.refl _) (Is.mk _ _)
            -- 5: 52 := Op.convert 3 5 t51
            · intro w hw h4 K hK; cases h4; go_simp; exact hK _ _ (Le.refl _) (Is.mk _ _)
            -- 6: 53 := Op.buildSlice 26 1 #[(0, t52)]
            · intro w hw h5 K hK; cases h5; go_simp; exact hK _ _ ((Le.refl _).alloc _) ⟨_, rfl, heap_alloc_new _ _⟩
            -- 7: 54 := Op.convert 26 9 t53
            · intro w hw h6 K hK; obtain ⟨g, rfl, hg⟩ := h6; have hcv := conv_blk (l := [U3]) hg; simp only [List.length_cons, List.length_nil, Nat.reduceAdd] at hcv; go_simp; exact hK _ _ (Le.refl _) (Is.mk _ _)
            -- 8: 55 := Op.binOp BinOp.add 9 t49 t54 9
            · intro w hw h2 h7 K hK; cases h2; cases h7; go_simp; exact hK _ _ (Le.refl _) (Is.mk _ _)
            -- 9: 56 := Op.move t0
            · intro w hw  K hK; go_simp; exact hK _ _ (Le.refl _) (Is.mk _ _)
            -- 10: 57 := Op.move t10
            · intro w hw  K hK; go_simp; exact hK _ _ (Le.refl _) (Is.mk _ _)
            -- 11: 58 := Op.binOp BinOp.add 3 t57 (const (1:i64)) 3
            · intro w hw h10 K hK; cases h10; go_simp; exact hK _ _ (Le.refl _) (Is.mk _ _)
            -- 12: 59 := Op.slice 9 t56 (some t58) none none
            · intro w hw h9 h11 K hK; cases h9; cases h11; go_simp; exact hK _ _ (Le.refl _) (Is.mk _ _)
            -- 13: 60 := Op.binOp BinOp.add 9 t55 t59 9
            · intro w hw h8 h12 K hK; cases h8; cases h12; go_simp; exact hK _ _ (Le.refl _) (Is.mk _ _)
            · intro wz hz h0 h1 h2 h3 h4 h5 h6 h7 h8 h9 h10 h11 h12 h13; cases h0; cases h1; cases h2; cases h3; cases h4; cases h5; obtain ⟨g, rfl, hg⟩ := h6; cases h7; cases h8; cases h9; cases h10; cases h11; cases h12; cases h13; skip
              have HLZ := hide ((Le.refl w2).drew.trans hz)
              clear e1 e1' e2 e3 e3' e4 e5 e6 e7 e7' e8 e9 e10 e10' e11 e12 ew1 hs1 hs2 hs3 htn
              go_wp2_with fail
              go_meet
              refine ⟨?_, HLZ.out⟩
              rw [set_one l pn U3 hb1, HU.out.2.2]
              rfl
      · have hb2 := HB2.out rfl
        have hp0 : pn ≤ l.length := by omega
        have hp2 : pn + 2 ≤ l.length := by omega
        have hp2I : (pn : Int) + 2 ≤ (l.length : Int) := by omega
        have htn : ((pn : Int) + 2).toNat = pn + 2 := by omega
        have ew2 : IntKind.i64.wrap ((pn : Int) + 2) = (pn : Int) + 2 := IntWalk.i64_in _ (by omega)
        have hs3 : ¬ 9223372036854775807 < l.length := by omega
        have hs1 : ¬ 9223372036854775807 < pn + 2 := by omega
        have hs2 : ¬ 9223372036854775807 < pn + 2 + (l.length - (pn + 2)) := by omega
        go_upto_region 5 with fail
        refine' wp_region_tail 19 19 26 Le (Is _ :: Is _ :: Is _ :: Is _ :: Is _ :: Is _ :: Is _ :: Is _ :: Is _ :: Is _ :: Is _ :: (fun v w => ∃ g : Nat, v = .slice (some ⟨g, 0, none⟩) 2 2 ∧ w.heap[g]? = some (.cells #[.int .u8 (U1).toNat, .int .u8 (U2).toNat] 5 (0, 0))) :: Is _ :: Is _ :: Is _ :: Is _ :: Is _ :: Is _ :: Is _ :: []) ([] :: [] :: [0, 1] :: [] :: [3] :: [4] :: [5] :: [6] :: [] :: [8] :: [9] :: [7, 10] :: [11] :: [2, 12] :: [] :: [] :: [15] :: [14, 16] :: [13, 17] :: []) (by kernel_rfl) (by kernel_rfl) (by rfl) (by kernel_rfl) (by kernel_rfl) Le.refl (fun _ _ _ h h' => h.trans h') ⟨St.is, St.is, St.is, St.is, St.is, St.is, St.is, St.is, St.is, St.is, St.is, fun v w w' h ⟨g, e1, e2⟩ => ⟨g, e1, h.heap e2⟩, St.is, St.is, St.is, St.is, St.is, St.is, St.is, trivial⟩ ?m5
        case m5 =>
          simp (maxSteps := 100000000) only [AllV, Obl2, Leans, factAt, allFacts, actOf, putAll, putRow, List.set_cons_succ, List.set_cons_zero, List.getElem?_cons_zero, List.getElem?_cons_succ, List.take_succ_cons, List.take_zero, List.drop_succ_cons, List.drop_zero, List.cons_append, List.nil_append, List.length_cons, List.length_nil, Nat.reduceAdd]
          intro x0 x1 x2 x3 x4 x5 x6 x7 x8 x9 x10 x11 x12 x13 x14 x15 x16 x17 x18
          refine ⟨⟨?_, ?_, ?_, ?_, ?_, ?_, ?_, ?_, ?_, ?_, ?_, ?_, ?_, ?_, ?_, ?_, ?_, ?_, ?_, trivial⟩, ?_⟩
          -- 0: 26 := Op.move t0
          · intro w hw  K hK; go_simp; exact hK _ _ (Le.refl _) (Is.mk _ _)
          -- 1: 27 := Op.move t10
          · intro w hw  K hK; go_simp; exact hK _ _ (Le.refl _) (Is.mk _ _)
          -- 2: 28 := Op.slice 9 t26 none (some t27) none
          · intro w hw h0 h1 K hK; cases h0; cases h1; go_simp; exact hK _ _ (Le.refl _) (Is.mk _ _)
          -- 3: 29 := Op.move t1
          · intro w hw  K hK; go_simp; exact hK _ _ (Le.refl _) (Is.mk _ _)
          -- 4: 30 := Op.binOp BinOp.quo 3 t29 (const (256:i64)) 3
          · intro w hw h3 K hK; cases h3; go_simp; exact hK _ _ (Le.refl _) (Is.mk _ _)
          -- 5: 31 := Op.binOp BinOp.rem 3 t30 (const (128:i64)) 3
          · intro w hw h4 K hK; cases h4; go_simp; exact hK _ _ (Le.refl _) (Is.mk _ _)
          -- 6: 32 := Op.binOp BinOp.add 3 (const (128:i64)) t31 3
          · intro w hw h5 K hK; cases h5; go_simp; exact hK _ _ (Le.refl _) (Is.mk _ _)
          -- 7: 33 := Op.convert 3 5 t32
          · intro w hw h6 K hK; cases h6; go_simp; exact hK _ _ (Le.refl _) (Is.mk _ _)
          -- 8: 34 := Op.move t1
          · intro w hw  K hK; go_simp; exact hK _ _ (Le.refl _) (Is.mk _ _)
          -- 9: 35 := Op.binOp BinOp.rem 3 t34 (const (256:i64)) 3
          · intro w hw h8 K hK; cases h8; go_simp; exact hK _ _ (Le.refl _) (Is.mk _ _)
          -- 10: 36 := Op.convert 3 5 t35
          · intro w hw h9 K hK; cases h9; go_simp; exact hK _ _ (Le.refl _) (Is.mk _ _)
          -- 11: 37 := Op.buildSlice 26 2 #[(0, t33), (1, t36)]
          · intro w hw h7 h10 K hK; cases h7; cases h10; go_simp; exact hK _ _ ((Le.refl _).alloc _) ⟨_, rfl, heap_alloc_new _ _⟩
          -- 12: 38 := Op.convert 26 9 t37
          · intro w hw h11 K hK; obtain ⟨g, rfl, hg⟩ := h11; have hcv := conv_blk (l := [U1, U2]) hg; simp only [List.length_cons, List.length_nil, Nat.reduceAdd] at hcv; go_simp; exact hK _ _ (Le.refl _) (Is.mk _ _)
          -- 13: 39 := Op.binOp BinOp.add 9 t28 t38 9
          · intro w hw h2 h12 K hK; cases h2; cases h12; go_simp; exact hK _ _ (Le.refl _) (Is.mk _ _)
          -- 14: 40 := Op.move t0
          · intro w hw  K hK; go_simp; exact hK _ _ (Le.refl _) (Is.mk _ _)
          -- 15: 41 := Op.move t10
          · intro w hw  K hK; go_simp; exact hK _ _ (Le.refl _) (Is.mk _ _)
          -- 16: 42 := Op.binOp BinOp.add 3 t41 (const (2:i64)) 3
          · intro w hw h15 K hK; cases h15; go_simp; exact hK _ _ (Le.refl _) (Is.mk _ _)
          -- 17: 43 := Op.slice 9 t40 (some t42) none none
          · intro w hw h14 h16 K hK; cases h14; cases h16; go_simp; exact hK _ _ (Le.refl _) (Is.mk _ _)
          -- 18: 44 := Op.binOp BinOp.add 9 t39 t43 9
          · intro w hw h13 h17 K hK; cases h13; cases h17; go_simp; exact hK _ _ (Le.refl _) (Is.mk _ _)
          · intro wz hz h0 h1 h2 h3 h4 h5 h6 h7 h8 h9 h10 h11 h12 h13 h14 h15 h16 h17 h18; cases h0; cases h1; cases h2; cases h3; cases h4; cases h5; cases h6; cases h7; cases h8; cases h9; cases h10; obtain ⟨g, rfl, hg⟩ := h11; cases h12; cases h13; cases h14; cases h15; cases h16; cases h17; cases h18; skip
            have HLZ := hide ((Le.refl w2).drew.trans hz)
            clear e1 e1' e2 e3 e3' e4 e5 e6 e7 e7' e8 e9 e10 e10' e11 e12 ew2 hs1 hs2 hs3 htn
            go_wp2_with fail
            go_meet
            refine ⟨?_, HLZ.out⟩
            rw [set_two l pn U1 U2 (by omega), HU.out.1, HU.out.2.1]
            rfl
    case rest =>
      obtain ⟨rfl, hlc⟩ := hcut
      generalize wc = w3 at *
      have hlen := wrP_len ⟨more, lone, start, part, hasPic, wide, pc, hasTl0, t0, hasTid, tid, sync, hasKey, key⟩ pn pic l
      have hw := HW.out
      clear y5 y4
      generalize wrP ⟨more, lone, start, part, hasPic, wide, pc, hasTl0, t0, hasTid, tid, sync, hasKey, key⟩ pn pic l = l1 at *
      have y7 := box_cell HZ.out 7 (.bool hasTl0) rfl w3 hlc
      have HLC := hide (HL.out.trans hlc)
      have HWW := hide hw
      clear hw hlc
      cases hasTl0
      · go_wp2_with fail
        go_ret2
        exact ⟨by rw [HWW.out]; rfl, HLC.out.out⟩
      · have hb3 := HB3.out rfl
        obtain ⟨U4, hU4⟩ : ∃ U4 : UInt8, U4 = UInt8.ofNat tl0 := ⟨_, rfl⟩
        have v4 : (U4.toNat : Int) = (tl0 : Int) := by rw [hU4, u8_nat _ ht0]
        have e1 : IntKind.u8.wrap (tl0 : Int) = (U4.toNat : Int) := by rw [v4]; simp [IntKind.wrap, IntKind.signed, IntKind.bits]; omega
        have HU := hide hU4
        clear v4 hU4
        have hp0 : tn ≤ l1.length := by omega
        have hp1I : (tn : Int) + 1 ≤ (l1.length : Int) := by omega
        have htn : ((tn : Int) + 1).toNat = tn + 1 := by omega
        have ew1 : IntKind.i64.wrap ((tn : Int) + 1) = (tn : Int) + 1 := IntWalk.i64_in _ (by omega)
        have hs3 : ¬ 9223372036854775807 < l1.length := by omega
        have hs1 : ¬ 9223372036854775807 < tn + 1 := by omega
        have hs2 : ¬ 9223372036854775807 < tn + 1 + (l1.length - (tn + 1)) := by omega
        have HLN := hide hlen
        have hb4 := hide (show tn < l1.length by omega)
        clear hlen
        go_upto_region 9 with fail
        refine' wp_region_tail 13 13 63 Le (Is _ :: Is _ :: Is _ :: Is _ :: Is _ :: (fun v w => ∃ g : Nat, v = .slice (some ⟨g, 0, none⟩) 1 1 ∧ w.heap[g]? = some (.cells #[.int .u8 (U4).toNat] 5 (0, 0))) :: Is _ :: Is _ :: Is _ :: Is _ :: Is _ :: Is _ :: Is _ :: []) ([] :: [] :: [0, 1] :: [] :: [3] :: [4] :: [5] :: [2, 6] :: [] :: [] :: [9] :: [8, 10] :: [7, 11] :: []) (by kernel_rfl) (by kernel_rfl) (by rfl) (by kernel_rfl) (by kernel_rfl) Le.refl (fun _ _ _ h h' => h.trans h') ⟨St.is, St.is, St.is, St.is, St.is, fun v w w' h ⟨g, e1, e2⟩ => ⟨g, e1, h.heap e2⟩, St.is, St.is, St.is, St.is, St.is, St.is, St.is, trivial⟩ ?m9
        case m9 =>
          simp (maxSteps := 100000000) only [AllV, Obl2, Leans, factAt, allFacts, actOf, putAll, putRow, List.set_cons_succ, List.set_cons_zero, List.getElem?_cons_zero, List.getElem?_cons_succ, List.take_succ_cons, List.take_zero, List.drop_succ_cons, List.drop_zero, List.cons_append, List.nil_append, List.length_cons, List.length_nil, Nat.reduceAdd]
          intro x0 x1 x2 x3 x4 x5 x6 x7 x8 x9 x10 x11 x12
          refine ⟨⟨?_, ?_, ?_, ?_, ?_, ?_, ?_, ?_, ?_, ?_, ?_, ?_, ?_, trivial⟩, ?_⟩
          -- 0: 63 := Op.move t0
          · intro w hw  K hK; go_simp; exact hK _ _ (Le.refl _) (Is.mk _ _)
          -- 1: 64 := Op.move t11
          · intro w hw  K hK; go_simp; exact hK _ _ (Le.refl _) (Is.mk _ _)
          -- 2: 65 := Op.slice 9 t63 none (some t64) none
          · intro w hw h0 h1 K hK; cases h0; cases h1; go_simp; exact hK _ _ (Le.refl _) (Is.mk _ _)
          -- 3: 66 := Op.move t2
          · intro w hw  K hK; go_simp; exact hK _ _ (Le.refl _) (Is.mk _ _)
          -- 4: 67 := Op.convert 3 5 t66
          · intro w hw h3 K hK; cases h3; go_simp; exact hK _ _ (Le.refl _) (Is.mk _ _)
          -- 5: 68 := Op.buildSlice 26 1 #[(0, t67)]
          · intro w hw h4 K hK; cases h4; go_simp; exact hK _ _ ((Le.refl _).alloc _) ⟨_, rfl, heap_alloc_new _ _⟩
          -- 6: 69 := Op.convert 26 9 t68
          · intro w hw h5 K hK; obtain ⟨g, rfl, hg⟩ := h5; have hcv := conv_blk (l := [U4]) hg; simp only [List.length_cons, List.length_nil, Nat.reduceAdd] at hcv; go_simp; exact hK _ _ (Le.refl _) (Is.mk _ _)
          -- 7: 70 := Op.binOp BinOp.add 9 t65 t69 9
          · intro w hw h2 h6 K hK; cases h2; cases h6; go_simp; exact hK _ _ (Le.refl _) (Is.mk _ _)
          -- 8: 71 := Op.move t0
          · intro w hw  K hK; go_simp; exact hK _ _ (Le.refl _) (Is.mk _ _)
          -- 9: 72 := Op.move t11
          · intro w hw  K hK; go_simp; exact hK _ _ (Le.refl _) (Is.mk _ _)
          -- 10: 73 := Op.binOp BinOp.add 3 t72 (const (1:i64)) 3
          · intro w hw h9 K hK; cases h9; go_simp; exact hK _ _ (Le.refl _) (Is.mk _ _)
          -- 11: 74 := Op.slice 9 t71 (some t73) none none
          · intro w hw h8 h10 K hK; cases h8; cases h10; go_simp; exact hK _ _ (Le.refl _) (Is.mk _ _)
          -- 12: 75 := Op.binOp BinOp.add 9 t70 t74 9
          · intro w hw h7 h11 K hK; cases h7; cases h11; go_simp; exact hK _ _ (Le.refl _) (Is.mk _ _)
          · intro wz hz h0 h1 h2 h3 h4 h5 h6 h7 h8 h9 h10 h11 h12; cases h0; cases h1; cases h2; cases h3; cases h4; obtain ⟨g, rfl, hg⟩ := h5; cases h6; cases h7; cases h8; cases h9; cases h10; cases h11; cases h12; skip
            have HLZ := hide (HLC.out.trans ((Le.refl w3).drew.trans hz))
            clear e1 ew1 hs1 hs2 hs3 htn
            go_wp2_with fail
            go_ret2
            rw [set_one l1 tn U4 hb4.out, HU.out, HWW.out]
            exact ⟨rfl, HLZ.out.out⟩
  · have hb := HBD.out rfl
    have HR := hide hb
    clear hb
    go_enter Try.func66, Try.ntmps66
    go_wp2_with fail
    refine HP.out.mono ?_
    rintro e w1 ⟨rfl, hb⟩
    have HL := hide ((Le.mk hb).alloc (.cells #[.bool more, .bool lone, .bool start, .int .i64 part, .bool hasPic, .bool wide, .int .i64 pc, .bool hasTl0, .int .i64 t0, .bool hasTid, .int .i64 tid, .bool sync, .bool hasKey, .int .i64 key] 99))
    clear hb
    go_wp2_with fail
    go_ret2
    exact ⟨by rw [HR.out]; rfl, HL.out.out⟩
end Go.Proofs.Ytekioihjfggmdaa

/- Texts, one behind the other. -/
namespace Go.Proofs.Ytekioihjfggmdaa
open Go.RowKit
set_option linter.unusedVariables false

/-- two texts, one behind the other -/
theorem wp_cat {P : Program} {o : Oper} {a : Act} {w : World} {Q : Exit → Act → World → Prop} {K : Act → World → Prop} (t : TypeId) (x y : Operand) (ho : o.op = .binOp .add t x y t) {l m : List UInt8} (hx : a.eval x = .string (str l)) (hy : a.eval y = .string (str m))
    (hu : P.underlying t = some .string) (hl : l.length + m.length ≤ 9223372036854775807) (h : K (a.put o.dst (.string (str (l ++ m)))) w) : o.wp P a w K Q := by
  have hr : (Op.stringOp .add (str l) (str m)).run P w = .ok (.string (str (l ++ m))) w := by
    rw [run_string_add_sum w _ _ (by simpa [str_size] using hl), str_app]
  unfold Oper.wp execOp
  simp [ho, hx, hy, binOp, eqGuard, hr, Result.andThen]
  exact h

end Go.Proofs.Ytekioihjfggmdaa
