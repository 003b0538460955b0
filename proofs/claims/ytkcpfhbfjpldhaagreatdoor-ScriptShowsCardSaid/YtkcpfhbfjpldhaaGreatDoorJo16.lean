/- Texts of one claim, laid together: AwkS Awk24 Open OpenScr OpenU8 FmtL Fmt Txt -/
import Derived.ProofKit
import Derived.Deep.Slices
import Derived.Deep.Fields
import Derived.Shelf.Strconv.Itoa2
import Derived.Shelf.Strconv.Itoa1
import Derived.Lib.ItoaMem
import Derived.Lib.AppendIntMem
import Derived.Test.YtkcpfhbfjpldhaaGreatDoorJo15
import Derived.Test.YtkcpfhbfjpldhaaGreatDoorJo01
import Derived.Test.YtkcpfhbfjpldhaaGreatDoorJo12
import Derived.Test.YtkcpfhbfjpldhaaGreatDoorJo02
/- script.Show at single kinds. (Written by program.) -/
namespace Go.Proofs.YtkcpfhbfjpldhaaGreatDoor
open Go.RowKit
set_option linter.unusedVariables false

theorem rsl_nums (w : World) (l : List Nat) (T : TypeId) : RSl 1 RNum (w.alloc (.cells (l.map fun (n : Nat) => Value.int .u64 (n : Int)).toArray T)) l (.slice (some ⟨w.heap.size, 0, none⟩) l.length l.length) := by
  refine rsl_of_cells (enc := fun (n : Nat) => [Value.int .u64 (n : Int)]) rfl (Nat.le_refl _) (fun _ _ => rfl) (fun x hx => rfl) (by omega) ?_
  rw [show l.flatMap (fun (n : Nat) => [Value.int .u64 (n : Int)]) = l.map (fun (n : Nat) => Value.int .u64 (n : Int)) from (List.map_eq_flatMap ..).symm]
  exact cells_new w _ T
theorem rsl_numsP {w : World} {p : Nat} (hp : w.heap.size = p) (l : List Nat) (T : TypeId) : RSl 1 RNum (w.alloc (.cells (l.map fun (n : Nat) => Value.int .u64 (n : Int)).toArray T)) l (.slice (some ⟨p, 0, none⟩) l.length l.length) := by subst hp; exact rsl_nums w l T
set_option maxRecDepth 100000 in
set_option maxHeartbeats 400000 in
theorem show0 (n : Nat)  (y2 y3 y4 y5 y6 y7 y8 y9 y10 y11 y12 y13 y14 y15 y16 y17 y18 y19 y20 y21 y22 : Value) (A : Option Addr) (L c : Nat) (hL : L ≤ 1000000) (hf : ∀ x ∈ ([L] : List Nat), FmtP x ∧ x < 18446744073709551616) (w : World) :
    Calls Tryz.prog 20 #[.agg #[.int .i64 0, .int .i64 n, y2, y3, y4, y5, y6, y7, y8, y9, y10, y11, y12, y13, y14, y15, y16, y17, y18, y19, y20, y21, y22, .slice A L c]] w (Gives w (.string (str (txt [99, 97, 108, 108] [L])))) := by
  have q1 : IntKind.u64.wrap (L : Int) = L := IntWalk.u64_in _ (by omega)
  have HF := hide hf
  clear hf
  obtain ⟨R, hR⟩ : ∃ R, R = Gives w (.string (str (txt [99, 97, 108, 108] [L]))) := ⟨_, rfl⟩
  rw [← hR]
  have HR := hide hR
  clear hR
  go_enter Tryz.func20, Tryz.ntmps20
  go_wp2_with fail
  have HB := hide ((Le.refl w).alloc (.cells #[.int .i64 0, .int .i64 n, y2, y3, y4, y5, y6, y7, y8, y9, y10, y11, y12, y13, y14, y15, y16, y17, y18, y19, y20, y21, y22, .slice A L c] 51))
  have HZ := hide (alloc_size w (.cells #[.int .i64 0, .int .i64 n, y2, y3, y4, y5, y6, y7, y8, y9, y10, y11, y12, y13, y14, y15, y16, y17, y18, y19, y20, y21, y22, .slice A L c] 51))
  generalize w.alloc (.cells #[.int .i64 0, .int .i64 n, y2, y3, y4, y5, y6, y7, y8, y9, y10, y11, y12, y13, y14, y15, y16, y17, y18, y19, y20, y21, y22, .slice A L c] 51) = w1 at *
  generalize w.heap.size + 1 = p1 at *
  refine (text_any [99, 97, 108, 108] (by simp) [L] (by simp) HF.out (some ⟨p1, 0, none⟩) _ _ _ (rsl_numsP HZ.out [L] 41)).mono ?_
  rintro r w2 ⟨rfl, hb2⟩
  have H2 := hide ((HB.out.alloc _).trans (Le.mk hb2))
  clear hb2 HB
  generalize str (txt [99, 97, 108, 108] [L]) = S at *
  go_wp2_with fail
  rw [HR.out]
  exact ⟨rfl, H2.out.out⟩
set_option maxRecDepth 100000 in
set_option maxHeartbeats 400000 in
theorem show2 (n : Nat) (hn : n < 9223372036854775808) (id er : Nat) (her : er < 9223372036854775808) (y2 y5 y6 y7 y8 y9 y10 y11 y12 y13 y14 y15 y16 y17 y18 y19 y20 y21 y22 : Value) (A : Option Addr) (L c : Nat) (hL : L ≤ 1000000) (hf : ∀ x ∈ ([n, id, er] : List Nat), FmtP x ∧ x < 18446744073709551616) (w : World) :
    Calls Tryz.prog 20 #[.agg #[.int .i64 2, .int .i64 n, y2, .int .u64 id, .int .i64 er, y5, y6, y7, y8, y9, y10, y11, y12, y13, y14, y15, y16, y17, y18, y19, y20, y21, y22, .slice A L c]] w (Gives w (.string (str (txt [114, 101, 112, 108, 121] [n, id, er])))) := by
  have q1 : IntKind.u64.wrap (L : Int) = L := IntWalk.u64_in _ (by omega)
  have q2 : IntKind.u64.wrap (n : Int) = n := IntWalk.u64_in _ (by omega)
  have q3 : IntKind.u64.wrap (er : Int) = er := IntWalk.u64_in _ (by omega)
  have HF := hide hf
  clear hf
  obtain ⟨R, hR⟩ : ∃ R, R = Gives w (.string (str (txt [114, 101, 112, 108, 121] [n, id, er]))) := ⟨_, rfl⟩
  rw [← hR]
  have HR := hide hR
  clear hR
  go_enter Tryz.func20, Tryz.ntmps20
  go_wp2_with fail
  have HB := hide ((Le.refl w).alloc (.cells #[.int .i64 2, .int .i64 n, y2, .int .u64 id, .int .i64 er, y5, y6, y7, y8, y9, y10, y11, y12, y13, y14, y15, y16, y17, y18, y19, y20, y21, y22, .slice A L c] 51))
  have HZ := hide (alloc_size w (.cells #[.int .i64 2, .int .i64 n, y2, .int .u64 id, .int .i64 er, y5, y6, y7, y8, y9, y10, y11, y12, y13, y14, y15, y16, y17, y18, y19, y20, y21, y22, .slice A L c] 51))
  generalize w.alloc (.cells #[.int .i64 2, .int .i64 n, y2, .int .u64 id, .int .i64 er, y5, y6, y7, y8, y9, y10, y11, y12, y13, y14, y15, y16, y17, y18, y19, y20, y21, y22, .slice A L c] 51) = w1 at *
  generalize w.heap.size + 1 = p1 at *
  refine (text_any [114, 101, 112, 108, 121] (by simp) [n, id, er] (by simp) HF.out (some ⟨p1, 0, none⟩) _ _ _ (rsl_numsP HZ.out [n, id, er] 41)).mono ?_
  rintro r w2 ⟨rfl, hb2⟩
  have H2 := hide ((HB.out.alloc _).trans (Le.mk hb2))
  clear hb2 HB
  generalize str (txt [114, 101, 112, 108, 121] [n, id, er]) = S at *
  go_wp2_with fail
  rw [HR.out]
  exact ⟨rfl, H2.out.out⟩
set_option maxRecDepth 100000 in
set_option maxHeartbeats 400000 in
theorem show5 (n : Nat) (hn : n < 9223372036854775808) (y2 y3 y4 y5 y6 y7 y8 y9 y10 y11 y12 y13 y14 y15 y16 y17 y18 y19 y20 y21 y22 : Value) (A : Option Addr) (L c : Nat) (hL : L ≤ 1000000) (hf : ∀ x ∈ ([n] : List Nat), FmtP x ∧ x < 18446744073709551616) (w : World) :
    Calls Tryz.prog 20 #[.agg #[.int .i64 5, .int .i64 n, y2, y3, y4, y5, y6, y7, y8, y9, y10, y11, y12, y13, y14, y15, y16, y17, y18, y19, y20, y21, y22, .slice A L c]] w (Gives w (.string (str (txt [102, 117, 108, 108] [n])))) := by
  have q1 : IntKind.u64.wrap (L : Int) = L := IntWalk.u64_in _ (by omega)
  have q2 : IntKind.u64.wrap (n : Int) = n := IntWalk.u64_in _ (by omega)
  have HF := hide hf
  clear hf
  obtain ⟨R, hR⟩ : ∃ R, R = Gives w (.string (str (txt [102, 117, 108, 108] [n]))) := ⟨_, rfl⟩
  rw [← hR]
  have HR := hide hR
  clear hR
  go_enter Tryz.func20, Tryz.ntmps20
  go_wp2_with fail
  have HB := hide ((Le.refl w).alloc (.cells #[.int .i64 5, .int .i64 n, y2, y3, y4, y5, y6, y7, y8, y9, y10, y11, y12, y13, y14, y15, y16, y17, y18, y19, y20, y21, y22, .slice A L c] 51))
  have HZ := hide (alloc_size w (.cells #[.int .i64 5, .int .i64 n, y2, y3, y4, y5, y6, y7, y8, y9, y10, y11, y12, y13, y14, y15, y16, y17, y18, y19, y20, y21, y22, .slice A L c] 51))
  generalize w.alloc (.cells #[.int .i64 5, .int .i64 n, y2, y3, y4, y5, y6, y7, y8, y9, y10, y11, y12, y13, y14, y15, y16, y17, y18, y19, y20, y21, y22, .slice A L c] 51) = w1 at *
  generalize w.heap.size + 1 = p1 at *
  refine (text_any [102, 117, 108, 108] (by simp) [n] (by simp) HF.out (some ⟨p1, 0, none⟩) _ _ _ (rsl_numsP HZ.out [n] 41)).mono ?_
  rintro r w2 ⟨rfl, hb2⟩
  have H2 := hide ((HB.out.alloc _).trans (Le.mk hb2))
  clear hb2 HB
  generalize str (txt [102, 117, 108, 108] [n]) = S at *
  go_wp2_with fail
  rw [HR.out]
  exact ⟨rfl, H2.out.out⟩
end Go.Proofs.YtkcpfhbfjpldhaaGreatDoor

/- louverlaw24.awake. -/
namespace Go.Proofs.YtkcpfhbfjpldhaaGreatDoor
open Go.RowKit
set_option linter.unusedVariables false

theorem wpl_load_g {P : Program} {ops : Array Oper} {rest : List Oper} {o : Oper} {a : Act} {w : World} {Q : Exit → Act → World → Prop} (hwt : Region.wanted o (yielded ops a.tmps) = true) (ty : TypeId) (x : Operand) (ho : o.op = .load ty x) (b off : Nat) (hx : a.eval x = .pointer (some ⟨b, off, none⟩)) (cs : List Value) (d : TypeDesc) (hc : w.rangeAt b off cs)
    (hu : P.underlying ty = some d) (hd : d.isRow = true) (hi : (P.info? ty).map (·.size) = some cs.length) (h : wpList P ops Q rest (a.put o.dst (.agg cs.toArray)) w) : wpList P ops Q (o :: rest) a w :=
  wpList_step fun K hK => by
    rw [if_pos hwt]
    exact wp_load_mid ty x ho b off hx cs d hc hu hd hi (hK _ _ h)
theorem EvB.range {w : World} {g : Nat} {xs : List Value} (h : EvB w g xs) (off : Nat) (cs : List Value) (hc : ∀ j u, cs[j]? = some u → xs[off + j]? = some u) : w.rangeAt g off cs := fun j v hj => by
  obtain ⟨cur, h1, h2⟩ := h
  exact (cell_block h1 _).trans (h2 _ _ (hc j v hj))
set_option maxRecDepth 100000 in
theorem conf_one (w : World) : Calls Tryz.prog 21 #[.int .u8 1] w (Gives w (.agg #[.int .i64 2, .int .i64 4, .int .i64 20, .int .i64 4, .int .i64 6, .int .i64 4, .int .i64 4, .int .i64 8, .int .i64 6, .int .i64 3, .int .i64 8])) := by
  go_enter Tryz.func21, Tryz.ntmps21
  go_wp2_with (refine wpl_store_blk rfl 61 (.tmp 2) (.tmp 9) (cs := [.int .i64 2, .int .i64 4, .int .i64 20, .int .i64 4, .int .i64 6, .int .i64 4, .int .i64 4, .int .i64 8, .int .i64 6, .int .i64 3, .int .i64 8]) (old := [.int .i64 0, .int .i64 0, .int .i64 0, .int .i64 0, .int .i64 0, .int .i64 0, .int .i64 0, .int .i64 0, .int .i64 0, .int .i64 0, .int .i64 0]) rfl rfl rfl (by kernel_rfl) (by simp [Value.oneCell']) (heap_alloc_new w _) rfl ?_; intro w2 h2 hg2; have H2 := hide (And.intro h2 (le_boxed ((Le.refl w).alloc _) hg2 (Nat.le_refl _))); clear h2 hg2)
  exact bodyPost_ret (results_cell_row Tryz.results21 _ _ _ 61 _ (0, 0) _ rfl H2.out.1 Tryz.underlying61 rfl (by kernel_rfl)) rfl ⟨rfl, H2.out.2.out⟩
theorem dd0 : Lib.decDigits 0 = [48] := by rw [Lib.decDigits_one (by decide)]; rfl
theorem dd1 : Lib.decDigits 1 = [49] := by rw [Lib.decDigits_one (by decide)]; rfl
theorem dd7 : Lib.decDigits 7 = [55] := by rw [Lib.decDigits_one (by decide)]; rfl
theorem dd10 : Lib.decDigits 10 = [49, 48] := by rw [Lib.decDigits_two (by decide) (by decide)]; rfl
theorem txt_call : str (txt [99, 97, 108, 108] [1]) = ⟨#[99, 97, 108, 108, 32, 49]⟩ := by simp only [txt, List.flatMap_cons, List.flatMap_nil, dd1]; rfl
theorem txt_reply : str (txt [114, 101, 112, 108, 121] [0, 0, 10]) = ⟨#[114, 101, 112, 108, 121, 32, 48, 32, 48, 32, 49, 48]⟩ := by simp only [txt, List.flatMap_cons, List.flatMap_nil, dd0, dd10]; rfl
theorem txt_full : str (txt [102, 117, 108, 108] [7]) = ⟨#[102, 117, 108, 108, 32, 55]⟩ := by simp only [txt, List.flatMap_cons, List.flatMap_nil, dd7]; rfl

theorem hf1 : ∀ x ∈ ([1] : List Nat), FmtP x ∧ x < 18446744073709551616 := by
  intro x hx
  obtain rfl : x = 1 := by simpa using hx
  exact ⟨fmt1, by omega⟩
theorem hf7 : ∀ x ∈ ([7] : List Nat), FmtP x ∧ x < 18446744073709551616 := by
  intro x hx
  obtain rfl : x = 7 := by simpa using hx
  exact ⟨fmt7, by omega⟩
theorem hf2 : ∀ x ∈ ([0, 0, 10] : List Nat), FmtP x ∧ x < 18446744073709551616 := by
  intro x hx
  have hx' : x = 0 ∨ x = 10 := by simpa using hx
  rcases hx' with rfl | rfl
  · exact ⟨fmt0, by omega⟩
  · exact ⟨fmt10, by omega⟩

set_option maxRecDepth 100000 in
set_option maxHeartbeats 4000000 in
theorem awake24 (w : World) : Calls Tryz.prog 11 #[] w (Gives w (.bool true)) := by
  go_enter Tryz.func11, Tryz.ntmps11
  go_wp2_with fail
  have hr0 : RSl 3 RSp (w.alloc (.cells #[.int .i64 2, .int .i64 3, .slice none 0 0] 70)) [⟨2, 3, []⟩] (.slice (some ⟨w.heap.size, 0, none⟩) 1 1) := by
    refine ⟨_, 1, rfl, by simp, fun _ => ⟨w.heap.size, 0, rfl, fun i hi => ?_⟩⟩
    obtain rfl : i = 0 := by simpa using hi
    refine ⟨[.int .i64 2, .int .i64 3, .slice none 0 0], rfl, fun j hj => ?_, .slice none 0 0, rfl, RSl.nil, ⟨by simp, by simp, by simp⟩⟩
    rw [cell_block (heap_alloc_new w _)]
    simp
  have HL := hide ((Le.refl w).alloc (.cells #[.int .i64 2, .int .i64 3, .slice none 0 0] 70))
  have HR := hide hr0
  clear hr0
  generalize w.heap.size = g0 at HR ⊢
  generalize w.alloc _ = w1 at *
  refine (scPut_any [⟨2, 3, []⟩] (some ⟨g0, 0, none⟩) 1 w1 HR.out (by simp) (by simp)).mono ?_
  rw [show putSB [⟨2, 3, []⟩] = [2, 3] from by decide, show putSE [⟨2, 3, []⟩] = 0 from by decide]
  rintro r w2 ⟨v2, rfl, ho2, hb2⟩
  obtain ⟨A2, c2, rfl, _, _⟩ := own_slice ho2
  have HB := hide (rsl_of_own ho2)
  have HL2 := hide (HL.out.trans (Le.mk hb2))
  clear ho2 hb2 HL HR
  go_wp2_with fail
  refine (scParse_any [2, 3] A2 _ c2 w2 HB.out (by simp)).mono ?_
  rw [show parseS [2, 3] [] = ([⟨2, 3, []⟩], 0) from by decide]
  rintro r w3 ⟨A3, c3, vs, rfl, ho3, hd3, _, hb3⟩
  obtain ⟨v0, rfl⟩ : ∃ v0, vs = [v0] := by
    match vs, hd3.1 with
    | [a], _ => exact ⟨a, rfl⟩
  obtain ⟨G3, c3, he, hst⟩ := stb_own ho3 (by simp)
  injection he with e1 e2 e3
  subst e1 e3
  have HST := hide hst
  have HL3 := hide (HL2.out.trans (Le.mk hb3))
  have HB3 := hide ((Le.mk hb3).rsl keeps_u8 HB.out)
  clear ho3 hd3 hb3 hst HB HL2
  simp only [List.length_cons, List.length_nil, Nat.reduceAdd] at HB3 ⊢
  go_wp2_with fail
  refine (conf_one w3).mono ?_
  rintro r w4 ⟨rfl, hb4⟩
  have HL4 := hide (Le.mk hb4)
  clear hb4
  go_wp2_with fail
  have HR5 := hide (show RSl 1 RU8 (w4.alloc (.cells #[.int .u8 0, .int .u8 0, .int .u8 1, .int .u8 7, .int .u8 4] 5)) [0, 0, 1, 7, 4] (.slice (some ⟨w4.heap.size, 0, none⟩) 5 5) from
    rsl_of_cells (enc := fun (b : UInt8) => [Value.int .u8 b.toNat]) rfl (Nat.le_refl _) (fun _ _ => rfl) (fun _ _ => rfl) (by omega) (cells_new w4 _ _))
  have HL5 := hide (HL4.out.alloc (.cells #[.int .u8 0, .int .u8 0, .int .u8 1, .int .u8 7, .int .u8 4] 5))
  clear HL4
  generalize w4.heap.size = g5 at HR5 ⊢
  generalize w4.alloc _ = w5 at *
  refine (play_awk w5 _ _ HR5.out).mono ?_
  rintro r w6 ⟨G, cap6, rfl, hT, hle6⟩
  obtain ⟨o0, p0, b0, c0, o1, p1, b1_, c1, hE, _⟩ := hT
  simp only [List.length_cons, List.length_nil, Nat.reduceAdd] at hE
  have HE := hide hE
  have HL6 := hide (HL5.out.trans hle6)
  have HLW := hide (HL3.out.trans HL6.out)
  clear hE hle6 HL5 HR5
  have f1 := conv_le HB3.out w6 HL6.out
  rw [show str [2, 3] = ⟨#[2, 3]⟩ from rfl] at f1
  have b1 : ((⟨#[2, 3]⟩ : ByteArray) == ⟨#[2, 3]⟩) = true := by decide
  obtain ⟨cur, hcur, hcu⟩ := HST.out
  have y1 : w6.cell? ⟨G3, 1, none⟩ = some (.int .i64 3) := (cell_block (HL6.out.heap hcur) 1).trans (hcu 1 _ rfl)
  have HR0 := hide (HE.out.range 0 [.int .i64 0, .int .i64 (0 : Nat), .int .i64 0, .int .u64 0, .int .i64 0, .int .i64 0, .int .i64 0, .int .i64 0, .int .i64 0, .int .i64 0, .slice none 0 0, .int .i64 0, .int .i64 0, .int .u64 0, .int .i64 0, .int .i64 0, .int .i64 0, .int .u32 0, .slice o0 0 p0, .int .i64 0, .int .u64 0, .int .i64 0, .int .u32 0, .slice b0 1 c0] (fun j u hj => by
    have hj24 : j < 24 := by simpa using (List.getElem?_eq_some_iff.1 hj).1
    rw [Nat.zero_add, List.getElem?_append_left (by simpa [evD] using hj24)]
    exact hj))
  have HR1 := hide (HE.out.range 24 [.int .i64 2, .int .i64 (0 : Nat), .int .i64 0, .int .u64 (0 : Nat), .int .i64 (10 : Nat), .int .i64 0, .int .i64 0, .int .i64 0, .int .i64 0, .int .i64 0, .slice none 0 0, .int .i64 0, .int .i64 0, .int .u64 0, .int .i64 0, .int .i64 0, .int .i64 0, .int .u32 0, .slice o1 0 p1, .int .i64 0, .int .u64 0, .int .i64 0, .int .u32 0, .slice b1_ 0 c1] (fun j u hj => by
    rw [List.getElem?_append_right (by simp [evD])]
    simpa [evD] using hj))
  clear hcur hcu HST HE HL6 HB3
  have b2 : ((⟨#[99, 97, 108, 108, 32, 49]⟩ : ByteArray) == ⟨#[99, 97, 108, 108, 32, 49]⟩) = true := by decide
  have b3 : ((⟨#[114, 101, 112, 108, 121, 32, 48, 32, 48, 32, 49, 48]⟩ : ByteArray) == ⟨#[114, 101, 112, 108, 121, 32, 48, 32, 48, 32, 49, 48]⟩) = true := by decide
  have b4 : ((⟨#[102, 117, 108, 108, 32, 55]⟩ : ByteArray) == ⟨#[102, 117, 108, 108, 32, 55]⟩) = true := by decide
  go_wp2_with (refine wpl_load_g rfl 51 (.tmp 58) rfl G 0 rfl [.int .i64 0, .int .i64 (0 : Nat), .int .i64 0, .int .u64 0, .int .i64 0, .int .i64 0, .int .i64 0, .int .i64 0, .int .i64 0, .int .i64 0, .slice none 0 0, .int .i64 0, .int .i64 0, .int .u64 0, .int .i64 0, .int .i64 0, .int .i64 0, .int .u32 0, .slice o0 0 p0, .int .i64 0, .int .u64 0, .int .i64 0, .int .u32 0, .slice b0 1 c0] _ HR0.out Tryz.underlying51 rfl (by kernel_rfl) ?_)
  have h0 := show0 0 (.int .i64 0) (.int .u64 0) (.int .i64 0) (.int .i64 0) (.int .i64 0) (.int .i64 0) (.int .i64 0) (.int .i64 0) (.slice none 0 0) (.int .i64 0) (.int .i64 0) (.int .u64 0) (.int .i64 0) (.int .i64 0) (.int .i64 0) (.int .u32 0) (.slice o0 0 p0) (.int .i64 0) (.int .u64 0) (.int .i64 0) (.int .u32 0) b0 1 c0 (by omega) hf1 w6
  rw [txt_call] at h0
  refine h0.mono ?_
  rintro r w7 ⟨rfl, hb7⟩
  have HL7 := hide (Le.mk hb7)
  have HR7 := hide (show w7.rangeAt G 24 _ from fun j v hj => HL7.out.cell (HR1.out j v hj))
  clear h0 hb7 f1 y1 HR0 HR1
  go_wp2_with (refine wpl_load_g rfl 51 (.tmp 65) rfl G 24 rfl [.int .i64 2, .int .i64 (0 : Nat), .int .i64 0, .int .u64 (0 : Nat), .int .i64 (10 : Nat), .int .i64 0, .int .i64 0, .int .i64 0, .int .i64 0, .int .i64 0, .slice none 0 0, .int .i64 0, .int .i64 0, .int .u64 0, .int .i64 0, .int .i64 0, .int .i64 0, .int .u32 0, .slice o1 0 p1, .int .i64 0, .int .u64 0, .int .i64 0, .int .u32 0, .slice b1_ 0 c1] _ HR7.out Tryz.underlying51 rfl (by kernel_rfl) ?_)
  have h2 := show2 0 (by omega) 0 10 (by omega) (.int .i64 0) (.int .i64 0) (.int .i64 0) (.int .i64 0) (.int .i64 0) (.int .i64 0) (.slice none 0 0) (.int .i64 0) (.int .i64 0) (.int .u64 0) (.int .i64 0) (.int .i64 0) (.int .i64 0) (.int .u32 0) (.slice o1 0 p1) (.int .i64 0) (.int .u64 0) (.int .i64 0) (.int .u32 0) b1_ 0 c1 (by omega) hf2 w7
  rw [txt_reply] at h2
  refine h2.mono ?_
  rintro r w8 ⟨rfl, hb8⟩
  have HL8 := hide (HL7.out.trans (Le.mk hb8))
  clear h2 hb8 HL7 HR7
  go_wp2_with fail
  have h5 := show5 7 (by omega) (.int .i64 0) (.int .u64 0) (.int .i64 0) (.int .i64 0) (.int .i64 0) (.int .i64 0) (.int .i64 0) (.int .i64 0) (.slice none 0 0) (.int .i64 0) (.int .i64 0) (.int .u64 0) (.int .i64 0) (.int .i64 0) (.int .i64 0) (.int .u32 0) (.slice none 0 0) (.int .i64 0) (.int .u64 0) (.int .i64 0) (.int .u32 0) none 0 0 (by omega) hf7 w8
  rw [txt_full] at h5
  refine h5.mono ?_
  rintro r w9 ⟨rfl, hb9⟩
  have HL9 := hide (HLW.out.trans (HL8.out.trans (Le.mk hb9)))
  clear h5 hb9 HL8
  go_wp2_with fail
  go_ret
  exact ⟨rfl, HL9.out.out⟩
end Go.Proofs.YtkcpfhbfjpldhaaGreatDoor

/- How an argument that was read as data opens to the words of memory. -/
namespace Go.Proofs.YtkcpfhbfjpldhaaGreatDoor
open Go.RowKit Go.ChangeShapes Go.WideShapes Go.Deep
set_option linter.unusedVariables false

section
variable {H : Type} {enc : TypeId × Value → H} {P : Program} {w : World} {base : Nat} {spare : Nat → Bool} {held : Bool}

theorem rsl_of_trod {α : Type} {size : Nat} {R : Rd α} {t e : TypeId} {fuel : Nat} {v : Value} {x : DataW H × List MemPlace} (ht : P.underlying t = some (.slice e)) (hC : P.cellsOf e = size) (hsz : 0 < size)
    (elem : ∀ n cs y, DataW.trod enc P w base spare held n e cs = some y → ∃ a : α, R w a cs) (h : DataW.trod enc P w base spare held fuel t [v] = some x) : ∃ l : List α, RSl size R w l v := by
  rcases open_slice ht h with ⟨hcs, _⟩ | ⟨a, len, cap, m, n, D, Pl, hcs, _, hl, _, hm, _, hi⟩
  · simp at hcs
    subst hcs
    exact ⟨[], RSl.nil⟩
  · simp at hcs
    subst hcs
    have hlm : len ≤ m := by rw [hm]; split <;> omega
    have hall : ∀ i : Fin len, ∃ p : α × List Value, p.2.length = size ∧ (∀ j, j < size → w.cell? ((a.add (i.1 * size)).add j) = p.2[j]?) ∧ R w p.1 p.2 := by
      intro i
      obtain ⟨cs, hc, htr⟩ := hi i.1 (by omega)
      rw [hC] at hc
      obtain ⟨_, hcl, hat⟩ := World.cells?_some hc
      obtain ⟨b, hb⟩ := elem n cs _ htr
      exact ⟨(b, cs), hcl, fun j hj => hat j hj, hb⟩
    let f : Fin len → α × List Value := fun i => Classical.choose (hall i)
    have hf : ∀ i : Fin len, (f i).2.length = size ∧ (∀ j, j < size → w.cell? ((a.add (i.1 * size)).add j) = (f i).2[j]?) ∧ R w (f i).1 (f i).2 := fun i => Classical.choose_spec (hall i)
    refine ⟨List.ofFn fun i => (f i).1, some a, cap, by simp, by simpa using hl, fun hne => ?_⟩
    have hpos : 0 < len := by
      rcases Nat.eq_zero_or_pos len with h0 | h0
      · subst h0; simp at hne
      · exact h0
    obtain ⟨b, off, spot⟩ := a
    have hspot : spot = none := by
      obtain ⟨h1, h2, _⟩ := hf ⟨0, hpos⟩
      have h3 := h2 0 hsz
      have h4 : ((f ⟨0, hpos⟩).2)[0]? = some (((f ⟨0, hpos⟩).2)[0]'(by omega)) := List.getElem?_eq_getElem _
      rw [h4] at h3
      have := World.cell?_spot h3
      simpa [Addr.add] using this
    subst hspot
    refine ⟨b, off, rfl, fun i hi' => ?_⟩
    have hi2 : i < len := by simpa using hi'
    obtain ⟨h1, h2, h3⟩ := hf ⟨i, hi2⟩
    refine ⟨(f ⟨i, hi2⟩).2, h1, fun j hj => ?_, by simpa using h3⟩
    have := h2 j hj
    rwa [addr_add, addr_add] at this

theorem st_open {e : TypeId} {fs : Array Field} {n : Nat} {cs : List Value} {x : DataW H × List MemPlace} (he : P.underlying e = some (.struct fs)) (hone : oneCellFields P fs = true) (hC : P.cellsOf e = fs.size)
    (h : DataW.trod enc P w base spare held n e cs = some x) : cs.length = fs.size ∧ ∀ (i : Nat) (f : Field), fs[i]? = some f → ∃ v y m, cs[i]? = some v ∧ DataW.trod enc P w base spare held m f.type [v] = some y := by
  obtain ⟨xs, m, _, _, hlen, hxl, hf⟩ := DataW.trod_struct he h
  rw [hC] at hlen
  refine ⟨hlen, fun i f hi => ?_⟩
  obtain ⟨ho, hk⟩ := hone_of hone i f hi
  have hil : i < fs.size := (Array.getElem?_eq_some_iff.1 hi).1
  have h1 := hf i f hi
  rw [ho, hk, List.drop_eq_getElem_cons (by omega)] at h1
  have h2 : xs[i]? = some (xs[i]'(by omega)) := List.getElem?_eq_getElem (by omega)
  rw [h2] at h1
  exact ⟨_, _, m, List.getElem?_eq_getElem (by omega), h1⟩

theorem int_open {t : TypeId} {k : IntKind} {n : Nat} {cs : List Value} {x : DataW H × List MemPlace} (ht : P.underlying t = some (.int k)) (h : DataW.trod enc P w base spare held n t cs = some x) : ∃ a : Int, cs = [.int k a] ∧ (Lit.int k a).wf = true := by
  obtain ⟨a, e, _, hw⟩ := DataW.trod_int ht h
  exact ⟨a, e, hw⟩

theorem u8_open {t : TypeId} {n : Nat} {cs : List Value} {x : DataW H × List MemPlace} (ht : P.underlying t = some (.int .u8)) (h : DataW.trod enc P w base spare held n t cs = some x) : ∃ a : UInt8, RU8 w a cs := by
  obtain ⟨a, rfl, hw⟩ := int_open ht h
  have hb : 0 ≤ a ∧ a ≤ 255 := by simpa [Lit.wf, IntKind.min, IntKind.max, IntKind.signed, IntKind.bits] using hw
  refine ⟨UInt8.ofNat a.toNat, ?_⟩
  have : ((UInt8.ofNat a.toNat).toNat : Int) = a := by rw [UInt8.toNat_ofNat']; omega
  show [Value.int .u8 a] = [Value.int .u8 ((UInt8.ofNat a.toNat).toNat : Int)]
  rw [this]
end

theorem wf_u64 {a : Int} (h : (Lit.int .u64 a).wf = true) : ∃ n : Nat, a = n ∧ (n : Int) < 18446744073709551616 := by
  have hb : 0 ≤ a ∧ a ≤ 18446744073709551615 := by simpa [Lit.wf, IntKind.min, IntKind.max, IntKind.signed, IntKind.bits] using h
  exact ⟨a.toNat, by omega, by omega⟩
theorem wf_i64 {a : Int} (h : (Lit.int .i64 a).wf = true) : -9223372036854775808 ≤ a ∧ a ≤ 9223372036854775807 := by
  simpa [Lit.wf, IntKind.min, IntKind.max, IntKind.signed, IntKind.bits] using h
theorem wf_u32 {a : Int} (h : (Lit.int .u32 a).wf = true) : ∃ n : Nat, a = n ∧ n < 4294967296 := by
  have hb : 0 ≤ a ∧ a ≤ 4294967295 := by simpa [Lit.wf, IntKind.min, IntKind.max, IntKind.signed, IntKind.bits] using h
  exact ⟨a.toNat, by omega, by omega⟩
theorem wf_u16 {a : Int} (h : (Lit.int .u16 a).wf = true) : ∃ n : Nat, a = n ∧ n < 65536 := by
  have hb : 0 ≤ a ∧ a ≤ 65535 := by simpa [Lit.wf, IntKind.min, IntKind.max, IntKind.signed, IntKind.bits] using h
  exact ⟨a.toNat, by omega, by omega⟩
theorem wf_u8 {a : Int} (h : (Lit.int .u8 a).wf = true) : ∃ n : Nat, a = n ∧ n < 256 := by
  have hb : 0 ≤ a ∧ a ≤ 255 := by simpa [Lit.wf, IntKind.min, IntKind.max, IntKind.signed, IntKind.bits] using h
  exact ⟨a.toNat, by omega, by omega⟩
end Go.Proofs.YtkcpfhbfjpldhaaGreatDoor

/- A slice of script.Step as an argument, opened. -/
namespace Go.Proofs.YtkcpfhbfjpldhaaGreatDoor
open Go.RowKit Go.ChangeShapes Go.WideShapes Go.Deep
set_option linter.unusedVariables false
section
variable {H : Type} {enc : TypeId × Value → H} {P : Program} {w : World} {base : Nat} {spare : Nat → Bool} {held : Bool}
theorem trod_lenS {t e : TypeId} {fuel : Nat} {A : Option Addr} {n c : Nat} {x : DataW H × List MemPlace} (ht : P.underlying t = some (.slice e)) (h : DataW.trod enc P w base spare held fuel t [.slice A n c] = some x) : n ≤ 9223372036854775807 := by
  rcases open_slice ht h with ⟨hcs, _⟩ | ⟨a, len, cap, m, k, D, Pl, hcs, _, hlc, hcm, _⟩
  · simp at hcs
    omega
  · simp at hcs
    have : cap ≤ 9223372036854775807 := by simpa [maxLen] using hcm
    omega
end
section
variable {H : Type} {enc : TypeId × Value → H} {w : World} {base : Nat} {spare : Nat → Bool} {held : Bool} {d : DataW H} {ps : List MemPlace}
theorem sp_open (n : Nat) (cs : List Value) (y : DataW H × List MemPlace) (h : DataW.trod enc Tryz.prog w base spare held n 70 cs = some y) : ∃ s : Sp, RSp w s cs := by
  obtain ⟨hl, hg⟩ := st_open Tryz.underlying70 (by kernel_rfl) (by kernel_rfl) h
  obtain ⟨v0, y0, m0, e0, h0⟩ := hg 0 _ rfl
  obtain ⟨v1, y1, m1, e1, h1⟩ := hg 1 _ rfl
  obtain ⟨v2, y2, m2, e2, h2⟩ := hg 2 _ rfl
  obtain ⟨b0, g0, k0⟩ := int_open Tryz.underlying3 h0
  obtain ⟨b1, g1, k1⟩ := int_open Tryz.underlying3 h1
  obtain ⟨l2, g2⟩ := rsl_of_trod (R := RU8) (size := 1) Tryz.underlying25 (by kernel_rfl) (by omega) (fun n cs y h => u8_open Tryz.underlying5 h) h2
  obtain ⟨A2, c2, e2', _⟩ := id g2
  subst e2'
  have n2 := trod_lenS Tryz.underlying25 h2
  match cs, hl with
  | [c0, c1, c2'], _ =>
    simp at e0 e1 e2 g0 g1
    subst e0 e1 e2 g0 g1
    exact ⟨⟨b0, b1, l2⟩, _, rfl, g2, ⟨wf_i64 k0, wf_i64 k1, n2⟩⟩
theorem open_sps {A : Option Addr} {n c : Nat} (h : DataW.Trod enc Tryz.prog w base spare held 22 (.slice A n c) d ps) : ∃ l : List Sp, RSl 3 RSp w l (.slice A n c) ∧ l.length ≤ 9223372036854775807 := by
  obtain ⟨fuel, hf⟩ := h
  have hf : DataW.trod enc Tryz.prog w base spare held fuel 22 [.slice A n c] = some (d, ps) := hf
  obtain ⟨l, hl⟩ := rsl_of_trod (R := RSp) (size := 3) Tryz.underlying22 (by kernel_rfl) (by omega) sp_open hf
  have hn := trod_lenS Tryz.underlying22 hf
  refine ⟨l, hl, ?_⟩
  obtain ⟨A', c', hv, hc, _⟩ := hl
  injection hv with e1 e2 e3
  omega
end
end Go.Proofs.YtkcpfhbfjpldhaaGreatDoor

/- A slice of bytes as an argument, opened. -/
namespace Go.Proofs.YtkcpfhbfjpldhaaGreatDoor
open Go.RowKit Go.ChangeShapes Go.WideShapes Go.Deep
set_option linter.unusedVariables false
theorem open_u8s {H : Type} {enc : TypeId × Value → H} {w : World} {base : Nat} {spare : Nat → Bool} {held : Bool} {d : DataW H} {ps : List MemPlace} {A : Option Addr} {n c : Nat} (h : DataW.Trod enc Tryz.prog w base spare held 25 (.slice A n c) d ps) : ∃ l, RSl 1 RU8 w l (.slice A n c) := by
  obtain ⟨fuel, hf⟩ := h
  exact rsl_of_trod Tryz.underlying25 (by kernel_rfl) (by omega) (fun n cs y h => u8_open Tryz.underlying5 h) hf
end Go.Proofs.YtkcpfhbfjpldhaaGreatDoor

/- strconv's numbers: the kit's contracts at this program (the records are spelt out as the kit's command lays them). -/
namespace Go.Proofs.YtkcpfhbfjpldhaaGreatDoor
open Go.RowKit Go.Shelf Go.Proofs
set_option linter.unusedVariables false

def ren285 : Go.Shelf.Ren := ⟨(fun x => match x with | 285 => 174 | n => n), (fun x => match x with | 37 => 25 | 53 => 41 | 3 => 3 | 4 => 4 | 51 => 45 | 9 => 9 | 5 => 5 | 0 => 0 | n => n), (fun n => n)⟩
def ren284 : Go.Shelf.Ren := ⟨(fun x => match x with | 284 => 173 | 129 => 215 | 317 => 214 | 318 => 216 | n => n), (fun x => match x with | 53 => 41 | 3 => 3 | 212 => 396 | 0 => 0 | 4 => 4 | 46 => 134 | 5 => 5 | 9 => 9 | n => n), (fun x => match x with | 17 => 0 | n => n)⟩
def ren283 : Go.Shelf.Ren := ⟨(fun x => match x with | 283 => 172 | n => n), (fun x => match x with | 3 => 3 | 9 => 9 | 4 => 4 | n => n), (fun n => n)⟩
set_option maxRecDepth 100000 in
theorem lay285 : LaysM.n285 Tryz.prog ren285 :=
  { mixed := by kernel_rfl, f285 := Eq.trans Tryz.func174 (congrArg some (by kernel_rfl)), t0 := Tryz.underlying0, a0 := Tryz.isAgg0, z0 := Tryz.sizeOf0, v0 := Tryz.zeroValue0, t3 := Tryz.underlying3, a3 := Tryz.isAgg3, z3 := Tryz.sizeOf3, v3 := Tryz.zeroValue3, t4 := Tryz.underlying4, a4 := Tryz.isAgg4, z4 := Tryz.sizeOf4, v4 := Tryz.zeroValue4, t5 := Tryz.underlying5, a5 := Tryz.isAgg5, z5 := Tryz.sizeOf5, v5 := Tryz.zeroValue5, t9 := Tryz.underlying9, a9 := Tryz.isAgg9, z9 := Tryz.sizeOf9, v9 := Tryz.zeroValue9, t37 := Tryz.underlying25, a37 := Tryz.isAgg25, z37 := Tryz.sizeOf25, v37 := Tryz.zeroValue25, t51 := Tryz.underlying45, a51 := Tryz.isAgg45, z51 := Tryz.sizeOf45, v51 := Tryz.zeroValue45, t53 := Tryz.underlying41, a53 := Tryz.isAgg41, z53 := Tryz.sizeOf41, v53 := Tryz.zeroValue41, i0 := by kernel_rfl, i3 := by kernel_rfl, i4 := by kernel_rfl, i5 := by kernel_rfl, i9 := by kernel_rfl, i37 := by kernel_rfl, i51 := by kernel_rfl, i53 := by kernel_rfl }
set_option maxRecDepth 100000 in
theorem lay284 : LaysM.n284 Tryz.prog ren284 :=
  { mixed := by kernel_rfl, f129 := Eq.trans Tryz.func215 (congrArg some (by kernel_rfl)), f284 := Eq.trans Tryz.func173 (congrArg some (by kernel_rfl)), f317 := Eq.trans Tryz.func214 (congrArg some (by kernel_rfl)), f318 := Eq.trans Tryz.func216 (congrArg some (by kernel_rfl)), t0 := Tryz.underlying0, a0 := Tryz.isAgg0, z0 := Tryz.sizeOf0, v0 := Tryz.zeroValue0, t3 := Tryz.underlying3, a3 := Tryz.isAgg3, z3 := Tryz.sizeOf3, v3 := Tryz.zeroValue3, t4 := Tryz.underlying4, a4 := Tryz.isAgg4, z4 := Tryz.sizeOf4, v4 := Tryz.zeroValue4, t5 := Tryz.underlying5, a5 := Tryz.isAgg5, z5 := Tryz.sizeOf5, v5 := Tryz.zeroValue5, t9 := Tryz.underlying9, a9 := Tryz.isAgg9, z9 := Tryz.sizeOf9, v9 := Tryz.zeroValue9, t46 := Tryz.underlying134, a46 := Tryz.isAgg134, z46 := Tryz.sizeOf134, v46 := Tryz.zeroValue134, t53 := Tryz.underlying41, a53 := Tryz.isAgg41, z53 := Tryz.sizeOf41, v53 := Tryz.zeroValue41, t212 := Tryz.underlying396, a212 := Tryz.isAgg396, z212 := Tryz.sizeOf396, v212 := Tryz.zeroValue396, g17 := by kernel_rfl, i0 := by kernel_rfl, i3 := by kernel_rfl, i4 := by kernel_rfl, i5 := by kernel_rfl, i9 := by kernel_rfl, i46 := by kernel_rfl, i53 := by kernel_rfl, i212 := by kernel_rfl, m17 := by kernel_rfl }
set_option maxRecDepth 100000 in
theorem lay283 : Lays.n283 Tryz.prog ren283 :=
  { mixed := by kernel_rfl, f283 := Eq.trans Tryz.func172 (congrArg some (by kernel_rfl)), t3 := Tryz.underlying3, a3 := Tryz.isAgg3, z3 := Tryz.sizeOf3, v3 := Tryz.zeroValue3, t4 := Tryz.underlying4, a4 := Tryz.isAgg4, z4 := Tryz.sizeOf4, v4 := Tryz.zeroValue4, t9 := Tryz.underlying9, a9 := Tryz.isAgg9, z9 := Tryz.sizeOf9, v9 := Tryz.zeroValue9 }
end Go.Proofs.YtkcpfhbfjpldhaaGreatDoor

/- strconv.FormatUint at base 10, for every number: out of the kit's contracts of small, numDigits, formatBase10. -/
namespace Go.Proofs.YtkcpfhbfjpldhaaGreatDoor
open Go.RowKit Go.Lib Go.Shelf
set_option linter.unusedVariables false

set_option maxHeartbeats 4000000 in
set_option maxRecDepth 100000 in
theorem fmt_any (u : Nat) (hu64 : u < 18446744073709551616) (w : World) (htab : Lib.TabIs Tryz.prog w "internal/strconv.uint64pow10" .u64 Lib.pow10Tab) :
    Calls Tryz.prog 73 #[.int .u64 u, .int .i64 10] w (Gives w (.string (str (Lib.decDigits u)))) := by
  by_cases hu : u < 100
  · exact fmt_small u _ rfl hu (fun W => (Any.internal_strconv_small lay283 u hu W).mono fun e w' ⟨h1, h2⟩ => ⟨h1, h2.symm⟩) w
  have hu1 : 1 ≤ u := by omega
  have hnd20 : Lib.nDigits u ≤ 20 := by have := Lib.numDigits_eq u hu1 hu64; split at this <;> omega
  have hal : (Tryz.prog).arrayLen 343 = 24 := by simp [Program.arrayLen, Tryz.underlying343]
  have hsl : ∀ W, (Instr.sliceAt 343 (.pointer (some ⟨w.heap.size, 0, none⟩)) none (some (.int .i64 (Lib.nDigits u : Int))) none).run Tryz.prog W = .ok (.slice (some ⟨w.heap.size, 0, none⟩) (Lib.nDigits u) 24) W := fun W => by
    rw [run_sliceAt_array_h W 343 ⟨w.heap.size, 0, none⟩ (by simp [Program.arrayLen, Program.elem, Tryz.underlying343]) .i64 (Lib.nDigits u : Int) (by omega) (by rw [hal]; omega)]
    go_simp
  have hH0 := Lib.holds_zero0 w 343 (Lib.nDigits u) (by omega)
  have hfmt := Any.internal_strconv_formatBase10 { lay285 with } w.heap.size 0 24 u (Array.replicate (Lib.nDigits u) 0) (w.alloc (.cells Lib.zeros24 343)) hH0 (by rw [Array.size_replicate]; exact Lib.lt_pow_nDigits u) hu64 (by rw [Array.size_replicate]; omega)
  rw [Array.size_replicate] at hfmt
  have HH0 := Lib.hid hH0
  have iu : ¬ (u : Int) < 100 := by omega
  clear hH0 hal
  go_enter Tryz.func73, Tryz.ntmps73
  go_wp2_with (first
    | (go_at_call 173; refine (Any.internal_strconv_numDigits lay284 u hu1 hu64 _ (Lib.tabIs_alloc htab _)).mono ?_; rintro e w' ⟨rfl, rfl⟩)
    | (go_at_call 124; go_in))
  refine hfmt.mono ?_
  rintro e w' ⟨rfl, k, v', dk, rfl, hF⟩
  have hcv : (convert 25 9 (.slice (some ⟨w.heap.size, 0, none⟩) (Lib.nDigits u) 24)).run Tryz.prog ((Sort.putRow (fun (b : UInt8) => Value.int .u8 (b.toNat : Int)) (w.alloc (.cells Lib.zeros24 343)) w.heap.size 0 dk).drewN k) = .ok (.string (str (Lib.decDigits u))) ((Sort.putRow (fun (b : UInt8) => Value.int .u8 (b.toNat : Int)) (w.alloc (.cells Lib.zeros24 343)) w.heap.size 0 dk).drewN k) := by
    have h := run_convert_bytes_back (P := Tryz.prog) ((Sort.putRow (fun (b : UInt8) => Value.int .u8 (b.toNat : Int)) (w.alloc (.cells Lib.zeros24 343)) w.heap.size 0 dk).drewN k) 25 9 5 ⟨w.heap.size, 0, none⟩ 24 (Lib.decDigits u) Tryz.underlying25 Tryz.underlying5 Tryz.underlying9 (fun j hj => by
      rw [Lib.row_is_numeral hF j hj, Lib.add_plain, World.cell?_drewN]
      exact Sort.cell?_putRow (fun (b : UInt8) => Value.int .u8 (b.toNat : Int)) _ w.heap.size 0 _ dk HH0.out (by rw [hF.size, Array.size_replicate]) j (by rw [hF.size]; rw [Lib.decDigits_length] at hj; exact hj))
    rw [Lib.decDigits_length] at h
    exact h
  obtain ⟨os, eo⟩ := Lib.fin_at w (.cells Lib.zeros24 343) dk k 0
  have hB : Below w.heap.size w ((Sort.putRow (fun (b : UInt8) => Value.int .u8 (b.toNat : Int)) (w.alloc (.cells Lib.zeros24 343)) w.heap.size 0 dk).drewN k) := by rw [eo]; exact Lib.below_grow w.heap.size w (Nat.le_refl _) k os
  clear eo hfmt HH0
  generalize ((Sort.putRow (fun (b : UInt8) => Value.int .u8 (b.toNat : Int)) (w.alloc (.cells Lib.zeros24 343)) w.heap.size 0 dk).drewN k) = W2 at hcv hB ⊢
  go_wp2_with fail
  go_ret
  exact ⟨rfl, hB⟩
end Go.Proofs.YtkcpfhbfjpldhaaGreatDoor

/- script.text for every list of numbers, the table given. -/
namespace Go.Proofs.YtkcpfhbfjpldhaaGreatDoor
open Go.RowKit
set_option linter.unusedVariables false
set_option maxRecDepth 100000 in
set_option maxHeartbeats 2000000 in
theorem text_tab (word : List UInt8) (hw : word.length ≤ 100) (l : List Nat) (hl : l.length ≤ 10) (hn : ∀ n ∈ l, n < 18446744073709551616) (A : Option Addr) (n cap : Nat) (w : World) (htab : Lib.TabIs Tryz.prog w "internal/strconv.uint64pow10" .u64 Lib.pow10Tab) (hr : RSl 1 RNum w l (.slice A n cap)) :
    Calls Tryz.prog 45 #[.string (str word), .slice A n cap] w (Gives w (.string (str (txt word l)))) := by
  obtain ⟨A', cap', hv, hcap, hi⟩ := hr
  injection hv with e1 e2 e3
  subst e1 e2 e3
  have HI := hide hi
  have HTb := hide (Lib.tabBelow_of_tabIs htab)
  have HN := hide hn
  clear hi hn htab
  go_enter Tryz.func45, Tryz.ntmps45
  go_wp2_with fail
  go_loopw [0, 6, 9] (fun s0 s6 j wr => ∃ k : Nat, k ≤ l.length ∧ j = .int .i64 k ∧ s0 = .string (str (txt word (l.take k))) ∧ Hd ((txt word (l.take k)).length ≤ 100 + 21 * k) ∧ Le w wr) (fun _ _ j _ => l.length - (intOf j).toNat)
  case atStart => exact ⟨0, by omega, rfl, by simp [txt], hide (by simp [txt]; omega), Le.refl _⟩
  case round =>
    obtain ⟨k, hk, rfl, rfl, HT, hle⟩ := hrel
    by_cases hlt : k < l.length
    · obtain ⟨b, off, rfl, hg⟩ := HI.out (by rintro rfl; simp at hlt)
      obtain ⟨cs, _, hc, hcs⟩ := hg k hlt
      subst hcs
      have c0 := hle.cell (show w.cell? ⟨b, off + k, none⟩ = some (.int .u64 l[k]) from by simpa using hc 0 (by omega))
      have HX := hide (show txt word (l.take (k + 1)) = txt word (l.take k) ++ (32 :: Lib.decDigits l[k]) by rw [txt, txt, List.take_succ_eq_append_getElem hlt, List.flatMap_append, List.flatMap_singleton, List.append_assoc])
      have HF := hide (HN.out l[k] (List.getElem_mem hlt))
      have hD := dec_len l[k] HF.out
      have hT := HT.out
      have hltI : (k : Int) < (l.length : Int) := by omega
      generalize l[k] = x at *
      generalize txt word (l.take k) = S at *
      clear hc hg HT
      go_wp2_with fail
      refine (fmt_any x HF.out wr (HTb.out wr hle.out)).mono ?_
      rintro r w2 ⟨rfl, hb2⟩
      have hle2 := hle.trans ⟨hb2⟩
      clear hb2
      generalize Lib.decDigits x = D at *
      go_wp2_with fail
      go_roundw
      case rel => exact ⟨k + 1, by omega, by go_num, by rw [HX.out]; rfl, hide (by rw [HX.out]; simp; omega), hle2⟩
      case measure => simp [intOf]; omega
    · obtain rfl : k = l.length := by omega
      have hltI : ¬ ((l.length : Nat) : Int) < (l.length : Int) := by omega
      rw [List.take_length]
      go_wp2_with fail
      go_ret
      exact ⟨rfl, hle.out⟩
end Go.Proofs.YtkcpfhbfjpldhaaGreatDoor
