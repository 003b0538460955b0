/- Texts of one claim, laid together: Lsh -/
import Derived.Test.YtkcpfhbfjpldhaaGreatDoorJo16
import Derived.Test.YtkcpfhbfjpldhaaGreatDoorJo17
import Derived.Test.YtkcpfhbfjpldhaaGreatDoorJo18
/- ScriptShows, kind by kind. (Written by gen_shows24.py.) -/
namespace Go.Proofs.YtkcpfhbfjpldhaaGreatDoor
open Go.RowKit
set_option linter.unusedVariables false
set_option linter.unusedSimpArgs false
set_option maxRecDepth 100000 in
set_option maxHeartbeats 1000000 in
theorem lawsh0 (ok : Int) (n sh id er ep who tr ss : Nat) (hn : n < 9223372036854775808) (hsh : sh < 9223372036854775808) (hid : id < 18446744073709551616) (her : er < 9223372036854775808) (hep : ep < 18446744073709551616) (hwho : who < 9223372036854775808) (htr : tr < 9223372036854775808) (hss : ss < 4294967296) (y5 y6 y7 y8 y9 y10 y11 y12 : Value) (y19 y20 y21 y22 : Int) (AO : Option Addr) (LO cO : Nat) (hLO : LO ≤ 300) (A : Option Addr) (L c : Nat) (hL : L ≤ 300) (w : World) (htab : Lib.TabIs Tryz.prog w "internal/strconv.uint64pow10" .u64 Lib.pow10Tab) :
    Calls Tryz.prog 6 #[.agg #[.int .i64 0, .int .i64 n, .int .i64 sh, .int .u64 id, .int .i64 er, y5, y6, y7, y8, y9, y10, y11, y12, .int .u64 ep, .int .i64 ok, .int .i64 who, .int .i64 tr, .int .u32 ss, .slice AO LO cO, .int .i64 y19, .int .u64 y20, .int .i64 y21, .int .u32 y22, .slice A L c]] w (Gives w (.bool true)) := by
  have q1 : IntKind.u64.wrap (L : Int) = L := IntWalk.u64_in _ (by omega)
  have q2 : IntKind.u64.wrap (n : Int) = n := IntWalk.u64_in _ (by omega)
  have q3 : IntKind.u64.wrap (er : Int) = er := IntWalk.u64_in _ (by omega)
  have q4 : IntKind.u64.wrap (sh : Int) = sh := IntWalk.u64_in _ (by omega)
  have q5 : IntKind.u64.wrap (who : Int) = who := IntWalk.u64_in _ (by omega)
  have q6 : IntKind.u64.wrap (tr : Int) = tr := IntWalk.u64_in _ (by omega)
  have q7 : IntKind.u64.wrap (ss : Int) = ss := IntWalk.u64_in _ (by omega)
  have q8 : IntKind.u64.wrap (LO : Int) = LO := IntWalk.u64_in _ (by omega)
  have i1 : ¬ (n : Int) < 0 := by omega
  have i2 : ¬ (sh : Int) < 0 := by omega
  have i3 : ¬ (er : Int) < 0 := by omega
  have i4 : ¬ (who : Int) < 0 := by omega
  have i5 : ¬ (tr : Int) < 0 := by omega
  have i6 : ¬ 300 < (L : Int) := by omega
  have i7 : ¬ 300 < (LO : Int) := by omega
  have HTb := hide (fun (W : World) (hW : Le w W) => Lib.tabBelow_of_tabIs htab W hW.out)
  clear htab
  have HF := hide (show ∀ x ∈ ([L] : List Nat), x < 18446744073709551616 by intro x hx; simp only [List.mem_cons, List.not_mem_nil, or_false] at hx; omega)
  obtain ⟨S, HS⟩ : ∃ S, S = str (txt [99, 97, 108, 108] [L]) := ⟨_, rfl⟩
  have HSH := hide (fun (W : World) (hT : Lib.TabIs Tryz.prog W "internal/strconv.uint64pow10" .u64 Lib.pow10Tab) => shows0 n sh id er ep hn hsh hid her hep y5 y6 y7 y8 y9 y10 y11 y12 (.int .i64 ok) (.int .i64 who) (.int .i64 tr) (.int .u32 ss) (.slice AO LO cO) (.int .i64 y19) (.int .u64 y20) (.int .i64 y21) (.int .u32 y22) A L c (by omega) W hT)
  rw [← HS] at HSH
  clear hn hsh hid her hep hwho htr hss
  go_enter Tryz.func6, Tryz.ntmps6
  go_wp2_with fail
  refine (awake24 _).mono ?_
  rintro r w2 ⟨rfl, hb2⟩
  have HE := hide ((Le.mk hb2).heap (heap_alloc_new w (.cells #[.int .i64 0, .int .i64 n, .int .i64 sh, .int .u64 id, .int .i64 er, y5, y6, y7, y8, y9, y10, y11, y12, .int .u64 ep, .int .i64 ok, .int .i64 who, .int .i64 tr, .int .u32 ss, .slice AO LO cO, .int .i64 y19, .int .u64 y20, .int .i64 y21, .int .u32 y22, .slice A L c] 51)))
  have HL := hide (((Le.refl w).alloc (.cells #[.int .i64 0, .int .i64 n, .int .i64 sh, .int .u64 id, .int .i64 er, y5, y6, y7, y8, y9, y10, y11, y12, .int .u64 ep, .int .i64 ok, .int .i64 who, .int .i64 tr, .int .u32 ss, .slice AO LO cO, .int .i64 y19, .int .u64 y20, .int .i64 y21, .int .u32 y22, .slice A L c] 51)).trans (Le.mk hb2))
  clear hb2
  generalize w.heap.size = p at *
  have z0 : w2.cell? ⟨p, 0, none⟩ = some (.int .i64 0) := cell_block HE.out 0
  have z1 : w2.cell? ⟨p, 1, none⟩ = some (.int .i64 n) := cell_block HE.out 1
  have z2 : w2.cell? ⟨p, 2, none⟩ = some (.int .i64 sh) := cell_block HE.out 2
  have z3 : w2.cell? ⟨p, 3, none⟩ = some (.int .u64 id) := cell_block HE.out 3
  have z4 : w2.cell? ⟨p, 4, none⟩ = some (.int .i64 er) := cell_block HE.out 4
  have z13 : w2.cell? ⟨p, 13, none⟩ = some (.int .u64 ep) := cell_block HE.out 13
  have z14 : w2.cell? ⟨p, 14, none⟩ = some (.int .i64 ok) := cell_block HE.out 14
  have z15 : w2.cell? ⟨p, 15, none⟩ = some (.int .i64 who) := cell_block HE.out 15
  have z16 : w2.cell? ⟨p, 16, none⟩ = some (.int .i64 tr) := cell_block HE.out 16
  have z17 : w2.cell? ⟨p, 17, none⟩ = some (.int .u32 ss) := cell_block HE.out 17
  have z18 : w2.cell? ⟨p, 18, none⟩ = some (.slice AO LO cO) := cell_block HE.out 18
  have z23 : w2.cell? ⟨p, 23, none⟩ = some (.slice A L c) := cell_block HE.out 23
  go_wp2_with fail
  refine (rtext_any [99, 97, 108, 108] (by simp) [L] (by simp) HF.out _ _ _ _ (rsl_nums w2 [L] 41)).mono ?_
  rintro r w3 ⟨rfl, hb3⟩
  rw [← HS]
  have HL3 := hide (((Le.refl w2).alloc _).trans (Le.mk hb3))
  clear hb3 HF HS
  have HE3 := hide (HL3.out.heap HE.out)
  have HT3 := hide (HTb.out w3 (HL.out.trans HL3.out))
  have HL4 := hide (HL.out.trans HL3.out)
  clear z0 z1 z2 z3 z4 z13 z14 z15 z16 z17 z18 z23 HL HL3 HE HTb
  go_wp2_with (refine wpl_load_blk rfl 51 (.tmp 1) rfl (cs := [.int .i64 0, .int .i64 n, .int .i64 sh, .int .u64 id, .int .i64 er, y5, y6, y7, y8, y9, y10, y11, y12, .int .u64 ep, .int .i64 ok, .int .i64 who, .int .i64 tr, .int .u32 ss, .slice AO LO cO, .int .i64 y19, .int .u64 y20, .int .i64 y21, .int .u32 y22, .slice A L c]) _ rfl Tryz.underlying51 rfl (by kernel_rfl) HE3.out ?_)
  refine (HSH.out _ HT3.out).mono ?_
  rintro r w5 ⟨rfl, hb5⟩
  have HL5 := hide (HL4.out.trans (Le.mk hb5))
  clear hb5 HSH HT3 HL4
  go_wp2_with fail
  go_ret
  exact ⟨by simp, HL5.out.out⟩
set_option maxRecDepth 100000 in
set_option maxHeartbeats 1000000 in
theorem lawsh1 (ok : Int) (n sh id er ep who tr ss : Nat) (hn : n < 9223372036854775808) (hsh : sh < 9223372036854775808) (hid : id < 18446744073709551616) (her : er < 9223372036854775808) (hep : ep < 18446744073709551616) (hwho : who < 9223372036854775808) (htr : tr < 9223372036854775808) (hss : ss < 4294967296) (y5 y6 y7 y8 y9 y10 y11 y12 : Value) (y19 y20 y21 y22 : Int) (AO : Option Addr) (LO cO : Nat) (hLO : LO ≤ 300) (A : Option Addr) (L c : Nat) (hL : L ≤ 300) (w : World) (htab : Lib.TabIs Tryz.prog w "internal/strconv.uint64pow10" .u64 Lib.pow10Tab) :
    Calls Tryz.prog 6 #[.agg #[.int .i64 1, .int .i64 n, .int .i64 sh, .int .u64 id, .int .i64 er, y5, y6, y7, y8, y9, y10, y11, y12, .int .u64 ep, .int .i64 ok, .int .i64 who, .int .i64 tr, .int .u32 ss, .slice AO LO cO, .int .i64 y19, .int .u64 y20, .int .i64 y21, .int .u32 y22, .slice A L c]] w (Gives w (.bool true)) := by
  have q1 : IntKind.u64.wrap (L : Int) = L := IntWalk.u64_in _ (by omega)
  have q2 : IntKind.u64.wrap (n : Int) = n := IntWalk.u64_in _ (by omega)
  have q3 : IntKind.u64.wrap (er : Int) = er := IntWalk.u64_in _ (by omega)
  have q4 : IntKind.u64.wrap (sh : Int) = sh := IntWalk.u64_in _ (by omega)
  have q5 : IntKind.u64.wrap (who : Int) = who := IntWalk.u64_in _ (by omega)
  have q6 : IntKind.u64.wrap (tr : Int) = tr := IntWalk.u64_in _ (by omega)
  have q7 : IntKind.u64.wrap (ss : Int) = ss := IntWalk.u64_in _ (by omega)
  have q8 : IntKind.u64.wrap (LO : Int) = LO := IntWalk.u64_in _ (by omega)
  have i1 : ¬ (n : Int) < 0 := by omega
  have i2 : ¬ (sh : Int) < 0 := by omega
  have i3 : ¬ (er : Int) < 0 := by omega
  have i4 : ¬ (who : Int) < 0 := by omega
  have i5 : ¬ (tr : Int) < 0 := by omega
  have i6 : ¬ 300 < (L : Int) := by omega
  have i7 : ¬ 300 < (LO : Int) := by omega
  have HTb := hide (fun (W : World) (hW : Le w W) => Lib.tabBelow_of_tabIs htab W hW.out)
  clear htab
  have HF := hide (show ∀ x ∈ ([n, id, er] : List Nat), x < 18446744073709551616 by intro x hx; simp only [List.mem_cons, List.not_mem_nil, or_false] at hx; omega)
  obtain ⟨S, HS⟩ : ∃ S, S = str (txt [100, 105, 100] [n, id, er]) := ⟨_, rfl⟩
  have HSH := hide (fun (W : World) (hT : Lib.TabIs Tryz.prog W "internal/strconv.uint64pow10" .u64 Lib.pow10Tab) => shows1 n sh id er ep hn hsh hid her hep y5 y6 y7 y8 y9 y10 y11 y12 (.int .i64 ok) (.int .i64 who) (.int .i64 tr) (.int .u32 ss) (.slice AO LO cO) (.int .i64 y19) (.int .u64 y20) (.int .i64 y21) (.int .u32 y22) A L c (by omega) W hT)
  rw [← HS] at HSH
  clear hn hsh hid her hep hwho htr hss
  go_enter Tryz.func6, Tryz.ntmps6
  go_wp2_with fail
  refine (awake24 _).mono ?_
  rintro r w2 ⟨rfl, hb2⟩
  have HE := hide ((Le.mk hb2).heap (heap_alloc_new w (.cells #[.int .i64 1, .int .i64 n, .int .i64 sh, .int .u64 id, .int .i64 er, y5, y6, y7, y8, y9, y10, y11, y12, .int .u64 ep, .int .i64 ok, .int .i64 who, .int .i64 tr, .int .u32 ss, .slice AO LO cO, .int .i64 y19, .int .u64 y20, .int .i64 y21, .int .u32 y22, .slice A L c] 51)))
  have HL := hide (((Le.refl w).alloc (.cells #[.int .i64 1, .int .i64 n, .int .i64 sh, .int .u64 id, .int .i64 er, y5, y6, y7, y8, y9, y10, y11, y12, .int .u64 ep, .int .i64 ok, .int .i64 who, .int .i64 tr, .int .u32 ss, .slice AO LO cO, .int .i64 y19, .int .u64 y20, .int .i64 y21, .int .u32 y22, .slice A L c] 51)).trans (Le.mk hb2))
  clear hb2
  generalize w.heap.size = p at *
  have z0 : w2.cell? ⟨p, 0, none⟩ = some (.int .i64 1) := cell_block HE.out 0
  have z1 : w2.cell? ⟨p, 1, none⟩ = some (.int .i64 n) := cell_block HE.out 1
  have z2 : w2.cell? ⟨p, 2, none⟩ = some (.int .i64 sh) := cell_block HE.out 2
  have z3 : w2.cell? ⟨p, 3, none⟩ = some (.int .u64 id) := cell_block HE.out 3
  have z4 : w2.cell? ⟨p, 4, none⟩ = some (.int .i64 er) := cell_block HE.out 4
  have z13 : w2.cell? ⟨p, 13, none⟩ = some (.int .u64 ep) := cell_block HE.out 13
  have z14 : w2.cell? ⟨p, 14, none⟩ = some (.int .i64 ok) := cell_block HE.out 14
  have z15 : w2.cell? ⟨p, 15, none⟩ = some (.int .i64 who) := cell_block HE.out 15
  have z16 : w2.cell? ⟨p, 16, none⟩ = some (.int .i64 tr) := cell_block HE.out 16
  have z17 : w2.cell? ⟨p, 17, none⟩ = some (.int .u32 ss) := cell_block HE.out 17
  have z18 : w2.cell? ⟨p, 18, none⟩ = some (.slice AO LO cO) := cell_block HE.out 18
  have z23 : w2.cell? ⟨p, 23, none⟩ = some (.slice A L c) := cell_block HE.out 23
  go_wp2_with fail
  refine (rtext_any [100, 105, 100] (by simp) [n, id, er] (by simp) HF.out _ _ _ _ (rsl_nums w2 [n, id, er] 41)).mono ?_
  rintro r w3 ⟨rfl, hb3⟩
  rw [← HS]
  have HL3 := hide (((Le.refl w2).alloc _).trans (Le.mk hb3))
  clear hb3 HF HS
  have HE3 := hide (HL3.out.heap HE.out)
  have HT3 := hide (HTb.out w3 (HL.out.trans HL3.out))
  have HL4 := hide (HL.out.trans HL3.out)
  clear z0 z1 z2 z3 z4 z13 z14 z15 z16 z17 z18 z23 HL HL3 HE HTb
  go_wp2_with (refine wpl_load_blk rfl 51 (.tmp 1) rfl (cs := [.int .i64 1, .int .i64 n, .int .i64 sh, .int .u64 id, .int .i64 er, y5, y6, y7, y8, y9, y10, y11, y12, .int .u64 ep, .int .i64 ok, .int .i64 who, .int .i64 tr, .int .u32 ss, .slice AO LO cO, .int .i64 y19, .int .u64 y20, .int .i64 y21, .int .u32 y22, .slice A L c]) _ rfl Tryz.underlying51 rfl (by kernel_rfl) HE3.out ?_)
  refine (HSH.out _ HT3.out).mono ?_
  rintro r w5 ⟨rfl, hb5⟩
  have HL5 := hide (HL4.out.trans (Le.mk hb5))
  clear hb5 HSH HT3 HL4
  go_wp2_with fail
  go_ret
  exact ⟨by simp, HL5.out.out⟩
set_option maxRecDepth 100000 in
set_option maxHeartbeats 1000000 in
theorem lawsh2 (ok : Int) (n sh id er ep who tr ss : Nat) (hn : n < 9223372036854775808) (hsh : sh < 9223372036854775808) (hid : id < 18446744073709551616) (her : er < 9223372036854775808) (hep : ep < 18446744073709551616) (hwho : who < 9223372036854775808) (htr : tr < 9223372036854775808) (hss : ss < 4294967296) (y5 y6 y7 y8 y9 y10 y11 y12 : Value) (y19 y20 y21 y22 : Int) (AO : Option Addr) (LO cO : Nat) (hLO : LO ≤ 300) (A : Option Addr) (L c : Nat) (hL : L ≤ 300) (w : World) (htab : Lib.TabIs Tryz.prog w "internal/strconv.uint64pow10" .u64 Lib.pow10Tab) :
    Calls Tryz.prog 6 #[.agg #[.int .i64 2, .int .i64 n, .int .i64 sh, .int .u64 id, .int .i64 er, y5, y6, y7, y8, y9, y10, y11, y12, .int .u64 ep, .int .i64 ok, .int .i64 who, .int .i64 tr, .int .u32 ss, .slice AO LO cO, .int .i64 y19, .int .u64 y20, .int .i64 y21, .int .u32 y22, .slice A L c]] w (Gives w (.bool true)) := by
  have q1 : IntKind.u64.wrap (L : Int) = L := IntWalk.u64_in _ (by omega)
  have q2 : IntKind.u64.wrap (n : Int) = n := IntWalk.u64_in _ (by omega)
  have q3 : IntKind.u64.wrap (er : Int) = er := IntWalk.u64_in _ (by omega)
  have q4 : IntKind.u64.wrap (sh : Int) = sh := IntWalk.u64_in _ (by omega)
  have q5 : IntKind.u64.wrap (who : Int) = who := IntWalk.u64_in _ (by omega)
  have q6 : IntKind.u64.wrap (tr : Int) = tr := IntWalk.u64_in _ (by omega)
  have q7 : IntKind.u64.wrap (ss : Int) = ss := IntWalk.u64_in _ (by omega)
  have q8 : IntKind.u64.wrap (LO : Int) = LO := IntWalk.u64_in _ (by omega)
  have i1 : ¬ (n : Int) < 0 := by omega
  have i2 : ¬ (sh : Int) < 0 := by omega
  have i3 : ¬ (er : Int) < 0 := by omega
  have i4 : ¬ (who : Int) < 0 := by omega
  have i5 : ¬ (tr : Int) < 0 := by omega
  have i6 : ¬ 300 < (L : Int) := by omega
  have i7 : ¬ 300 < (LO : Int) := by omega
  have HTb := hide (fun (W : World) (hW : Le w W) => Lib.tabBelow_of_tabIs htab W hW.out)
  clear htab
  have HF := hide (show ∀ x ∈ ([n, id, er] : List Nat), x < 18446744073709551616 by intro x hx; simp only [List.mem_cons, List.not_mem_nil, or_false] at hx; omega)
  obtain ⟨S, HS⟩ : ∃ S, S = str (txt [114, 101, 112, 108, 121] [n, id, er]) := ⟨_, rfl⟩
  have HSH := hide (fun (W : World) (hT : Lib.TabIs Tryz.prog W "internal/strconv.uint64pow10" .u64 Lib.pow10Tab) => shows2 n sh id er ep hn hsh hid her hep y5 y6 y7 y8 y9 y10 y11 y12 (.int .i64 ok) (.int .i64 who) (.int .i64 tr) (.int .u32 ss) (.slice AO LO cO) (.int .i64 y19) (.int .u64 y20) (.int .i64 y21) (.int .u32 y22) A L c (by omega) W hT)
  rw [← HS] at HSH
  clear hn hsh hid her hep hwho htr hss
  go_enter Tryz.func6, Tryz.ntmps6
  go_wp2_with fail
  refine (awake24 _).mono ?_
  rintro r w2 ⟨rfl, hb2⟩
  have HE := hide ((Le.mk hb2).heap (heap_alloc_new w (.cells #[.int .i64 2, .int .i64 n, .int .i64 sh, .int .u64 id, .int .i64 er, y5, y6, y7, y8, y9, y10, y11, y12, .int .u64 ep, .int .i64 ok, .int .i64 who, .int .i64 tr, .int .u32 ss, .slice AO LO cO, .int .i64 y19, .int .u64 y20, .int .i64 y21, .int .u32 y22, .slice A L c] 51)))
  have HL := hide (((Le.refl w).alloc (.cells #[.int .i64 2, .int .i64 n, .int .i64 sh, .int .u64 id, .int .i64 er, y5, y6, y7, y8, y9, y10, y11, y12, .int .u64 ep, .int .i64 ok, .int .i64 who, .int .i64 tr, .int .u32 ss, .slice AO LO cO, .int .i64 y19, .int .u64 y20, .int .i64 y21, .int .u32 y22, .slice A L c] 51)).trans (Le.mk hb2))
  clear hb2
  generalize w.heap.size = p at *
  have z0 : w2.cell? ⟨p, 0, none⟩ = some (.int .i64 2) := cell_block HE.out 0
  have z1 : w2.cell? ⟨p, 1, none⟩ = some (.int .i64 n) := cell_block HE.out 1
  have z2 : w2.cell? ⟨p, 2, none⟩ = some (.int .i64 sh) := cell_block HE.out 2
  have z3 : w2.cell? ⟨p, 3, none⟩ = some (.int .u64 id) := cell_block HE.out 3
  have z4 : w2.cell? ⟨p, 4, none⟩ = some (.int .i64 er) := cell_block HE.out 4
  have z13 : w2.cell? ⟨p, 13, none⟩ = some (.int .u64 ep) := cell_block HE.out 13
  have z14 : w2.cell? ⟨p, 14, none⟩ = some (.int .i64 ok) := cell_block HE.out 14
  have z15 : w2.cell? ⟨p, 15, none⟩ = some (.int .i64 who) := cell_block HE.out 15
  have z16 : w2.cell? ⟨p, 16, none⟩ = some (.int .i64 tr) := cell_block HE.out 16
  have z17 : w2.cell? ⟨p, 17, none⟩ = some (.int .u32 ss) := cell_block HE.out 17
  have z18 : w2.cell? ⟨p, 18, none⟩ = some (.slice AO LO cO) := cell_block HE.out 18
  have z23 : w2.cell? ⟨p, 23, none⟩ = some (.slice A L c) := cell_block HE.out 23
  go_wp2_with fail
  refine (rtext_any [114, 101, 112, 108, 121] (by simp) [n, id, er] (by simp) HF.out _ _ _ _ (rsl_nums w2 [n, id, er] 41)).mono ?_
  rintro r w3 ⟨rfl, hb3⟩
  rw [← HS]
  have HL3 := hide (((Le.refl w2).alloc _).trans (Le.mk hb3))
  clear hb3 HF HS
  have HE3 := hide (HL3.out.heap HE.out)
  have HT3 := hide (HTb.out w3 (HL.out.trans HL3.out))
  have HL4 := hide (HL.out.trans HL3.out)
  clear z0 z1 z2 z3 z4 z13 z14 z15 z16 z17 z18 z23 HL HL3 HE HTb
  go_wp2_with (refine wpl_load_blk rfl 51 (.tmp 1) rfl (cs := [.int .i64 2, .int .i64 n, .int .i64 sh, .int .u64 id, .int .i64 er, y5, y6, y7, y8, y9, y10, y11, y12, .int .u64 ep, .int .i64 ok, .int .i64 who, .int .i64 tr, .int .u32 ss, .slice AO LO cO, .int .i64 y19, .int .u64 y20, .int .i64 y21, .int .u32 y22, .slice A L c]) _ rfl Tryz.underlying51 rfl (by kernel_rfl) HE3.out ?_)
  refine (HSH.out _ HT3.out).mono ?_
  rintro r w5 ⟨rfl, hb5⟩
  have HL5 := hide (HL4.out.trans (Le.mk hb5))
  clear hb5 HSH HT3 HL4
  go_wp2_with fail
  go_ret
  exact ⟨by simp, HL5.out.out⟩
set_option maxRecDepth 100000 in
set_option maxHeartbeats 1000000 in
theorem lawsh3 (ok : Int) (n sh id er ep who tr ss : Nat) (hn : n < 9223372036854775808) (hsh : sh < 9223372036854775808) (hid : id < 18446744073709551616) (her : er < 9223372036854775808) (hep : ep < 18446744073709551616) (hwho : who < 9223372036854775808) (htr : tr < 9223372036854775808) (hss : ss < 4294967296) (y5 y6 y7 y8 y9 y10 y11 y12 : Value) (y19 y20 y21 y22 : Int) (AO : Option Addr) (LO cO : Nat) (hLO : LO ≤ 300) (A : Option Addr) (L c : Nat) (hL : L ≤ 300) (w : World) (htab : Lib.TabIs Tryz.prog w "internal/strconv.uint64pow10" .u64 Lib.pow10Tab) :
    Calls Tryz.prog 6 #[.agg #[.int .i64 3, .int .i64 n, .int .i64 sh, .int .u64 id, .int .i64 er, y5, y6, y7, y8, y9, y10, y11, y12, .int .u64 ep, .int .i64 ok, .int .i64 who, .int .i64 tr, .int .u32 ss, .slice AO LO cO, .int .i64 y19, .int .u64 y20, .int .i64 y21, .int .u32 y22, .slice A L c]] w (Gives w (.bool true)) := by
  have q1 : IntKind.u64.wrap (L : Int) = L := IntWalk.u64_in _ (by omega)
  have q2 : IntKind.u64.wrap (n : Int) = n := IntWalk.u64_in _ (by omega)
  have q3 : IntKind.u64.wrap (er : Int) = er := IntWalk.u64_in _ (by omega)
  have q4 : IntKind.u64.wrap (sh : Int) = sh := IntWalk.u64_in _ (by omega)
  have q5 : IntKind.u64.wrap (who : Int) = who := IntWalk.u64_in _ (by omega)
  have q6 : IntKind.u64.wrap (tr : Int) = tr := IntWalk.u64_in _ (by omega)
  have q7 : IntKind.u64.wrap (ss : Int) = ss := IntWalk.u64_in _ (by omega)
  have q8 : IntKind.u64.wrap (LO : Int) = LO := IntWalk.u64_in _ (by omega)
  have i1 : ¬ (n : Int) < 0 := by omega
  have i2 : ¬ (sh : Int) < 0 := by omega
  have i3 : ¬ (er : Int) < 0 := by omega
  have i4 : ¬ (who : Int) < 0 := by omega
  have i5 : ¬ (tr : Int) < 0 := by omega
  have i6 : ¬ 300 < (L : Int) := by omega
  have i7 : ¬ 300 < (LO : Int) := by omega
  have HTb := hide (fun (W : World) (hW : Le w W) => Lib.tabBelow_of_tabIs htab W hW.out)
  clear htab
  have HF := hide (show ∀ x ∈ ([sh, L] : List Nat), x < 18446744073709551616 by intro x hx; simp only [List.mem_cons, List.not_mem_nil, or_false] at hx; omega)
  obtain ⟨S, HS⟩ : ∃ S, S = str (txt [97, 114, 114, 105, 118, 101] [sh, L]) := ⟨_, rfl⟩
  have HSH := hide (fun (W : World) (hT : Lib.TabIs Tryz.prog W "internal/strconv.uint64pow10" .u64 Lib.pow10Tab) => shows3 n sh id er ep hn hsh hid her hep y5 y6 y7 y8 y9 y10 y11 y12 (.int .i64 ok) (.int .i64 who) (.int .i64 tr) (.int .u32 ss) (.slice AO LO cO) (.int .i64 y19) (.int .u64 y20) (.int .i64 y21) (.int .u32 y22) A L c (by omega) W hT)
  rw [← HS] at HSH
  clear hn hsh hid her hep hwho htr hss
  go_enter Tryz.func6, Tryz.ntmps6
  go_wp2_with fail
  refine (awake24 _).mono ?_
  rintro r w2 ⟨rfl, hb2⟩
  have HE := hide ((Le.mk hb2).heap (heap_alloc_new w (.cells #[.int .i64 3, .int .i64 n, .int .i64 sh, .int .u64 id, .int .i64 er, y5, y6, y7, y8, y9, y10, y11, y12, .int .u64 ep, .int .i64 ok, .int .i64 who, .int .i64 tr, .int .u32 ss, .slice AO LO cO, .int .i64 y19, .int .u64 y20, .int .i64 y21, .int .u32 y22, .slice A L c] 51)))
  have HL := hide (((Le.refl w).alloc (.cells #[.int .i64 3, .int .i64 n, .int .i64 sh, .int .u64 id, .int .i64 er, y5, y6, y7, y8, y9, y10, y11, y12, .int .u64 ep, .int .i64 ok, .int .i64 who, .int .i64 tr, .int .u32 ss, .slice AO LO cO, .int .i64 y19, .int .u64 y20, .int .i64 y21, .int .u32 y22, .slice A L c] 51)).trans (Le.mk hb2))
  clear hb2
  generalize w.heap.size = p at *
  have z0 : w2.cell? ⟨p, 0, none⟩ = some (.int .i64 3) := cell_block HE.out 0
  have z1 : w2.cell? ⟨p, 1, none⟩ = some (.int .i64 n) := cell_block HE.out 1
  have z2 : w2.cell? ⟨p, 2, none⟩ = some (.int .i64 sh) := cell_block HE.out 2
  have z3 : w2.cell? ⟨p, 3, none⟩ = some (.int .u64 id) := cell_block HE.out 3
  have z4 : w2.cell? ⟨p, 4, none⟩ = some (.int .i64 er) := cell_block HE.out 4
  have z13 : w2.cell? ⟨p, 13, none⟩ = some (.int .u64 ep) := cell_block HE.out 13
  have z14 : w2.cell? ⟨p, 14, none⟩ = some (.int .i64 ok) := cell_block HE.out 14
  have z15 : w2.cell? ⟨p, 15, none⟩ = some (.int .i64 who) := cell_block HE.out 15
  have z16 : w2.cell? ⟨p, 16, none⟩ = some (.int .i64 tr) := cell_block HE.out 16
  have z17 : w2.cell? ⟨p, 17, none⟩ = some (.int .u32 ss) := cell_block HE.out 17
  have z18 : w2.cell? ⟨p, 18, none⟩ = some (.slice AO LO cO) := cell_block HE.out 18
  have z23 : w2.cell? ⟨p, 23, none⟩ = some (.slice A L c) := cell_block HE.out 23
  go_wp2_with fail
  refine (rtext_any [97, 114, 114, 105, 118, 101] (by simp) [sh, L] (by simp) HF.out _ _ _ _ (rsl_nums w2 [sh, L] 41)).mono ?_
  rintro r w3 ⟨rfl, hb3⟩
  rw [← HS]
  have HL3 := hide (((Le.refl w2).alloc _).trans (Le.mk hb3))
  clear hb3 HF HS
  have HE3 := hide (HL3.out.heap HE.out)
  have HT3 := hide (HTb.out w3 (HL.out.trans HL3.out))
  have HL4 := hide (HL.out.trans HL3.out)
  clear z0 z1 z2 z3 z4 z13 z14 z15 z16 z17 z18 z23 HL HL3 HE HTb
  go_wp2_with (refine wpl_load_blk rfl 51 (.tmp 1) rfl (cs := [.int .i64 3, .int .i64 n, .int .i64 sh, .int .u64 id, .int .i64 er, y5, y6, y7, y8, y9, y10, y11, y12, .int .u64 ep, .int .i64 ok, .int .i64 who, .int .i64 tr, .int .u32 ss, .slice AO LO cO, .int .i64 y19, .int .u64 y20, .int .i64 y21, .int .u32 y22, .slice A L c]) _ rfl Tryz.underlying51 rfl (by kernel_rfl) HE3.out ?_)
  refine (HSH.out _ HT3.out).mono ?_
  rintro r w5 ⟨rfl, hb5⟩
  have HL5 := hide (HL4.out.trans (Le.mk hb5))
  clear hb5 HSH HT3 HL4
  go_wp2_with fail
  go_ret
  exact ⟨by simp, HL5.out.out⟩
set_option maxRecDepth 100000 in
set_option maxHeartbeats 1000000 in
theorem lawsh4 (ok : Int) (n sh id er ep who tr ss : Nat) (hn : n < 9223372036854775808) (hsh : sh < 9223372036854775808) (hid : id < 18446744073709551616) (her : er < 9223372036854775808) (hep : ep < 18446744073709551616) (hwho : who < 9223372036854775808) (htr : tr < 9223372036854775808) (hss : ss < 4294967296) (y5 y6 y7 y8 y9 y10 y11 y12 : Value) (y19 y20 y21 y22 : Int) (AO : Option Addr) (LO cO : Nat) (hLO : LO ≤ 300) (A : Option Addr) (L c : Nat) (hL : L ≤ 300) (w : World) (htab : Lib.TabIs Tryz.prog w "internal/strconv.uint64pow10" .u64 Lib.pow10Tab) :
    Calls Tryz.prog 6 #[.agg #[.int .i64 4, .int .i64 n, .int .i64 sh, .int .u64 id, .int .i64 er, y5, y6, y7, y8, y9, y10, y11, y12, .int .u64 ep, .int .i64 ok, .int .i64 who, .int .i64 tr, .int .u32 ss, .slice AO LO cO, .int .i64 y19, .int .u64 y20, .int .i64 y21, .int .u32 y22, .slice A L c]] w (Gives w (.bool true)) := by
  have q1 : IntKind.u64.wrap (L : Int) = L := IntWalk.u64_in _ (by omega)
  have q2 : IntKind.u64.wrap (n : Int) = n := IntWalk.u64_in _ (by omega)
  have q3 : IntKind.u64.wrap (er : Int) = er := IntWalk.u64_in _ (by omega)
  have q4 : IntKind.u64.wrap (sh : Int) = sh := IntWalk.u64_in _ (by omega)
  have q5 : IntKind.u64.wrap (who : Int) = who := IntWalk.u64_in _ (by omega)
  have q6 : IntKind.u64.wrap (tr : Int) = tr := IntWalk.u64_in _ (by omega)
  have q7 : IntKind.u64.wrap (ss : Int) = ss := IntWalk.u64_in _ (by omega)
  have q8 : IntKind.u64.wrap (LO : Int) = LO := IntWalk.u64_in _ (by omega)
  have i1 : ¬ (n : Int) < 0 := by omega
  have i2 : ¬ (sh : Int) < 0 := by omega
  have i3 : ¬ (er : Int) < 0 := by omega
  have i4 : ¬ (who : Int) < 0 := by omega
  have i5 : ¬ (tr : Int) < 0 := by omega
  have i6 : ¬ 300 < (L : Int) := by omega
  have i7 : ¬ 300 < (LO : Int) := by omega
  have HTb := hide (fun (W : World) (hW : Le w W) => Lib.tabBelow_of_tabIs htab W hW.out)
  clear htab
  have HF := hide (show ∀ x ∈ ([L] : List Nat), x < 18446744073709551616 by intro x hx; simp only [List.mem_cons, List.not_mem_nil, or_false] at hx; omega)
  obtain ⟨S, HS⟩ : ∃ S, S = str (txt [108, 111, 115, 116] [L]) := ⟨_, rfl⟩
  have HSH := hide (fun (W : World) (hT : Lib.TabIs Tryz.prog W "internal/strconv.uint64pow10" .u64 Lib.pow10Tab) => shows4 n sh id er ep hn hsh hid her hep y5 y6 y7 y8 y9 y10 y11 y12 (.int .i64 ok) (.int .i64 who) (.int .i64 tr) (.int .u32 ss) (.slice AO LO cO) (.int .i64 y19) (.int .u64 y20) (.int .i64 y21) (.int .u32 y22) A L c (by omega) W hT)
  rw [← HS] at HSH
  clear hn hsh hid her hep hwho htr hss
  go_enter Tryz.func6, Tryz.ntmps6
  go_wp2_with fail
  refine (awake24 _).mono ?_
  rintro r w2 ⟨rfl, hb2⟩
  have HE := hide ((Le.mk hb2).heap (heap_alloc_new w (.cells #[.int .i64 4, .int .i64 n, .int .i64 sh, .int .u64 id, .int .i64 er, y5, y6, y7, y8, y9, y10, y11, y12, .int .u64 ep, .int .i64 ok, .int .i64 who, .int .i64 tr, .int .u32 ss, .slice AO LO cO, .int .i64 y19, .int .u64 y20, .int .i64 y21, .int .u32 y22, .slice A L c] 51)))
  have HL := hide (((Le.refl w).alloc (.cells #[.int .i64 4, .int .i64 n, .int .i64 sh, .int .u64 id, .int .i64 er, y5, y6, y7, y8, y9, y10, y11, y12, .int .u64 ep, .int .i64 ok, .int .i64 who, .int .i64 tr, .int .u32 ss, .slice AO LO cO, .int .i64 y19, .int .u64 y20, .int .i64 y21, .int .u32 y22, .slice A L c] 51)).trans (Le.mk hb2))
  clear hb2
  generalize w.heap.size = p at *
  have z0 : w2.cell? ⟨p, 0, none⟩ = some (.int .i64 4) := cell_block HE.out 0
  have z1 : w2.cell? ⟨p, 1, none⟩ = some (.int .i64 n) := cell_block HE.out 1
  have z2 : w2.cell? ⟨p, 2, none⟩ = some (.int .i64 sh) := cell_block HE.out 2
  have z3 : w2.cell? ⟨p, 3, none⟩ = some (.int .u64 id) := cell_block HE.out 3
  have z4 : w2.cell? ⟨p, 4, none⟩ = some (.int .i64 er) := cell_block HE.out 4
  have z13 : w2.cell? ⟨p, 13, none⟩ = some (.int .u64 ep) := cell_block HE.out 13
  have z14 : w2.cell? ⟨p, 14, none⟩ = some (.int .i64 ok) := cell_block HE.out 14
  have z15 : w2.cell? ⟨p, 15, none⟩ = some (.int .i64 who) := cell_block HE.out 15
  have z16 : w2.cell? ⟨p, 16, none⟩ = some (.int .i64 tr) := cell_block HE.out 16
  have z17 : w2.cell? ⟨p, 17, none⟩ = some (.int .u32 ss) := cell_block HE.out 17
  have z18 : w2.cell? ⟨p, 18, none⟩ = some (.slice AO LO cO) := cell_block HE.out 18
  have z23 : w2.cell? ⟨p, 23, none⟩ = some (.slice A L c) := cell_block HE.out 23
  go_wp2_with fail
  refine (rtext_any [108, 111, 115, 116] (by simp) [L] (by simp) HF.out _ _ _ _ (rsl_nums w2 [L] 41)).mono ?_
  rintro r w3 ⟨rfl, hb3⟩
  rw [← HS]
  have HL3 := hide (((Le.refl w2).alloc _).trans (Le.mk hb3))
  clear hb3 HF HS
  have HE3 := hide (HL3.out.heap HE.out)
  have HT3 := hide (HTb.out w3 (HL.out.trans HL3.out))
  have HL4 := hide (HL.out.trans HL3.out)
  clear z0 z1 z2 z3 z4 z13 z14 z15 z16 z17 z18 z23 HL HL3 HE HTb
  go_wp2_with (refine wpl_load_blk rfl 51 (.tmp 1) rfl (cs := [.int .i64 4, .int .i64 n, .int .i64 sh, .int .u64 id, .int .i64 er, y5, y6, y7, y8, y9, y10, y11, y12, .int .u64 ep, .int .i64 ok, .int .i64 who, .int .i64 tr, .int .u32 ss, .slice AO LO cO, .int .i64 y19, .int .u64 y20, .int .i64 y21, .int .u32 y22, .slice A L c]) _ rfl Tryz.underlying51 rfl (by kernel_rfl) HE3.out ?_)
  refine (HSH.out _ HT3.out).mono ?_
  rintro r w5 ⟨rfl, hb5⟩
  have HL5 := hide (HL4.out.trans (Le.mk hb5))
  clear hb5 HSH HT3 HL4
  go_wp2_with fail
  go_ret
  exact ⟨by simp, HL5.out.out⟩
set_option maxRecDepth 100000 in
set_option maxHeartbeats 1000000 in
theorem lawsh5 (ok : Int) (n sh id er ep who tr ss : Nat) (hn : n < 9223372036854775808) (hsh : sh < 9223372036854775808) (hid : id < 18446744073709551616) (her : er < 9223372036854775808) (hep : ep < 18446744073709551616) (hwho : who < 9223372036854775808) (htr : tr < 9223372036854775808) (hss : ss < 4294967296) (y5 y6 y7 y8 y9 y10 y11 y12 : Value) (y19 y20 y21 y22 : Int) (AO : Option Addr) (LO cO : Nat) (hLO : LO ≤ 300) (A : Option Addr) (L c : Nat) (hL : L ≤ 300) (w : World) (htab : Lib.TabIs Tryz.prog w "internal/strconv.uint64pow10" .u64 Lib.pow10Tab) :
    Calls Tryz.prog 6 #[.agg #[.int .i64 5, .int .i64 n, .int .i64 sh, .int .u64 id, .int .i64 er, y5, y6, y7, y8, y9, y10, y11, y12, .int .u64 ep, .int .i64 ok, .int .i64 who, .int .i64 tr, .int .u32 ss, .slice AO LO cO, .int .i64 y19, .int .u64 y20, .int .i64 y21, .int .u32 y22, .slice A L c]] w (Gives w (.bool true)) := by
  have q1 : IntKind.u64.wrap (L : Int) = L := IntWalk.u64_in _ (by omega)
  have q2 : IntKind.u64.wrap (n : Int) = n := IntWalk.u64_in _ (by omega)
  have q3 : IntKind.u64.wrap (er : Int) = er := IntWalk.u64_in _ (by omega)
  have q4 : IntKind.u64.wrap (sh : Int) = sh := IntWalk.u64_in _ (by omega)
  have q5 : IntKind.u64.wrap (who : Int) = who := IntWalk.u64_in _ (by omega)
  have q6 : IntKind.u64.wrap (tr : Int) = tr := IntWalk.u64_in _ (by omega)
  have q7 : IntKind.u64.wrap (ss : Int) = ss := IntWalk.u64_in _ (by omega)
  have q8 : IntKind.u64.wrap (LO : Int) = LO := IntWalk.u64_in _ (by omega)
  have i1 : ¬ (n : Int) < 0 := by omega
  have i2 : ¬ (sh : Int) < 0 := by omega
  have i3 : ¬ (er : Int) < 0 := by omega
  have i4 : ¬ (who : Int) < 0 := by omega
  have i5 : ¬ (tr : Int) < 0 := by omega
  have i6 : ¬ 300 < (L : Int) := by omega
  have i7 : ¬ 300 < (LO : Int) := by omega
  have HTb := hide (fun (W : World) (hW : Le w W) => Lib.tabBelow_of_tabIs htab W hW.out)
  clear htab
  have HF := hide (show ∀ x ∈ ([n] : List Nat), x < 18446744073709551616 by intro x hx; simp only [List.mem_cons, List.not_mem_nil, or_false] at hx; omega)
  obtain ⟨S, HS⟩ : ∃ S, S = str (txt [102, 117, 108, 108] [n]) := ⟨_, rfl⟩
  have HSH := hide (fun (W : World) (hT : Lib.TabIs Tryz.prog W "internal/strconv.uint64pow10" .u64 Lib.pow10Tab) => shows5 n sh id er ep hn hsh hid her hep y5 y6 y7 y8 y9 y10 y11 y12 (.int .i64 ok) (.int .i64 who) (.int .i64 tr) (.int .u32 ss) (.slice AO LO cO) (.int .i64 y19) (.int .u64 y20) (.int .i64 y21) (.int .u32 y22) A L c (by omega) W hT)
  rw [← HS] at HSH
  clear hn hsh hid her hep hwho htr hss
  go_enter Tryz.func6, Tryz.ntmps6
  go_wp2_with fail
  refine (awake24 _).mono ?_
  rintro r w2 ⟨rfl, hb2⟩
  have HE := hide ((Le.mk hb2).heap (heap_alloc_new w (.cells #[.int .i64 5, .int .i64 n, .int .i64 sh, .int .u64 id, .int .i64 er, y5, y6, y7, y8, y9, y10, y11, y12, .int .u64 ep, .int .i64 ok, .int .i64 who, .int .i64 tr, .int .u32 ss, .slice AO LO cO, .int .i64 y19, .int .u64 y20, .int .i64 y21, .int .u32 y22, .slice A L c] 51)))
  have HL := hide (((Le.refl w).alloc (.cells #[.int .i64 5, .int .i64 n, .int .i64 sh, .int .u64 id, .int .i64 er, y5, y6, y7, y8, y9, y10, y11, y12, .int .u64 ep, .int .i64 ok, .int .i64 who, .int .i64 tr, .int .u32 ss, .slice AO LO cO, .int .i64 y19, .int .u64 y20, .int .i64 y21, .int .u32 y22, .slice A L c] 51)).trans (Le.mk hb2))
  clear hb2
  generalize w.heap.size = p at *
  have z0 : w2.cell? ⟨p, 0, none⟩ = some (.int .i64 5) := cell_block HE.out 0
  have z1 : w2.cell? ⟨p, 1, none⟩ = some (.int .i64 n) := cell_block HE.out 1
  have z2 : w2.cell? ⟨p, 2, none⟩ = some (.int .i64 sh) := cell_block HE.out 2
  have z3 : w2.cell? ⟨p, 3, none⟩ = some (.int .u64 id) := cell_block HE.out 3
  have z4 : w2.cell? ⟨p, 4, none⟩ = some (.int .i64 er) := cell_block HE.out 4
  have z13 : w2.cell? ⟨p, 13, none⟩ = some (.int .u64 ep) := cell_block HE.out 13
  have z14 : w2.cell? ⟨p, 14, none⟩ = some (.int .i64 ok) := cell_block HE.out 14
  have z15 : w2.cell? ⟨p, 15, none⟩ = some (.int .i64 who) := cell_block HE.out 15
  have z16 : w2.cell? ⟨p, 16, none⟩ = some (.int .i64 tr) := cell_block HE.out 16
  have z17 : w2.cell? ⟨p, 17, none⟩ = some (.int .u32 ss) := cell_block HE.out 17
  have z18 : w2.cell? ⟨p, 18, none⟩ = some (.slice AO LO cO) := cell_block HE.out 18
  have z23 : w2.cell? ⟨p, 23, none⟩ = some (.slice A L c) := cell_block HE.out 23
  go_wp2_with fail
  refine (rtext_any [102, 117, 108, 108] (by simp) [n] (by simp) HF.out _ _ _ _ (rsl_nums w2 [n] 41)).mono ?_
  rintro r w3 ⟨rfl, hb3⟩
  rw [← HS]
  have HL3 := hide (((Le.refl w2).alloc _).trans (Le.mk hb3))
  clear hb3 HF HS
  have HE3 := hide (HL3.out.heap HE.out)
  have HT3 := hide (HTb.out w3 (HL.out.trans HL3.out))
  have HL4 := hide (HL.out.trans HL3.out)
  clear z0 z1 z2 z3 z4 z13 z14 z15 z16 z17 z18 z23 HL HL3 HE HTb
  go_wp2_with (refine wpl_load_blk rfl 51 (.tmp 1) rfl (cs := [.int .i64 5, .int .i64 n, .int .i64 sh, .int .u64 id, .int .i64 er, y5, y6, y7, y8, y9, y10, y11, y12, .int .u64 ep, .int .i64 ok, .int .i64 who, .int .i64 tr, .int .u32 ss, .slice AO LO cO, .int .i64 y19, .int .u64 y20, .int .i64 y21, .int .u32 y22, .slice A L c]) _ rfl Tryz.underlying51 rfl (by kernel_rfl) HE3.out ?_)
  refine (HSH.out _ HT3.out).mono ?_
  rintro r w5 ⟨rfl, hb5⟩
  have HL5 := hide (HL4.out.trans (Le.mk hb5))
  clear hb5 HSH HT3 HL4
  go_wp2_with fail
  go_ret
  exact ⟨by simp, HL5.out.out⟩
set_option maxRecDepth 100000 in
set_option maxHeartbeats 1000000 in
theorem lawsh6 (ok : Int) (n sh id er ep who tr ss : Nat) (hn : n < 9223372036854775808) (hsh : sh < 9223372036854775808) (hid : id < 18446744073709551616) (her : er < 9223372036854775808) (hep : ep < 18446744073709551616) (hwho : who < 9223372036854775808) (htr : tr < 9223372036854775808) (hss : ss < 4294967296) (y5 y6 y7 y8 y9 y10 y11 y12 : Value) (y19 y20 y21 y22 : Int) (AO : Option Addr) (LO cO : Nat) (hLO : LO ≤ 300) (A : Option Addr) (L c : Nat) (hL : L ≤ 300) (w : World) (htab : Lib.TabIs Tryz.prog w "internal/strconv.uint64pow10" .u64 Lib.pow10Tab) :
    Calls Tryz.prog 6 #[.agg #[.int .i64 6, .int .i64 n, .int .i64 sh, .int .u64 id, .int .i64 er, y5, y6, y7, y8, y9, y10, y11, y12, .int .u64 ep, .int .i64 ok, .int .i64 who, .int .i64 tr, .int .u32 ss, .slice AO LO cO, .int .i64 y19, .int .u64 y20, .int .i64 y21, .int .u32 y22, .slice A L c]] w (Gives w (.bool true)) := by
  have q1 : IntKind.u64.wrap (L : Int) = L := IntWalk.u64_in _ (by omega)
  have q2 : IntKind.u64.wrap (n : Int) = n := IntWalk.u64_in _ (by omega)
  have q3 : IntKind.u64.wrap (er : Int) = er := IntWalk.u64_in _ (by omega)
  have q4 : IntKind.u64.wrap (sh : Int) = sh := IntWalk.u64_in _ (by omega)
  have q5 : IntKind.u64.wrap (who : Int) = who := IntWalk.u64_in _ (by omega)
  have q6 : IntKind.u64.wrap (tr : Int) = tr := IntWalk.u64_in _ (by omega)
  have q7 : IntKind.u64.wrap (ss : Int) = ss := IntWalk.u64_in _ (by omega)
  have q8 : IntKind.u64.wrap (LO : Int) = LO := IntWalk.u64_in _ (by omega)
  have i1 : ¬ (n : Int) < 0 := by omega
  have i2 : ¬ (sh : Int) < 0 := by omega
  have i3 : ¬ (er : Int) < 0 := by omega
  have i4 : ¬ (who : Int) < 0 := by omega
  have i5 : ¬ (tr : Int) < 0 := by omega
  have i6 : ¬ 300 < (L : Int) := by omega
  have i7 : ¬ 300 < (LO : Int) := by omega
  have HTb := hide (fun (W : World) (hW : Le w W) => Lib.tabBelow_of_tabIs htab W hW.out)
  clear htab
  have HF := hide (show ∀ x ∈ ([n, sh, ep] : List Nat), x < 18446744073709551616 by intro x hx; simp only [List.mem_cons, List.not_mem_nil, or_false] at hx; omega)
  obtain ⟨S, HS⟩ : ∃ S, S = str (txt [108, 111, 111, 107] [n, sh, ep]) := ⟨_, rfl⟩
  have HSH := hide (fun (W : World) (hT : Lib.TabIs Tryz.prog W "internal/strconv.uint64pow10" .u64 Lib.pow10Tab) => shows6 n sh id er ep hn hsh hid her hep y5 y6 y7 y8 y9 y10 y11 y12 (.int .i64 ok) (.int .i64 who) (.int .i64 tr) (.int .u32 ss) (.slice AO LO cO) (.int .i64 y19) (.int .u64 y20) (.int .i64 y21) (.int .u32 y22) A L c (by omega) W hT)
  rw [← HS] at HSH
  clear hn hsh hid her hep hwho htr hss
  go_enter Tryz.func6, Tryz.ntmps6
  go_wp2_with fail
  refine (awake24 _).mono ?_
  rintro r w2 ⟨rfl, hb2⟩
  have HE := hide ((Le.mk hb2).heap (heap_alloc_new w (.cells #[.int .i64 6, .int .i64 n, .int .i64 sh, .int .u64 id, .int .i64 er, y5, y6, y7, y8, y9, y10, y11, y12, .int .u64 ep, .int .i64 ok, .int .i64 who, .int .i64 tr, .int .u32 ss, .slice AO LO cO, .int .i64 y19, .int .u64 y20, .int .i64 y21, .int .u32 y22, .slice A L c] 51)))
  have HL := hide (((Le.refl w).alloc (.cells #[.int .i64 6, .int .i64 n, .int .i64 sh, .int .u64 id, .int .i64 er, y5, y6, y7, y8, y9, y10, y11, y12, .int .u64 ep, .int .i64 ok, .int .i64 who, .int .i64 tr, .int .u32 ss, .slice AO LO cO, .int .i64 y19, .int .u64 y20, .int .i64 y21, .int .u32 y22, .slice A L c] 51)).trans (Le.mk hb2))
  clear hb2
  generalize w.heap.size = p at *
  have z0 : w2.cell? ⟨p, 0, none⟩ = some (.int .i64 6) := cell_block HE.out 0
  have z1 : w2.cell? ⟨p, 1, none⟩ = some (.int .i64 n) := cell_block HE.out 1
  have z2 : w2.cell? ⟨p, 2, none⟩ = some (.int .i64 sh) := cell_block HE.out 2
  have z3 : w2.cell? ⟨p, 3, none⟩ = some (.int .u64 id) := cell_block HE.out 3
  have z4 : w2.cell? ⟨p, 4, none⟩ = some (.int .i64 er) := cell_block HE.out 4
  have z13 : w2.cell? ⟨p, 13, none⟩ = some (.int .u64 ep) := cell_block HE.out 13
  have z14 : w2.cell? ⟨p, 14, none⟩ = some (.int .i64 ok) := cell_block HE.out 14
  have z15 : w2.cell? ⟨p, 15, none⟩ = some (.int .i64 who) := cell_block HE.out 15
  have z16 : w2.cell? ⟨p, 16, none⟩ = some (.int .i64 tr) := cell_block HE.out 16
  have z17 : w2.cell? ⟨p, 17, none⟩ = some (.int .u32 ss) := cell_block HE.out 17
  have z18 : w2.cell? ⟨p, 18, none⟩ = some (.slice AO LO cO) := cell_block HE.out 18
  have z23 : w2.cell? ⟨p, 23, none⟩ = some (.slice A L c) := cell_block HE.out 23
  go_wp2_with fail
  refine (rtext_any [108, 111, 111, 107] (by simp) [n, sh, ep] (by simp) HF.out _ _ _ _ (rsl_nums w2 [n, sh, ep] 41)).mono ?_
  rintro r w3 ⟨rfl, hb3⟩
  rw [← HS]
  have HL3 := hide (((Le.refl w2).alloc _).trans (Le.mk hb3))
  clear hb3 HF HS
  have HE3 := hide (HL3.out.heap HE.out)
  have HT3 := hide (HTb.out w3 (HL.out.trans HL3.out))
  have HL4 := hide (HL.out.trans HL3.out)
  clear z0 z1 z2 z3 z4 z13 z14 z15 z16 z17 z18 z23 HL HL3 HE HTb
  go_wp2_with (refine wpl_load_blk rfl 51 (.tmp 1) rfl (cs := [.int .i64 6, .int .i64 n, .int .i64 sh, .int .u64 id, .int .i64 er, y5, y6, y7, y8, y9, y10, y11, y12, .int .u64 ep, .int .i64 ok, .int .i64 who, .int .i64 tr, .int .u32 ss, .slice AO LO cO, .int .i64 y19, .int .u64 y20, .int .i64 y21, .int .u32 y22, .slice A L c]) _ rfl Tryz.underlying51 rfl (by kernel_rfl) HE3.out ?_)
  refine (HSH.out _ HT3.out).mono ?_
  rintro r w5 ⟨rfl, hb5⟩
  have HL5 := hide (HL4.out.trans (Le.mk hb5))
  clear hb5 HSH HT3 HL4
  go_wp2_with fail
  go_ret
  exact ⟨by simp, HL5.out.out⟩
set_option maxRecDepth 100000 in
set_option maxHeartbeats 1000000 in
theorem lawsho0 (n sh id er ep who tr ss : Nat) (hn : n < 9223372036854775808) (hsh : sh < 9223372036854775808) (hid : id < 18446744073709551616) (her : er < 9223372036854775808) (hep : ep < 18446744073709551616) (hwho : who < 9223372036854775808) (htr : tr < 9223372036854775808) (hss : ss < 4294967296) (y5 y6 y7 y8 y9 y10 y11 y12 : Value) (y19 y20 y21 y22 : Int) (AO : Option Addr) (LO cO : Nat) (hLO : LO ≤ 300) (A : Option Addr) (L c : Nat) (hL : L ≤ 300) (w : World) (htab : Lib.TabIs Tryz.prog w "internal/strconv.uint64pow10" .u64 Lib.pow10Tab) :
    Calls Tryz.prog 6 #[.agg #[.int .i64 7, .int .i64 n, .int .i64 sh, .int .u64 id, .int .i64 er, y5, y6, y7, y8, y9, y10, y11, y12, .int .u64 ep, .int .i64 0, .int .i64 who, .int .i64 tr, .int .u32 ss, .slice AO LO cO, .int .i64 y19, .int .u64 y20, .int .i64 y21, .int .u32 y22, .slice A L c]] w (Gives w (.bool true)) := by
  have q1 : IntKind.u64.wrap (L : Int) = L := IntWalk.u64_in _ (by omega)
  have q2 : IntKind.u64.wrap (n : Int) = n := IntWalk.u64_in _ (by omega)
  have q3 : IntKind.u64.wrap (er : Int) = er := IntWalk.u64_in _ (by omega)
  have q4 : IntKind.u64.wrap (sh : Int) = sh := IntWalk.u64_in _ (by omega)
  have q5 : IntKind.u64.wrap (who : Int) = who := IntWalk.u64_in _ (by omega)
  have q6 : IntKind.u64.wrap (tr : Int) = tr := IntWalk.u64_in _ (by omega)
  have q7 : IntKind.u64.wrap (ss : Int) = ss := IntWalk.u64_in _ (by omega)
  have q8 : IntKind.u64.wrap (LO : Int) = LO := IntWalk.u64_in _ (by omega)
  have i1 : ¬ (n : Int) < 0 := by omega
  have i2 : ¬ (sh : Int) < 0 := by omega
  have i3 : ¬ (er : Int) < 0 := by omega
  have i4 : ¬ (who : Int) < 0 := by omega
  have i5 : ¬ (tr : Int) < 0 := by omega
  have i6 : ¬ 300 < (L : Int) := by omega
  have i7 : ¬ 300 < (LO : Int) := by omega
  have HTb := hide (fun (W : World) (hW : Le w W) => Lib.tabBelow_of_tabIs htab W hW.out)
  clear htab
  have HF := hide (show ∀ x ∈ ([n, who, tr, ss, LO] : List Nat), x < 18446744073709551616 by intro x hx; simp only [List.mem_cons, List.not_mem_nil, or_false] at hx; omega)
  obtain ⟨S, HS⟩ : ∃ S, S = str (txt [109, 101, 100, 105, 97] [n, who, tr, ss, LO]) := ⟨_, rfl⟩
  have HSH := hide (fun (W : World) (hT : Lib.TabIs Tryz.prog W "internal/strconv.uint64pow10" .u64 Lib.pow10Tab) => showo0 n who tr ss LO hn hwho htr hss (by omega) AO cO (.int .i64 sh) (.int .u64 id) (.int .i64 er) y5 y6 y7 y8 y9 y10 y11 y12 (.int .u64 ep) y19 y20 y21 y22 A L c (by omega) W hT)
  rw [← HS] at HSH
  clear hn hsh hid her hep hwho htr hss
  go_enter Tryz.func6, Tryz.ntmps6
  go_wp2_with fail
  refine (awake24 _).mono ?_
  rintro r w2 ⟨rfl, hb2⟩
  have HE := hide ((Le.mk hb2).heap (heap_alloc_new w (.cells #[.int .i64 7, .int .i64 n, .int .i64 sh, .int .u64 id, .int .i64 er, y5, y6, y7, y8, y9, y10, y11, y12, .int .u64 ep, .int .i64 0, .int .i64 who, .int .i64 tr, .int .u32 ss, .slice AO LO cO, .int .i64 y19, .int .u64 y20, .int .i64 y21, .int .u32 y22, .slice A L c] 51)))
  have HL := hide (((Le.refl w).alloc (.cells #[.int .i64 7, .int .i64 n, .int .i64 sh, .int .u64 id, .int .i64 er, y5, y6, y7, y8, y9, y10, y11, y12, .int .u64 ep, .int .i64 0, .int .i64 who, .int .i64 tr, .int .u32 ss, .slice AO LO cO, .int .i64 y19, .int .u64 y20, .int .i64 y21, .int .u32 y22, .slice A L c] 51)).trans (Le.mk hb2))
  clear hb2
  generalize w.heap.size = p at *
  have z0 : w2.cell? ⟨p, 0, none⟩ = some (.int .i64 7) := cell_block HE.out 0
  have z1 : w2.cell? ⟨p, 1, none⟩ = some (.int .i64 n) := cell_block HE.out 1
  have z2 : w2.cell? ⟨p, 2, none⟩ = some (.int .i64 sh) := cell_block HE.out 2
  have z3 : w2.cell? ⟨p, 3, none⟩ = some (.int .u64 id) := cell_block HE.out 3
  have z4 : w2.cell? ⟨p, 4, none⟩ = some (.int .i64 er) := cell_block HE.out 4
  have z13 : w2.cell? ⟨p, 13, none⟩ = some (.int .u64 ep) := cell_block HE.out 13
  have z14 : w2.cell? ⟨p, 14, none⟩ = some (.int .i64 0) := cell_block HE.out 14
  have z15 : w2.cell? ⟨p, 15, none⟩ = some (.int .i64 who) := cell_block HE.out 15
  have z16 : w2.cell? ⟨p, 16, none⟩ = some (.int .i64 tr) := cell_block HE.out 16
  have z17 : w2.cell? ⟨p, 17, none⟩ = some (.int .u32 ss) := cell_block HE.out 17
  have z18 : w2.cell? ⟨p, 18, none⟩ = some (.slice AO LO cO) := cell_block HE.out 18
  have z23 : w2.cell? ⟨p, 23, none⟩ = some (.slice A L c) := cell_block HE.out 23
  go_wp2_with fail
  refine (rtext_any [109, 101, 100, 105, 97] (by simp) [n, who, tr, ss, LO] (by simp) HF.out _ _ _ _ (rsl_nums w2 [n, who, tr, ss, LO] 41)).mono ?_
  rintro r w3 ⟨rfl, hb3⟩
  rw [← HS]
  have HL3 := hide (((Le.refl w2).alloc _).trans (Le.mk hb3))
  clear hb3 HF HS
  have HE3 := hide (HL3.out.heap HE.out)
  have HT3 := hide (HTb.out w3 (HL.out.trans HL3.out))
  have HL4 := hide (HL.out.trans HL3.out)
  clear z0 z1 z2 z3 z4 z13 z14 z15 z16 z17 z18 z23 HL HL3 HE HTb
  go_wp2_with (refine wpl_load_blk rfl 51 (.tmp 1) rfl (cs := [.int .i64 7, .int .i64 n, .int .i64 sh, .int .u64 id, .int .i64 er, y5, y6, y7, y8, y9, y10, y11, y12, .int .u64 ep, .int .i64 0, .int .i64 who, .int .i64 tr, .int .u32 ss, .slice AO LO cO, .int .i64 y19, .int .u64 y20, .int .i64 y21, .int .u32 y22, .slice A L c]) _ rfl Tryz.underlying51 rfl (by kernel_rfl) HE3.out ?_)
  refine (HSH.out _ HT3.out).mono ?_
  rintro r w5 ⟨rfl, hb5⟩
  have HL5 := hide (HL4.out.trans (Le.mk hb5))
  clear hb5 HSH HT3 HL4
  go_wp2_with fail
  go_ret
  exact ⟨by simp, HL5.out.out⟩
set_option maxRecDepth 100000 in
set_option maxHeartbeats 1000000 in
theorem lawsho1 (n sh id er ep who tr ss : Nat) (hn : n < 9223372036854775808) (hsh : sh < 9223372036854775808) (hid : id < 18446744073709551616) (her : er < 9223372036854775808) (hep : ep < 18446744073709551616) (hwho : who < 9223372036854775808) (htr : tr < 9223372036854775808) (hss : ss < 4294967296) (y5 y6 y7 y8 y9 y10 y11 y12 : Value) (y19 y20 y21 y22 : Int) (AO : Option Addr) (LO cO : Nat) (hLO : LO ≤ 300) (A : Option Addr) (L c : Nat) (hL : L ≤ 300) (w : World) (htab : Lib.TabIs Tryz.prog w "internal/strconv.uint64pow10" .u64 Lib.pow10Tab) :
    Calls Tryz.prog 6 #[.agg #[.int .i64 7, .int .i64 n, .int .i64 sh, .int .u64 id, .int .i64 er, y5, y6, y7, y8, y9, y10, y11, y12, .int .u64 ep, .int .i64 1, .int .i64 who, .int .i64 tr, .int .u32 ss, .slice AO LO cO, .int .i64 y19, .int .u64 y20, .int .i64 y21, .int .u32 y22, .slice A L c]] w (Gives w (.bool true)) := by
  have q1 : IntKind.u64.wrap (L : Int) = L := IntWalk.u64_in _ (by omega)
  have q2 : IntKind.u64.wrap (n : Int) = n := IntWalk.u64_in _ (by omega)
  have q3 : IntKind.u64.wrap (er : Int) = er := IntWalk.u64_in _ (by omega)
  have q4 : IntKind.u64.wrap (sh : Int) = sh := IntWalk.u64_in _ (by omega)
  have q5 : IntKind.u64.wrap (who : Int) = who := IntWalk.u64_in _ (by omega)
  have q6 : IntKind.u64.wrap (tr : Int) = tr := IntWalk.u64_in _ (by omega)
  have q7 : IntKind.u64.wrap (ss : Int) = ss := IntWalk.u64_in _ (by omega)
  have q8 : IntKind.u64.wrap (LO : Int) = LO := IntWalk.u64_in _ (by omega)
  have i1 : ¬ (n : Int) < 0 := by omega
  have i2 : ¬ (sh : Int) < 0 := by omega
  have i3 : ¬ (er : Int) < 0 := by omega
  have i4 : ¬ (who : Int) < 0 := by omega
  have i5 : ¬ (tr : Int) < 0 := by omega
  have i6 : ¬ 300 < (L : Int) := by omega
  have i7 : ¬ 300 < (LO : Int) := by omega
  have HTb := hide (fun (W : World) (hW : Le w W) => Lib.tabBelow_of_tabIs htab W hW.out)
  clear htab
  have HF := hide (show ∀ x ∈ ([n, who, tr, ss, LO] : List Nat), x < 18446744073709551616 by intro x hx; simp only [List.mem_cons, List.not_mem_nil, or_false] at hx; omega)
  obtain ⟨S, HS⟩ : ∃ S, S = str (txt [97, 103, 97, 105, 110] [n, who, tr, ss, LO]) := ⟨_, rfl⟩
  have HSH := hide (fun (W : World) (hT : Lib.TabIs Tryz.prog W "internal/strconv.uint64pow10" .u64 Lib.pow10Tab) => showo1 n who tr ss LO hn hwho htr hss (by omega) AO cO (.int .i64 sh) (.int .u64 id) (.int .i64 er) y5 y6 y7 y8 y9 y10 y11 y12 (.int .u64 ep) y19 y20 y21 y22 A L c (by omega) W hT)
  rw [← HS] at HSH
  clear hn hsh hid her hep hwho htr hss
  go_enter Tryz.func6, Tryz.ntmps6
  go_wp2_with fail
  refine (awake24 _).mono ?_
  rintro r w2 ⟨rfl, hb2⟩
  have HE := hide ((Le.mk hb2).heap (heap_alloc_new w (.cells #[.int .i64 7, .int .i64 n, .int .i64 sh, .int .u64 id, .int .i64 er, y5, y6, y7, y8, y9, y10, y11, y12, .int .u64 ep, .int .i64 1, .int .i64 who, .int .i64 tr, .int .u32 ss, .slice AO LO cO, .int .i64 y19, .int .u64 y20, .int .i64 y21, .int .u32 y22, .slice A L c] 51)))
  have HL := hide (((Le.refl w).alloc (.cells #[.int .i64 7, .int .i64 n, .int .i64 sh, .int .u64 id, .int .i64 er, y5, y6, y7, y8, y9, y10, y11, y12, .int .u64 ep, .int .i64 1, .int .i64 who, .int .i64 tr, .int .u32 ss, .slice AO LO cO, .int .i64 y19, .int .u64 y20, .int .i64 y21, .int .u32 y22, .slice A L c] 51)).trans (Le.mk hb2))
  clear hb2
  generalize w.heap.size = p at *
  have z0 : w2.cell? ⟨p, 0, none⟩ = some (.int .i64 7) := cell_block HE.out 0
  have z1 : w2.cell? ⟨p, 1, none⟩ = some (.int .i64 n) := cell_block HE.out 1
  have z2 : w2.cell? ⟨p, 2, none⟩ = some (.int .i64 sh) := cell_block HE.out 2
  have z3 : w2.cell? ⟨p, 3, none⟩ = some (.int .u64 id) := cell_block HE.out 3
  have z4 : w2.cell? ⟨p, 4, none⟩ = some (.int .i64 er) := cell_block HE.out 4
  have z13 : w2.cell? ⟨p, 13, none⟩ = some (.int .u64 ep) := cell_block HE.out 13
  have z14 : w2.cell? ⟨p, 14, none⟩ = some (.int .i64 1) := cell_block HE.out 14
  have z15 : w2.cell? ⟨p, 15, none⟩ = some (.int .i64 who) := cell_block HE.out 15
  have z16 : w2.cell? ⟨p, 16, none⟩ = some (.int .i64 tr) := cell_block HE.out 16
  have z17 : w2.cell? ⟨p, 17, none⟩ = some (.int .u32 ss) := cell_block HE.out 17
  have z18 : w2.cell? ⟨p, 18, none⟩ = some (.slice AO LO cO) := cell_block HE.out 18
  have z23 : w2.cell? ⟨p, 23, none⟩ = some (.slice A L c) := cell_block HE.out 23
  go_wp2_with fail
  refine (rtext_any [97, 103, 97, 105, 110] (by simp) [n, who, tr, ss, LO] (by simp) HF.out _ _ _ _ (rsl_nums w2 [n, who, tr, ss, LO] 41)).mono ?_
  rintro r w3 ⟨rfl, hb3⟩
  rw [← HS]
  have HL3 := hide (((Le.refl w2).alloc _).trans (Le.mk hb3))
  clear hb3 HF HS
  have HE3 := hide (HL3.out.heap HE.out)
  have HT3 := hide (HTb.out w3 (HL.out.trans HL3.out))
  have HL4 := hide (HL.out.trans HL3.out)
  clear z0 z1 z2 z3 z4 z13 z14 z15 z16 z17 z18 z23 HL HL3 HE HTb
  go_wp2_with (refine wpl_load_blk rfl 51 (.tmp 1) rfl (cs := [.int .i64 7, .int .i64 n, .int .i64 sh, .int .u64 id, .int .i64 er, y5, y6, y7, y8, y9, y10, y11, y12, .int .u64 ep, .int .i64 1, .int .i64 who, .int .i64 tr, .int .u32 ss, .slice AO LO cO, .int .i64 y19, .int .u64 y20, .int .i64 y21, .int .u32 y22, .slice A L c]) _ rfl Tryz.underlying51 rfl (by kernel_rfl) HE3.out ?_)
  refine (HSH.out _ HT3.out).mono ?_
  rintro r w5 ⟨rfl, hb5⟩
  have HL5 := hide (HL4.out.trans (Le.mk hb5))
  clear hb5 HSH HT3 HL4
  go_wp2_with fail
  go_ret
  exact ⟨by simp, HL5.out.out⟩
set_option maxRecDepth 100000 in
set_option maxHeartbeats 1000000 in
theorem lawsho2 (n sh id er ep who tr ss : Nat) (hn : n < 9223372036854775808) (hsh : sh < 9223372036854775808) (hid : id < 18446744073709551616) (her : er < 9223372036854775808) (hep : ep < 18446744073709551616) (hwho : who < 9223372036854775808) (htr : tr < 9223372036854775808) (hss : ss < 4294967296) (y5 y6 y7 y8 y9 y10 y11 y12 : Value) (y19 y20 y21 y22 : Int) (AO : Option Addr) (LO cO : Nat) (hLO : LO ≤ 300) (A : Option Addr) (L c : Nat) (hL : L ≤ 300) (w : World) (htab : Lib.TabIs Tryz.prog w "internal/strconv.uint64pow10" .u64 Lib.pow10Tab) :
    Calls Tryz.prog 6 #[.agg #[.int .i64 7, .int .i64 n, .int .i64 sh, .int .u64 id, .int .i64 er, y5, y6, y7, y8, y9, y10, y11, y12, .int .u64 ep, .int .i64 2, .int .i64 who, .int .i64 tr, .int .u32 ss, .slice AO LO cO, .int .i64 y19, .int .u64 y20, .int .i64 y21, .int .u32 y22, .slice A L c]] w (Gives w (.bool true)) := by
  have q1 : IntKind.u64.wrap (L : Int) = L := IntWalk.u64_in _ (by omega)
  have q2 : IntKind.u64.wrap (n : Int) = n := IntWalk.u64_in _ (by omega)
  have q3 : IntKind.u64.wrap (er : Int) = er := IntWalk.u64_in _ (by omega)
  have q4 : IntKind.u64.wrap (sh : Int) = sh := IntWalk.u64_in _ (by omega)
  have q5 : IntKind.u64.wrap (who : Int) = who := IntWalk.u64_in _ (by omega)
  have q6 : IntKind.u64.wrap (tr : Int) = tr := IntWalk.u64_in _ (by omega)
  have q7 : IntKind.u64.wrap (ss : Int) = ss := IntWalk.u64_in _ (by omega)
  have q8 : IntKind.u64.wrap (LO : Int) = LO := IntWalk.u64_in _ (by omega)
  have i1 : ¬ (n : Int) < 0 := by omega
  have i2 : ¬ (sh : Int) < 0 := by omega
  have i3 : ¬ (er : Int) < 0 := by omega
  have i4 : ¬ (who : Int) < 0 := by omega
  have i5 : ¬ (tr : Int) < 0 := by omega
  have i6 : ¬ 300 < (L : Int) := by omega
  have i7 : ¬ 300 < (LO : Int) := by omega
  have HTb := hide (fun (W : World) (hW : Le w W) => Lib.tabBelow_of_tabIs htab W hW.out)
  clear htab
  have HF := hide (show ∀ x ∈ ([n, who, tr, ss, LO] : List Nat), x < 18446744073709551616 by intro x hx; simp only [List.mem_cons, List.not_mem_nil, or_false] at hx; omega)
  obtain ⟨S, HS⟩ : ∃ S, S = str (txt [97, 115, 107] [n, who, tr, ss, LO]) := ⟨_, rfl⟩
  have HSH := hide (fun (W : World) (hT : Lib.TabIs Tryz.prog W "internal/strconv.uint64pow10" .u64 Lib.pow10Tab) => showo2 n who tr ss LO hn hwho htr hss (by omega) AO cO (.int .i64 sh) (.int .u64 id) (.int .i64 er) y5 y6 y7 y8 y9 y10 y11 y12 (.int .u64 ep) y19 y20 y21 y22 A L c (by omega) W hT)
  rw [← HS] at HSH
  clear hn hsh hid her hep hwho htr hss
  go_enter Tryz.func6, Tryz.ntmps6
  go_wp2_with fail
  refine (awake24 _).mono ?_
  rintro r w2 ⟨rfl, hb2⟩
  have HE := hide ((Le.mk hb2).heap (heap_alloc_new w (.cells #[.int .i64 7, .int .i64 n, .int .i64 sh, .int .u64 id, .int .i64 er, y5, y6, y7, y8, y9, y10, y11, y12, .int .u64 ep, .int .i64 2, .int .i64 who, .int .i64 tr, .int .u32 ss, .slice AO LO cO, .int .i64 y19, .int .u64 y20, .int .i64 y21, .int .u32 y22, .slice A L c] 51)))
  have HL := hide (((Le.refl w).alloc (.cells #[.int .i64 7, .int .i64 n, .int .i64 sh, .int .u64 id, .int .i64 er, y5, y6, y7, y8, y9, y10, y11, y12, .int .u64 ep, .int .i64 2, .int .i64 who, .int .i64 tr, .int .u32 ss, .slice AO LO cO, .int .i64 y19, .int .u64 y20, .int .i64 y21, .int .u32 y22, .slice A L c] 51)).trans (Le.mk hb2))
  clear hb2
  generalize w.heap.size = p at *
  have z0 : w2.cell? ⟨p, 0, none⟩ = some (.int .i64 7) := cell_block HE.out 0
  have z1 : w2.cell? ⟨p, 1, none⟩ = some (.int .i64 n) := cell_block HE.out 1
  have z2 : w2.cell? ⟨p, 2, none⟩ = some (.int .i64 sh) := cell_block HE.out 2
  have z3 : w2.cell? ⟨p, 3, none⟩ = some (.int .u64 id) := cell_block HE.out 3
  have z4 : w2.cell? ⟨p, 4, none⟩ = some (.int .i64 er) := cell_block HE.out 4
  have z13 : w2.cell? ⟨p, 13, none⟩ = some (.int .u64 ep) := cell_block HE.out 13
  have z14 : w2.cell? ⟨p, 14, none⟩ = some (.int .i64 2) := cell_block HE.out 14
  have z15 : w2.cell? ⟨p, 15, none⟩ = some (.int .i64 who) := cell_block HE.out 15
  have z16 : w2.cell? ⟨p, 16, none⟩ = some (.int .i64 tr) := cell_block HE.out 16
  have z17 : w2.cell? ⟨p, 17, none⟩ = some (.int .u32 ss) := cell_block HE.out 17
  have z18 : w2.cell? ⟨p, 18, none⟩ = some (.slice AO LO cO) := cell_block HE.out 18
  have z23 : w2.cell? ⟨p, 23, none⟩ = some (.slice A L c) := cell_block HE.out 23
  go_wp2_with fail
  refine (rtext_any [97, 115, 107] (by simp) [n, who, tr, ss, LO] (by simp) HF.out _ _ _ _ (rsl_nums w2 [n, who, tr, ss, LO] 41)).mono ?_
  rintro r w3 ⟨rfl, hb3⟩
  rw [← HS]
  have HL3 := hide (((Le.refl w2).alloc _).trans (Le.mk hb3))
  clear hb3 HF HS
  have HE3 := hide (HL3.out.heap HE.out)
  have HT3 := hide (HTb.out w3 (HL.out.trans HL3.out))
  have HL4 := hide (HL.out.trans HL3.out)
  clear z0 z1 z2 z3 z4 z13 z14 z15 z16 z17 z18 z23 HL HL3 HE HTb
  go_wp2_with (refine wpl_load_blk rfl 51 (.tmp 1) rfl (cs := [.int .i64 7, .int .i64 n, .int .i64 sh, .int .u64 id, .int .i64 er, y5, y6, y7, y8, y9, y10, y11, y12, .int .u64 ep, .int .i64 2, .int .i64 who, .int .i64 tr, .int .u32 ss, .slice AO LO cO, .int .i64 y19, .int .u64 y20, .int .i64 y21, .int .u32 y22, .slice A L c]) _ rfl Tryz.underlying51 rfl (by kernel_rfl) HE3.out ?_)
  refine (HSH.out _ HT3.out).mono ?_
  rintro r w5 ⟨rfl, hb5⟩
  have HL5 := hide (HL4.out.trans (Le.mk hb5))
  clear hb5 HSH HT3 HL4
  go_wp2_with fail
  go_ret
  exact ⟨by simp, HL5.out.out⟩
set_option maxRecDepth 100000 in
set_option maxHeartbeats 1000000 in
theorem lawshon (ok : Int) (hok : ¬ (0 ≤ ok ∧ ok ≤ 2)) (n sh id er ep who tr ss : Nat) (hn : n < 9223372036854775808) (hsh : sh < 9223372036854775808) (hid : id < 18446744073709551616) (her : er < 9223372036854775808) (hep : ep < 18446744073709551616) (hwho : who < 9223372036854775808) (htr : tr < 9223372036854775808) (hss : ss < 4294967296) (y5 y6 y7 y8 y9 y10 y11 y12 : Value) (y19 y20 y21 y22 : Int) (AO : Option Addr) (LO cO : Nat) (hLO : LO ≤ 300) (A : Option Addr) (L c : Nat) (hL : L ≤ 300) (w : World) (htab : Lib.TabIs Tryz.prog w "internal/strconv.uint64pow10" .u64 Lib.pow10Tab) :
    Calls Tryz.prog 6 #[.agg #[.int .i64 7, .int .i64 n, .int .i64 sh, .int .u64 id, .int .i64 er, y5, y6, y7, y8, y9, y10, y11, y12, .int .u64 ep, .int .i64 ok, .int .i64 who, .int .i64 tr, .int .u32 ss, .slice AO LO cO, .int .i64 y19, .int .u64 y20, .int .i64 y21, .int .u32 y22, .slice A L c]] w (Gives w (.bool true)) := by
  have q1 : IntKind.u64.wrap (L : Int) = L := IntWalk.u64_in _ (by omega)
  have q2 : IntKind.u64.wrap (n : Int) = n := IntWalk.u64_in _ (by omega)
  have q3 : IntKind.u64.wrap (er : Int) = er := IntWalk.u64_in _ (by omega)
  have q4 : IntKind.u64.wrap (sh : Int) = sh := IntWalk.u64_in _ (by omega)
  have q5 : IntKind.u64.wrap (who : Int) = who := IntWalk.u64_in _ (by omega)
  have q6 : IntKind.u64.wrap (tr : Int) = tr := IntWalk.u64_in _ (by omega)
  have q7 : IntKind.u64.wrap (ss : Int) = ss := IntWalk.u64_in _ (by omega)
  have q8 : IntKind.u64.wrap (LO : Int) = LO := IntWalk.u64_in _ (by omega)
  have i1 : ¬ (n : Int) < 0 := by omega
  have i2 : ¬ (sh : Int) < 0 := by omega
  have i3 : ¬ (er : Int) < 0 := by omega
  have i4 : ¬ (who : Int) < 0 := by omega
  have i5 : ¬ (tr : Int) < 0 := by omega
  have i6 : ¬ 300 < (L : Int) := by omega
  have i7 : ¬ 300 < (LO : Int) := by omega
  have j0 : ¬ ok = 0 := by omega
  have j1 : ¬ ok = 1 := by omega
  have j2 : ¬ ok = 2 := by omega
  have HTb := hide (fun (W : World) (hW : Le w W) => Lib.tabBelow_of_tabIs htab W hW.out)
  clear htab
  have HSH := hide (fun (W : World) (hT : Lib.TabIs Tryz.prog W "internal/strconv.uint64pow10" .u64 Lib.pow10Tab) => showon ok hok n who tr ss AO LO cO (.int .i64 sh) (.int .u64 id) (.int .i64 er) y5 y6 y7 y8 y9 y10 y11 y12 (.int .u64 ep) y19 y20 y21 y22 A L c (by omega) W)
  clear hn hsh hid her hep hwho htr hss
  go_enter Tryz.func6, Tryz.ntmps6
  go_wp2_with fail
  refine (awake24 _).mono ?_
  rintro r w2 ⟨rfl, hb2⟩
  have HE := hide ((Le.mk hb2).heap (heap_alloc_new w (.cells #[.int .i64 7, .int .i64 n, .int .i64 sh, .int .u64 id, .int .i64 er, y5, y6, y7, y8, y9, y10, y11, y12, .int .u64 ep, .int .i64 ok, .int .i64 who, .int .i64 tr, .int .u32 ss, .slice AO LO cO, .int .i64 y19, .int .u64 y20, .int .i64 y21, .int .u32 y22, .slice A L c] 51)))
  have HL := hide (((Le.refl w).alloc (.cells #[.int .i64 7, .int .i64 n, .int .i64 sh, .int .u64 id, .int .i64 er, y5, y6, y7, y8, y9, y10, y11, y12, .int .u64 ep, .int .i64 ok, .int .i64 who, .int .i64 tr, .int .u32 ss, .slice AO LO cO, .int .i64 y19, .int .u64 y20, .int .i64 y21, .int .u32 y22, .slice A L c] 51)).trans (Le.mk hb2))
  clear hb2
  generalize w.heap.size = p at *
  have z0 : w2.cell? ⟨p, 0, none⟩ = some (.int .i64 7) := cell_block HE.out 0
  have z1 : w2.cell? ⟨p, 1, none⟩ = some (.int .i64 n) := cell_block HE.out 1
  have z2 : w2.cell? ⟨p, 2, none⟩ = some (.int .i64 sh) := cell_block HE.out 2
  have z3 : w2.cell? ⟨p, 3, none⟩ = some (.int .u64 id) := cell_block HE.out 3
  have z4 : w2.cell? ⟨p, 4, none⟩ = some (.int .i64 er) := cell_block HE.out 4
  have z13 : w2.cell? ⟨p, 13, none⟩ = some (.int .u64 ep) := cell_block HE.out 13
  have z14 : w2.cell? ⟨p, 14, none⟩ = some (.int .i64 ok) := cell_block HE.out 14
  have z15 : w2.cell? ⟨p, 15, none⟩ = some (.int .i64 who) := cell_block HE.out 15
  have z16 : w2.cell? ⟨p, 16, none⟩ = some (.int .i64 tr) := cell_block HE.out 16
  have z17 : w2.cell? ⟨p, 17, none⟩ = some (.int .u32 ss) := cell_block HE.out 17
  have z18 : w2.cell? ⟨p, 18, none⟩ = some (.slice AO LO cO) := cell_block HE.out 18
  have z23 : w2.cell? ⟨p, 23, none⟩ = some (.slice A L c) := cell_block HE.out 23
  have HT3 := hide (HTb.out w2 HL.out)
  have HL4 := hide HL.out
  go_upto_region 35 with fail
  clear z0 z1 z2 z3 z4 z13 z14 z15 z16 z17 z18 z23 HL HTb
  go_wp2_with (refine wpl_load_blk rfl 51 (.tmp 1) rfl (cs := [.int .i64 7, .int .i64 n, .int .i64 sh, .int .u64 id, .int .i64 er, y5, y6, y7, y8, y9, y10, y11, y12, .int .u64 ep, .int .i64 ok, .int .i64 who, .int .i64 tr, .int .u32 ss, .slice AO LO cO, .int .i64 y19, .int .u64 y20, .int .i64 y21, .int .u32 y22, .slice A L c]) _ rfl Tryz.underlying51 rfl (by kernel_rfl) HE.out ?_)
  refine (HSH.out _ HT3.out).mono ?_
  rintro r w5 ⟨rfl, hb5⟩
  have HL5 := hide (HL4.out.trans (Le.mk hb5))
  clear hb5 HSH HT3 HL4
  go_wp2_with fail
  go_ret
  exact ⟨by simp, HL5.out.out⟩
set_option maxRecDepth 100000 in
set_option maxHeartbeats 1000000 in
theorem lawshown (kk ok : Int) (h0 : ¬ kk = 0) (h1 : ¬ kk = 1) (h2 : ¬ kk = 2) (h3 : ¬ kk = 3) (h4 : ¬ kk = 4) (h5 : ¬ kk = 5) (h6 : ¬ kk = 6) (h7 : ¬ kk = 7) (n sh id er ep who tr ss : Nat) (hn : n < 9223372036854775808) (hsh : sh < 9223372036854775808) (hid : id < 18446744073709551616) (her : er < 9223372036854775808) (hep : ep < 18446744073709551616) (hwho : who < 9223372036854775808) (htr : tr < 9223372036854775808) (hss : ss < 4294967296) (y5 y6 y7 y8 y9 y10 y11 y12 : Value) (y19 y20 y21 y22 : Int) (AO : Option Addr) (LO cO : Nat) (hLO : LO ≤ 300) (A : Option Addr) (L c : Nat) (hL : L ≤ 300) (w : World) (htab : Lib.TabIs Tryz.prog w "internal/strconv.uint64pow10" .u64 Lib.pow10Tab) :
    Calls Tryz.prog 6 #[.agg #[.int .i64 kk, .int .i64 n, .int .i64 sh, .int .u64 id, .int .i64 er, y5, y6, y7, y8, y9, y10, y11, y12, .int .u64 ep, .int .i64 ok, .int .i64 who, .int .i64 tr, .int .u32 ss, .slice AO LO cO, .int .i64 y19, .int .u64 y20, .int .i64 y21, .int .u32 y22, .slice A L c]] w (Gives w (.bool true)) := by
  have q1 : IntKind.u64.wrap (L : Int) = L := IntWalk.u64_in _ (by omega)
  have q2 : IntKind.u64.wrap (n : Int) = n := IntWalk.u64_in _ (by omega)
  have q3 : IntKind.u64.wrap (er : Int) = er := IntWalk.u64_in _ (by omega)
  have q4 : IntKind.u64.wrap (sh : Int) = sh := IntWalk.u64_in _ (by omega)
  have q5 : IntKind.u64.wrap (who : Int) = who := IntWalk.u64_in _ (by omega)
  have q6 : IntKind.u64.wrap (tr : Int) = tr := IntWalk.u64_in _ (by omega)
  have q7 : IntKind.u64.wrap (ss : Int) = ss := IntWalk.u64_in _ (by omega)
  have q8 : IntKind.u64.wrap (LO : Int) = LO := IntWalk.u64_in _ (by omega)
  have i1 : ¬ (n : Int) < 0 := by omega
  have i2 : ¬ (sh : Int) < 0 := by omega
  have i3 : ¬ (er : Int) < 0 := by omega
  have i4 : ¬ (who : Int) < 0 := by omega
  have i5 : ¬ (tr : Int) < 0 := by omega
  have i6 : ¬ 300 < (L : Int) := by omega
  have i7 : ¬ 300 < (LO : Int) := by omega
  have HTb := hide (fun (W : World) (hW : Le w W) => Lib.tabBelow_of_tabIs htab W hW.out)
  clear htab
  have HSH := hide (fun (W : World) (hT : Lib.TabIs Tryz.prog W "internal/strconv.uint64pow10" .u64 Lib.pow10Tab) => shown kk h0 h1 h2 h3 h4 h5 h6 h7 n (.int .i64 sh) (.int .u64 id) (.int .i64 er) y5 y6 y7 y8 y9 y10 y11 y12 (.int .u64 ep) (.int .i64 ok) (.int .i64 who) (.int .i64 tr) (.int .u32 ss) (.slice AO LO cO) (.int .i64 y19) (.int .u64 y20) (.int .i64 y21) (.int .u32 y22) A L c (by omega) W)
  clear hn hsh hid her hep hwho htr hss
  go_enter Tryz.func6, Tryz.ntmps6
  go_wp2_with fail
  refine (awake24 _).mono ?_
  rintro r w2 ⟨rfl, hb2⟩
  have HE := hide ((Le.mk hb2).heap (heap_alloc_new w (.cells #[.int .i64 kk, .int .i64 n, .int .i64 sh, .int .u64 id, .int .i64 er, y5, y6, y7, y8, y9, y10, y11, y12, .int .u64 ep, .int .i64 ok, .int .i64 who, .int .i64 tr, .int .u32 ss, .slice AO LO cO, .int .i64 y19, .int .u64 y20, .int .i64 y21, .int .u32 y22, .slice A L c] 51)))
  have HL := hide (((Le.refl w).alloc (.cells #[.int .i64 kk, .int .i64 n, .int .i64 sh, .int .u64 id, .int .i64 er, y5, y6, y7, y8, y9, y10, y11, y12, .int .u64 ep, .int .i64 ok, .int .i64 who, .int .i64 tr, .int .u32 ss, .slice AO LO cO, .int .i64 y19, .int .u64 y20, .int .i64 y21, .int .u32 y22, .slice A L c] 51)).trans (Le.mk hb2))
  clear hb2
  generalize w.heap.size = p at *
  have z0 : w2.cell? ⟨p, 0, none⟩ = some (.int .i64 kk) := cell_block HE.out 0
  have z1 : w2.cell? ⟨p, 1, none⟩ = some (.int .i64 n) := cell_block HE.out 1
  have z2 : w2.cell? ⟨p, 2, none⟩ = some (.int .i64 sh) := cell_block HE.out 2
  have z3 : w2.cell? ⟨p, 3, none⟩ = some (.int .u64 id) := cell_block HE.out 3
  have z4 : w2.cell? ⟨p, 4, none⟩ = some (.int .i64 er) := cell_block HE.out 4
  have z13 : w2.cell? ⟨p, 13, none⟩ = some (.int .u64 ep) := cell_block HE.out 13
  have z14 : w2.cell? ⟨p, 14, none⟩ = some (.int .i64 ok) := cell_block HE.out 14
  have z15 : w2.cell? ⟨p, 15, none⟩ = some (.int .i64 who) := cell_block HE.out 15
  have z16 : w2.cell? ⟨p, 16, none⟩ = some (.int .i64 tr) := cell_block HE.out 16
  have z17 : w2.cell? ⟨p, 17, none⟩ = some (.int .u32 ss) := cell_block HE.out 17
  have z18 : w2.cell? ⟨p, 18, none⟩ = some (.slice AO LO cO) := cell_block HE.out 18
  have z23 : w2.cell? ⟨p, 23, none⟩ = some (.slice A L c) := cell_block HE.out 23
  have HT3 := hide (HTb.out w2 HL.out)
  have HL4 := hide HL.out
  go_upto_region 35 with fail
  clear z0 z1 z2 z3 z4 z13 z14 z15 z16 z17 z18 z23 HL HTb
  go_wp2_with (refine wpl_load_blk rfl 51 (.tmp 1) rfl (cs := [.int .i64 kk, .int .i64 n, .int .i64 sh, .int .u64 id, .int .i64 er, y5, y6, y7, y8, y9, y10, y11, y12, .int .u64 ep, .int .i64 ok, .int .i64 who, .int .i64 tr, .int .u32 ss, .slice AO LO cO, .int .i64 y19, .int .u64 y20, .int .i64 y21, .int .u32 y22, .slice A L c]) _ rfl Tryz.underlying51 rfl (by kernel_rfl) HE.out ?_)
  refine (HSH.out _ HT3.out).mono ?_
  rintro r w5 ⟨rfl, hb5⟩
  have HL5 := hide (HL4.out.trans (Le.mk hb5))
  clear hb5 HSH HT3 HL4
  go_wp2_with fail
  go_ret
  exact ⟨by simp, HL5.out.out⟩
end Go.Proofs.YtkcpfhbfjpldhaaGreatDoor
