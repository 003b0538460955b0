/- Texts of one claim, laid together: Shw -/
import Derived.Test.YtkcpfhbfjpldhaaGreatDoorJo16
/- script.Show at every kind, the table given. (Written by program: gen_show.py.) -/
namespace Go.Proofs.YtkcpfhbfjpldhaaGreatDoor
open Go.RowKit
set_option linter.unusedVariables false

set_option maxRecDepth 100000 in
set_option maxHeartbeats 400000 in
theorem shows0 (n sh id er ep : Nat) (hn : n < 9223372036854775808) (hsh : sh < 9223372036854775808) (hid : id < 18446744073709551616) (her : er < 9223372036854775808) (hep : ep < 18446744073709551616) (y5 y6 y7 y8 y9 y10 y11 y12 y14 y15 y16 y17 y18 y19 y20 y21 y22 : Value) (A : Option Addr) (L c : Nat) (hL : L ≤ 1000000) (w : World) (htab : Lib.TabIs Tryz.prog w "internal/strconv.uint64pow10" .u64 Lib.pow10Tab) :
    Calls Tryz.prog 20 #[.agg #[.int .i64 0, .int .i64 n, .int .i64 sh, .int .u64 id, .int .i64 er, y5, y6, y7, y8, y9, y10, y11, y12, .int .u64 ep, y14, y15, y16, y17, y18, y19, y20, y21, y22, .slice A L c]] w (Gives w (.string (str (txt [99, 97, 108, 108] [L])))) := by
  have q1 : IntKind.u64.wrap (L : Int) = L := IntWalk.u64_in _ (by omega)
  have q2 : IntKind.u64.wrap (n : Int) = n := IntWalk.u64_in _ (by omega)
  have q3 : IntKind.u64.wrap (er : Int) = er := IntWalk.u64_in _ (by omega)
  have q4 : IntKind.u64.wrap (sh : Int) = sh := IntWalk.u64_in _ (by omega)
  have hf : ∀ x ∈ ([L] : List Nat), x < 18446744073709551616 := by intro x hx; simp only [List.mem_cons, List.not_mem_nil, or_false] at hx; omega
  have HF := hide hf
  have HTb := hide (Lib.tabBelow_of_tabIs htab)
  clear hf htab
  obtain ⟨R, hR⟩ : ∃ R, R = Gives w (.string (str (txt [99, 97, 108, 108] [L]))) := ⟨_, rfl⟩
  rw [← hR]
  have HR := hide hR
  clear hR
  go_enter Tryz.func20, Tryz.ntmps20
  go_wp2_with fail
  have HB := hide ((Le.refl w).alloc (.cells #[.int .i64 0, .int .i64 n, .int .i64 sh, .int .u64 id, .int .i64 er, y5, y6, y7, y8, y9, y10, y11, y12, .int .u64 ep, y14, y15, y16, y17, y18, y19, y20, y21, y22, .slice A L c] 51))
  have HZ := hide (alloc_size w (.cells #[.int .i64 0, .int .i64 n, .int .i64 sh, .int .u64 id, .int .i64 er, y5, y6, y7, y8, y9, y10, y11, y12, .int .u64 ep, y14, y15, y16, y17, y18, y19, y20, y21, y22, .slice A L c] 51))
  generalize w.alloc (.cells #[.int .i64 0, .int .i64 n, .int .i64 sh, .int .u64 id, .int .i64 er, y5, y6, y7, y8, y9, y10, y11, y12, .int .u64 ep, y14, y15, y16, y17, y18, y19, y20, y21, y22, .slice A L c] 51) = w1 at *
  generalize w.heap.size + 1 = p1 at *
  refine (text_tab [99, 97, 108, 108] (by simp) [L] (by simp) HF.out (some ⟨p1, 0, none⟩) _ _ _ (HTb.out _ (HB.out.alloc _).out) (rsl_numsP HZ.out [L] 41)).mono ?_
  rintro r w2 ⟨rfl, hb2⟩
  have H2 := hide ((HB.out.alloc _).trans (Le.mk hb2))
  clear hb2 HB
  generalize str (txt [99, 97, 108, 108] [L]) = S at *
  go_wp2_with fail
  rw [HR.out]
  exact ⟨rfl, H2.out.out⟩
set_option maxRecDepth 100000 in
set_option maxHeartbeats 400000 in
theorem shows1 (n sh id er ep : Nat) (hn : n < 9223372036854775808) (hsh : sh < 9223372036854775808) (hid : id < 18446744073709551616) (her : er < 9223372036854775808) (hep : ep < 18446744073709551616) (y5 y6 y7 y8 y9 y10 y11 y12 y14 y15 y16 y17 y18 y19 y20 y21 y22 : Value) (A : Option Addr) (L c : Nat) (hL : L ≤ 1000000) (w : World) (htab : Lib.TabIs Tryz.prog w "internal/strconv.uint64pow10" .u64 Lib.pow10Tab) :
    Calls Tryz.prog 20 #[.agg #[.int .i64 1, .int .i64 n, .int .i64 sh, .int .u64 id, .int .i64 er, y5, y6, y7, y8, y9, y10, y11, y12, .int .u64 ep, y14, y15, y16, y17, y18, y19, y20, y21, y22, .slice A L c]] w (Gives w (.string (str (txt [100, 105, 100] [n, id, er])))) := by
  have q1 : IntKind.u64.wrap (L : Int) = L := IntWalk.u64_in _ (by omega)
  have q2 : IntKind.u64.wrap (n : Int) = n := IntWalk.u64_in _ (by omega)
  have q3 : IntKind.u64.wrap (er : Int) = er := IntWalk.u64_in _ (by omega)
  have q4 : IntKind.u64.wrap (sh : Int) = sh := IntWalk.u64_in _ (by omega)
  have hf : ∀ x ∈ ([n, id, er] : List Nat), x < 18446744073709551616 := by intro x hx; simp only [List.mem_cons, List.not_mem_nil, or_false] at hx; omega
  have HF := hide hf
  have HTb := hide (Lib.tabBelow_of_tabIs htab)
  clear hf htab
  obtain ⟨R, hR⟩ : ∃ R, R = Gives w (.string (str (txt [100, 105, 100] [n, id, er]))) := ⟨_, rfl⟩
  rw [← hR]
  have HR := hide hR
  clear hR
  go_enter Tryz.func20, Tryz.ntmps20
  go_wp2_with fail
  have HB := hide ((Le.refl w).alloc (.cells #[.int .i64 1, .int .i64 n, .int .i64 sh, .int .u64 id, .int .i64 er, y5, y6, y7, y8, y9, y10, y11, y12, .int .u64 ep, y14, y15, y16, y17, y18, y19, y20, y21, y22, .slice A L c] 51))
  have HZ := hide (alloc_size w (.cells #[.int .i64 1, .int .i64 n, .int .i64 sh, .int .u64 id, .int .i64 er, y5, y6, y7, y8, y9, y10, y11, y12, .int .u64 ep, y14, y15, y16, y17, y18, y19, y20, y21, y22, .slice A L c] 51))
  generalize w.alloc (.cells #[.int .i64 1, .int .i64 n, .int .i64 sh, .int .u64 id, .int .i64 er, y5, y6, y7, y8, y9, y10, y11, y12, .int .u64 ep, y14, y15, y16, y17, y18, y19, y20, y21, y22, .slice A L c] 51) = w1 at *
  generalize w.heap.size + 1 = p1 at *
  refine (text_tab [100, 105, 100] (by simp) [n, id, er] (by simp) HF.out (some ⟨p1, 0, none⟩) _ _ _ (HTb.out _ (HB.out.alloc _).out) (rsl_numsP HZ.out [n, id, er] 41)).mono ?_
  rintro r w2 ⟨rfl, hb2⟩
  have H2 := hide ((HB.out.alloc _).trans (Le.mk hb2))
  clear hb2 HB
  generalize str (txt [100, 105, 100] [n, id, er]) = S at *
  go_wp2_with fail
  rw [HR.out]
  exact ⟨rfl, H2.out.out⟩
set_option maxRecDepth 100000 in
set_option maxHeartbeats 400000 in
theorem shows2 (n sh id er ep : Nat) (hn : n < 9223372036854775808) (hsh : sh < 9223372036854775808) (hid : id < 18446744073709551616) (her : er < 9223372036854775808) (hep : ep < 18446744073709551616) (y5 y6 y7 y8 y9 y10 y11 y12 y14 y15 y16 y17 y18 y19 y20 y21 y22 : Value) (A : Option Addr) (L c : Nat) (hL : L ≤ 1000000) (w : World) (htab : Lib.TabIs Tryz.prog w "internal/strconv.uint64pow10" .u64 Lib.pow10Tab) :
    Calls Tryz.prog 20 #[.agg #[.int .i64 2, .int .i64 n, .int .i64 sh, .int .u64 id, .int .i64 er, y5, y6, y7, y8, y9, y10, y11, y12, .int .u64 ep, y14, y15, y16, y17, y18, y19, y20, y21, y22, .slice A L c]] w (Gives w (.string (str (txt [114, 101, 112, 108, 121] [n, id, er])))) := by
  have q1 : IntKind.u64.wrap (L : Int) = L := IntWalk.u64_in _ (by omega)
  have q2 : IntKind.u64.wrap (n : Int) = n := IntWalk.u64_in _ (by omega)
  have q3 : IntKind.u64.wrap (er : Int) = er := IntWalk.u64_in _ (by omega)
  have q4 : IntKind.u64.wrap (sh : Int) = sh := IntWalk.u64_in _ (by omega)
  have hf : ∀ x ∈ ([n, id, er] : List Nat), x < 18446744073709551616 := by intro x hx; simp only [List.mem_cons, List.not_mem_nil, or_false] at hx; omega
  have HF := hide hf
  have HTb := hide (Lib.tabBelow_of_tabIs htab)
  clear hf htab
  obtain ⟨R, hR⟩ : ∃ R, R = Gives w (.string (str (txt [114, 101, 112, 108, 121] [n, id, er]))) := ⟨_, rfl⟩
  rw [← hR]
  have HR := hide hR
  clear hR
  go_enter Tryz.func20, Tryz.ntmps20
  go_wp2_with fail
  have HB := hide ((Le.refl w).alloc (.cells #[.int .i64 2, .int .i64 n, .int .i64 sh, .int .u64 id, .int .i64 er, y5, y6, y7, y8, y9, y10, y11, y12, .int .u64 ep, y14, y15, y16, y17, y18, y19, y20, y21, y22, .slice A L c] 51))
  have HZ := hide (alloc_size w (.cells #[.int .i64 2, .int .i64 n, .int .i64 sh, .int .u64 id, .int .i64 er, y5, y6, y7, y8, y9, y10, y11, y12, .int .u64 ep, y14, y15, y16, y17, y18, y19, y20, y21, y22, .slice A L c] 51))
  generalize w.alloc (.cells #[.int .i64 2, .int .i64 n, .int .i64 sh, .int .u64 id, .int .i64 er, y5, y6, y7, y8, y9, y10, y11, y12, .int .u64 ep, y14, y15, y16, y17, y18, y19, y20, y21, y22, .slice A L c] 51) = w1 at *
  generalize w.heap.size + 1 = p1 at *
  refine (text_tab [114, 101, 112, 108, 121] (by simp) [n, id, er] (by simp) HF.out (some ⟨p1, 0, none⟩) _ _ _ (HTb.out _ (HB.out.alloc _).out) (rsl_numsP HZ.out [n, id, er] 41)).mono ?_
  rintro r w2 ⟨rfl, hb2⟩
  have H2 := hide ((HB.out.alloc _).trans (Le.mk hb2))
  clear hb2 HB
  generalize str (txt [114, 101, 112, 108, 121] [n, id, er]) = S at *
  go_wp2_with fail
  rw [HR.out]
  exact ⟨rfl, H2.out.out⟩
set_option maxRecDepth 100000 in
set_option maxHeartbeats 400000 in
theorem shows3 (n sh id er ep : Nat) (hn : n < 9223372036854775808) (hsh : sh < 9223372036854775808) (hid : id < 18446744073709551616) (her : er < 9223372036854775808) (hep : ep < 18446744073709551616) (y5 y6 y7 y8 y9 y10 y11 y12 y14 y15 y16 y17 y18 y19 y20 y21 y22 : Value) (A : Option Addr) (L c : Nat) (hL : L ≤ 1000000) (w : World) (htab : Lib.TabIs Tryz.prog w "internal/strconv.uint64pow10" .u64 Lib.pow10Tab) :
    Calls Tryz.prog 20 #[.agg #[.int .i64 3, .int .i64 n, .int .i64 sh, .int .u64 id, .int .i64 er, y5, y6, y7, y8, y9, y10, y11, y12, .int .u64 ep, y14, y15, y16, y17, y18, y19, y20, y21, y22, .slice A L c]] w (Gives w (.string (str (txt [97, 114, 114, 105, 118, 101] [sh, L])))) := by
  have q1 : IntKind.u64.wrap (L : Int) = L := IntWalk.u64_in _ (by omega)
  have q2 : IntKind.u64.wrap (n : Int) = n := IntWalk.u64_in _ (by omega)
  have q3 : IntKind.u64.wrap (er : Int) = er := IntWalk.u64_in _ (by omega)
  have q4 : IntKind.u64.wrap (sh : Int) = sh := IntWalk.u64_in _ (by omega)
  have hf : ∀ x ∈ ([sh, L] : List Nat), x < 18446744073709551616 := by intro x hx; simp only [List.mem_cons, List.not_mem_nil, or_false] at hx; omega
  have HF := hide hf
  have HTb := hide (Lib.tabBelow_of_tabIs htab)
  clear hf htab
  obtain ⟨R, hR⟩ : ∃ R, R = Gives w (.string (str (txt [97, 114, 114, 105, 118, 101] [sh, L]))) := ⟨_, rfl⟩
  rw [← hR]
  have HR := hide hR
  clear hR
  go_enter Tryz.func20, Tryz.ntmps20
  go_wp2_with fail
  have HB := hide ((Le.refl w).alloc (.cells #[.int .i64 3, .int .i64 n, .int .i64 sh, .int .u64 id, .int .i64 er, y5, y6, y7, y8, y9, y10, y11, y12, .int .u64 ep, y14, y15, y16, y17, y18, y19, y20, y21, y22, .slice A L c] 51))
  have HZ := hide (alloc_size w (.cells #[.int .i64 3, .int .i64 n, .int .i64 sh, .int .u64 id, .int .i64 er, y5, y6, y7, y8, y9, y10, y11, y12, .int .u64 ep, y14, y15, y16, y17, y18, y19, y20, y21, y22, .slice A L c] 51))
  generalize w.alloc (.cells #[.int .i64 3, .int .i64 n, .int .i64 sh, .int .u64 id, .int .i64 er, y5, y6, y7, y8, y9, y10, y11, y12, .int .u64 ep, y14, y15, y16, y17, y18, y19, y20, y21, y22, .slice A L c] 51) = w1 at *
  generalize w.heap.size + 1 = p1 at *
  refine (text_tab [97, 114, 114, 105, 118, 101] (by simp) [sh, L] (by simp) HF.out (some ⟨p1, 0, none⟩) _ _ _ (HTb.out _ (HB.out.alloc _).out) (rsl_numsP HZ.out [sh, L] 41)).mono ?_
  rintro r w2 ⟨rfl, hb2⟩
  have H2 := hide ((HB.out.alloc _).trans (Le.mk hb2))
  clear hb2 HB
  generalize str (txt [97, 114, 114, 105, 118, 101] [sh, L]) = S at *
  go_wp2_with fail
  rw [HR.out]
  exact ⟨rfl, H2.out.out⟩
set_option maxRecDepth 100000 in
set_option maxHeartbeats 400000 in
theorem shows4 (n sh id er ep : Nat) (hn : n < 9223372036854775808) (hsh : sh < 9223372036854775808) (hid : id < 18446744073709551616) (her : er < 9223372036854775808) (hep : ep < 18446744073709551616) (y5 y6 y7 y8 y9 y10 y11 y12 y14 y15 y16 y17 y18 y19 y20 y21 y22 : Value) (A : Option Addr) (L c : Nat) (hL : L ≤ 1000000) (w : World) (htab : Lib.TabIs Tryz.prog w "internal/strconv.uint64pow10" .u64 Lib.pow10Tab) :
    Calls Tryz.prog 20 #[.agg #[.int .i64 4, .int .i64 n, .int .i64 sh, .int .u64 id, .int .i64 er, y5, y6, y7, y8, y9, y10, y11, y12, .int .u64 ep, y14, y15, y16, y17, y18, y19, y20, y21, y22, .slice A L c]] w (Gives w (.string (str (txt [108, 111, 115, 116] [L])))) := by
  have q1 : IntKind.u64.wrap (L : Int) = L := IntWalk.u64_in _ (by omega)
  have q2 : IntKind.u64.wrap (n : Int) = n := IntWalk.u64_in _ (by omega)
  have q3 : IntKind.u64.wrap (er : Int) = er := IntWalk.u64_in _ (by omega)
  have q4 : IntKind.u64.wrap (sh : Int) = sh := IntWalk.u64_in _ (by omega)
  have hf : ∀ x ∈ ([L] : List Nat), x < 18446744073709551616 := by intro x hx; simp only [List.mem_cons, List.not_mem_nil, or_false] at hx; omega
  have HF := hide hf
  have HTb := hide (Lib.tabBelow_of_tabIs htab)
  clear hf htab
  obtain ⟨R, hR⟩ : ∃ R, R = Gives w (.string (str (txt [108, 111, 115, 116] [L]))) := ⟨_, rfl⟩
  rw [← hR]
  have HR := hide hR
  clear hR
  go_enter Tryz.func20, Tryz.ntmps20
  go_wp2_with fail
  have HB := hide ((Le.refl w).alloc (.cells #[.int .i64 4, .int .i64 n, .int .i64 sh, .int .u64 id, .int .i64 er, y5, y6, y7, y8, y9, y10, y11, y12, .int .u64 ep, y14, y15, y16, y17, y18, y19, y20, y21, y22, .slice A L c] 51))
  have HZ := hide (alloc_size w (.cells #[.int .i64 4, .int .i64 n, .int .i64 sh, .int .u64 id, .int .i64 er, y5, y6, y7, y8, y9, y10, y11, y12, .int .u64 ep, y14, y15, y16, y17, y18, y19, y20, y21, y22, .slice A L c] 51))
  generalize w.alloc (.cells #[.int .i64 4, .int .i64 n, .int .i64 sh, .int .u64 id, .int .i64 er, y5, y6, y7, y8, y9, y10, y11, y12, .int .u64 ep, y14, y15, y16, y17, y18, y19, y20, y21, y22, .slice A L c] 51) = w1 at *
  generalize w.heap.size + 1 = p1 at *
  refine (text_tab [108, 111, 115, 116] (by simp) [L] (by simp) HF.out (some ⟨p1, 0, none⟩) _ _ _ (HTb.out _ (HB.out.alloc _).out) (rsl_numsP HZ.out [L] 41)).mono ?_
  rintro r w2 ⟨rfl, hb2⟩
  have H2 := hide ((HB.out.alloc _).trans (Le.mk hb2))
  clear hb2 HB
  generalize str (txt [108, 111, 115, 116] [L]) = S at *
  go_wp2_with fail
  rw [HR.out]
  exact ⟨rfl, H2.out.out⟩
set_option maxRecDepth 100000 in
set_option maxHeartbeats 400000 in
theorem shows5 (n sh id er ep : Nat) (hn : n < 9223372036854775808) (hsh : sh < 9223372036854775808) (hid : id < 18446744073709551616) (her : er < 9223372036854775808) (hep : ep < 18446744073709551616) (y5 y6 y7 y8 y9 y10 y11 y12 y14 y15 y16 y17 y18 y19 y20 y21 y22 : Value) (A : Option Addr) (L c : Nat) (hL : L ≤ 1000000) (w : World) (htab : Lib.TabIs Tryz.prog w "internal/strconv.uint64pow10" .u64 Lib.pow10Tab) :
    Calls Tryz.prog 20 #[.agg #[.int .i64 5, .int .i64 n, .int .i64 sh, .int .u64 id, .int .i64 er, y5, y6, y7, y8, y9, y10, y11, y12, .int .u64 ep, y14, y15, y16, y17, y18, y19, y20, y21, y22, .slice A L c]] w (Gives w (.string (str (txt [102, 117, 108, 108] [n])))) := by
  have q1 : IntKind.u64.wrap (L : Int) = L := IntWalk.u64_in _ (by omega)
  have q2 : IntKind.u64.wrap (n : Int) = n := IntWalk.u64_in _ (by omega)
  have q3 : IntKind.u64.wrap (er : Int) = er := IntWalk.u64_in _ (by omega)
  have q4 : IntKind.u64.wrap (sh : Int) = sh := IntWalk.u64_in _ (by omega)
  have hf : ∀ x ∈ ([n] : List Nat), x < 18446744073709551616 := by intro x hx; simp only [List.mem_cons, List.not_mem_nil, or_false] at hx; omega
  have HF := hide hf
  have HTb := hide (Lib.tabBelow_of_tabIs htab)
  clear hf htab
  obtain ⟨R, hR⟩ : ∃ R, R = Gives w (.string (str (txt [102, 117, 108, 108] [n]))) := ⟨_, rfl⟩
  rw [← hR]
  have HR := hide hR
  clear hR
  go_enter Tryz.func20, Tryz.ntmps20
  go_wp2_with fail
  have HB := hide ((Le.refl w).alloc (.cells #[.int .i64 5, .int .i64 n, .int .i64 sh, .int .u64 id, .int .i64 er, y5, y6, y7, y8, y9, y10, y11, y12, .int .u64 ep, y14, y15, y16, y17, y18, y19, y20, y21, y22, .slice A L c] 51))
  have HZ := hide (alloc_size w (.cells #[.int .i64 5, .int .i64 n, .int .i64 sh, .int .u64 id, .int .i64 er, y5, y6, y7, y8, y9, y10, y11, y12, .int .u64 ep, y14, y15, y16, y17, y18, y19, y20, y21, y22, .slice A L c] 51))
  generalize w.alloc (.cells #[.int .i64 5, .int .i64 n, .int .i64 sh, .int .u64 id, .int .i64 er, y5, y6, y7, y8, y9, y10, y11, y12, .int .u64 ep, y14, y15, y16, y17, y18, y19, y20, y21, y22, .slice A L c] 51) = w1 at *
  generalize w.heap.size + 1 = p1 at *
  refine (text_tab [102, 117, 108, 108] (by simp) [n] (by simp) HF.out (some ⟨p1, 0, none⟩) _ _ _ (HTb.out _ (HB.out.alloc _).out) (rsl_numsP HZ.out [n] 41)).mono ?_
  rintro r w2 ⟨rfl, hb2⟩
  have H2 := hide ((HB.out.alloc _).trans (Le.mk hb2))
  clear hb2 HB
  generalize str (txt [102, 117, 108, 108] [n]) = S at *
  go_wp2_with fail
  rw [HR.out]
  exact ⟨rfl, H2.out.out⟩
set_option maxRecDepth 100000 in
set_option maxHeartbeats 400000 in
theorem shows6 (n sh id er ep : Nat) (hn : n < 9223372036854775808) (hsh : sh < 9223372036854775808) (hid : id < 18446744073709551616) (her : er < 9223372036854775808) (hep : ep < 18446744073709551616) (y5 y6 y7 y8 y9 y10 y11 y12 y14 y15 y16 y17 y18 y19 y20 y21 y22 : Value) (A : Option Addr) (L c : Nat) (hL : L ≤ 1000000) (w : World) (htab : Lib.TabIs Tryz.prog w "internal/strconv.uint64pow10" .u64 Lib.pow10Tab) :
    Calls Tryz.prog 20 #[.agg #[.int .i64 6, .int .i64 n, .int .i64 sh, .int .u64 id, .int .i64 er, y5, y6, y7, y8, y9, y10, y11, y12, .int .u64 ep, y14, y15, y16, y17, y18, y19, y20, y21, y22, .slice A L c]] w (Gives w (.string (str (txt [108, 111, 111, 107] [n, sh, ep])))) := by
  have q1 : IntKind.u64.wrap (L : Int) = L := IntWalk.u64_in _ (by omega)
  have q2 : IntKind.u64.wrap (n : Int) = n := IntWalk.u64_in _ (by omega)
  have q3 : IntKind.u64.wrap (er : Int) = er := IntWalk.u64_in _ (by omega)
  have q4 : IntKind.u64.wrap (sh : Int) = sh := IntWalk.u64_in _ (by omega)
  have hf : ∀ x ∈ ([n, sh, ep] : List Nat), x < 18446744073709551616 := by intro x hx; simp only [List.mem_cons, List.not_mem_nil, or_false] at hx; omega
  have HF := hide hf
  have HTb := hide (Lib.tabBelow_of_tabIs htab)
  clear hf htab
  obtain ⟨R, hR⟩ : ∃ R, R = Gives w (.string (str (txt [108, 111, 111, 107] [n, sh, ep]))) := ⟨_, rfl⟩
  rw [← hR]
  have HR := hide hR
  clear hR
  go_enter Tryz.func20, Tryz.ntmps20
  go_wp2_with fail
  have HB := hide ((Le.refl w).alloc (.cells #[.int .i64 6, .int .i64 n, .int .i64 sh, .int .u64 id, .int .i64 er, y5, y6, y7, y8, y9, y10, y11, y12, .int .u64 ep, y14, y15, y16, y17, y18, y19, y20, y21, y22, .slice A L c] 51))
  have HZ := hide (alloc_size w (.cells #[.int .i64 6, .int .i64 n, .int .i64 sh, .int .u64 id, .int .i64 er, y5, y6, y7, y8, y9, y10, y11, y12, .int .u64 ep, y14, y15, y16, y17, y18, y19, y20, y21, y22, .slice A L c] 51))
  generalize w.alloc (.cells #[.int .i64 6, .int .i64 n, .int .i64 sh, .int .u64 id, .int .i64 er, y5, y6, y7, y8, y9, y10, y11, y12, .int .u64 ep, y14, y15, y16, y17, y18, y19, y20, y21, y22, .slice A L c] 51) = w1 at *
  generalize w.heap.size + 1 = p1 at *
  refine (text_tab [108, 111, 111, 107] (by simp) [n, sh, ep] (by simp) HF.out (some ⟨p1, 0, none⟩) _ _ _ (HTb.out _ (HB.out.alloc _).out) (rsl_numsP HZ.out [n, sh, ep] 41)).mono ?_
  rintro r w2 ⟨rfl, hb2⟩
  have H2 := hide ((HB.out.alloc _).trans (Le.mk hb2))
  clear hb2 HB
  generalize str (txt [108, 111, 111, 107] [n, sh, ep]) = S at *
  go_wp2_with fail
  rw [HR.out]
  exact ⟨rfl, H2.out.out⟩
end Go.Proofs.YtkcpfhbfjpldhaaGreatDoor
