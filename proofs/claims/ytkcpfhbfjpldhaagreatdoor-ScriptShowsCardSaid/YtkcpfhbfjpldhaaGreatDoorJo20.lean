/- Texts of one claim, laid together: Lshe OpenEv Tab24 ScriptShows -/
import Derived.Test.YtkcpfhbfjpldhaaGreatDoorRows
import Derived.Lib.LaidTab
import Derived.Lib.ItoaNum
import Derived.Stop.LaidErr
import Derived.SevenTiedAt
import Derived.Test.YtkcpfhbfjpldhaaGreatDoorJo16
import Derived.Test.YtkcpfhbfjpldhaaGreatDoorJo19
/- ScriptShows, kind by kind. (Written by gen_shows24.py.) -/
namespace Go.Proofs.YtkcpfhbfjpldhaaGreatDoor
open Go.RowKit
set_option linter.unusedVariables false
set_option linter.unusedSimpArgs false
set_option maxRecDepth 100000 in
set_option maxHeartbeats 1000000 in
theorem lawshe0 (k n sh er ok who tr : Int) (id ep ss : Nat) (y5 y6 y7 y8 y9 y10 y11 y12 : Value) (y19 y20 y21 y22 : Int) (AO : Option Addr) (LO cO : Nat) (A : Option Addr) (L c : Nat) (w : World)  (i1 : n < 0) :
    Calls Tryz.prog 6 #[.agg #[.int .i64 k, .int .i64 n, .int .i64 sh, .int .u64 id, .int .i64 er, y5, y6, y7, y8, y9, y10, y11, y12, .int .u64 ep, .int .i64 ok, .int .i64 who, .int .i64 tr, .int .u32 ss, .slice AO LO cO, .int .i64 y19, .int .u64 y20, .int .i64 y21, .int .u32 y22, .slice A L c]] w (Gives w (.bool true)) := by
  go_enter Tryz.func6, Tryz.ntmps6
  go_wp2_with fail
  refine (awake24 _).mono ?_
  rintro r w2 ⟨rfl, hb2⟩
  have HE := hide ((Le.mk hb2).heap (heap_alloc_new w (.cells #[.int .i64 k, .int .i64 n, .int .i64 sh, .int .u64 id, .int .i64 er, y5, y6, y7, y8, y9, y10, y11, y12, .int .u64 ep, .int .i64 ok, .int .i64 who, .int .i64 tr, .int .u32 ss, .slice AO LO cO, .int .i64 y19, .int .u64 y20, .int .i64 y21, .int .u32 y22, .slice A L c] 51)))
  have HL := hide (((Le.refl w).alloc (.cells #[.int .i64 k, .int .i64 n, .int .i64 sh, .int .u64 id, .int .i64 er, y5, y6, y7, y8, y9, y10, y11, y12, .int .u64 ep, .int .i64 ok, .int .i64 who, .int .i64 tr, .int .u32 ss, .slice AO LO cO, .int .i64 y19, .int .u64 y20, .int .i64 y21, .int .u32 y22, .slice A L c] 51)).trans (Le.mk hb2))
  clear hb2
  generalize w.heap.size = p at *
  have z1 : w2.cell? ⟨p, 1, none⟩ = some (.int .i64 n) := cell_block HE.out 1
  have z2 : w2.cell? ⟨p, 2, none⟩ = some (.int .i64 sh) := cell_block HE.out 2
  have z4 : w2.cell? ⟨p, 4, none⟩ = some (.int .i64 er) := cell_block HE.out 4
  have z15 : w2.cell? ⟨p, 15, none⟩ = some (.int .i64 who) := cell_block HE.out 15
  have z16 : w2.cell? ⟨p, 16, none⟩ = some (.int .i64 tr) := cell_block HE.out 16
  have z18 : w2.cell? ⟨p, 18, none⟩ = some (.slice AO LO cO) := cell_block HE.out 18
  have z23 : w2.cell? ⟨p, 23, none⟩ = some (.slice A L c) := cell_block HE.out 23
  go_wp2_with fail
  go_ret
  exact ⟨rfl, HL.out.out⟩
set_option maxRecDepth 100000 in
set_option maxHeartbeats 1000000 in
theorem lawshe1 (k n sh er ok who tr : Int) (id ep ss : Nat) (y5 y6 y7 y8 y9 y10 y11 y12 : Value) (y19 y20 y21 y22 : Int) (AO : Option Addr) (LO cO : Nat) (A : Option Addr) (L c : Nat) (w : World) (i1 : ¬ n < 0) (i2 : sh < 0) :
    Calls Tryz.prog 6 #[.agg #[.int .i64 k, .int .i64 n, .int .i64 sh, .int .u64 id, .int .i64 er, y5, y6, y7, y8, y9, y10, y11, y12, .int .u64 ep, .int .i64 ok, .int .i64 who, .int .i64 tr, .int .u32 ss, .slice AO LO cO, .int .i64 y19, .int .u64 y20, .int .i64 y21, .int .u32 y22, .slice A L c]] w (Gives w (.bool true)) := by
  go_enter Tryz.func6, Tryz.ntmps6
  go_wp2_with fail
  refine (awake24 _).mono ?_
  rintro r w2 ⟨rfl, hb2⟩
  have HE := hide ((Le.mk hb2).heap (heap_alloc_new w (.cells #[.int .i64 k, .int .i64 n, .int .i64 sh, .int .u64 id, .int .i64 er, y5, y6, y7, y8, y9, y10, y11, y12, .int .u64 ep, .int .i64 ok, .int .i64 who, .int .i64 tr, .int .u32 ss, .slice AO LO cO, .int .i64 y19, .int .u64 y20, .int .i64 y21, .int .u32 y22, .slice A L c] 51)))
  have HL := hide (((Le.refl w).alloc (.cells #[.int .i64 k, .int .i64 n, .int .i64 sh, .int .u64 id, .int .i64 er, y5, y6, y7, y8, y9, y10, y11, y12, .int .u64 ep, .int .i64 ok, .int .i64 who, .int .i64 tr, .int .u32 ss, .slice AO LO cO, .int .i64 y19, .int .u64 y20, .int .i64 y21, .int .u32 y22, .slice A L c] 51)).trans (Le.mk hb2))
  clear hb2
  generalize w.heap.size = p at *
  have z1 : w2.cell? ⟨p, 1, none⟩ = some (.int .i64 n) := cell_block HE.out 1
  have z2 : w2.cell? ⟨p, 2, none⟩ = some (.int .i64 sh) := cell_block HE.out 2
  have z4 : w2.cell? ⟨p, 4, none⟩ = some (.int .i64 er) := cell_block HE.out 4
  have z15 : w2.cell? ⟨p, 15, none⟩ = some (.int .i64 who) := cell_block HE.out 15
  have z16 : w2.cell? ⟨p, 16, none⟩ = some (.int .i64 tr) := cell_block HE.out 16
  have z18 : w2.cell? ⟨p, 18, none⟩ = some (.slice AO LO cO) := cell_block HE.out 18
  have z23 : w2.cell? ⟨p, 23, none⟩ = some (.slice A L c) := cell_block HE.out 23
  go_wp2_with fail
  go_ret
  exact ⟨rfl, HL.out.out⟩
set_option maxRecDepth 100000 in
set_option maxHeartbeats 1000000 in
theorem lawshe2 (k n sh er ok who tr : Int) (id ep ss : Nat) (y5 y6 y7 y8 y9 y10 y11 y12 : Value) (y19 y20 y21 y22 : Int) (AO : Option Addr) (LO cO : Nat) (A : Option Addr) (L c : Nat) (w : World) (i1 : ¬ n < 0) (i2 : ¬ sh < 0) (i3 : er < 0) :
    Calls Tryz.prog 6 #[.agg #[.int .i64 k, .int .i64 n, .int .i64 sh, .int .u64 id, .int .i64 er, y5, y6, y7, y8, y9, y10, y11, y12, .int .u64 ep, .int .i64 ok, .int .i64 who, .int .i64 tr, .int .u32 ss, .slice AO LO cO, .int .i64 y19, .int .u64 y20, .int .i64 y21, .int .u32 y22, .slice A L c]] w (Gives w (.bool true)) := by
  go_enter Tryz.func6, Tryz.ntmps6
  go_wp2_with fail
  refine (awake24 _).mono ?_
  rintro r w2 ⟨rfl, hb2⟩
  have HE := hide ((Le.mk hb2).heap (heap_alloc_new w (.cells #[.int .i64 k, .int .i64 n, .int .i64 sh, .int .u64 id, .int .i64 er, y5, y6, y7, y8, y9, y10, y11, y12, .int .u64 ep, .int .i64 ok, .int .i64 who, .int .i64 tr, .int .u32 ss, .slice AO LO cO, .int .i64 y19, .int .u64 y20, .int .i64 y21, .int .u32 y22, .slice A L c] 51)))
  have HL := hide (((Le.refl w).alloc (.cells #[.int .i64 k, .int .i64 n, .int .i64 sh, .int .u64 id, .int .i64 er, y5, y6, y7, y8, y9, y10, y11, y12, .int .u64 ep, .int .i64 ok, .int .i64 who, .int .i64 tr, .int .u32 ss, .slice AO LO cO, .int .i64 y19, .int .u64 y20, .int .i64 y21, .int .u32 y22, .slice A L c] 51)).trans (Le.mk hb2))
  clear hb2
  generalize w.heap.size = p at *
  have z1 : w2.cell? ⟨p, 1, none⟩ = some (.int .i64 n) := cell_block HE.out 1
  have z2 : w2.cell? ⟨p, 2, none⟩ = some (.int .i64 sh) := cell_block HE.out 2
  have z4 : w2.cell? ⟨p, 4, none⟩ = some (.int .i64 er) := cell_block HE.out 4
  have z15 : w2.cell? ⟨p, 15, none⟩ = some (.int .i64 who) := cell_block HE.out 15
  have z16 : w2.cell? ⟨p, 16, none⟩ = some (.int .i64 tr) := cell_block HE.out 16
  have z18 : w2.cell? ⟨p, 18, none⟩ = some (.slice AO LO cO) := cell_block HE.out 18
  have z23 : w2.cell? ⟨p, 23, none⟩ = some (.slice A L c) := cell_block HE.out 23
  go_wp2_with fail
  go_ret
  exact ⟨rfl, HL.out.out⟩
set_option maxRecDepth 100000 in
set_option maxHeartbeats 1000000 in
theorem lawshe3 (k n sh er ok who tr : Int) (id ep ss : Nat) (y5 y6 y7 y8 y9 y10 y11 y12 : Value) (y19 y20 y21 y22 : Int) (AO : Option Addr) (LO cO : Nat) (A : Option Addr) (L c : Nat) (w : World) (i1 : ¬ n < 0) (i2 : ¬ sh < 0) (i3 : ¬ er < 0) (i4 : who < 0) :
    Calls Tryz.prog 6 #[.agg #[.int .i64 k, .int .i64 n, .int .i64 sh, .int .u64 id, .int .i64 er, y5, y6, y7, y8, y9, y10, y11, y12, .int .u64 ep, .int .i64 ok, .int .i64 who, .int .i64 tr, .int .u32 ss, .slice AO LO cO, .int .i64 y19, .int .u64 y20, .int .i64 y21, .int .u32 y22, .slice A L c]] w (Gives w (.bool true)) := by
  go_enter Tryz.func6, Tryz.ntmps6
  go_wp2_with fail
  refine (awake24 _).mono ?_
  rintro r w2 ⟨rfl, hb2⟩
  have HE := hide ((Le.mk hb2).heap (heap_alloc_new w (.cells #[.int .i64 k, .int .i64 n, .int .i64 sh, .int .u64 id, .int .i64 er, y5, y6, y7, y8, y9, y10, y11, y12, .int .u64 ep, .int .i64 ok, .int .i64 who, .int .i64 tr, .int .u32 ss, .slice AO LO cO, .int .i64 y19, .int .u64 y20, .int .i64 y21, .int .u32 y22, .slice A L c] 51)))
  have HL := hide (((Le.refl w).alloc (.cells #[.int .i64 k, .int .i64 n, .int .i64 sh, .int .u64 id, .int .i64 er, y5, y6, y7, y8, y9, y10, y11, y12, .int .u64 ep, .int .i64 ok, .int .i64 who, .int .i64 tr, .int .u32 ss, .slice AO LO cO, .int .i64 y19, .int .u64 y20, .int .i64 y21, .int .u32 y22, .slice A L c] 51)).trans (Le.mk hb2))
  clear hb2
  generalize w.heap.size = p at *
  have z1 : w2.cell? ⟨p, 1, none⟩ = some (.int .i64 n) := cell_block HE.out 1
  have z2 : w2.cell? ⟨p, 2, none⟩ = some (.int .i64 sh) := cell_block HE.out 2
  have z4 : w2.cell? ⟨p, 4, none⟩ = some (.int .i64 er) := cell_block HE.out 4
  have z15 : w2.cell? ⟨p, 15, none⟩ = some (.int .i64 who) := cell_block HE.out 15
  have z16 : w2.cell? ⟨p, 16, none⟩ = some (.int .i64 tr) := cell_block HE.out 16
  have z18 : w2.cell? ⟨p, 18, none⟩ = some (.slice AO LO cO) := cell_block HE.out 18
  have z23 : w2.cell? ⟨p, 23, none⟩ = some (.slice A L c) := cell_block HE.out 23
  go_wp2_with fail
  go_ret
  exact ⟨rfl, HL.out.out⟩
set_option maxRecDepth 100000 in
set_option maxHeartbeats 1000000 in
theorem lawshe4 (k n sh er ok who tr : Int) (id ep ss : Nat) (y5 y6 y7 y8 y9 y10 y11 y12 : Value) (y19 y20 y21 y22 : Int) (AO : Option Addr) (LO cO : Nat) (A : Option Addr) (L c : Nat) (w : World) (i1 : ¬ n < 0) (i2 : ¬ sh < 0) (i3 : ¬ er < 0) (i4 : ¬ who < 0) (i5 : tr < 0) :
    Calls Tryz.prog 6 #[.agg #[.int .i64 k, .int .i64 n, .int .i64 sh, .int .u64 id, .int .i64 er, y5, y6, y7, y8, y9, y10, y11, y12, .int .u64 ep, .int .i64 ok, .int .i64 who, .int .i64 tr, .int .u32 ss, .slice AO LO cO, .int .i64 y19, .int .u64 y20, .int .i64 y21, .int .u32 y22, .slice A L c]] w (Gives w (.bool true)) := by
  go_enter Tryz.func6, Tryz.ntmps6
  go_wp2_with fail
  refine (awake24 _).mono ?_
  rintro r w2 ⟨rfl, hb2⟩
  have HE := hide ((Le.mk hb2).heap (heap_alloc_new w (.cells #[.int .i64 k, .int .i64 n, .int .i64 sh, .int .u64 id, .int .i64 er, y5, y6, y7, y8, y9, y10, y11, y12, .int .u64 ep, .int .i64 ok, .int .i64 who, .int .i64 tr, .int .u32 ss, .slice AO LO cO, .int .i64 y19, .int .u64 y20, .int .i64 y21, .int .u32 y22, .slice A L c] 51)))
  have HL := hide (((Le.refl w).alloc (.cells #[.int .i64 k, .int .i64 n, .int .i64 sh, .int .u64 id, .int .i64 er, y5, y6, y7, y8, y9, y10, y11, y12, .int .u64 ep, .int .i64 ok, .int .i64 who, .int .i64 tr, .int .u32 ss, .slice AO LO cO, .int .i64 y19, .int .u64 y20, .int .i64 y21, .int .u32 y22, .slice A L c] 51)).trans (Le.mk hb2))
  clear hb2
  generalize w.heap.size = p at *
  have z1 : w2.cell? ⟨p, 1, none⟩ = some (.int .i64 n) := cell_block HE.out 1
  have z2 : w2.cell? ⟨p, 2, none⟩ = some (.int .i64 sh) := cell_block HE.out 2
  have z4 : w2.cell? ⟨p, 4, none⟩ = some (.int .i64 er) := cell_block HE.out 4
  have z15 : w2.cell? ⟨p, 15, none⟩ = some (.int .i64 who) := cell_block HE.out 15
  have z16 : w2.cell? ⟨p, 16, none⟩ = some (.int .i64 tr) := cell_block HE.out 16
  have z18 : w2.cell? ⟨p, 18, none⟩ = some (.slice AO LO cO) := cell_block HE.out 18
  have z23 : w2.cell? ⟨p, 23, none⟩ = some (.slice A L c) := cell_block HE.out 23
  go_wp2_with fail
  go_ret
  exact ⟨rfl, HL.out.out⟩
set_option maxRecDepth 100000 in
set_option maxHeartbeats 1000000 in
theorem lawshe5 (k n sh er ok who tr : Int) (id ep ss : Nat) (y5 y6 y7 y8 y9 y10 y11 y12 : Value) (y19 y20 y21 y22 : Int) (AO : Option Addr) (LO cO : Nat) (A : Option Addr) (L c : Nat) (w : World) (i1 : ¬ n < 0) (i2 : ¬ sh < 0) (i3 : ¬ er < 0) (i4 : ¬ who < 0) (i5 : ¬ tr < 0) (i6 : 300 < (L : Int)) :
    Calls Tryz.prog 6 #[.agg #[.int .i64 k, .int .i64 n, .int .i64 sh, .int .u64 id, .int .i64 er, y5, y6, y7, y8, y9, y10, y11, y12, .int .u64 ep, .int .i64 ok, .int .i64 who, .int .i64 tr, .int .u32 ss, .slice AO LO cO, .int .i64 y19, .int .u64 y20, .int .i64 y21, .int .u32 y22, .slice A L c]] w (Gives w (.bool true)) := by
  go_enter Tryz.func6, Tryz.ntmps6
  go_wp2_with fail
  refine (awake24 _).mono ?_
  rintro r w2 ⟨rfl, hb2⟩
  have HE := hide ((Le.mk hb2).heap (heap_alloc_new w (.cells #[.int .i64 k, .int .i64 n, .int .i64 sh, .int .u64 id, .int .i64 er, y5, y6, y7, y8, y9, y10, y11, y12, .int .u64 ep, .int .i64 ok, .int .i64 who, .int .i64 tr, .int .u32 ss, .slice AO LO cO, .int .i64 y19, .int .u64 y20, .int .i64 y21, .int .u32 y22, .slice A L c] 51)))
  have HL := hide (((Le.refl w).alloc (.cells #[.int .i64 k, .int .i64 n, .int .i64 sh, .int .u64 id, .int .i64 er, y5, y6, y7, y8, y9, y10, y11, y12, .int .u64 ep, .int .i64 ok, .int .i64 who, .int .i64 tr, .int .u32 ss, .slice AO LO cO, .int .i64 y19, .int .u64 y20, .int .i64 y21, .int .u32 y22, .slice A L c] 51)).trans (Le.mk hb2))
  clear hb2
  generalize w.heap.size = p at *
  have z1 : w2.cell? ⟨p, 1, none⟩ = some (.int .i64 n) := cell_block HE.out 1
  have z2 : w2.cell? ⟨p, 2, none⟩ = some (.int .i64 sh) := cell_block HE.out 2
  have z4 : w2.cell? ⟨p, 4, none⟩ = some (.int .i64 er) := cell_block HE.out 4
  have z15 : w2.cell? ⟨p, 15, none⟩ = some (.int .i64 who) := cell_block HE.out 15
  have z16 : w2.cell? ⟨p, 16, none⟩ = some (.int .i64 tr) := cell_block HE.out 16
  have z18 : w2.cell? ⟨p, 18, none⟩ = some (.slice AO LO cO) := cell_block HE.out 18
  have z23 : w2.cell? ⟨p, 23, none⟩ = some (.slice A L c) := cell_block HE.out 23
  go_wp2_with fail
  go_ret
  exact ⟨rfl, HL.out.out⟩
set_option maxRecDepth 100000 in
set_option maxHeartbeats 1000000 in
theorem lawshe6 (k n sh er ok who tr : Int) (id ep ss : Nat) (y5 y6 y7 y8 y9 y10 y11 y12 : Value) (y19 y20 y21 y22 : Int) (AO : Option Addr) (LO cO : Nat) (A : Option Addr) (L c : Nat) (w : World) (i1 : ¬ n < 0) (i2 : ¬ sh < 0) (i3 : ¬ er < 0) (i4 : ¬ who < 0) (i5 : ¬ tr < 0) (i6 : ¬ 300 < (L : Int)) (i7 : 300 < (LO : Int)) :
    Calls Tryz.prog 6 #[.agg #[.int .i64 k, .int .i64 n, .int .i64 sh, .int .u64 id, .int .i64 er, y5, y6, y7, y8, y9, y10, y11, y12, .int .u64 ep, .int .i64 ok, .int .i64 who, .int .i64 tr, .int .u32 ss, .slice AO LO cO, .int .i64 y19, .int .u64 y20, .int .i64 y21, .int .u32 y22, .slice A L c]] w (Gives w (.bool true)) := by
  go_enter Tryz.func6, Tryz.ntmps6
  go_wp2_with fail
  refine (awake24 _).mono ?_
  rintro r w2 ⟨rfl, hb2⟩
  have HE := hide ((Le.mk hb2).heap (heap_alloc_new w (.cells #[.int .i64 k, .int .i64 n, .int .i64 sh, .int .u64 id, .int .i64 er, y5, y6, y7, y8, y9, y10, y11, y12, .int .u64 ep, .int .i64 ok, .int .i64 who, .int .i64 tr, .int .u32 ss, .slice AO LO cO, .int .i64 y19, .int .u64 y20, .int .i64 y21, .int .u32 y22, .slice A L c] 51)))
  have HL := hide (((Le.refl w).alloc (.cells #[.int .i64 k, .int .i64 n, .int .i64 sh, .int .u64 id, .int .i64 er, y5, y6, y7, y8, y9, y10, y11, y12, .int .u64 ep, .int .i64 ok, .int .i64 who, .int .i64 tr, .int .u32 ss, .slice AO LO cO, .int .i64 y19, .int .u64 y20, .int .i64 y21, .int .u32 y22, .slice A L c] 51)).trans (Le.mk hb2))
  clear hb2
  generalize w.heap.size = p at *
  have z1 : w2.cell? ⟨p, 1, none⟩ = some (.int .i64 n) := cell_block HE.out 1
  have z2 : w2.cell? ⟨p, 2, none⟩ = some (.int .i64 sh) := cell_block HE.out 2
  have z4 : w2.cell? ⟨p, 4, none⟩ = some (.int .i64 er) := cell_block HE.out 4
  have z15 : w2.cell? ⟨p, 15, none⟩ = some (.int .i64 who) := cell_block HE.out 15
  have z16 : w2.cell? ⟨p, 16, none⟩ = some (.int .i64 tr) := cell_block HE.out 16
  have z18 : w2.cell? ⟨p, 18, none⟩ = some (.slice AO LO cO) := cell_block HE.out 18
  have z23 : w2.cell? ⟨p, 23, none⟩ = some (.slice A L c) := cell_block HE.out 23
  go_wp2_with fail
  go_ret
  exact ⟨rfl, HL.out.out⟩
end Go.Proofs.YtkcpfhbfjpldhaaGreatDoor

/- A sfu.Event as an argument, opened. -/
namespace Go.Proofs.YtkcpfhbfjpldhaaGreatDoor
open Go.RowKit Go.ChangeShapes Go.WideShapes Go.Deep
set_option linter.unusedVariables false
/-- an event's numbers -/
structure Evt where
  k : Int
  n : Int
  sh : Int
  id : Nat
  er : Int
  y5 : Value
  y6 : Value
  y7 : Value
  y8 : Value
  y9 : Value
  y10 : Value
  y11 : Value
  y12 : Value
  ep : Nat
  ok : Int
  who : Int
  tr : Int
  ss : Nat
  AO : Option Addr
  LO : Nat
  cO : Nat
  y19 : Int
  y20 : Int
  y21 : Int
  y22 : Int
  A : Option Addr
  L : Nat
  c : Nat
structure Evt.Ok (e : Evt) : Prop where
  k : -9223372036854775808 ≤ e.k ∧ e.k ≤ 9223372036854775807
  n : e.n < 9223372036854775808
  sh : e.sh < 9223372036854775808
  id : e.id < 18446744073709551616
  er : e.er < 9223372036854775808
  ep : e.ep < 18446744073709551616
  ok : -9223372036854775808 ≤ e.ok ∧ e.ok ≤ 9223372036854775807
  who : e.who < 9223372036854775808
  tr : e.tr < 9223372036854775808
  ss : e.ss < 4294967296
  LO : e.LO ≤ 9223372036854775807
  L : e.L ≤ 9223372036854775807
section
variable {H : Type} {enc : TypeId × Value → H} {P : Program} {w : World} {base : Nat} {spare : Nat → Bool} {held : Bool}
theorem st_midE {e : TypeId} {fs : Array Field} {n : Nat} {cs : List Value} {x : DataW H × List MemPlace} (he : P.underlying e = some (.struct fs)) (h : DataW.trod enc P w base spare held n e cs = some x) :
    cs.length = P.cellsOf e ∧ ∃ m, ∀ (i : Nat) (t : TypeId) (o : Nat), (fs[i]?.map fun f => (f.type, f.offset)) = some (t, o) → ∃ y, DataW.trod enc P w base spare held m t ((cs.drop o).take (P.cellsOf t)) = some y := by
  obtain ⟨xs, m, _, _, hlen, hxl, hf⟩ := DataW.trod_struct he h
  refine ⟨hlen, m, fun i t o hi => ?_⟩
  obtain ⟨f, hif, e⟩ := Option.map_eq_some_iff.1 hi
  injection e with e1 e2
  subst e1 e2
  have hil : i < fs.size := (Array.getElem?_eq_some_iff.1 hif).1
  have h1 := hf i f hif
  rw [List.getElem?_eq_getElem (by omega)] at h1
  exact ⟨_, h1⟩
theorem sl_openE {t e : TypeId} {fuel : Nat} {v : Value} {x : DataW H × List MemPlace} (ht : P.underlying t = some (.slice e)) (h : DataW.trod enc P w base spare held fuel t [v] = some x) : ∃ A n c, v = .slice A n c ∧ n ≤ 9223372036854775807 := by
  rcases open_slice ht h with ⟨hcs, _⟩ | ⟨a, len, cap, m, k, D, Pl, hcs, _, hlc, hcm, _⟩
  · simp at hcs
    exact ⟨_, _, _, hcs, by omega⟩
  · simp at hcs
    have : cap ≤ 9223372036854775807 := by simpa [maxLen] using hcm
    exact ⟨_, _, _, hcs, by omega⟩
end
section
variable {H : Type} {enc : TypeId × Value → H} {w : World} {base : Nat} {spare : Nat → Bool} {held : Bool} {d : DataW H} {ps : List MemPlace}
set_option maxRecDepth 100000 in
theorem out_openE {n : Nat} {cs : List Value} {y : DataW H × List MemPlace} (h : DataW.trod enc Tryz.prog w base spare held n 49 cs = some y) :
    ∃ (ok who tr : Int) (ss : Nat) (AO : Option Addr) (LO cO : Nat) (y19 y20 y21 y22 : Int), cs = [.int .i64 ok, .int .i64 who, .int .i64 tr, .int .u32 ss, .slice AO LO cO, .int .i64 y19, .int .u64 y20, .int .i64 y21, .int .u32 y22] ∧
      (-9223372036854775808 ≤ ok ∧ ok ≤ 9223372036854775807) ∧ who < 9223372036854775808 ∧ tr < 9223372036854775808 ∧ ss < 4294967296 ∧ LO ≤ 9223372036854775807 := by
  obtain ⟨hl, m, hf⟩ := st_midE Tryz.underlying49 h
  rw [show Tryz.prog.cellsOf 49 = 9 from by kernel_rfl] at hl
  match cs, hl with
  | [c0, c1, c2, c3, c4, c5, c6, c7, c8], _ =>
    obtain ⟨y0, h0⟩ := hf 0 3 0 rfl
    obtain ⟨y1, h1⟩ := hf 1 3 1 rfl
    obtain ⟨y2, h2⟩ := hf 2 3 2 rfl
    obtain ⟨y3, h3⟩ := hf 3 45 3 rfl
    obtain ⟨y4, h4⟩ := hf 4 25 4 rfl
    obtain ⟨y5, h5⟩ := hf 5 3 5 rfl
    obtain ⟨y6, h6⟩ := hf 6 41 6 rfl
    obtain ⟨y7, h7⟩ := hf 7 47 7 rfl
    rw [show Tryz.prog.cellsOf 3 = 1 from by kernel_rfl] at h0 h1 h2 h5
    rw [show Tryz.prog.cellsOf 45 = 1 from by kernel_rfl] at h3
    rw [show Tryz.prog.cellsOf 25 = 1 from by kernel_rfl] at h4
    rw [show Tryz.prog.cellsOf 41 = 1 from by kernel_rfl] at h6
    rw [show Tryz.prog.cellsOf 47 = 2 from by kernel_rfl] at h7
    simp only [List.drop_zero, List.drop_succ_cons, List.take_succ_cons, List.take_zero] at h0 h1 h2 h3 h4 h5 h6 h7
    obtain ⟨_, m', hf'⟩ := st_midE Tryz.underlying47 h7
    obtain ⟨z0, k0⟩ := hf' 0 3 0 rfl
    obtain ⟨z1, k1⟩ := hf' 1 45 1 rfl
    rw [show Tryz.prog.cellsOf 3 = 1 from by kernel_rfl] at k0
    rw [show Tryz.prog.cellsOf 45 = 1 from by kernel_rfl] at k1
    simp only [List.drop_zero, List.drop_succ_cons, List.take_succ_cons, List.take_zero] at k0 k1
    obtain ⟨a0, e0, w0⟩ := int_open Tryz.underlying3 h0
    obtain ⟨a1, e1, w1⟩ := int_open Tryz.underlying3 h1
    obtain ⟨a2, e2, w2⟩ := int_open Tryz.underlying3 h2
    obtain ⟨b3, e3, w3⟩ := int_open Tryz.underlying45 h3
    obtain ⟨a3, rfl, l3⟩ := wf_u32 w3
    obtain ⟨AO, LO, cO, e4, l4⟩ := sl_openE Tryz.underlying25 h4
    obtain ⟨a5, e5, w5⟩ := int_open Tryz.underlying3 h5
    obtain ⟨a6, e6, w6⟩ := int_open Tryz.underlying41 h6
    obtain ⟨a7, e7, w7⟩ := int_open Tryz.underlying3 k0
    obtain ⟨a8, e8, w8⟩ := int_open Tryz.underlying45 k1
    simp only [List.cons.injEq, and_true] at e0 e1 e2 e3 e5 e6 e7 e8
    subst e0 e1 e2 e3 e4 e5 e6 e7 e8
    have w0 := wf_i64 w0
    have w1 := wf_i64 w1
    have w2 := wf_i64 w2
    exact ⟨_, _, _, _, _, _, _, _, _, _, _, rfl, ⟨by omega, by omega⟩, by omega, by omega, l3, l4⟩
set_option maxRecDepth 100000 in
theorem open_ev {r : Reach} {b0 : Nat} {v : Value} (hv : Value.okWide Tryz.prog w r b0 51 v) (h : DataW.Trod enc Tryz.prog w base spare held 51 v d ps) :
    ∃ e : Evt, v = .agg #[.int .i64 e.k, .int .i64 e.n, .int .i64 e.sh, .int .u64 e.id, .int .i64 e.er, e.y5, e.y6, e.y7, e.y8, e.y9, e.y10, e.y11, e.y12, .int .u64 e.ep, .int .i64 e.ok, .int .i64 e.who, .int .i64 e.tr, .int .u32 e.ss, .slice e.AO e.LO e.cO, .int .i64 e.y19, .int .u64 e.y20, .int .i64 e.y21, .int .u32 e.y22, .slice e.A e.L e.c] ∧ e.Ok := by
  obtain ⟨cs, rfl, hsz⟩ := okWide_struct Tryz.underlying51 hv
  obtain ⟨l⟩ := cs
  obtain ⟨fuel, hf0⟩ := h
  have hf0 : DataW.trod enc Tryz.prog w base spare held fuel 51 l = some (d, ps) := hf0
  obtain ⟨hl, m, hf⟩ := st_midE Tryz.underlying51 hf0
  rw [show Tryz.prog.cellsOf 51 = 24 from by kernel_rfl] at hl
  match l, hl with
  | [c0, c1, c2, c3, c4, c5, c6, c7, c8, c9, c10, c11, c12, c13, c14, c15, c16, c17, c18, c19, c20, c21, c22, c23], _ =>
    obtain ⟨y0, h0⟩ := hf 0 3 0 rfl
    obtain ⟨y1, h1⟩ := hf 1 3 1 rfl
    obtain ⟨y2, h2⟩ := hf 2 3 2 rfl
    obtain ⟨y3, h3⟩ := hf 3 41 3 rfl
    obtain ⟨y4, h4⟩ := hf 4 26 4 rfl
    obtain ⟨y6, h6⟩ := hf 6 41 13 rfl
    obtain ⟨y7, h7⟩ := hf 7 49 14 rfl
    obtain ⟨y8, h8⟩ := hf 8 25 23 rfl
    rw [show Tryz.prog.cellsOf 3 = 1 from by kernel_rfl] at h0 h1 h2
    rw [show Tryz.prog.cellsOf 41 = 1 from by kernel_rfl] at h3 h6
    rw [show Tryz.prog.cellsOf 26 = 1 from by kernel_rfl] at h4
    rw [show Tryz.prog.cellsOf 49 = 9 from by kernel_rfl] at h7
    rw [show Tryz.prog.cellsOf 25 = 1 from by kernel_rfl] at h8
    simp only [List.drop_zero, List.drop_succ_cons, List.take_succ_cons, List.take_zero] at h0 h1 h2 h3 h4 h6 h7 h8
    obtain ⟨ok, who, tr, ss, AO, LO, cO, y19, y20, y21, y22, eo, o0, o1, o2, o3, o4⟩ := out_openE h7
    obtain ⟨a0, e0, w0⟩ := int_open Tryz.underlying3 h0
    obtain ⟨a1, e1, w1⟩ := int_open Tryz.underlying3 h1
    obtain ⟨a2, e2, w2⟩ := int_open Tryz.underlying3 h2
    obtain ⟨b3, e3, w3⟩ := int_open Tryz.underlying41 h3
    obtain ⟨a3, rfl, l3⟩ := wf_u64 w3
    obtain ⟨a4, e4, w4⟩ := int_open Tryz.underlying26 h4
    obtain ⟨b6, e6, w6⟩ := int_open Tryz.underlying41 h6
    obtain ⟨a6, rfl, l6⟩ := wf_u64 w6
    obtain ⟨A8, L8, c8', e8, l8⟩ := sl_openE Tryz.underlying25 h8
    simp only [List.cons.injEq, and_true] at e0 e1 e2 e3 e4 e6 eo
    obtain ⟨rfl, rfl, rfl, rfl, rfl, rfl, rfl, rfl, rfl⟩ := eo
    subst e0 e1 e2 e3 e4 e6 e8
    have w0 := wf_i64 w0
    have w1 := wf_i64 w1
    have w2 := wf_i64 w2
    have w4 := wf_i64 w4
    exact ⟨⟨a0, a1, a2, a3, a4, c5, c6, c7, c8, c9, c10, c11, c12, a6, ok, who, tr, ss, AO, LO, cO, y19, y20, y21, y22, A8, L8, c8'⟩, rfl, ⟨w0, by have := w1.2; show a1 < _; omega, by have := w2.2; show a2 < _; omega, by show a3 < _; omega, by have := w4.2; show a4 < _; omega, by show a6 < _; omega, o0, o1, o2, o3, o4, l8⟩⟩
end
end Go.Proofs.YtkcpfhbfjpldhaaGreatDoor

/- The table of powers of ten, out of a row's laid condition. -/
namespace Go.Proofs.YtkcpfhbfjpldhaaGreatDoor
open Go.RowKit
set_option linter.unusedVariables false
set_option maxRecDepth 100000 in
theorem tab24 {W : World} (h : laidMetH Tryz.prog [("math/bits.deBruijn32tab", Rows.laid_math_bits_deBruijn32tab), ("math/bits.deBruijn64tab", Rows.laid_math_bits_deBruijn64tab), ("internal/strconv.uint64pow10", Rows.laid_internal_strconv_uint64pow10)] W) :
    Lib.TabIs Tryz.prog W "internal/strconv.uint64pow10" .u64 Lib.pow10Tab := by
  rw [MakeChecks.laidMetH_plain _ _ _ (by kernel_rfl)] at h
  have h2 : laidMet Tryz.prog [("internal/strconv.uint64pow10", Lib.tabData .u64 Lib.pow10Tab)] W := h.tail.tail
  exact Lib.tabIs_of_head (g := 0) (t := 396) (e := 41) (n := 20) (by kernel_rfl) (by kernel_rfl) Tryz.underlying396 Tryz.underlying41 (by kernel_rfl) (by kernel_rfl) h2
end Go.Proofs.YtkcpfhbfjpldhaaGreatDoor

/- ScriptShows: the law's walk. (Written by gen_shows24.py.) -/
namespace Go.Proofs.YtkcpfhbfjpldhaaGreatDoor
open Go.RowKit
set_option linter.unusedVariables false
theorem scriptShows_walk (w : World) (e : Evt) (he : e.Ok) (htab : Lib.TabIs Tryz.prog w "internal/strconv.uint64pow10" .u64 Lib.pow10Tab) :
    Calls Tryz.prog 6 #[.agg #[.int .i64 e.k, .int .i64 e.n, .int .i64 e.sh, .int .u64 e.id, .int .i64 e.er, e.y5, e.y6, e.y7, e.y8, e.y9, e.y10, e.y11, e.y12, .int .u64 e.ep, .int .i64 e.ok, .int .i64 e.who, .int .i64 e.tr, .int .u32 e.ss, .slice e.AO e.LO e.cO, .int .i64 e.y19, .int .u64 e.y20, .int .i64 e.y21, .int .u32 e.y22, .slice e.A e.L e.c]] w (Gives w (.bool true)) := by
  by_cases i1 : e.n < 0
  · exact lawshe0 e.k e.n e.sh e.er e.ok e.who e.tr e.id e.ep e.ss e.y5 e.y6 e.y7 e.y8 e.y9 e.y10 e.y11 e.y12 e.y19 e.y20 e.y21 e.y22 e.AO e.LO e.cO e.A e.L e.c w i1
  by_cases i2 : e.sh < 0
  · exact lawshe1 e.k e.n e.sh e.er e.ok e.who e.tr e.id e.ep e.ss e.y5 e.y6 e.y7 e.y8 e.y9 e.y10 e.y11 e.y12 e.y19 e.y20 e.y21 e.y22 e.AO e.LO e.cO e.A e.L e.c w i1 i2
  by_cases i3 : e.er < 0
  · exact lawshe2 e.k e.n e.sh e.er e.ok e.who e.tr e.id e.ep e.ss e.y5 e.y6 e.y7 e.y8 e.y9 e.y10 e.y11 e.y12 e.y19 e.y20 e.y21 e.y22 e.AO e.LO e.cO e.A e.L e.c w i1 i2 i3
  by_cases i4 : e.who < 0
  · exact lawshe3 e.k e.n e.sh e.er e.ok e.who e.tr e.id e.ep e.ss e.y5 e.y6 e.y7 e.y8 e.y9 e.y10 e.y11 e.y12 e.y19 e.y20 e.y21 e.y22 e.AO e.LO e.cO e.A e.L e.c w i1 i2 i3 i4
  by_cases i5 : e.tr < 0
  · exact lawshe4 e.k e.n e.sh e.er e.ok e.who e.tr e.id e.ep e.ss e.y5 e.y6 e.y7 e.y8 e.y9 e.y10 e.y11 e.y12 e.y19 e.y20 e.y21 e.y22 e.AO e.LO e.cO e.A e.L e.c w i1 i2 i3 i4 i5
  by_cases i6 : 300 < (e.L : Int)
  · exact lawshe5 e.k e.n e.sh e.er e.ok e.who e.tr e.id e.ep e.ss e.y5 e.y6 e.y7 e.y8 e.y9 e.y10 e.y11 e.y12 e.y19 e.y20 e.y21 e.y22 e.AO e.LO e.cO e.A e.L e.c w i1 i2 i3 i4 i5 i6
  by_cases i7 : 300 < (e.LO : Int)
  · exact lawshe6 e.k e.n e.sh e.er e.ok e.who e.tr e.id e.ep e.ss e.y5 e.y6 e.y7 e.y8 e.y9 e.y10 e.y11 e.y12 e.y19 e.y20 e.y21 e.y22 e.AO e.LO e.cO e.A e.L e.c w i1 i2 i3 i4 i5 i6 i7
  have g_n : ((e.n.toNat : Nat) : Int) = e.n := by omega
  have g_sh : ((e.sh.toNat : Nat) : Int) = e.sh := by omega
  have g_er : ((e.er.toNat : Nat) : Int) = e.er := by omega
  have g_who : ((e.who.toNat : Nat) : Int) = e.who := by omega
  have g_tr : ((e.tr.toNat : Nat) : Int) = e.tr := by omega
  have hR : e.LO ≤ 300 ∧ e.L ≤ 300 := by omega
  by_cases k0 : e.k = 0
  · have hc := lawsh0 e.ok e.n.toNat e.sh.toNat e.id e.er.toNat e.ep e.who.toNat e.tr.toNat e.ss (by have := he.n; omega) (by have := he.sh; omega) he.id (by have := he.er; omega) he.ep (by have := he.who; omega) (by have := he.tr; omega) he.ss e.y5 e.y6 e.y7 e.y8 e.y9 e.y10 e.y11 e.y12 e.y19 e.y20 e.y21 e.y22 e.AO e.LO e.cO (by omega) e.A e.L e.c (by omega) w htab
    rw [g_n, g_sh, g_er, g_who, g_tr] at hc
    rw [k0]
    exact hc
  by_cases k1 : e.k = 1
  · have hc := lawsh1 e.ok e.n.toNat e.sh.toNat e.id e.er.toNat e.ep e.who.toNat e.tr.toNat e.ss (by have := he.n; omega) (by have := he.sh; omega) he.id (by have := he.er; omega) he.ep (by have := he.who; omega) (by have := he.tr; omega) he.ss e.y5 e.y6 e.y7 e.y8 e.y9 e.y10 e.y11 e.y12 e.y19 e.y20 e.y21 e.y22 e.AO e.LO e.cO (by omega) e.A e.L e.c (by omega) w htab
    rw [g_n, g_sh, g_er, g_who, g_tr] at hc
    rw [k1]
    exact hc
  by_cases k2 : e.k = 2
  · have hc := lawsh2 e.ok e.n.toNat e.sh.toNat e.id e.er.toNat e.ep e.who.toNat e.tr.toNat e.ss (by have := he.n; omega) (by have := he.sh; omega) he.id (by have := he.er; omega) he.ep (by have := he.who; omega) (by have := he.tr; omega) he.ss e.y5 e.y6 e.y7 e.y8 e.y9 e.y10 e.y11 e.y12 e.y19 e.y20 e.y21 e.y22 e.AO e.LO e.cO (by omega) e.A e.L e.c (by omega) w htab
    rw [g_n, g_sh, g_er, g_who, g_tr] at hc
    rw [k2]
    exact hc
  by_cases k3 : e.k = 3
  · have hc := lawsh3 e.ok e.n.toNat e.sh.toNat e.id e.er.toNat e.ep e.who.toNat e.tr.toNat e.ss (by have := he.n; omega) (by have := he.sh; omega) he.id (by have := he.er; omega) he.ep (by have := he.who; omega) (by have := he.tr; omega) he.ss e.y5 e.y6 e.y7 e.y8 e.y9 e.y10 e.y11 e.y12 e.y19 e.y20 e.y21 e.y22 e.AO e.LO e.cO (by omega) e.A e.L e.c (by omega) w htab
    rw [g_n, g_sh, g_er, g_who, g_tr] at hc
    rw [k3]
    exact hc
  by_cases k4 : e.k = 4
  · have hc := lawsh4 e.ok e.n.toNat e.sh.toNat e.id e.er.toNat e.ep e.who.toNat e.tr.toNat e.ss (by have := he.n; omega) (by have := he.sh; omega) he.id (by have := he.er; omega) he.ep (by have := he.who; omega) (by have := he.tr; omega) he.ss e.y5 e.y6 e.y7 e.y8 e.y9 e.y10 e.y11 e.y12 e.y19 e.y20 e.y21 e.y22 e.AO e.LO e.cO (by omega) e.A e.L e.c (by omega) w htab
    rw [g_n, g_sh, g_er, g_who, g_tr] at hc
    rw [k4]
    exact hc
  by_cases k5 : e.k = 5
  · have hc := lawsh5 e.ok e.n.toNat e.sh.toNat e.id e.er.toNat e.ep e.who.toNat e.tr.toNat e.ss (by have := he.n; omega) (by have := he.sh; omega) he.id (by have := he.er; omega) he.ep (by have := he.who; omega) (by have := he.tr; omega) he.ss e.y5 e.y6 e.y7 e.y8 e.y9 e.y10 e.y11 e.y12 e.y19 e.y20 e.y21 e.y22 e.AO e.LO e.cO (by omega) e.A e.L e.c (by omega) w htab
    rw [g_n, g_sh, g_er, g_who, g_tr] at hc
    rw [k5]
    exact hc
  by_cases k6 : e.k = 6
  · have hc := lawsh6 e.ok e.n.toNat e.sh.toNat e.id e.er.toNat e.ep e.who.toNat e.tr.toNat e.ss (by have := he.n; omega) (by have := he.sh; omega) he.id (by have := he.er; omega) he.ep (by have := he.who; omega) (by have := he.tr; omega) he.ss e.y5 e.y6 e.y7 e.y8 e.y9 e.y10 e.y11 e.y12 e.y19 e.y20 e.y21 e.y22 e.AO e.LO e.cO (by omega) e.A e.L e.c (by omega) w htab
    rw [g_n, g_sh, g_er, g_who, g_tr] at hc
    rw [k6]
    exact hc
  by_cases k7 : e.k = 7
  · rw [k7]
    by_cases o0 : e.ok = 0
    · have hc := lawsho0 e.n.toNat e.sh.toNat e.id e.er.toNat e.ep e.who.toNat e.tr.toNat e.ss (by have := he.n; omega) (by have := he.sh; omega) he.id (by have := he.er; omega) he.ep (by have := he.who; omega) (by have := he.tr; omega) he.ss e.y5 e.y6 e.y7 e.y8 e.y9 e.y10 e.y11 e.y12 e.y19 e.y20 e.y21 e.y22 e.AO e.LO e.cO (by omega) e.A e.L e.c (by omega) w htab
      rw [g_n, g_sh, g_er, g_who, g_tr] at hc
      rw [o0]
      exact hc
    by_cases o1 : e.ok = 1
    · have hc := lawsho1 e.n.toNat e.sh.toNat e.id e.er.toNat e.ep e.who.toNat e.tr.toNat e.ss (by have := he.n; omega) (by have := he.sh; omega) he.id (by have := he.er; omega) he.ep (by have := he.who; omega) (by have := he.tr; omega) he.ss e.y5 e.y6 e.y7 e.y8 e.y9 e.y10 e.y11 e.y12 e.y19 e.y20 e.y21 e.y22 e.AO e.LO e.cO (by omega) e.A e.L e.c (by omega) w htab
      rw [g_n, g_sh, g_er, g_who, g_tr] at hc
      rw [o1]
      exact hc
    by_cases o2 : e.ok = 2
    · have hc := lawsho2 e.n.toNat e.sh.toNat e.id e.er.toNat e.ep e.who.toNat e.tr.toNat e.ss (by have := he.n; omega) (by have := he.sh; omega) he.id (by have := he.er; omega) he.ep (by have := he.who; omega) (by have := he.tr; omega) he.ss e.y5 e.y6 e.y7 e.y8 e.y9 e.y10 e.y11 e.y12 e.y19 e.y20 e.y21 e.y22 e.AO e.LO e.cO (by omega) e.A e.L e.c (by omega) w htab
      rw [g_n, g_sh, g_er, g_who, g_tr] at hc
      rw [o2]
      exact hc
    have hc := lawshon e.ok (by omega) e.n.toNat e.sh.toNat e.id e.er.toNat e.ep e.who.toNat e.tr.toNat e.ss (by have := he.n; omega) (by have := he.sh; omega) he.id (by have := he.er; omega) he.ep (by have := he.who; omega) (by have := he.tr; omega) he.ss e.y5 e.y6 e.y7 e.y8 e.y9 e.y10 e.y11 e.y12 e.y19 e.y20 e.y21 e.y22 e.AO e.LO e.cO (by omega) e.A e.L e.c (by omega) w htab
    rw [g_n, g_sh, g_er, g_who, g_tr] at hc
    exact hc
  · have hc := lawshown e.k e.ok k0 k1 k2 k3 k4 k5 k6 k7 e.n.toNat e.sh.toNat e.id e.er.toNat e.ep e.who.toNat e.tr.toNat e.ss (by have := he.n; omega) (by have := he.sh; omega) he.id (by have := he.er; omega) he.ep (by have := he.who; omega) (by have := he.tr; omega) he.ss e.y5 e.y6 e.y7 e.y8 e.y9 e.y10 e.y11 e.y12 e.y19 e.y20 e.y21 e.y22 e.AO e.LO e.cO (by omega) e.A e.L e.c (by omega) w htab
    rw [g_n, g_sh, g_er, g_who, g_tr] at hc
    exact hc
end Go.Proofs.YtkcpfhbfjpldhaaGreatDoor
