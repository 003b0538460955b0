/- vp8.Put. -/
import Derived.Test.YtkbdbandeioibaaVp8R
import Derived.StillTactics
import Derived.Deep.CutBlock
import Derived.Laws.Bits64b
namespace Go.Proofs.Ytkbdbandeioibaa
open Go.RowKit
set_option linter.unusedVariables false

theorem slPart : SlT Try.prog 89 88 (.agg #[.int .u64 0, .int .i64 0]) 2 16 := ⟨Try.underlying89, by kernel_rfl, rfl, by omega⟩
theorem bit_same (b : Bool) (x : Nat) (w : World) : Calls Try.prog 51 #[.bool b, .int .u64 x] w fun e w' => e = .returned (.int .u64 (bitN b x)) ∧ w' = w := by
  cases b
  · go_enter Try.func51, Try.ntmps51
    go_wp2_with fail
    go_ret
    exact ⟨rfl, rfl⟩
  · go_enter Try.func51, Try.ntmps51
    go_wp2_with fail
    go_ret
    exact ⟨rfl, rfl⟩
theorem bitN_le (b : Bool) (x : Nat) : bitN b x ≤ x := by cases b <;> simp [bitN]
theorem or_lt (a b n : Nat) (ha : a < 2 ^ n) (hb : b < 2 ^ n) : a ||| b < 2 ^ n := Nat.or_lt_two_pow ha hb

/-- the parts that vp8.Put puts -/
def Dsc.p0 (d : Dsc) : Nat := bitN d.more 128 ||| bitN d.lone 32 ||| bitN d.start 16 ||| d.part
def Dsc.p1 (d : Dsc) : Nat := bitN d.hasPic 128 ||| bitN d.hasTl0 64 ||| bitN d.hasTid 32 ||| bitN d.hasKey 16
def Dsc.p4 (d : Dsc) : Nat := d.tid * 64 ||| bitN d.sync 32 ||| d.key
def Dsc.ps1 (d : Dsc) : List (Nat × Int) := [(d.p0, 1)] ++ if d.more then [(d.p1, 1)] else []
def Dsc.ps2 (d : Dsc) : List (Nat × Int) := d.ps1 ++ if d.wide then [(32768 ||| d.pic, 2)] else if d.hasPic then [(d.pic, 1)] else []
def Dsc.ps3 (d : Dsc) : List (Nat × Int) := d.ps2 ++ if d.hasTl0 then [(d.tl0, 1)] else []
def Dsc.ps4 (d : Dsc) : List (Nat × Int) := d.ps3 ++ if d.hasTid || d.hasKey then [(d.p4, 1)] else []
/-- vp8.Put's bytes and error -/
def vpB (d : Dsc) : List UInt8 := if d.right then puts d.ps4 else []
def vpF (d : Dsc) : Int := if d.right then 0 else 1
/-- bytes in a row of their own, and an error -/
def PutV (w : World) (l : List UInt8) (err : Int) (e : Ending) (w' : World) : Prop :=
  ∃ v, e = .returned (.tuple #[v, .int .i64 err]) ∧ w'.ownsRow w.heap.size 5 1 v l.length (u8s l) ∧ Below w.heap.size w w'
def encPs (l : List (Nat × Int)) : List Value := l.flatMap encPart
theorem encPs_snoc (l : List (Nat × Int)) (p : Nat × Int) : encPs (l ++ [p]) = encPs l ++ encPart p := by simp [encPs]
/-- the parts so far, in a row of their own -/
def PsAt (W wx : World) (v : Value) (l : List (Nat × Int)) : Prop := wx.ownsRow W.heap.size 88 2 v l.length (encPs l) ∧ Below W.heap.size W wx

theorem psAt_new {W wx : World} (h : Below W.heap.size W wx) (p : Nat × Int) : PsAt W (wx.alloc (.cells (encPart p).toArray 88)) (.slice (some ⟨wx.heap.size, 0, none⟩) 1 1) [p] :=
  ⟨⟨rfl, .inr ⟨wx.heap.size, 1, (encPart p).toArray, rfl, h.size, heap_alloc_new wx _, Nat.le_refl _, by simp [maxLen], rfl, rfl⟩⟩, h.alloc h.size _⟩
theorem PsAt.app {W wx w' : World} {v v' : Value} {l : List (Nat × Int)} {p : Nat × Int} {o : Obj} (h : PsAt W wx v l) (ho : w'.ownsRow W.heap.size 88 2 v' (l.length + 1) (encPs l ++ encPart p)) (hg : (wx.alloc o).grownBy w' v.ownBlock) : PsAt W w' v' (l ++ [p]) := by
  refine ⟨?_, below_grown (h.2.alloc h.2.size o) (h.1.alloc o) hg (Nat.le_refl _) (le_alloc h.2.size)⟩
  rw [encPs_snoc, List.length_append]
  exact ho
theorem PsAt.drew {W wx : World} {v : Value} {l : List (Nat × Int)} (h : PsAt W wx v l) : PsAt W wx.drew v l := ⟨h.1, h.2.trans ((Below.refl _ _).drew)⟩
theorem PsAt.le {W wx wz : World} {v : Value} {l : List (Nat × Int)} (h : PsAt W wx v l) (hz : Le wx wz) : PsAt W wz v l := ⟨hz.own h.1, h.2.trans (hz.out.mono h.2.size)⟩
theorem PsAt.app2 {W wx w' : World} {v v' : Value} {l : List (Nat × Int)} {p : Nat × Int} (h : PsAt W wx v l) (ho : w'.ownsRow W.heap.size 88 2 v' (l.length + 1) (encPs l ++ encPart p)) (hg : wx.grownBy w' v.ownBlock) : PsAt W w' v' (l ++ [p]) := by
  refine ⟨?_, below_grown h.2 h.1 hg (Nat.le_refl _) h.2.size⟩
  rw [encPs_snoc, List.length_append]
  exact ho
theorem psAt_len {W wx : World} {v : Value} {l : List (Nat × Int)} (h : PsAt W wx v l) : W.heap.size ≤ wx.heap.size := h.2.size

set_option maxRecDepth 100000 in
set_option maxHeartbeats 4000000 in
theorem put_bad (d : Dsc) (w : World) (h : d.right = false) : Calls Try.prog 33 #[d.val] w (PutV w [] 1) := by
  have hr := fun w => right_any d w
  rw [h] at hr
  have HR := hide hr
  clear hr h
  obtain ⟨more, lone, start, part, hasPic, wide, pic, hasTl0, tl0, hasTid, tid, sync, hasKey, key⟩ := d
  rw [Dsc.val] at *
  simp only at *
  go_enter Try.func33, Try.ntmps33
  go_wp2_with fail
  refine (HR.out _).mono ?_
  rintro e w1 ⟨rfl, hb1⟩
  have HL := hide (((Le.refl w).alloc _).trans (Le.mk hb1))
  clear hb1 HR
  go_wp2_with fail
  go_ret2
  exact ⟨_, rfl, World.ownsRow_nil _ _ _ _, HL.out.out⟩

set_option maxRecDepth 100000 in
set_option maxHeartbeats 8000000 in
theorem put_good (d : Dsc) (w : World) (h : d.right = true) (hd : d.Ok) : Calls Try.prog 33 #[d.val] w (PutV w (puts d.ps4) 0) := by
  have hr := fun w => right_any d w
  rw [h] at hr
  have HR := hide hr
  clear hr h
  obtain ⟨g1, g2, g3, g4, g5⟩ := hd
  have ep1 := hide (show d.ps1 = [(d.p0, 1)] ++ if d.more then [(d.p1, 1)] else [] from rfl)
  have ep2 := hide (show d.ps2 = d.ps1 ++ if d.wide then [(32768 ||| d.pic, 2)] else if d.hasPic then [(d.pic, 1)] else [] from rfl)
  have ep3 := hide (show d.ps3 = d.ps2 ++ if d.hasTl0 then [(d.tl0, 1)] else [] from rfl)
  have ep4 := hide (show d.ps4 = d.ps3 ++ if d.hasTid || d.hasKey then [(d.p4, 1)] else [] from rfl)
  have e0 := hide (show d.p0 = bitN d.more 128 ||| bitN d.lone 32 ||| bitN d.start 16 ||| d.part from rfl)
  have e1 := hide (show d.p1 = bitN d.hasPic 128 ||| bitN d.hasTl0 64 ||| bitN d.hasTid 32 ||| bitN d.hasKey 16 from rfl)
  have e4 := hide (show d.p4 = d.tid * 64 ||| bitN d.sync 32 ||| d.key from rfl)
  generalize d.ps4 = P4 at *
  generalize d.ps3 = P3 at *
  generalize d.ps2 = P2 at *
  generalize d.ps1 = P1 at *
  generalize d.p0 = X0 at *
  generalize d.p1 = X1 at *
  generalize d.p4 = X4 at *
  obtain ⟨more, lone, start, part, hasPic, wide, pic, hasTl0, tl0, hasTid, tid, sync, hasKey, key⟩ := d
  rw [Dsc.val] at HR ⊢
  simp only at *
  have hwp : IntKind.u64.wrap (part : Int) = part := by simp [IntKind.wrap, IntKind.signed, IntKind.bits]; omega
  have hwq : IntKind.u64.wrap (pic : Int) = pic := by simp [IntKind.wrap, IntKind.signed, IntKind.bits]; omega
  have hwt : IntKind.u64.wrap (tl0 : Int) = tl0 := by simp [IntKind.wrap, IntKind.signed, IntKind.bits]; omega
  have hwi : IntKind.u64.wrap (tid : Int) = tid := by simp [IntKind.wrap, IntKind.signed, IntKind.bits]; omega
  have hwx : IntKind.u64.wrap ((tid : Int) * 64) = (tid : Int) * 64 := by simp [IntKind.wrap, IntKind.signed, IntKind.bits]; omega
  have hwk : IntKind.u64.wrap (key : Int) = key := by simp [IntKind.wrap, IntKind.signed, IntKind.bits]; omega
  have hP0 : P1.length ≤ 2 := by rw [ep1.out]; cases more <;> simp
  have hP2 : P2.length ≤ 3 := by rw [ep2.out]; cases wide <;> cases hasPic <;> simp <;> omega
  have hP3 : P3.length ≤ 4 := by rw [ep3.out]; cases hasTl0 <;> simp <;> omega
  have hP4 : P4.length ≤ 5 := by rw [ep4.out]; cases hasTid <;> cases hasKey <;> simp <;> omega
  have HLEN := hide (And.intro hP0 (And.intro hP2 (And.intro hP3 hP4)))
  have b1 := bitN_le more 128
  have b2 := bitN_le lone 32
  have b3 := bitN_le start 16
  have o1 := bits_or_u64_nat (bitN more 128) (bitN lone 32) (by omega) (by omega)
  have t1 : bitN more 128 ||| bitN lone 32 < 2 ^ 8 := or_lt _ _ 8 (by omega) (by omega)
  have o2 := bits_or_u64_nat (bitN more 128 ||| bitN lone 32) (bitN start 16) (by omega) (by omega)
  have t2 : bitN more 128 ||| bitN lone 32 ||| bitN start 16 < 2 ^ 8 := or_lt _ _ 8 t1 (by omega)
  have o3 := bits_or_u64_nat (bitN more 128 ||| bitN lone 32 ||| bitN start 16) part (by omega) (by omega)
  have t3 : bitN more 128 ||| bitN lone 32 ||| bitN start 16 ||| part < 2 ^ 8 := or_lt _ _ 8 t2 (by omega)
  rw [← e0.out] at o3 t3
  generalize bitN more 128 ||| bitN lone 32 ||| bitN start 16 = A2 at *
  generalize bitN more 128 ||| bitN lone 32 = A1 at *
  have HO := hide (And.intro o1 (And.intro o2 o3))
  have c1 := bitN_le hasPic 128
  have c2 := bitN_le hasTl0 64
  have c3 := bitN_le hasTid 32
  have c4 := bitN_le hasKey 16
  have p1 := bits_or_u64_nat (bitN hasPic 128) (bitN hasTl0 64) (by omega) (by omega)
  have s1 : bitN hasPic 128 ||| bitN hasTl0 64 < 2 ^ 8 := or_lt _ _ 8 (by omega) (by omega)
  have p2 := bits_or_u64_nat (bitN hasPic 128 ||| bitN hasTl0 64) (bitN hasTid 32) (by omega) (by omega)
  have s2 : bitN hasPic 128 ||| bitN hasTl0 64 ||| bitN hasTid 32 < 2 ^ 8 := or_lt _ _ 8 s1 (by omega)
  have p3 := bits_or_u64_nat (bitN hasPic 128 ||| bitN hasTl0 64 ||| bitN hasTid 32) (bitN hasKey 16) (by omega) (by omega)
  have s3 : bitN hasPic 128 ||| bitN hasTl0 64 ||| bitN hasTid 32 ||| bitN hasKey 16 < 2 ^ 8 := or_lt _ _ 8 s2 (by omega)
  rw [← e1.out] at p3 s3
  generalize bitN hasPic 128 ||| bitN hasTl0 64 ||| bitN hasTid 32 = B2 at *
  generalize bitN hasPic 128 ||| bitN hasTl0 64 = B1 at *
  have HP := hide (And.intro p1 (And.intro p2 p3))
  have d1 := bitN_le sync 32
  have r1 := bits_or_u64_nat (tid * 64) (bitN sync 32) (by omega) (by omega)
  have v1 : tid * 64 ||| bitN sync 32 < 2 ^ 14 := or_lt _ _ 14 (by omega) (by omega)
  have r2 := bits_or_u64_nat (tid * 64 ||| bitN sync 32) key (by omega) (by omega)
  have v2 : tid * 64 ||| bitN sync 32 ||| key < 2 ^ 14 := or_lt _ _ 14 v1 (by omega)
  rw [← e4.out] at r2 v2
  generalize tid * 64 ||| bitN sync 32 = C1 at *
  have HQ := hide (And.intro r1 r2)
  have u1 := bits_or_u64_nat 32768 pic (by omega) (by omega)
  have x1 : 32768 ||| pic < 2 ^ 16 := or_lt _ _ 16 (by omega) (by omega)
  have HU := hide u1
  have HX := hide (And.intro t3 (And.intro s3 (And.intro v2 x1)))
  have HPB := hide (show ∀ p ∈ P4, (p.1 : Int) < 18446744073709551616 by
    rw [ep4.out, ep3.out, ep2.out, ep1.out]
    cases more <;> cases wide <;> cases hasPic <;> cases hasTl0 <;> cases hasTid <;> cases hasKey <;> simp <;> omega)
  clear o1 o2 o3 p1 p2 p3 r1 r2 u1 b1 b2 b3 c1 c2 c3 c4 d1 t1 t2 s1 s2 v1 hP0 hP2 hP3 hP4
  have hy := heap_alloc_new w (.cells (#[.bool more, .bool lone, .bool start, .int .u8 part, .bool hasPic, .bool wide, .int .u16 pic, .bool hasTl0, .int .u8 tl0, .bool hasTid, .int .u8 tid, .bool sync, .bool hasKey, .int .u8 key] : Array Value) 49)
  have HY0 := hide (box_cell hy 0 (.bool more) rfl)
  have HY1 := hide (box_cell hy 1 (.bool lone) rfl)
  have HY2 := hide (box_cell hy 2 (.bool start) rfl)
  have HY3 := hide (box_cell hy 3 (.int .u8 part) rfl)
  have HY4 := hide (box_cell hy 4 (.bool hasPic) rfl)
  have HY5 := hide (box_cell hy 5 (.bool wide) rfl)
  have HY6 := hide (box_cell hy 6 (.int .u16 pic) rfl)
  have HY7 := hide (box_cell hy 7 (.bool hasTl0) rfl)
  have HY8 := hide (box_cell hy 8 (.int .u8 tl0) rfl)
  have HY9 := hide (box_cell hy 9 (.bool hasTid) rfl)
  have HY10 := hide (box_cell hy 10 (.int .u8 tid) rfl)
  have HY11 := hide (box_cell hy 11 (.bool sync) rfl)
  have HY12 := hide (box_cell hy 12 (.bool hasKey) rfl)
  have HY13 := hide (box_cell hy 13 (.int .u8 key) rfl)
  clear hy
  go_enter Try.func33, Try.ntmps33
  go_wp2_with fail
  have HLW := hide ((Le.refl w).alloc (.cells (#[.bool more, .bool lone, .bool start, .int .u8 part, .bool hasPic, .bool wide, .int .u16 pic, .bool hasTl0, .int .u8 tl0, .bool hasTid, .int .u8 tid, .bool sync, .bool hasKey, .int .u8 key] : Array Value) 49))
  generalize w.alloc (.cells (#[.bool more, .bool lone, .bool start, .int .u8 part, .bool hasPic, .bool wide, .int .u16 pic, .bool hasTl0, .int .u8 tl0, .bool hasTid, .int .u8 tid, .bool sync, .bool hasKey, .int .u8 key] : Array Value) 49) = W at *
  refine (HR.out _).mono ?_
  rintro e w1 ⟨rfl, hb1⟩
  have HL1 := hide (Le.mk hb1).drew
  have HB1 := hide (Le.mk hb1).out
  have o1 := HO.out.1
  have o2 := HO.out.2.1
  have o3 := HO.out.2.2
  clear hb1 HR
  have q0 := HY0.out _ HL1.out
  have q1 := HY1.out _ HL1.out
  have q2 := HY2.out _ HL1.out
  have q3 := HY3.out _ HL1.out
  go_wp2_with fail
  go_still_tail 16, (by kernel_rfl)
  repeat still_step
  still_call (bit_same _ _ _)
  repeat still_step
  still_call (bit_same _ _ _)
  repeat still_step
  still_call (bit_same _ _ _)
  repeat still_step
  refine wpStill_nil ?_
  change wpList _ _ _ _ _ w1.drew
  go_upto_region 4 with fail
  have hps := (psAt_new HB1.out (X0, 1)).drew
  simp only [encPart] at hps
  generalize World.drew (World.alloc w1 _) = W2 at *
  generalize hv0 : Value.slice (some ⟨w1.heap.size, 0, none⟩) 1 1 = v0 at *
  clear hv0 o1 o2 o3 q0 q1 q2 q3
  have hq0 := HY0.out W2 ⟨hps.2⟩
  go_upto_if 26 with fail
  clear hq0
  go_cut [4] (fun v wx => PsAt W wx v P1)
  case first =>
    have l0 : [(X0, (1 : Int))].length = 1 := rfl
    cases more
    · go_wp2_with fail
      go_meet
      rw [ep1.out]
      exact hps
    · have hpd := hps.drew
      have hle : Le W W2.drew := ⟨hpd.2⟩
      go_wp2_with fail
      refine' wp_region_tail 18 18 27 Le (Is _ :: Is _ :: Is _ :: Is _ :: Is _ :: Is _ :: Is _ :: Is _ :: Is _ :: Is _ :: Is _ :: Is _ :: Is _ :: Is _ :: Is _ :: Is _ :: Is _ :: (fun v w => ∃ g : Nat, v = .slice (some ⟨g, 0, none⟩) 1 1 ∧ w.heap[g]? = some (.cells #[.int .u64 X1, .int .i64 1] 88 (0, 0))) :: []) ([] :: [] :: [1] :: [2] :: [] :: [4] :: [5] :: [3, 6] :: [] :: [8] :: [9] :: [7, 10] :: [] :: [12] :: [13] :: [11, 14] :: [15] :: [16] :: []) (by kernel_rfl) (by kernel_rfl) (by rfl) (by kernel_rfl) (by kernel_rfl) Le.refl (fun _ _ _ h h' => h.trans h') ⟨St.is, St.is, St.is, St.is, St.is, St.is, St.is, St.is, St.is, St.is, St.is, St.is, St.is, St.is, St.is, St.is, St.is, fun v w w' h ⟨g, e1, e2⟩ => ⟨g, e1, h.heap e2⟩, trivial⟩ ?m5
      case m5 =>
        simp (maxSteps := 100000000) only [AllV, Obl2, Leans, factAt, allFacts, actOf, putAll, putRow, List.set_cons_succ, List.set_cons_zero, List.getElem?_cons_zero, List.getElem?_cons_succ, List.take_succ_cons, List.take_zero, List.drop_succ_cons, List.drop_zero, List.cons_append, List.nil_append, List.length_cons, List.length_nil, Nat.reduceAdd]
        intro x0 x1 x2 x3 x4 x5 x6 x7 x8 x9 x10 x11 x12 x13 x14 x15 x16 x17
        refine ⟨⟨?_, ?_, ?_, ?_, ?_, ?_, ?_, ?_, ?_, ?_, ?_, ?_, ?_, ?_, ?_, ?_, ?_, ?_, trivial⟩, ?_⟩
        -- 0: 27 := Op.move t4
        · intro w hw  K hK; go_simp; exact hK _ _ (Le.refl _) (Is.mk _ _)
        -- 1: 28 := Op.fieldAddr 49 t1 4
        · intro w hw  K hK; go_simp; exact hK _ _ (Le.refl _) (Is.mk _ _)
        -- 2: 29 := Op.load 4 t28
        · intro w hw h1 K hK; cases h1; have q4 := HY4.out w (hle.trans hw); go_simp; exact hK _ _ (Le.refl _) (Is.mk _ _)
        -- 3: 30 := Op.call { value (Operand.func 51), args := #[t29, const (128:u64)], argTypes := #[4, 73] }
        · intro w hw h2 K hK; cases h2; go_simp; refine (bit_same _ _ _).mono ?_; rintro r w' ⟨rfl, rfl⟩; exact hK _ _ (Le.refl _) (Is.mk _ _)
        -- 4: 31 := Op.fieldAddr 49 t1 7
        · intro w hw  K hK; go_simp; exact hK _ _ (Le.refl _) (Is.mk _ _)
        -- 5: 32 := Op.load 4 t31
        · intro w hw h4 K hK; cases h4; have q7 := HY7.out w (hle.trans hw); go_simp; exact hK _ _ (Le.refl _) (Is.mk _ _)
        -- 6: 33 := Op.call { value (Operand.func 51), args := #[t32, const (64:u64)], argTypes := #[4, 73] }
        · intro w hw h5 K hK; cases h5; go_simp; refine (bit_same _ _ _).mono ?_; rintro r w' ⟨rfl, rfl⟩; exact hK _ _ (Le.refl _) (Is.mk _ _)
        -- 7: 34 := Op.binOp BinOp.or 73 t30 t33 73
        · intro w hw h3 h6 K hK; cases h3; cases h6; have hor := HP.out.1; go_simp; exact hK _ _ (Le.refl _) (Is.mk _ _)
        -- 8: 35 := Op.fieldAddr 49 t1 9
        · intro w hw  K hK; go_simp; exact hK _ _ (Le.refl _) (Is.mk _ _)
        -- 9: 36 := Op.load 4 t35
        · intro w hw h8 K hK; cases h8; have q9 := HY9.out w (hle.trans hw); go_simp; exact hK _ _ (Le.refl _) (Is.mk _ _)
        -- 10: 37 := Op.call { value (Operand.func 51), args := #[t36, const (32:u64)], argTypes := #[4, 73] }
        · intro w hw h9 K hK; cases h9; go_simp; refine (bit_same _ _ _).mono ?_; rintro r w' ⟨rfl, rfl⟩; exact hK _ _ (Le.refl _) (Is.mk _ _)
        -- 11: 38 := Op.binOp BinOp.or 73 t34 t37 73
        · intro w hw h7 h10 K hK; cases h7; cases h10; have hor := HP.out.2.1; go_simp; exact hK _ _ (Le.refl _) (Is.mk _ _)
        -- 12: 39 := Op.fieldAddr 49 t1 12
        · intro w hw  K hK; go_simp; exact hK _ _ (Le.refl _) (Is.mk _ _)
        -- 13: 40 := Op.load 4 t39
        · intro w hw h12 K hK; cases h12; have q12 := HY12.out w (hle.trans hw); go_simp; exact hK _ _ (Le.refl _) (Is.mk _ _)
        -- 14: 41 := Op.call { value (Operand.func 51), args := #[t40, const (16:u64)], argTypes := #[4, 73] }
        · intro w hw h13 K hK; cases h13; go_simp; refine (bit_same _ _ _).mono ?_; rintro r w' ⟨rfl, rfl⟩; exact hK _ _ (Le.refl _) (Is.mk _ _)
        -- 15: 42 := Op.binOp BinOp.or 73 t38 t41 73
        · intro w hw h11 h14 K hK; cases h11; cases h14; have hor := HP.out.2.2; go_simp; exact hK _ _ (Le.refl _) (Is.mk _ _)
        -- 16: 43 := Op.build 88 #[(0, t42), (1, const (1:i64))]
        · intro w hw h15 K hK; cases h15; go_simp; exact hK _ _ (Le.refl _) (Is.mk _ _)
        -- 17: 44 := Op.buildSlice 89 1 #[(0, t43)]
        · intro w hw h16 K hK; cases h16; go_simp; exact hK _ _ ((Le.refl _).alloc _) ⟨_, rfl, heap_alloc_new _ _⟩
        · intro wz hz h0 h1 h2 h3 h4 h5 h6 h7 h8 h9 h10 h11 h12 h13 h14 h15 h16 h17; cases h0; cases h1; cases h2; cases h3; cases h4; cases h5; cases h6; cases h7; cases h8; cases h9; cases h10; cases h11; cases h12; cases h13; cases h14; cases h15; cases h16; obtain ⟨g, rfl, hg⟩ := h17; skip
          have hcz : Cells wz (some ⟨g, 0, none⟩) (encPart (X1, 1)) := fun _ => ⟨g, 0, rfl, fun j u hu => by rw [Nat.zero_add, cell_block hg]; simpa [encPart] using hu⟩
          have hpz := hpd.le hz
          go_wp2_with (at_builtin; go_must (refine wpl_app rfl slPart (.tmp 27) (.tmp 44) rfl hpz.1 rfl rfl hcz rfl (by simp [encPart, Value.oneCell']) (by omega) (by omega) hpz.2.size ?_); intro v5 w5 ho5 hg5 hat5)
          go_meet
          rw [ep1.out]
          exact hpz.app2 ho5 hg5
  case rest =>
    have hp1 := hcut
    clear hcut
    generalize wc = W3 at *
    generalize u4 = v3 at *
    have hl1 := HLEN.out.1
    have hq5 := HY5.out W3 ⟨hp1.2⟩
    go_upto_block 0 with fail
    go_cut [4] (fun v wx => PsAt W wx v P2)
    case first =>
      cases wide
      · have hq4 := HY4.out W3 ⟨hp1.2⟩
        cases hasPic
        · go_wp2_with fail
          go_meet
          rw [ep2.out]
          simpa using hp1
        · have hq6 := HY6.out W3 ⟨hp1.2⟩
          go_wp2_with (at_builtin; (refine wpl_app rfl slPart (.tmp 60) (.tmp 65) rfl (hp1.1.alloc _) rfl rfl (news := encPart (pic, 1)) (cells_new _ _ _) rfl (by simp [encPart, Value.oneCell']) (by omega) (by omega) (le_alloc hp1.2.size) ?_); intro v' w' ho' hg' hat')
          go_meet
          rw [ep2.out]
          exact hp1.app ho' hg'
      · have hq6 := HY6.out W3 ⟨hp1.2⟩
        have hU : bits .or .u64 32768 (pic : Int) = ((32768 ||| pic : Nat) : Int) := HU.out
        go_wp2_with (at_builtin; (refine wpl_app rfl slPart (.tmp 49) (.tmp 55) rfl (hp1.1.alloc _) rfl rfl (news := encPart (32768 ||| pic, 2)) (cells_new _ _ _) rfl (by simp [encPart, Value.oneCell']) (by omega) (by omega) (le_alloc hp1.2.size) ?_); intro v' w' ho' hg' hat')
        go_meet
        rw [ep2.out]
        exact hp1.app ho' hg'
    case rest =>
      have hp2 := hcut
      clear hcut hp1 hq5
      generalize wc = W4 at *
      generalize u4 = v4 at *
      have hl2 := HLEN.out.2.1
      have hq7 := HY7.out W4 ⟨hp2.2⟩
      go_upto_if 68 with fail
      clear hq7
      go_cut [4] (fun v wx => PsAt W wx v P3)
      case first =>
        cases hasTl0
        · go_wp2_with fail
          go_meet
          rw [ep3.out]
          simpa using hp2
        · have hq8 := HY8.out W4 ⟨hp2.2⟩
          go_wp2_with (at_builtin; (refine wpl_app rfl slPart (.tmp 69) (.tmp 74) rfl (hp2.1.alloc _) rfl rfl (news := encPart (tl0, 1)) (cells_new _ _ _) rfl (by simp [encPart, Value.oneCell']) (by omega) (by omega) (le_alloc hp2.2.size) ?_); intro v' w' ho' hg' hat')
          go_meet
          rw [ep3.out]
          exact hp2.app ho' hg'
      case rest =>
        have hp3 := hcut
        clear hcut hp2
        generalize wc = W5 at *
        generalize u4 = v5 at *
        have hl3 := HLEN.out.2.2.1
        have hq9 := HY9.out W5 ⟨hp3.2⟩
        have hq12 := HY12.out W5 ⟨hp3.2⟩
        go_upto_region 12 with fail
        go_cut [81] (fun s wx => s = .bool (hasTid || hasKey) ∧ wx = W5)
        case first =>
          cases hasTid
          · go_wp2_with fail
            go_meet
            exact ⟨rfl, rfl⟩
          · go_wp2_with fail
            go_meet
            exact ⟨rfl, rfl⟩
        case rest =>
          obtain ⟨rfl, rfl⟩ := hcut
          clear hq9 hq12
          have hpd := hp3.drew
          have hle : Le W wc.drew := ⟨hpd.2⟩
          go_upto_if 81 with fail
          go_cut [4] (fun v wx => PsAt W wx v P4)
          case first =>
            cases hk : (hasTid || hasKey)
            · go_wp2_with fail
              go_meet
              rw [ep4.out, hk]
              simpa using hp3
            · go_wp2_with fail
              refine' wp_region_tail 15 15 82 Le (Is _ :: Is _ :: Is _ :: Is _ :: Is _ :: Is _ :: Is _ :: Is _ :: Is _ :: Is _ :: Is _ :: Is _ :: Is _ :: Is _ :: (fun v w => ∃ g : Nat, v = .slice (some ⟨g, 0, none⟩) 1 1 ∧ w.heap[g]? = some (.cells #[.int .u64 X4, .int .i64 1] 88 (0, 0))) :: []) ([] :: [] :: [1] :: [2] :: [3] :: [] :: [5] :: [6] :: [4, 7] :: [] :: [9] :: [10] :: [8, 11] :: [12] :: [13] :: []) (by kernel_rfl) (by kernel_rfl) (by rfl) (by kernel_rfl) (by kernel_rfl) Le.refl (fun _ _ _ h h' => h.trans h') ⟨St.is, St.is, St.is, St.is, St.is, St.is, St.is, St.is, St.is, St.is, St.is, St.is, St.is, St.is, fun v w w' h ⟨g, e1, e2⟩ => ⟨g, e1, h.heap e2⟩, trivial⟩ ?m13
              case m13 =>
                simp (maxSteps := 100000000) only [AllV, Obl2, Leans, factAt, allFacts, actOf, putAll, putRow, List.set_cons_succ, List.set_cons_zero, List.getElem?_cons_zero, List.getElem?_cons_succ, List.take_succ_cons, List.take_zero, List.drop_succ_cons, List.drop_zero, List.cons_append, List.nil_append, List.length_cons, List.length_nil, Nat.reduceAdd]
                intro x0 x1 x2 x3 x4 x5 x6 x7 x8 x9 x10 x11 x12 x13 x14
                refine ⟨⟨?_, ?_, ?_, ?_, ?_, ?_, ?_, ?_, ?_, ?_, ?_, ?_, ?_, ?_, ?_, trivial⟩, ?_⟩
                -- 0: 82 := Op.move t4
                · intro w hw  K hK; go_simp; exact hK _ _ (Le.refl _) (Is.mk _ _)
                -- 1: 83 := Op.fieldAddr 49 t1 10
                · intro w hw  K hK; go_simp; exact hK _ _ (Le.refl _) (Is.mk _ _)
                -- 2: 84 := Op.load 5 t83
                · intro w hw h1 K hK; cases h1; have q10 := HY10.out w (hle.trans hw); go_simp; exact hK _ _ (Le.refl _) (Is.mk _ _)
                -- 3: 85 := Op.convert 5 73 t84
                · intro w hw h2 K hK; cases h2; go_simp; exact hK _ _ (Le.refl _) (Is.mk _ _)
                -- 4: 86 := Op.binOp BinOp.shl 73 t85 (const (6:u64)) 69
                · intro w hw h3 K hK; cases h3; go_simp; exact hK _ _ (Le.refl _) (Is.mk _ _)
                -- 5: 87 := Op.fieldAddr 49 t1 11
                · intro w hw  K hK; go_simp; exact hK _ _ (Le.refl _) (Is.mk _ _)
                -- 6: 88 := Op.load 4 t87
                · intro w hw h5 K hK; cases h5; have q11 := HY11.out w (hle.trans hw); go_simp; exact hK _ _ (Le.refl _) (Is.mk _ _)
                -- 7: 89 := Op.call { value (Operand.func 51), args := #[t88, const (32:u64)], argTypes := #[4, 73] }
                · intro w hw h6 K hK; cases h6; go_simp; refine (bit_same _ _ _).mono ?_; rintro r w' ⟨rfl, rfl⟩; exact hK _ _ (Le.refl _) (Is.mk _ _)
                -- 8: 90 := Op.binOp BinOp.or 73 t86 t89 73
                · intro w hw h4 h7 K hK; cases h4; cases h7; have hor : bits .or .u64 ((tid : Int) * 64) (bitN sync 32 : Nat) = (C1 : Nat) := HQ.out.1; go_simp; exact hK _ _ (Le.refl _) (Is.mk _ _)
                -- 9: 91 := Op.fieldAddr 49 t1 13
                · intro w hw  K hK; go_simp; exact hK _ _ (Le.refl _) (Is.mk _ _)
                -- 10: 92 := Op.load 5 t91
                · intro w hw h9 K hK; cases h9; have q13 := HY13.out w (hle.trans hw); go_simp; exact hK _ _ (Le.refl _) (Is.mk _ _)
                -- 11: 93 := Op.convert 5 73 t92
                · intro w hw h10 K hK; cases h10; go_simp; exact hK _ _ (Le.refl _) (Is.mk _ _)
                -- 12: 94 := Op.binOp BinOp.or 73 t90 t93 73
                · intro w hw h8 h11 K hK; cases h8; cases h11; have hor := HQ.out.2; go_simp; exact hK _ _ (Le.refl _) (Is.mk _ _)
                -- 13: 95 := Op.build 88 #[(0, t94), (1, const (1:i64))]
                · intro w hw h12 K hK; cases h12; go_simp; exact hK _ _ (Le.refl _) (Is.mk _ _)
                -- 14: 96 := Op.buildSlice 89 1 #[(0, t95)]
                · intro w hw h13 K hK; cases h13; go_simp; exact hK _ _ ((Le.refl _).alloc _) ⟨_, rfl, heap_alloc_new _ _⟩
                · intro wz hz h0 h1 h2 h3 h4 h5 h6 h7 h8 h9 h10 h11 h12 h13 h14; cases h0; cases h1; cases h2; cases h3; cases h4; cases h5; cases h6; cases h7; cases h8; cases h9; cases h10; cases h11; cases h12; cases h13; obtain ⟨g, rfl, hg⟩ := h14; skip
                  have hcz : Cells wz (some ⟨g, 0, none⟩) (encPart (X4, 1)) := fun _ => ⟨g, 0, rfl, fun j u hu => by rw [Nat.zero_add, cell_block hg]; simpa [encPart] using hu⟩
                  have hpz := hpd.le hz
                  go_wp2_with (at_builtin; go_must (refine wpl_app rfl slPart (.tmp 82) (.tmp 96) rfl hpz.1 rfl rfl hcz rfl (by simp [encPart, Value.oneCell']) (by omega) (by omega) hpz.2.size ?_); intro v5 w5 ho5 hg5 hat5)
                  go_meet
                  rw [ep4.out, hk]
                  exact hpz.app2 ho5 hg5
          case rest =>
            have hp4 := hcut
            clear hcut hp3 hpd hle
            obtain ⟨A4, cap4, rfl, hcap4, hcells⟩ := own_slice hp4.1
            have hrs := rsl_parts rfl hcap4 HPB.out hcells
            have HO4 := hide hp4
            have hput := hide (put_any A4 P4.length cap4 P4 wc hrs (by have := HLEN.out.2.2.2; omega))
            clear hcells hrs hp4
            go_wp2_with fail
            refine hput.out.mono ?_
            rintro e w9 ⟨v9, rfl, ho9, hb9⟩
            have HO9 := hide (own_base ho9 (Nat.le_trans HLW.out.size HO4.out.2.size))
            have HB9 := hide (HLW.out.trans ⟨HO4.out.2.trans (hb9.mono HO4.out.2.size)⟩).out
            clear ho9 hb9 hput
            go_wp2_with fail
            go_ret2
            exact ⟨_, rfl, HO9.out, HB9.out⟩

theorem put_any8 (d : Dsc) (w : World) (hd : d.Ok) : Calls Try.prog 33 #[d.val] w (PutV w (vpB d) (vpF d)) := by
  rw [vpB, vpF]
  cases h : d.right
  · exact put_bad d w h
  · exact put_good d w h hd
end Go.Proofs.Ytkbdbandeioibaa
