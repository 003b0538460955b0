/- vp8 descriptors, in plain Lean. -/
import Derived.Test.YtkbdbandeioibaaPart
import Derived.Test.YtkbdbandeioibaaMid
import Derived.Test.YtkbdbandeioibaaW
namespace Go.Proofs.Ytkbdbandeioibaa
open Go.RowKit
set_option linter.unusedVariables false

structure Dsc where
  more : Bool
  lone : Bool
  start : Bool
  part : Nat
  hasPic : Bool
  wide : Bool
  pic : Nat
  hasTl0 : Bool
  tl0 : Nat
  hasTid : Bool
  tid : Nat
  sync : Bool
  hasKey : Bool
  key : Nat
  deriving DecidableEq
/-- as the program has it -/
def Dsc.val (d : Dsc) : Value := .agg #[.bool d.more, .bool d.lone, .bool d.start, .int .u8 d.part, .bool d.hasPic, .bool d.wide, .int .u16 d.pic, .bool d.hasTl0, .int .u8 d.tl0, .bool d.hasTid, .int .u8 d.tid, .bool d.sync, .bool d.hasKey, .int .u8 d.key]
/-- as the reference has it -/
def Dsc.ref (d : Dsc) : Value := .agg #[.bool d.more, .bool d.lone, .bool d.start, .int .i64 d.part, .bool d.hasPic, .bool d.wide, .int .i64 d.pic, .bool d.hasTl0, .int .i64 d.tl0, .bool d.hasTid, .int .i64 d.tid, .bool d.sync, .bool d.hasKey, .int .i64 d.key]
/-- its numbers are as wide as their types -/
structure Dsc.Ok (d : Dsc) : Prop where
  part : d.part < 256
  pic : d.pic < 65536
  tl0 : d.tl0 < 256
  tid : d.tid < 256
  key : d.key < 256
def Dsc.zero : Dsc := ⟨false, false, false, 0, false, false, 0, false, 0, false, 0, false, false, 0⟩
def Dsc.begins (d : Dsc) : Bool := d.start && decide (d.part = 0)
def Dsc.clean (d : Dsc) : Dsc :=
  if d.more = false then { Dsc.zero with lone := d.lone, start := d.start, part := d.part }
  else
    let d := if d.hasPic then d else { d with wide := false, pic := 0 }
    let d := if d.hasTl0 then d else { d with tl0 := 0 }
    let d := if d.hasTid then d else { d with tid := 0, sync := false }
    if d.hasKey then d else { d with key := 0 }
def Dsc.right (d : Dsc) : Bool :=
  decide (d = d.clean) && (decide (d.part ≤ 7) && (decide (d.pic ≤ if d.wide then 32767 else 127) && (decide (d.tid ≤ 3) && decide (d.key ≤ 31))))
def bitN (b : Bool) (x : Nat) : Nat := if b then x else 0

set_option maxHeartbeats 1000000 in
theorem begins_any (d : Dsc) (h : d.part < 256) (w : World) : Calls Try.prog 29 #[d.val] w (Gives w (.bool d.begins)) := by
  obtain ⟨more, lone, start, part, hasPic, wide, pic, hasTl0, tl0, hasTid, tid, sync, hasKey, key⟩ := d
  simp only [Dsc.val, Dsc.begins] at *
  have hl := (Le.refl w).alloc
  go_enter Try.func29, Try.ntmps29
  cases start
  · go_wp2_with fail
    go_ret
    exact ⟨rfl, (hl _).out⟩
  · by_cases hp : part = 0
    · subst hp
      go_wp2_with fail
      go_ret
      exact ⟨rfl, (hl _).out⟩
    · have hpI : ((part : Int) == 0) = false := by rw [beq_eq_false_iff_ne]; omega
      have hd : (decide (part = 0)) = false := by simpa using hp
      rw [hd]
      go_wp2_with fail
      go_ret
      exact ⟨rfl, (hl _).out⟩
end Go.Proofs.Ytkbdbandeioibaa
