/- vp8: the small functions. -/
import Derived.Test.YtkbdbandeioibaaVp8L
namespace Go.Proofs.Ytkbdbandeioibaa
open Go.RowKit
set_option linter.unusedVariables false

theorem bit_any (b : Bool) (x : Nat) (w : World) : Calls Try.prog 51 #[.bool b, .int .u64 x] w (Gives w (.int .u64 (bitN b x))) := by
  cases b
  · go_enter Try.func51, Try.ntmps51
    go_wp2_with fail
    go_ret
    exact ⟨rfl, Below.refl _ _⟩
  · go_enter Try.func51, Try.ntmps51
    go_wp2_with fail
    go_ret
    exact ⟨rfl, Below.refl _ _⟩

set_option maxRecDepth 100000 in
set_option maxHeartbeats 2000000 in
theorem of_any (d : Dsc) (h : d.Ok) (w : World) : Calls Try.prog 28 #[d.val] w (Gives w d.ref) := by
  obtain ⟨more, lone, start, part, hasPic, wide, pic, hasTl0, tl0, hasTid, tid, sync, hasKey, key⟩ := d
  obtain ⟨h1, h2, h3, h4, h5⟩ := h
  simp only [Dsc.val, Dsc.ref] at *
  have hl := (Le.refl w).alloc
  have e1 : IntKind.i64.wrap (part : Int) = part := IntWalk.i64_in _ (by omega)
  have e2 : IntKind.i64.wrap (pic : Int) = pic := IntWalk.i64_in _ (by omega)
  have e3 : IntKind.i64.wrap (tl0 : Int) = tl0 := IntWalk.i64_in _ (by omega)
  have e4 : IntKind.i64.wrap (tid : Int) = tid := IntWalk.i64_in _ (by omega)
  have e5 : IntKind.i64.wrap (key : Int) = key := IntWalk.i64_in _ (by omega)
  go_enter Try.func28, Try.ntmps28
  go_wp2_with fail
  have HL := hide ((hl (.cells (#[.bool more, .bool lone, .bool start, .int .u8 part, .bool hasPic, .bool wide, .int .u16 pic, .bool hasTl0, .int .u8 tl0, .bool hasTid, .int .u8 tid, .bool sync, .bool hasKey, .int .u8 key] : Array Value) 49)).alloc (.cells (#[.bool more, .bool lone, .bool start, .int .i64 part, .bool hasPic, .bool wide, .int .i64 pic, .bool hasTl0, .int .i64 tl0, .bool hasTid, .int .i64 tid, .bool sync, .bool hasKey, .int .i64 key] : Array Value) 53))
  have hh := heap_at (w := w.alloc (.cells (#[.bool more, .bool lone, .bool start, .int .u8 part, .bool hasPic, .bool wide, .int .u16 pic, .bool hasTl0, .int .u8 tl0, .bool hasTid, .int .u8 tid, .bool sync, .bool hasKey, .int .u8 key] : Array Value) 49)) (o := .cells (#[.bool more, .bool lone, .bool start, .int .i64 part, .bool hasPic, .bool wide, .int .i64 pic, .bool hasTl0, .int .i64 tl0, .bool hasTid, .int .i64 tid, .bool sync, .bool hasKey, .int .i64 key] : Array Value) 53) (alloc_size _ _)
  revert HL hh
  generalize World.alloc (World.alloc w _) _ = W
  intro HL hh
  have c0 := cell_block hh 0; have c1 := cell_block hh 1; have c2 := cell_block hh 2; have c3 := cell_block hh 3; have c4 := cell_block hh 4; have c5 := cell_block hh 5; have c6 := cell_block hh 6; have c7 := cell_block hh 7; have c8 := cell_block hh 8; have c9 := cell_block hh 9; have c10 := cell_block hh 10; have c11 := cell_block hh 11; have c12 := cell_block hh 12; have c13 := cell_block hh 13
  simp only [List.getElem?_toArray, List.getElem?_cons_zero, List.getElem?_cons_succ] at c0 c1 c2 c3 c4 c5 c6 c7 c8 c9 c10 c11 c12 c13
  refine bodyPost_ret (v := .agg #[.bool more, .bool lone, .bool start, .int .i64 part, .bool hasPic, .bool wide, .int .i64 pic, .bool hasTl0, .int .i64 tl0, .bool hasTid, .int .i64 tid, .bool sync, .bool hasKey, .int .i64 key]) (by simp [results, Try.results28, go_sem, c0, c1, c2, c3, c4, c5, c6, c7, c8, c9, c10, c11, c12, c13]) rfl ⟨rfl, HL.out.out⟩
end Go.Proofs.Ytkbdbandeioibaa
