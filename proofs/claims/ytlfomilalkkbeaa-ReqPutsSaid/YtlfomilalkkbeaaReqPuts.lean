/- ReqPuts: the law's walk. -/
import Derived.Test.YtlfomilalkkbeaaLaw19
import Derived.Test.YtlfomilalkkbeaaReqSame
import Derived.Test.YtlfomilalkkbeaaRefPut
namespace Go.Proofs.Ytlfomilalkkbeaa
open Go.RowKit
set_option linter.unusedVariables false

set_option maxRecDepth 100000 in
set_option maxHeartbeats 4000000 in
theorem reqPuts_walk (w : World) (id : Nat) (hid : (id : Int) < 18446744073709551616) (q : Rq) (A : Option Addr) (n cap : Nat) (hr : RSl 1 RU32 w q.ssrcs (.slice A n cap)) :
    Calls Try.prog 10 #[.int .u64 id, .agg #[.int .i64 q.kind, .int .i64 q.who, .int .i64 q.room, .int .i64 q.rights, .int .i64 q.track, .slice A n cap, .int .i64 q.layer, .int .i64 q.tid]] w (Gives w (.bool true)) := by
  have HR := hide hr
  obtain ⟨A', cap', hv, hcap, _⟩ := hr
  injection hv with e1 e2 e3
  subst e1 e2 e3
  have HID := hide hid
  clear hid
  have hq := heap_alloc_new w (.cells #[.int .i64 q.kind, .int .i64 q.who, .int .i64 q.room, .int .i64 q.rights, .int .i64 q.track, .slice A q.ssrcs.length cap, .int .i64 q.layer, .int .i64 q.tid] 56)
  have hwb : Le w (w.alloc (.cells #[.int .i64 q.kind, .int .i64 q.who, .int .i64 q.room, .int .i64 q.rights, .int .i64 q.track, .slice A q.ssrcs.length cap, .int .i64 q.layer, .int .i64 q.tid] 56)) := (Le.refl w).alloc _
  go_enter Try.func10, Try.ntmps10
  go_wp2_with fail
  generalize w.alloc (.cells #[.int .i64 q.kind, .int .i64 q.who, .int .i64 q.room, .int .i64 q.rights, .int .i64 q.track, .slice A q.ssrcs.length cap, .int .i64 q.layer, .int .i64 q.tid] 56) = wb at *
  generalize w.heap.size = p at *
  have q0 := box_cell hq 0 _ rfl
  have q1 := box_cell hq 1 _ rfl
  have q2 := box_cell hq 2 _ rfl
  have q3 := box_cell hq 3 _ rfl
  have q4 := box_cell hq 4 _ rfl
  have q5 := box_cell hq 5 _ rfl
  have q6 := box_cell hq 6 _ rfl
  have q7 := box_cell hq 7 _ rfl
  clear hq
  refine (awake19 _).mono ?_
  rintro r w1 ⟨rfl, hb1⟩
  have hl1 : Le wb w1 := ⟨hb1⟩
  clear hb1
  by_cases hbig : 300 < q.ssrcs.length
  · go_wp2_with fail
    go_ret
    exact ⟨rfl, (hwb.trans hl1).out⟩
  have hs3 : ((q.ssrcs.length : Nat) : Int) ≤ 300 := by omega
  have HR1 := hide ((hwb.trans hl1).rsl keeps_u32 HR.out)
  cases hok : q.ok with
  | false =>
    have HOK := hide hok
    clear hok
    go_wp2_with fail
    refine (reqPut_bad id q A _ cap _ rfl HOK.out).mono ?_
    rintro r w2 ⟨v2, rfl, ho2, hb2⟩
    have hR2 := rsl_of_own ho2
    obtain ⟨A2, cap2, rfl, hcap2, _⟩ := own_slice ho2
    have hl2 : Le wb w2 := hl1.trans ⟨hb2⟩
    have HR2 := hide ((hwb.trans hl2).rsl keeps_u32 HR.out)
    have HS2 := hide hR2
    clear hb2 hl1 ho2 hR2
    go_wp2_with fail
    have hof := of_any q A q.ssrcs.length cap w2
    simp only [rqV] at hof
    refine hof.mono ?_
    clear hof
    rintro r w3 ⟨rfl, hb3⟩
    have hl23 : Le w2 w3 := ⟨hb3⟩
    clear hb3
    go_wp2_with fail
    refine (rput_bad id q A _ cap _ rfl HOK.out).mono ?_
    rintro r w4 ⟨rfl, hb4⟩
    have hl24 := hl23.trans ⟨hb4⟩
    have hR4 := hl24.rsl keeps_u8 HS2.out
    have HL4 := hide (hl2.trans hl24)
    have f1 := conv_le hR4 w4 (Le.refl _)
    simp only [List.length_nil] at f1
    have f2 : (([] : List UInt8) == []) = true := rfl
    clear hb4 hl23 hl24 hl2 hR4
    go_wp2_with fail
    go_ret
    exact ⟨rfl, (hwb.trans HL4.out).out⟩
  | true =>
    have HOK := hide hok
    clear hok
    obtain ⟨B1, hB1⟩ : ∃ B, q.bytes id = B := ⟨_, rfl⟩
    have HB1 := hide hB1
    clear hB1
    go_wp2_with fail
    refine (reqPut_ok id q A _ cap _ HID.out HR1.out HOK.out).mono ?_
    rw [HB1.out]
    rintro r w2 ⟨v2, rfl, ho2, hb2⟩
    have hR2 := rsl_of_own ho2
    obtain ⟨A2, cap2, rfl, hcap2, _⟩ := own_slice ho2
    have hl2 : Le wb w2 := hl1.trans ⟨hb2⟩
    have HR2 := hide ((hwb.trans hl2).rsl keeps_u32 HR.out)
    have HS2 := hide hR2
    clear hb2 hl1 ho2 hR2
    go_wp2_with fail
    have hof := of_any q A q.ssrcs.length cap w2
    simp only [rqV] at hof
    refine hof.mono ?_
    clear hof
    rintro r w3 ⟨rfl, hb3⟩
    have hl23 : Le w2 w3 := ⟨hb3⟩
    clear hb3
    go_wp2_with fail
    refine (rput_ok id q A _ cap _ HID.out (hl23.rsl keeps_u32 HR2.out) HOK.out).mono ?_
    rw [HB1.out]
    rintro r w4 ⟨rfl, hb4⟩
    have hl24 := hl23.trans ⟨hb4⟩
    have hR4 := hl24.rsl keeps_u8 HS2.out
    have HL4 := hide (hl2.trans hl24)
    have f1 := conv_le hR4 w4 (Le.refl _)
    have f2 : (B1 == B1) = true := by simp
    clear hb4 hl23 hl24 hl2 hR4
    go_wp2_with fail
    go_ret
    exact ⟨rfl, (hwb.trans HL4.out).out⟩
end Go.Proofs.Ytlfomilalkkbeaa
