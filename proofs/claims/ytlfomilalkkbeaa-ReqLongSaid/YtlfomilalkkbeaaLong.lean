/- ReqLong: the law's walk. -/
import Derived.Test.YtlfomilalkkbeaaLaw19
import Derived.Test.YtlfomilalkkbeaaLongL
import Derived.Test.YtlfomilalkkbeaaReg
namespace Go.Proofs.Ytlfomilalkkbeaa
open Go.RowKit
set_option linter.unusedVariables false

theorem box_cell {wb : World} {p : Nat} {cs : Array Value} {T : TypeId} {fr : Nat × Nat} (h : wb.heap[p]? = some (.cells cs T fr)) (i : Nat) (v : Value) (hv : cs[i]? = some v) : ∀ W, Le wb W → W.cell? ⟨p, i, none⟩ = some v :=
  fun W hW => (cell_block (hW.heap h) i).trans hv
theorem conv_le {w : World} {A : Option Addr} {n cap : Nat} {l : List UInt8} (h : RSl 1 RU8 w l (.slice A n cap)) (W : World) (hW : Le w W) : (convert 24 9 (.slice A n cap)).run Try.prog W = .ok (.string (str l)) W :=
  conv_str (P := Try.prog) W 24 9 5 A n cap l Try.underlying24 Try.underlying5 Try.underlying9 (hW.rsl keeps_u8 h)
theorem rsl_drop {α : Type} {R : Rd α} {w : World} {l : List α} {b off n cap k : Nat} (h : RSl 1 R w l (.slice (some ⟨b, off, none⟩) n cap)) (hk : k ≤ l.length) : RSl 1 R w (l.drop k) (.slice (some ⟨b, off + k, none⟩) (n - k) (cap - k)) := by
  obtain ⟨A', cap', hv, hc, hr⟩ := h
  injection hv with e1 e2 e3
  subst e1 e2 e3
  refine ⟨some ⟨b, off + k, none⟩, cap - k, by simp, by simp; omega, fun hne => ⟨b, off + k, rfl, fun i hi => ?_⟩⟩
  have hi' : k + i < l.length := by simp at hi; omega
  obtain ⟨b', off', hA, hg⟩ := hr (by rintro rfl; simp at hi')
  injection hA with hA
  injection hA with e1 e2
  subst e1 e2
  obtain ⟨cs, h1, h2, h3⟩ := hg (k + i) hi'
  refine ⟨cs, h1, fun j hj => ?_, by simpa using h3⟩
  have := h2 j hj
  rw [← this]
  congr 2
  omega

set_option maxRecDepth 100000 in
set_option maxHeartbeats 4000000 in
theorem reqLong_walk (w : World) (id : Nat) (hid : (id : Int) < 18446744073709551616) (id2 : Nat) (hid2 : (id2 : Int) < 18446744073709551616) (q : Rq) (A : Option Addr) (n cap : Nat) (hr : RSl 1 RU32 w q.ssrcs (.slice A n cap)) :
    Calls Try.prog 14 #[.int .u64 id, .int .u64 id2, .agg #[.int .i64 q.kind, .int .i64 q.who, .int .i64 q.room, .int .i64 q.rights, .int .i64 q.track, .slice A n cap, .int .i64 q.layer, .int .i64 q.tid]] w (Gives w (.bool true)) := by
  have HR := hide hr
  obtain ⟨A', cap', hv, hcap, _⟩ := hr
  injection hv with e1 e2 e3
  subst e1 e2 e3
  have HID := hide hid; have HID2 := hide hid2
  clear hid hid2
  have hq := heap_alloc_new w (.cells #[.int .i64 q.kind, .int .i64 q.who, .int .i64 q.room, .int .i64 q.rights, .int .i64 q.track, .slice A q.ssrcs.length cap, .int .i64 q.layer, .int .i64 q.tid] 56)
  have hwb : Le w (w.alloc (.cells #[.int .i64 q.kind, .int .i64 q.who, .int .i64 q.room, .int .i64 q.rights, .int .i64 q.track, .slice A q.ssrcs.length cap, .int .i64 q.layer, .int .i64 q.tid] 56)) := (Le.refl w).alloc _
  go_enter Try.func14, Try.ntmps14
  go_wp2_with fail
  generalize w.alloc (.cells #[.int .i64 q.kind, .int .i64 q.who, .int .i64 q.room, .int .i64 q.rights, .int .i64 q.track, .slice A q.ssrcs.length cap, .int .i64 q.layer, .int .i64 q.tid] 56) = wb at *
  generalize w.heap.size = p at *
  have q0 := box_cell hq 0 _ rfl
  have q1 := box_cell hq 1 _ rfl
  have q2 := box_cell hq 2 _ rfl
  have q3 := box_cell hq 3 _ rfl
  have q4 := box_cell hq 4 _ rfl
  have q5 := box_cell hq 5 _ rfl
  have q6 := box_cell hq 6 _ rfl
  have q7 := box_cell hq 7 _ rfl
  clear hq
  refine (awake19 _).mono ?_
  rintro r w1 ⟨rfl, hb1⟩
  have hl1 : Le wb w1 := ⟨hb1⟩
  clear hb1
  by_cases hbig : 300 < q.ssrcs.length
  · go_wp2_with fail
    go_ret
    exact ⟨rfl, (hwb.trans hl1).out⟩
  have hs3 : ((q.ssrcs.length : Nat) : Int) ≤ 300 := by omega
  have HR1 := hide ((hwb.trans hl1).rsl keeps_u32 HR.out)
  cases hok : q.ok with
  | false =>
    have HOK := hide hok
    clear hok
    go_wp2_with fail
    refine (reqPut_bad id q A _ cap _ rfl HOK.out).mono ?_
    rintro r w2 ⟨v2, rfl, ho2, hb2⟩
    obtain ⟨A2, cap2, rfl, hcap2, _⟩ := own_slice ho2
    have hl2 : Le wb w2 := hl1.trans ⟨hb2⟩
    clear hb2 hl1 ho2
    go_wp2_with fail
    refine (reqPut_bad id2 q A _ cap _ rfl HOK.out).mono ?_
    rintro r w3 ⟨v3, rfl, ho3, hb3⟩
    obtain ⟨A3, cap3, rfl, hcap3, _⟩ := own_slice ho3
    have hl3 : Le wb w3 := hl2.trans ⟨hb3⟩
    clear hb3 hl2 ho3
    go_wp2_with fail
    go_ret
    exact ⟨rfl, (hwb.trans hl3).out⟩
  | true =>
    have HOK := hide hok
    clear hok
    have HL1 := hide (bytes_len id q); have HL2 := hide (bytes_len id2 q)
    have HD1 := hide (bytes_drop id q); have HD2 := hide (bytes_drop id2 q)
    have HE := hide (bytes_eq id id2 HID.out HID2.out q)
    obtain ⟨B1, hB1⟩ : ∃ B, q.bytes id = B := ⟨_, rfl⟩
    obtain ⟨B2, hB2⟩ : ∃ B, q.bytes id2 = B := ⟨_, rfl⟩
    rw [hB1] at HL1 HD1 HE
    rw [hB2] at HL2 HD2 HE
    have HB1 := hide hB1; have HB2 := hide hB2
    clear hB1 hB2
    go_wp2_with fail
    refine (reqPut_ok id q A _ cap _ HID.out HR1.out HOK.out).mono ?_
    rw [HB1.out]
    rintro r w2 ⟨v2, rfl, ho2, hb2⟩
    have hl2 : Le w1 w2 := ⟨hb2⟩
    have hR2 := rsl_of_own ho2
    obtain ⟨A2, cap2, rfl, hcap2, _⟩ := own_slice ho2
    have hl02 := hl1.trans hl2
    have HR2 := hide (hl2.rsl keeps_u32 HR1.out)
    clear hb2 ho2 hl1
    go_wp2_with fail
    refine (reqPut_ok id2 q A _ cap _ HID2.out HR2.out HOK.out).mono ?_
    rw [HB2.out]
    rintro r w3 ⟨v3, rfl, ho3, hb3⟩
    have hl3 : Le w2 w3 := ⟨hb3⟩
    have hR3 := rsl_of_own ho3
    obtain ⟨A3, cap3, rfl, hcap3, _⟩ := own_slice ho3
    have hl03 := hl02.trans hl3
    have hR2' := hl3.rsl keeps_u8 hR2
    clear hb3 ho3 hl02 hl2 hR2
    obtain ⟨b2, off2, rfl⟩ : ∃ b off, A2 = some ⟨b, off, none⟩ := by
      obtain ⟨A', c', hv, _, hi⟩ := hR2'
      injection hv with e1 e2 e3
      subst e1
      obtain ⟨b, off, e, _⟩ := hi (by rintro rfl; simp at HL1; have := HL1.out; omega)
      exact ⟨b, off, e⟩
    obtain ⟨b3, off3, rfl⟩ : ∃ b off, A3 = some ⟨b, off, none⟩ := by
      obtain ⟨A', c', hv, _, hi⟩ := hR3
      injection hv with e1 e2 e3
      subst e1
      obtain ⟨b, off, e, _⟩ := hi (by rintro rfl; simp at HL2; have := HL2.out; omega)
      exact ⟨b, off, e⟩
    have hD2 := rsl_drop (k := 8) hR2' (by rw [HL1.out]; omega)
    have hD3 := rsl_drop (k := 8) hR3 (by rw [HL2.out]; omega)
    rw [HD1.out] at hD2
    rw [HD2.out] at hD3
    have f1 := fun nq => conv_le hR2' _ ((Le.refl w3).drewN nq)
    have f2 := fun nq => conv_le hR3 _ ((Le.refl w3).drewN nq)
    have f3 := fun nq => conv_le hD2 _ ((Le.refl w3).drewN nq)
    have f4 := fun nq => conv_le hD3 _ ((Le.refl w3).drewN nq)
    have g1 : (((B1.length : Nat) : Int) == 18 + 4 * (q.ssrcs.length : Int)) = true := by rw [HL1.out, beq_iff_eq]; omega
    have g2 : (((B2.length : Nat) : Int) == (B1.length : Int)) = true := by rw [HL1.out, HL2.out, beq_iff_eq]
    have g3 : (q.rest == q.rest) = true := by simp
    have g4 : ((B1 == B2) == ((id : Int) == (id2 : Int))) = true := by rw [HE.out]; simp
    have k1 : (8 : Int) ≤ (B1.length : Int) := by rw [HL1.out]; omega
    have k2 : (8 : Int) ≤ (B2.length : Int) := by rw [HL2.out]; omega
    have k3 : B1.length ≤ 1218 := by rw [HL1.out]; omega
    have k4 : B2.length ≤ 1218 := by rw [HL2.out]; omega
    have k9 : (8 : Int) < (B1.length : Int) := by rw [HL1.out]; omega
    have k10 : (8 : Int) < (B2.length : Int) := by rw [HL2.out]; omega
    have k5 : (8 : Int) < (cap2 : Int) := by omega
    have k6 : (8 : Int) < (cap3 : Int) := by omega
    have k7 : ¬ cap2 = 8 := by omega
    have k8 : ¬ cap3 = 8 := by omega
    have u1 : IntKind.i64.wrap (4 * (q.ssrcs.length : Int)) = 4 * (q.ssrcs.length : Int) := IntWalk.i64_in _ (by omega)
    have u2 : IntKind.i64.wrap (18 + 4 * (q.ssrcs.length : Int)) = 18 + 4 * (q.ssrcs.length : Int) := IntWalk.i64_in _ (by omega)
    clear hR2' hR3 hD2 hD3
    go_wp2_with fail
    go_quiet (fail)
    go_wp2_with fail
    go_ret
    exact ⟨rfl, ((hwb.trans hl03).drewN _).out⟩
end Go.Proofs.Ytlfomilalkkbeaa
