/- louverlaw19.of, louverref19.Same. -/
import Derived.Test.YtlfomilalkkbeaaReq
import Derived.Test.YtlfomilalkkbeaaReg
namespace Go.Proofs.Ytlfomilalkkbeaa
open Go.RowKit
set_option linter.unusedVariables false

/-- a request as a value, its SSRCs a slice -/
def rqV (q : Rq) (A : Option Addr) (n cap : Nat) : Value := .agg #[.int .i64 q.kind, .int .i64 q.who, .int .i64 q.room, .int .i64 q.rights, .int .i64 q.track, .slice A n cap, .int .i64 q.layer, .int .i64 q.tid]

set_option maxHeartbeats 1000000 in
theorem of_any (q : Rq) (A : Option Addr) (n cap : Nat) (w : World) : Calls Try.prog 28 #[rqV q A n cap] w (Gives w (rqV q A n cap)) := by
  unfold rqV
  obtain ⟨kind, who, room, rights, track, layer, tid, ssrcs⟩ := q
  simp only
  go_enter Try.func28, Try.ntmps28
  go_wp2
  refine bodyPost_ret (v := .agg #[.int .i64 kind, .int .i64 who, .int .i64 room, .int .i64 rights, .int .i64 track, .slice A n cap, .int .i64 layer, .int .i64 tid]) (by simp [results, Try.results28, go_sem]) rfl ⟨rfl, ?_⟩
  exact ((Below.refl _ _).alloc (Nat.le_refl _) _).alloc (by simp) _

def sameN (a b : Rq) : Bool := decide (a.kind = b.kind) && (decide (a.who = b.who) && (decide (a.room = b.room) && (decide (a.rights = b.rights) && (decide (a.track = b.track) && (decide (a.layer = b.layer) && decide (a.tid = b.tid))))))
def sameQ (a b : Rq) : Bool := decide (a.ssrcs = b.ssrcs) && sameN a b

theorem same_parts {a b : Rq} (h : sameQ a b = true) : a = b := by
  obtain ⟨k, w, ro, ri, t, l, ti, s⟩ := a
  obtain ⟨k', w', ro', ri', t', l', ti', s'⟩ := b
  simp only [sameQ, sameN, Bool.and_eq_true, decide_eq_true_eq] at h
  obtain ⟨rfl, rfl, rfl, rfl, rfl, rfl, rfl, rfl⟩ := h
  rfl
theorem same_refl (a : Rq) : sameQ a a = true := by simp [sameQ, sameN]

set_option maxRecDepth 100000 in
set_option maxHeartbeats 4000000 in
theorem same_any (a b : Rq) (A : Option Addr) (n cap : Nat) (B : Option Addr) (m bap : Nat) (w : World) (ha : RSl 1 RU32 w a.ssrcs (.slice A n cap)) (hb : RSl 1 RU32 w b.ssrcs (.slice B m bap)) (hla : a.ssrcs.length ≤ 1000000) :
    Calls Try.prog 31 #[rqV a A n cap, rqV b B m bap] w (Gives w (.bool (sameQ a b))) := by
  obtain ⟨A', cap', hv, hcap, hia⟩ := ha
  injection hv with e1 e2 e3
  subst e1 e2 e3
  obtain ⟨A', cap', hv, hbap, hib⟩ := hb
  injection hv with e1 e2 e3
  subst e1 e2 e3
  have HIA := hide hia; have HIB := hide hib
  clear hia hib
  unfold rqV
  obtain ⟨k1, w1, ro1, ri1, t1, la1, ti1, s1⟩ := a
  obtain ⟨k2, w2, ro2, ri2, t2, la2, ti2, s2⟩ := b
  simp only at *
  by_cases hl : s1.length = s2.length
  · have hd : (((s1.length : Nat) : Int) != (s2.length : Int)) = false := by rw [hl]; simp
    have HL := hide hl
    have hl1 : s1.length ≤ s2.length := by omega
    have hl2 : s2.length ≤ s1.length := by omega
    clear hl
    go_enter Try.func31, Try.ntmps31
    go_wp2_with fail
    have hq0 := heap_alloc (o' := .cells #[.int .i64 k2, .int .i64 w2, .int .i64 ro2, .int .i64 ri2, .int .i64 t2, .slice B s2.length bap, .int .i64 la2, .int .i64 ti2] 61) (heap_alloc_new w (.cells #[.int .i64 k1, .int .i64 w1, .int .i64 ro1, .int .i64 ri1, .int .i64 t1, .slice A s1.length cap, .int .i64 la1, .int .i64 ti1] 61))
    have hq1 := heap_alloc_new (w.alloc (.cells #[.int .i64 k1, .int .i64 w1, .int .i64 ro1, .int .i64 ri1, .int .i64 t1, .slice A s1.length cap, .int .i64 la1, .int .i64 ti1] 61)) (.cells #[.int .i64 k2, .int .i64 w2, .int .i64 ro2, .int .i64 ri2, .int .i64 t2, .slice B s2.length bap, .int .i64 la2, .int .i64 ti2] 61)
    have hbb := ((Below.refl w.heap.size w).alloc (Nat.le_refl _) (.cells #[.int .i64 k1, .int .i64 w1, .int .i64 ro1, .int .i64 ri1, .int .i64 t1, .slice A s1.length cap, .int .i64 la1, .int .i64 ti1] 61)).alloc (by simp) (.cells #[.int .i64 k2, .int .i64 w2, .int .i64 ro2, .int .i64 ri2, .int .i64 t2, .slice B s2.length bap, .int .i64 la2, .int .i64 ti2] 61)
    generalize (w.alloc (.cells #[.int .i64 k1, .int .i64 w1, .int .i64 ro1, .int .i64 ri1, .int .i64 t1, .slice A s1.length cap, .int .i64 la1, .int .i64 ti1] 61)).alloc (.cells #[.int .i64 k2, .int .i64 w2, .int .i64 ro2, .int .i64 ri2, .int .i64 t2, .slice B s2.length bap, .int .i64 la2, .int .i64 ti2] 61) = w9 at *
    rw [alloc_size] at hq1
    have HBB : Le w w9 := ⟨hbb⟩
    clear hbb
    generalize w.heap.size = p at *
    go_loopw [5] (fun j wr => ∃ k : Nat, k ≤ s1.length ∧ j = .int .i64 k ∧ s1.take k = s2.take k ∧ Le w9 wr) (fun j _ => s1.length - (intOf j).toNat)
    case atStart => exact ⟨0, Nat.zero_le _, rfl, rfl, Le.refl _⟩
    case round =>
      obtain ⟨k, hk, rfl, ht, hle⟩ := hrel
      have HT := hide ht
      clear ht
      have g0 := hle.heap hq0
      have g1 := hle.heap hq1
      have a5 : wr.cell? ⟨p, 5, none⟩ = some (.slice A s1.length cap) := cell_block g0 5
      have b5 : wr.cell? ⟨p + 1, 5, none⟩ = some (.slice B s2.length bap) := cell_block g1 5
      by_cases hlt : k < s1.length
      · obtain ⟨b1, off1, rfl, hi1⟩ := HIA.out (by rintro rfl; simp at hlt)
        obtain ⟨cs1, _, hc1, hR1, _⟩ := hi1 k hlt
        subst hR1
        have hlt2 : k < s2.length := by omega
        obtain ⟨b2, off2, rfl, hi2⟩ := HIB.out (by rintro rfl; simp at hlt2)
        obtain ⟨cs2, _, hc2, hR2, _⟩ := hi2 k hlt2
        subst hR2
        have c1 : wr.cell? ⟨b1, off1 + k, none⟩ = some (.int .u32 (s1[k] : Nat)) := (HBB.trans hle).cell (by simpa using hc1 0 (by omega))
        have c2 : wr.cell? ⟨b2, off2 + k, none⟩ = some (.int .u32 (s2[k] : Nat)) := (HBB.trans hle).cell (by simpa using hc2 0 (by omega))
        have HT1 := hide (List.take_succ_eq_append_getElem hlt)
        have HT2 := hide (List.take_succ_eq_append_getElem hlt2)
        have HN := hide (fun (h : s1[k] ≠ s2[k]) (e : s1 = s2) => h (by simp only [e]))
        generalize s1[k] = x1 at *
        generalize s2[k] = x2 at *
        have h0k : (0 : Int) ≤ (k : Int) := by omega
        have h1k : (k : Int) < (s1.length : Int) := by omega
        have h2k : (k : Int) < (s2.length : Int) := by omega
        clear hc1 hc2 hi1 hi2 hq0 hq1 g0 g1
        by_cases hx : x1 = x2
        · subst hx
          have hne : (((x1 : Nat) : Int) != (x1 : Int)) = false := by simp
          go_wp2_with fail
          go_quiet (fail)
          go_wp2
          go_roundw
          case rel => exact ⟨k + 1, by omega, by go_num, by rw [HT1.out, HT2.out, HT.out], hle.drewN _⟩
          case measure => simp [intOf]; omega
        · have hne : (((x1 : Nat) : Int) != (x2 : Int)) = true := by rw [bne_iff_ne]; omega
          have HP := hide (show sameQ ⟨k1, w1, ro1, ri1, t1, la1, ti1, s1⟩ ⟨k2, w2, ro2, ri2, t2, la2, ti2, s2⟩ = false by simp only [sameQ, Bool.and_eq_false_iff, decide_eq_false_iff_not]; exact .inl (HN.out hx))
          clear hx
          go_wp2_with fail
          go_quiet (fail)
          go_wp2
          go_ret
          exact ⟨by rw [HP.out]; rfl, ((HBB.trans hle).drewN _).out⟩
      · have hke : k = s1.length := by omega
        have HS := hide (show s1 = s2 by
          have := HT.out
          rw [hke, List.take_length, HL.out, List.take_length] at this
          exact this)
        clear hke
        have HP := hide (show sameQ ⟨k1, w1, ro1, ri1, t1, la1, ti1, s1⟩ ⟨k2, w2, ro2, ri2, t2, la2, ti2, s2⟩ = sameN ⟨k1, w1, ro1, ri1, t1, la1, ti1, s1⟩ ⟨k2, w2, ro2, ri2, t2, la2, ti2, s2⟩ by rw [sameQ, decide_eq_true HS.out, Bool.true_and])
        have HB := HBB.trans hle
        have a0 : wr.cell? ⟨p, 0, none⟩ = some (.int .i64 k1) := cell_block g0 0
        have a1 : wr.cell? ⟨p, 1, none⟩ = some (.int .i64 w1) := cell_block g0 1
        have a2 : wr.cell? ⟨p, 2, none⟩ = some (.int .i64 ro1) := cell_block g0 2
        have a3 : wr.cell? ⟨p, 3, none⟩ = some (.int .i64 ri1) := cell_block g0 3
        have a4 : wr.cell? ⟨p, 4, none⟩ = some (.int .i64 t1) := cell_block g0 4
        have a6 : wr.cell? ⟨p, 6, none⟩ = some (.int .i64 la1) := cell_block g0 6
        have a7 : wr.cell? ⟨p, 7, none⟩ = some (.int .i64 ti1) := cell_block g0 7
        have b0 : wr.cell? ⟨p + 1, 0, none⟩ = some (.int .i64 k2) := cell_block g1 0
        have b1 : wr.cell? ⟨p + 1, 1, none⟩ = some (.int .i64 w2) := cell_block g1 1
        have b2 : wr.cell? ⟨p + 1, 2, none⟩ = some (.int .i64 ro2) := cell_block g1 2
        have b3 : wr.cell? ⟨p + 1, 3, none⟩ = some (.int .i64 ri2) := cell_block g1 3
        have b4 : wr.cell? ⟨p + 1, 4, none⟩ = some (.int .i64 t2) := cell_block g1 4
        have b6 : wr.cell? ⟨p + 1, 6, none⟩ = some (.int .i64 la2) := cell_block g1 6
        have b7 : wr.cell? ⟨p + 1, 7, none⟩ = some (.int .i64 ti2) := cell_block g1 7
        clear hq0 hq1 g0 g1 hle
        go_wp2
        all_goals
          go_ret
          refine ⟨?_, HB.out⟩
          rw [HP.out]
          simp [sameN, *] <;> rfl
  · have hd : (((s1.length : Nat) : Int) != (s2.length : Int)) = true := by rw [bne_iff_ne]; omega
    have HP := hide (show sameQ ⟨k1, w1, ro1, ri1, t1, la1, ti1, s1⟩ ⟨k2, w2, ro2, ri2, t2, la2, ti2, s2⟩ = false by simp only [sameQ, Bool.and_eq_false_iff, decide_eq_false_iff_not]; exact .inl (by rintro rfl; exact hl rfl))
    have HL := hide hl
    clear hl
    go_enter Try.func31, Try.ntmps31
    go_wp2
    go_ret
    exact ⟨by rw [HP.out]; rfl, ((Below.refl _ _).alloc (Nat.le_refl _) _).alloc (by simp) _⟩
end Go.Proofs.Ytlfomilalkkbeaa
