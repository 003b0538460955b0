/- Vp8Back: the law's walk. -/
import Derived.Test.YtkbdbandeioibaaVp8G
import Derived.Test.YtkbdbandeioibaaVp8Ignores
namespace Go.Proofs.Ytkbdbandeioibaa
open Go.RowKit
set_option linter.unusedVariables false

/-- the first bytes of a row -/
theorem own_take {w : World} {base g n cap k : Nat} {l : List UInt8} (h : w.ownsRow base 5 1 (.slice (some ⟨g, 0, none⟩) n cap) n (u8s l)) (hn : n = l.length) (hk : k ≤ n) : RSl 1 RU8 w (l.take k) (.slice (some ⟨g, 0, none⟩) k cap) := by
  obtain ⟨m, rfl⟩ : ∃ m, n = k + m := ⟨n - k, by omega⟩
  have e : u8s l = u8s (l.take k) ++ u8s (l.drop k) := by rw [← u8s_append, List.take_append_drop]
  rw [e] at h
  have h2 := own_prefix h (by simp [u8s]; omega)
  exact rsl_of_own h2

set_option maxRecDepth 100000 in
set_option maxHeartbeats 4000000 in
theorem vp8Back_walk (w : World) (d : Dsc) (hd : d.Ok) (l : List UInt8) (A : Option Addr) (n cap : Nat) (hr : RSl 1 RU8 w l (.slice A n cap)) (x : Nat) (hx : x < 256) :
    Calls Try.prog 11 #[d.val, .slice A n cap, .int .u8 x] w (Gives w (.bool true)) := by
  have HR := hide hr
  obtain ⟨A', cap', hv, hcap, _⟩ := hr
  injection hv with e1 e2 e3
  subst e1 e2 e3
  have hput := fun w => put_any8 d w hd
  have hgood : d.right = true → vpB d = puts d.ps4 ∧ vpF d = 0 ∧ 0 < (puts d.ps4).length ∧ (puts d.ps4).length ≤ 40 := by
    intro h
    refine ⟨by rw [vpB, h]; rfl, by rw [vpF, h]; rfl, ?_, ?_⟩
    · rw [ps4_len d h]; unfold szN; repeat' split
      all_goals simp only
      all_goals repeat' split
      all_goals omega
    · rw [ps4_len d h]; unfold szN; repeat' split
      all_goals simp only
      all_goals repeat' split
      all_goals omega
  have hbad : d.right = false → vpB d = [] ∧ vpF d = 1 := by
    intro h
    exact ⟨by rw [vpB, h]; rfl, by rw [vpF, h]; rfl⟩
  have hpp := put_parse d
  have hps := put_short d
  have HD := hide hd
  have HPP := hide (fun h => hpp h hd)
  have HPS := hide (fun h => hps h hd)
  have HGB := hide (And.intro hgood hbad)
  have HPUT := hide hput
  clear hput hgood hbad hpp hps hd
  have hcs : d.right = true ∨ d.right = false := by cases d.right <;> simp
  generalize hL : puts d.ps4 = L at *
  clear hL
  have HDV := hide (rfl : d = d)
  obtain ⟨R, hR⟩ : ∃ R, R = d.right := ⟨_, rfl⟩
  rw [← hR] at hcs HPP HPS HGB
  clear hR
  generalize vpB d = B at *
  generalize vpF d = E at *
  have hpD : ∀ b, (∃ pp tp s, vpParse b = ⟨d, pp, tp, s⟩ ∧ s.2 = 0) → vpD b = d ∧ vpE b = 0 := by
    rintro b ⟨pp, tp, s, h1, h2⟩
    exact ⟨by rw [vpD, vpE, h1, h2]; rfl, by rw [vpE, h1]; exact h2⟩
  obtain ⟨more, lone, start, part, hasPic, wide, pic, hasTl0, tl0, hasTid, tid, sync, hasKey, key⟩ := d
  rw [Dsc.val] at HPUT ⊢
  simp only at HPUT ⊢
  have HPD := hide hpD
  clear hpD HD HDV
  have hy := heap_alloc_new w (.cells (#[.bool more, .bool lone, .bool start, .int .u8 part, .bool hasPic, .bool wide, .int .u16 pic, .bool hasTl0, .int .u8 tl0, .bool hasTid, .int .u8 tid, .bool sync, .bool hasKey, .int .u8 key] : Array Value) 49)
  have HLW := hide ((Le.refl w).alloc (.cells (#[.bool more, .bool lone, .bool start, .int .u8 part, .bool hasPic, .bool wide, .int .u16 pic, .bool hasTl0, .int .u8 tl0, .bool hasTid, .int .u8 tid, .bool sync, .bool hasKey, .int .u8 key] : Array Value) 49))
  have HY0 := hide (box_cell hy 0 (.bool more) rfl)
  have HY1 := hide (box_cell hy 1 (.bool lone) rfl)
  have HY2 := hide (box_cell hy 2 (.bool start) rfl)
  have HY3 := hide (box_cell hy 3 (.int .u8 part) rfl)
  have HY4 := hide (box_cell hy 4 (.bool hasPic) rfl)
  have HY5 := hide (box_cell hy 5 (.bool wide) rfl)
  have HY6 := hide (box_cell hy 6 (.int .u16 pic) rfl)
  have HY7 := hide (box_cell hy 7 (.bool hasTl0) rfl)
  have HY8 := hide (box_cell hy 8 (.int .u8 tl0) rfl)
  have HY9 := hide (box_cell hy 9 (.bool hasTid) rfl)
  have HY10 := hide (box_cell hy 10 (.int .u8 tid) rfl)
  have HY11 := hide (box_cell hy 11 (.bool sync) rfl)
  have HY12 := hide (box_cell hy 12 (.bool hasKey) rfl)
  have HY13 := hide (box_cell hy 13 (.int .u8 key) rfl)
  clear hy
  go_enter Try.func11, Try.ntmps11
  go_wp2_with fail
  generalize w.alloc (.cells (#[.bool more, .bool lone, .bool start, .int .u8 part, .bool hasPic, .bool wide, .int .u16 pic, .bool hasTl0, .int .u8 tl0, .bool hasTid, .int .u8 tid, .bool sync, .bool hasKey, .int .u8 key] : Array Value) 49) = W at *
  generalize w.heap.size = p at *
  refine (awake07 _).mono ?_
  rintro r w1 ⟨rfl, hb1⟩
  have hl1 : Le W w1 := ⟨hb1⟩
  clear hb1
  by_cases hbig : 100 < l.length
  · go_wp2_with fail
    go_ret
    exact ⟨rfl, (HLW.out.trans hl1).out⟩
  have hnb : ¬ (100 : Int) < (l.length : Int) := by omega
  have c0 := HY0.out w1 hl1
  have c1 := HY1.out w1 hl1
  have c2 := HY2.out w1 hl1
  have c3 := HY3.out w1 hl1
  have c4 := HY4.out w1 hl1
  have c5 := HY5.out w1 hl1
  have c6 := HY6.out w1 hl1
  have c7 := HY7.out w1 hl1
  have c8 := HY8.out w1 hl1
  have c9 := HY9.out w1 hl1
  have c10 := HY10.out w1 hl1
  have c11 := HY11.out w1 hl1
  have c12 := HY12.out w1 hl1
  have c13 := HY13.out w1 hl1
  go_wp2_with fail
  refine (HPUT.out _).mono ?_
  rintro r w2 ⟨v2, rfl, ho2, hb2⟩
  have hl2 : Le W w2 := hl1.trans ⟨hb2⟩
  have HO2 := hide (own_base ho2 hl1.size)
  obtain ⟨A2, cap2, rfl, hcap2, _⟩ := own_slice ho2
  clear hb2 ho2 hl1 c0 c1 c2 c3 c4 c5 c6 c7 c8 c9 c10 c11 c12 c13 HPUT
  rcases hcs with rfl | rfl
  · obtain ⟨rfl, rfl, hpos, h40⟩ := HGB.out.1 rfl
    have hk : x % B.length < B.length := Nat.mod_lt _ hpos
    have hmod : ((x : Int)).tmod (B.length : Int) = ((x % B.length : Nat) : Int) := rfl
    have hwx : IntKind.i64.wrap (x : Int) = x := IntWalk.i64_in _ (by omega)
    generalize x % B.length = k at *
    have hwk : IntKind.i64.wrap (k : Int) = k := IntWalk.i64_in _ (by omega)
    obtain ⟨g, rfl⟩ : ∃ g, A2 = some ⟨g, 0, none⟩ := by
      rcases HO2.out.2 with ⟨hv, h0⟩ | ⟨g, c', cur, hv, _⟩
      · omega
      · injection hv with e1 e2 e3
        exact ⟨g, e1⟩
    have hne : ((B.length : Int) == 0) = false := by rw [beq_eq_false_iff_ne]; omega
    have hne2 : ¬ B.length = 0 := by omega
    have hkI : (k : Int) ≤ (B.length : Int) := by omega
    have hkl : (B.take k).length = k := by simp; omega
    have HTK := hide (own_take HO2.out rfl (Nat.le_of_lt hk))
    have HSH := hide (HPS.out rfl k hk)
    go_wp2_with fail
    have hz : vpV (B.take k) = .tuple #[Dsc.zero.val, .int .i64 0, .int .i64 10] := by
      rw [vpV, vpD, vpN, HSH.out]
      rfl
    have hpk := parseX_any (some ⟨g, 0, none⟩) cap2 (B.take k) w2 (by rw [hkl]; exact HTK.out) (by omega)
    rw [hkl, hz] at hpk
    refine hpk.mono ?_
    rintro r w3 ⟨rfl, hb3⟩
    have hl23 := Le.mk hb3
    clear hpk hz hb3 hkl
    simp only [Dsc.zero, Dsc.val]
    have HL3 := hide ((hl2.trans hl23).alloc (.cells #[.bool false, .bool false, .bool false, .int .u8 0, .bool false, .bool false, .int .u16 0, .bool false, .int .u8 0, .bool false, .int .u8 0, .bool false, .bool false, .int .u8 0] 49))
    have HO3 := hide ((hl23.alloc (.cells #[.bool false, .bool false, .bool false, .int .u8 0, .bool false, .bool false, .int .u16 0, .bool false, .int .u8 0, .bool false, .int .u8 0, .bool false, .bool false, .int .u8 0] 49)).own HO2.out)
    have HCL := hide (cells_of_rsl ((HLW.out.trans HL3.out).rsl keeps_u8 HR.out))
    go_wp2_with (at_builtin; go_must (refine wpl_app rfl sl8 (.tmp 50) (.tmp 51) rfl HO3.out rfl rfl HCL.out (by simp [u8s]) u8s_one (by omega) (by omega) HL3.out.size ?_); intro v5 w5 ho5 hg5 hat5; obtain ⟨A5, cap5, rfl, _, _⟩ := own_slice ho5; have HL5 := hide (Le.mk (below_grown HL3.out.out HO3.out hg5 (Nat.le_refl _) HL3.out.size)); rw [← u8s_append] at ho5; have HR5 := hide (rsl_of_own ho5); clear ho5 hg5 hat5)
    obtain ⟨pp, tp, hpa⟩ := HPP.out trivial l
    have hll : (B ++ l).length = B.length + l.length := List.length_append
    have hd5 := HPD.out (B ++ l) ⟨pp, tp, (l, 0), hpa, rfl⟩
    have hn5 : vpN (B ++ l) = (B.length : Int) := by
      rw [vpN, hd5.2, hpa, hll]
      simp only [if_true]
      omega
    have hp5 := parseX_any A5 cap5 (B ++ l) w5 (by rw [hll]; exact HR5.out) (by omega)
    rw [vpV, hd5.1, hd5.2, hn5, hll] at hp5
    simp only [Dsc.val] at hp5
    refine hp5.mono ?_
    rintro r w6 ⟨rfl, hb6⟩
    have hl6 := (HL5.out.trans (Le.mk hb6)).alloc (.cells (#[.bool more, .bool lone, .bool start, .int .u8 part, .bool hasPic, .bool wide, .int .u16 pic, .bool hasTl0, .int .u8 tl0, .bool hasTid, .int .u8 tid, .bool sync, .bool hasKey, .int .u8 key] : Array Value) 49)
    clear hp5 hpa hd5 hn5 hb6
    have c0 := HY0.out _ hl6
    have c1 := HY1.out _ hl6
    have c2 := HY2.out _ hl6
    have c3 := HY3.out _ hl6
    have c4 := HY4.out _ hl6
    have c5 := HY5.out _ hl6
    have c6 := HY6.out _ hl6
    have c7 := HY7.out _ hl6
    have c8 := HY8.out _ hl6
    have c9 := HY9.out _ hl6
    have c10 := HY10.out _ hl6
    have c11 := HY11.out _ hl6
    have c12 := HY12.out _ hl6
    have c13 := HY13.out _ hl6
    have heq1 := fun W => desc_eq_self more lone start part hasPic wide pic hasTl0 tl0 hasTid tid sync hasKey key W
    have heq2 := fun W => desc_eql_self more lone start part hasPic wide pic hasTl0 tl0 hasTid tid sync hasKey key W
    have hgu := desc_guard
    have hself : ((B.length : Int) == (B.length : Int)) = true := by simp
    have HLF := hide (HLW.out.trans hl6)
    clear hl6
    go_wp2_with fail
    go_ret
    exact ⟨rfl, HLF.out.out⟩
  · obtain ⟨rfl, rfl⟩ := HGB.out.2 rfl
    go_wp2_with fail
    go_ret
    exact ⟨rfl, (HLW.out.trans hl2).out⟩
end Go.Proofs.Ytkbdbandeioibaa
