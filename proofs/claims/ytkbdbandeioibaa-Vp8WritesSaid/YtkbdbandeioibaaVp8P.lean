/- vp8.Parse, vp8.Whole. -/
import Derived.Test.YtkbdbandeioibaaVp8T
import Derived.Laws.BitsAll
namespace Go.Proofs.Ytkbdbandeioibaa
open Go.RowKit
set_option linter.unusedVariables false

/-- vp8.Parse's answers -/
def vpE (b : List UInt8) : Int := (vpParse b).s.2
def vpD (b : List UInt8) : Dsc := if vpE b = 0 then (vpParse b).d else Dsc.zero
def vpN (b : List UInt8) : Int := if vpE b = 0 then (b.length : Int) - (vpParse b).s.1.length else 0
def vpV (b : List UInt8) : Value := .tuple #[(vpD b).val, .int .i64 (vpN b), .int .i64 (vpE b)]

theorem parseX_ret {w : World} {Q : Ending → World → Prop} {tmps : Array Value} {g2 : Nat} {cs : Array Value} {m e : Int} (h2 : tmps.getD 2 undef = .pointer (some ⟨g2, 0, none⟩))
    (h3 : tmps.getD 3 undef = .int .i64 m) (h4 : tmps.getD 4 undef = .int .i64 e)
    (hg2 : w.heap[g2]? = some (.cells cs 49 (0, 0))) (hs : cs.size = 14)
    (hQ : Q (.returned (.tuple #[.agg cs, .int .i64 m, .int .i64 e])) w) :
    bodyPost Try.prog Try.f26 Q .ret { tmps := tmps, defers := [] } w := by
  have r2 := run_loadVar_row (P := Try.prog) w g2 49 49 cs (0, 0) _ hg2 Try.underlying49 rfl (by rw [hs]; kernel_rfl)
  have h2' : tmps[2]?.getD undef = .pointer (some ⟨g2, 0, none⟩) := by simpa using h2
  have h3' : tmps[3]?.getD undef = .int .i64 m := by simpa using h3
  have h4' : tmps[4]?.getD undef = .int .i64 e := by simpa using h4
  refine bodyPost_ret (v := .tuple #[.agg cs, .int .i64 m, .int .i64 e]) ?_ rfl hQ
  simp [results, Try.results26, h2', h3', h4', asAddr, r2]

set_option maxRecDepth 100000 in
set_option maxHeartbeats 4000000 in
theorem parseX_any (A : Option Addr) (cap : Nat) (b : List UInt8) (w : World) (hr : RSl 1 RU8 w b (.slice A b.length cap)) (hn : b.length ≤ 2147483648) :
    Calls Try.prog 26 #[.slice A b.length cap] w (Gives w (vpV b)) := by
  obtain ⟨R, hR⟩ : ∃ R, R = vpV b := ⟨_, rfl⟩
  rw [← hR]
  have hl0 : Le w (w.alloc (.cells Dsc.zero.cs 49)) := (Le.refl w).alloc _
  have hz : (w.alloc (.cells Dsc.zero.cs 49)).heap[w.heap.size]? = _ := heap_alloc_new w _
  have hp := parse_any A cap b _ (hl0.rsl keeps_u8 hr) hn
  rw [vpV, vpD, vpN, vpE] at hR
  generalize vpParse b = r at *
  obtain ⟨⟨more, lone, start, part, hasPic, wide, pic, hasTl0, tl0, hasTid, tid, sync, hasKey, key⟩, pp, tp, s⟩ := r
  simp only [Rd8.val, Dsc.val, Dsc.zero, Dsc.cs, Int.ofNat_zero] at hp hR hl0 hz
  have HP := hide hp
  have HL0 := hide hl0
  have HZ := hide hz
  have HRR := hide hR
  clear hp hr hl0 hz hR
  go_enter Try.func26, Try.ntmps26
  go_wp2_with fail
  generalize hW0 : World.alloc w _ = W0 at *
  clear hW0
  refine HP.out.mono ?_
  rintro e w1 ⟨rfl, hb1⟩
  have hle := hide (HL0.out.trans ⟨hb1⟩)
  have hz1 := hide (heap_below hb1 HZ.out (lt_of_heap HZ.out))
  clear hb1 HP
  by_cases he : s.2 = 0
  · have HE := hide he
    rw [he]
    clear he
    go_wp2_with (refine wpl_store_blk rfl 49 (.tmp 2) (.tmp 20) rfl rfl rfl (by kernel_rfl) (by simp [Value.oneCell']) (heap_alloc (heap_alloc hz1.out)) rfl ?_; intro w2 h2 hg2)
    refine parseX_ret rfl rfl rfl h2 rfl ⟨?_, ?_⟩
    · rw [HRR.out]
      simp only [HE.out, if_true]
    · exact below_row ((hle.out.alloc _).alloc _).out hg2 (Nat.le_refl _) (le_alloc (le_alloc hle.out.size))
  · have HE := hide he
    have hne : (s.2 != 0) = true := by simpa using he
    clear he
    go_wp2_with (refine wpl_store_blk rfl 49 (.tmp 2) (.tmp 18) rfl rfl rfl (by kernel_rfl) (by simp [Value.oneCell']) (heap_alloc (heap_alloc hz1.out)) rfl ?_; intro w2 h2 hg2)
    refine parseX_ret rfl rfl rfl h2 rfl ⟨?_, ?_⟩
    · rw [HRR.out]
      simp only [HE.out, if_false]
      rfl
    · exact below_row ((hle.out.alloc _).alloc _).out hg2 (Nat.le_refl _) (le_alloc (le_alloc hle.out.size))

theorem vpE_two (b : List UInt8) : vpE b = 0 ∨ vpE b = 10 := by
  have h2 : ∀ l : List UInt8, ∀ e : Int, (e = 0 ∨ e = 10) → (tk (l, e)).2 = 0 ∨ (tk (l, e)).2 = 10 := by
    intro l e h
    rcases h with rfl | rfl
    · cases l with
      | nil => rw [tk_nil]; exact .inr rfl
      | cons x t => rw [tk_cons]; exact .inl rfl
    · rw [tk_bad]; exact .inr rfl
  have h3 : ∀ s : List UInt8 × Int, (s.2 = 0 ∨ s.2 = 10) → (tk s).2 = 0 ∨ (tk s).2 = 10 := fun s h => h2 s.1 s.2 h
  have h0 : (rd1 b).s.2 = 0 ∨ (rd1 b).s.2 = 10 := h3 _ (h3 _ (.inl rfl))
  have h1 : ∀ r : Rd8, (r.s.2 = 0 ∨ r.s.2 = 10) → (r.one b.length).s.2 = 0 ∨ (r.one b.length).s.2 = 10 := by
    intro r h
    unfold Rd8.one firstS
    repeat' split
    · exact h3 _ (h3 _ h)
    · exact h3 _ h
    · exact h
  have h5 : ∀ r : Rd8, (r.s.2 = 0 ∨ r.s.2 = 10) → (r.two b.length).s.2 = 0 ∨ (r.two b.length).s.2 = 10 := by
    intro r h
    unfold Rd8.two
    split
    · exact h3 _ h
    · exact h
  have h6 : ∀ r : Rd8, (r.s.2 = 0 ∨ r.s.2 = 10) → r.three.s.2 = 0 ∨ r.three.s.2 = 10 := by
    intro r h
    unfold Rd8.three
    split
    · exact h3 _ h
    · exact h
  unfold vpE vpParse
  split
  · exact h6 _ (h5 _ (h1 _ h0))
  · exact h3 _ (.inl rfl)
theorem vpN_range (b : List UInt8) : 0 ≤ vpN b ∧ vpN b ≤ b.length := by
  have h := tk_len (b, 0)
  have h2 := tk_len (tk (b, 0))
  have h3 := one_len b.length (rd1 b)
  have h4 := two_len b.length ((rd1 b).one b.length)
  have h5 := three_len (((rd1 b).one b.length).two b.length)
  have e : (rd1 b).s.1.length ≤ b.length := Nat.le_trans h2 h
  have e2 : (vpParse b).s.1.length ≤ b.length := by
    unfold vpParse
    split
    · omega
    · exact h
  unfold vpN
  split <;> omega
/-- vp8.Whole's answer -/
def vpW (b : List UInt8) : Bool := decide (vpE b = 0) && ((vpD b).begins && (decide (vpN b < b.length) && decide ((b[(vpN b).toNat]?.map (·.toNat % 2)) = some 0)))

set_option maxRecDepth 100000 in
set_option maxHeartbeats 4000000 in
theorem whole_any (A : Option Addr) (cap : Nat) (b : List UInt8) (w : World) (hr : RSl 1 RU8 w b (.slice A b.length cap)) (hn : b.length ≤ 2147483648) (hd : (vpD b).part < 256) :
    Calls Try.prog 30 #[.slice A b.length cap] w (Gives w (.bool (vpW b))) := by
  have hp := parseX_any A cap b w hr hn
  have HR := hide hr
  obtain ⟨A', cap', hv, hcap, hi⟩ := hr
  injection hv with e1 e2 e3
  subst e1 e3
  clear e2
  have HI := hide hi
  clear hi
  obtain ⟨hn0, hn1⟩ := vpN_range b
  have hee := vpE_two b
  obtain ⟨R, hR⟩ : ∃ R, R = vpW b := ⟨_, rfl⟩
  rw [← hR]
  rw [vpW] at hR
  rw [vpV] at hp
  generalize vpE b = E at *
  generalize vpN b = N at *
  have hbg := fun w => begins_any (vpD b) hd w
  generalize vpD b = d at *
  generalize hbb : d.begins = bg at *
  obtain ⟨more, lone, start, part, hasPic, wide, pic, hasTl0, tl0, hasTid, tid, sync, hasKey, key⟩ := d
  simp only [Dsc.val] at hp hbg
  have HRR := hide hR
  have HP := hide hp
  have HBG := hide hbg
  clear hp hR hbg hbb hd
  obtain ⟨k, rfl⟩ := Int.eq_ofNat_of_zero_le hn0
  go_enter Try.func30, Try.ntmps30
  go_wp2_with fail
  refine HP.out.mono ?_
  rintro e w1 ⟨rfl, hb1⟩
  have HL := hide (Le.mk hb1)
  clear hb1 HP
  rcases hee with rfl | rfl
  · go_wp2_with fail
    refine (HBG.out _).mono ?_
    rintro e w2 ⟨rfl, hb2⟩
    have HL2 := hide ((HL.out.alloc _).trans (Le.mk hb2))
    clear hb2 HBG
    cases bg
    · go_wp2_with fail
      go_ret
      refine ⟨?_, HL2.out.out⟩
      rw [HRR.out]
      rfl
    · by_cases hk : k < b.length
      · obtain ⟨g, off, rfl, hi⟩ := HI.out (by rintro rfl; simp at hk)
        obtain ⟨cs, _, hc, hR⟩ := hi k hk
        have c0 := hc 0 (by omega)
        rw [show cs = [.int .u8 b[k].toNat] from hR] at c0
        simp only [Nat.mul_one, Nat.add_zero, List.getElem?_cons_zero] at c0
        have c2 := HL2.out.cell c0
        have hb := b[k].toNat_lt
        have HRR2 := hide (show R = decide (b[k].toNat % 2 = 0) by
          rw [HRR.out]
          simp [hk])
        clear HRR hc hR hi c0
        generalize b[k].toNat = x at *
        have hx1 : bits .and .u8 (x : Int) 1 = ((x % 2 : Nat) : Int) := by
          have := u8_and_nat x 1 (by omega) (by omega)
          rw [show x &&& 1 = x % 2 from Nat.and_one_is_mod x] at this
          exact this
        by_cases hpar : x % 2 = 0
        · have hp0 : (((x % 2 : Nat) : Int) == 0) = true := by rw [beq_iff_eq]; omega
          rw [← hx1] at hp0
          have HPR := hide hpar
          clear hpar hx1
          go_wp2_with fail
          go_ret
          refine ⟨?_, HL2.out.out⟩
          rw [HRR2.out, HPR.out]
          rfl
        · have hp0 : (((x % 2 : Nat) : Int) == 0) = false := by rw [beq_eq_false_iff_ne]; omega
          rw [← hx1] at hp0
          have HPR := hide hpar
          clear hpar hx1
          go_wp2_with fail
          go_ret
          refine ⟨?_, HL2.out.out⟩
          rw [HRR2.out]
          simp [HPR.out]
      · have hk2 : ¬ (k : Int) < (b.length : Int) := by omega
        have HK := hide hk
        clear hk
        go_wp2_with fail
        go_ret
        refine ⟨?_, HL2.out.out⟩
        rw [HRR.out]
        simp [HK.out]
  · go_wp2_with fail
    go_ret
    refine ⟨?_, (HL.out.alloc _).out⟩
    rw [HRR.out]
    rfl
end Go.Proofs.Ytkbdbandeioibaa
