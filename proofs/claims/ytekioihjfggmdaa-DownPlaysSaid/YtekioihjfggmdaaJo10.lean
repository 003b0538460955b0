/- Texts of one claim, laid together: Vp8P Vp8F Vp8X -/
import Derived.Laws.BitsAll
import Derived.Test.YtekioihjfggmdaaJo09
/- vp8.Parse, vp8.Whole. -/
namespace Go.Proofs.Ytekioihjfggmdaa
open Go.RowKit
set_option linter.unusedVariables false

/-- vp8.Parse's answers -/
def vpE (b : List UInt8) : Int := (vpParse b).s.2
def vpD (b : List UInt8) : Dsc := if vpE b = 0 then (vpParse b).d else Dsc.zero
def vpN (b : List UInt8) : Int := if vpE b = 0 then (b.length : Int) - (vpParse b).s.1.length else 0
def vpV (b : List UInt8) : Value := .tuple #[(vpD b).val, .int .i64 (vpN b), .int .i64 (vpE b)]

theorem parseX_ret {w : World} {Q : Ending → World → Prop} {tmps : Array Value} {g2 : Nat} {cs : Array Value} {m e : Int} (h2 : tmps.getD 2 undef = .pointer (some ⟨g2, 0, none⟩))
    (h3 : tmps.getD 3 undef = .int .i64 m) (h4 : tmps.getD 4 undef = .int .i64 e)
    (hg2 : w.heap[g2]? = some (.cells cs 74 (0, 0))) (hs : cs.size = 14)
    (hQ : Q (.returned (.tuple #[.agg cs, .int .i64 m, .int .i64 e])) w) :
    bodyPost Try.prog Try.f21 Q .ret { tmps := tmps, defers := [] } w := by
  have r2 := run_loadVar_row (P := Try.prog) w g2 74 74 cs (0, 0) _ hg2 Try.underlying74 rfl (by rw [hs]; kernel_rfl)
  have h2' : tmps[2]?.getD undef = .pointer (some ⟨g2, 0, none⟩) := by simpa using h2
  have h3' : tmps[3]?.getD undef = .int .i64 m := by simpa using h3
  have h4' : tmps[4]?.getD undef = .int .i64 e := by simpa using h4
  refine bodyPost_ret (v := .tuple #[.agg cs, .int .i64 m, .int .i64 e]) ?_ rfl hQ
  simp [results, Try.results21, h2', h3', h4', asAddr, r2]

set_option maxRecDepth 100000 in
set_option maxHeartbeats 4000000 in
theorem parseX_any (A : Option Addr) (cap : Nat) (b : List UInt8) (w : World) (hr : RSl 1 RU8 w b (.slice A b.length cap)) (hn : b.length ≤ 2147483648) :
    Calls Try.prog 21 #[.slice A b.length cap] w (Gives w (vpV b)) := by
  obtain ⟨R, hR⟩ : ∃ R, R = vpV b := ⟨_, rfl⟩
  rw [← hR]
  have hl0 : Le w (w.alloc (.cells Dsc.zero.cs 74)) := (Le.refl w).alloc _
  have hz : (w.alloc (.cells Dsc.zero.cs 74)).heap[w.heap.size]? = _ := heap_alloc_new w _
  have hp := parse_any A cap b _ (hl0.rsl keeps_u8 hr) hn
  rw [vpV, vpD, vpN, vpE] at hR
  generalize vpParse b = r at *
  obtain ⟨⟨more, lone, start, part, hasPic, wide, pic, hasTl0, tl0, hasTid, tid, sync, hasKey, key⟩, pp, tp, s⟩ := r
  simp only [Rd8.val, Dsc.val, Dsc.zero, Dsc.cs, Int.ofNat_zero] at hp hR hl0 hz
  have HP := hide hp
  have HL0 := hide hl0
  have HZ := hide hz
  have HRR := hide hR
  clear hp hr hl0 hz hR
  go_enter Try.func21, Try.ntmps21
  go_wp2_with fail
  generalize hW0 : World.alloc w _ = W0 at *
  clear hW0
  refine HP.out.mono ?_
  rintro e w1 ⟨rfl, hb1⟩
  have hle := hide (HL0.out.trans ⟨hb1⟩)
  have hz1 := hide (heap_below hb1 HZ.out (lt_of_heap HZ.out))
  clear hb1 HP
  by_cases he : s.2 = 0
  · have HE := hide he
    rw [he]
    clear he
    go_wp2_with (refine wpl_store_blk rfl 74 (.tmp 2) (.tmp 20) rfl rfl rfl (by kernel_rfl) (by simp [Value.oneCell']) (heap_alloc (heap_alloc hz1.out)) rfl ?_; intro w2 h2 hg2)
    refine parseX_ret rfl rfl rfl h2 rfl ⟨?_, ?_⟩
    · rw [HRR.out]
      simp only [HE.out, if_true]
    · exact below_row ((hle.out.alloc _).alloc _).out hg2 (Nat.le_refl _) (le_alloc (le_alloc hle.out.size))
  · have HE := hide he
    have hne : (s.2 != 0) = true := by simpa using he
    clear he
    go_wp2_with (refine wpl_store_blk rfl 74 (.tmp 2) (.tmp 18) rfl rfl rfl (by kernel_rfl) (by simp [Value.oneCell']) (heap_alloc (heap_alloc hz1.out)) rfl ?_; intro w2 h2 hg2)
    refine parseX_ret rfl rfl rfl h2 rfl ⟨?_, ?_⟩
    · rw [HRR.out]
      simp only [HE.out, if_false]
      rfl
    · exact below_row ((hle.out.alloc _).alloc _).out hg2 (Nat.le_refl _) (le_alloc (le_alloc hle.out.size))

theorem vpE_two (b : List UInt8) : vpE b = 0 ∨ vpE b = 10 := by
  have h2 : ∀ l : List UInt8, ∀ e : Int, (e = 0 ∨ e = 10) → (tk (l, e)).2 = 0 ∨ (tk (l, e)).2 = 10 := by
    intro l e h
    rcases h with rfl | rfl
    · cases l with
      | nil => rw [tk_nil]; exact .inr rfl
      | cons x t => rw [tk_cons]; exact .inl rfl
    · rw [tk_bad]; exact .inr rfl
  have h3 : ∀ s : List UInt8 × Int, (s.2 = 0 ∨ s.2 = 10) → (tk s).2 = 0 ∨ (tk s).2 = 10 := fun s h => h2 s.1 s.2 h
  have h0 : (rd1 b).s.2 = 0 ∨ (rd1 b).s.2 = 10 := h3 _ (h3 _ (.inl rfl))
  have h1 : ∀ r : Rd8, (r.s.2 = 0 ∨ r.s.2 = 10) → (r.one b.length).s.2 = 0 ∨ (r.one b.length).s.2 = 10 := by
    intro r h
    unfold Rd8.one firstS
    repeat' split
    · exact h3 _ (h3 _ h)
    · exact h3 _ h
    · exact h
  have h5 : ∀ r : Rd8, (r.s.2 = 0 ∨ r.s.2 = 10) → (r.two b.length).s.2 = 0 ∨ (r.two b.length).s.2 = 10 := by
    intro r h
    unfold Rd8.two
    split
    · exact h3 _ h
    · exact h
  have h6 : ∀ r : Rd8, (r.s.2 = 0 ∨ r.s.2 = 10) → r.three.s.2 = 0 ∨ r.three.s.2 = 10 := by
    intro r h
    unfold Rd8.three
    split
    · exact h3 _ h
    · exact h
  unfold vpE vpParse
  split
  · exact h6 _ (h5 _ (h1 _ h0))
  · exact h3 _ (.inl rfl)
theorem vpN_range (b : List UInt8) : 0 ≤ vpN b ∧ vpN b ≤ b.length := by
  have h := tk_len (b, 0)
  have h2 := tk_len (tk (b, 0))
  have h3 := one_len b.length (rd1 b)
  have h4 := two_len b.length ((rd1 b).one b.length)
  have h5 := three_len (((rd1 b).one b.length).two b.length)
  have e : (rd1 b).s.1.length ≤ b.length := Nat.le_trans h2 h
  have e2 : (vpParse b).s.1.length ≤ b.length := by
    unfold vpParse
    split
    · omega
    · exact h
  unfold vpN
  split <;> omega
/-- vp8.Whole's answer -/
def vpW (b : List UInt8) : Bool := decide (vpE b = 0) && ((vpD b).begins && (decide (vpN b < b.length) && decide ((b[(vpN b).toNat]?.map (·.toNat % 2)) = some 0)))

set_option maxRecDepth 100000 in
set_option maxHeartbeats 4000000 in
theorem whole_any (A : Option Addr) (cap : Nat) (b : List UInt8) (w : World) (hr : RSl 1 RU8 w b (.slice A b.length cap)) (hn : b.length ≤ 2147483648) (hd : (vpD b).part < 256) :
    Calls Try.prog 24 #[.slice A b.length cap] w (Gives w (.bool (vpW b))) := by
  have hp := parseX_any A cap b w hr hn
  have HR := hide hr
  obtain ⟨A', cap', hv, hcap, hi⟩ := hr
  injection hv with e1 e2 e3
  subst e1 e3
  clear e2
  have HI := hide hi
  clear hi
  obtain ⟨hn0, hn1⟩ := vpN_range b
  have hee := vpE_two b
  obtain ⟨R, hR⟩ : ∃ R, R = vpW b := ⟨_, rfl⟩
  rw [← hR]
  rw [vpW] at hR
  rw [vpV] at hp
  generalize vpE b = E at *
  generalize vpN b = N at *
  have hbg := fun w => begins_any (vpD b) hd w
  generalize vpD b = d at *
  generalize hbb : d.begins = bg at *
  obtain ⟨more, lone, start, part, hasPic, wide, pic, hasTl0, tl0, hasTid, tid, sync, hasKey, key⟩ := d
  simp only [Dsc.val] at hp hbg
  have HRR := hide hR
  have HP := hide hp
  have HBG := hide hbg
  clear hp hR hbg hbb hd
  obtain ⟨k, rfl⟩ := Int.eq_ofNat_of_zero_le hn0
  go_enter Try.func24, Try.ntmps24
  go_wp2_with fail
  refine HP.out.mono ?_
  rintro e w1 ⟨rfl, hb1⟩
  have HL := hide (Le.mk hb1)
  clear hb1 HP
  rcases hee with rfl | rfl
  · go_wp2_with fail
    refine (HBG.out _).mono ?_
    rintro e w2 ⟨rfl, hb2⟩
    have HL2 := hide ((HL.out.alloc _).trans (Le.mk hb2))
    clear hb2 HBG
    cases bg
    · go_wp2_with fail
      go_ret
      refine ⟨?_, HL2.out.out⟩
      rw [HRR.out]
      rfl
    · by_cases hk : k < b.length
      · obtain ⟨g, off, rfl, hi⟩ := HI.out (by rintro rfl; simp at hk)
        obtain ⟨cs, _, hc, hR⟩ := hi k hk
        have c0 := hc 0 (by omega)
        rw [show cs = [.int .u8 b[k].toNat] from hR] at c0
        simp only [Nat.mul_one, Nat.add_zero, List.getElem?_cons_zero] at c0
        have c2 := HL2.out.cell c0
        have hb := b[k].toNat_lt
        have HRR2 := hide (show R = decide (b[k].toNat % 2 = 0) by
          rw [HRR.out]
          simp [hk])
        clear HRR hc hR hi c0
        generalize b[k].toNat = x at *
        have hx1 : bits .and .u8 (x : Int) 1 = ((x % 2 : Nat) : Int) := by
          have := u8_and_nat x 1 (by omega) (by omega)
          rw [show x &&& 1 = x % 2 from Nat.and_one_is_mod x] at this
          exact this
        by_cases hpar : x % 2 = 0
        · have hp0 : (((x % 2 : Nat) : Int) == 0) = true := by rw [beq_iff_eq]; omega
          rw [← hx1] at hp0
          have HPR := hide hpar
          clear hpar hx1
          go_wp2_with fail
          go_ret
          refine ⟨?_, HL2.out.out⟩
          rw [HRR2.out, HPR.out]
          rfl
        · have hp0 : (((x % 2 : Nat) : Int) == 0) = false := by rw [beq_eq_false_iff_ne]; omega
          rw [← hx1] at hp0
          have HPR := hide hpar
          clear hpar hx1
          go_wp2_with fail
          go_ret
          refine ⟨?_, HL2.out.out⟩
          rw [HRR2.out]
          simp [HPR.out]
      · have hk2 : ¬ (k : Int) < (b.length : Int) := by omega
        have HK := hide hk
        clear hk
        go_wp2_with fail
        go_ret
        refine ⟨?_, HL2.out.out⟩
        rw [HRR.out]
        simp [HK.out]
  · go_wp2_with fail
    go_ret
    refine ⟨?_, (HL.out.alloc _).out⟩
    rw [HRR.out]
    rfl
end Go.Proofs.Ytekioihjfggmdaa

/- What vp8.Parse reads, in plain lists. -/
namespace Go.Proofs.Ytekioihjfggmdaa
open Go.RowKit
set_option linter.unusedVariables false

theorem tk_keep (l : List UInt8) (e : Int) (h : e ≠ 0) : tk (l, e) = (l, e) := by simp [tk, cut, h]
theorem tk_stays (s : List UInt8 × Int) (h : s.2 ≠ 0) : (tk s).2 ≠ 0 := by
  obtain ⟨l, e⟩ := s
  rw [tk_keep l e h]
  exact h
theorem one_stays (n : Nat) (r : Rd8) (h : r.s.2 ≠ 0) : (r.one n).s.2 ≠ 0 := by
  unfold Rd8.one firstS
  split
  · split
    · exact tk_stays _ (tk_stays _ h)
    · exact tk_stays _ h
  · exact h
theorem two_stays (n : Nat) (r : Rd8) (h : r.s.2 ≠ 0) : (r.two n).s.2 ≠ 0 := by
  unfold Rd8.two
  split
  · exact tk_stays _ h
  · exact h
theorem three_stays (r : Rd8) (h : r.s.2 ≠ 0) : r.three.s.2 ≠ 0 := by
  unfold Rd8.three
  split
  · exact tk_stays _ h
  · exact h

/-- the bytes of a picture's number, of a layer, of the rest -/
def OkP (p : Bool) (P : List UInt8) : Prop := (p = false ∧ P = []) ∨ (p = true ∧ ∃ y, P = [y] ∧ bt y.toNat 128 = false) ∨ (p = true ∧ ∃ y z, P = [y, z] ∧ bt y.toNat 128 = true)
def Ok1 (p : Bool) (P : List UInt8) : Prop := (p = false ∧ P = []) ∨ (p = true ∧ ∃ y, P = [y])
def setP (d : Dsc) : List UInt8 → Dsc
  | [y] => { d with wide := false, pic := y.toNat }
  | [y, z] => { d with wide := true, pic := (y.toNat % 128) * 256 + z.toNat }
  | _ => d
def setT (d : Dsc) : List UInt8 → Dsc
  | [t] => d.second t.toNat
  | _ => d
def setK (d : Dsc) : List UInt8 → Dsc
  | [k] => d.third k.toNat
  | _ => d
def place (i : Int) (P : List UInt8) (x : Int) : Int := if P = [] then x else i

theorem one_form (n : Nat) (r : Rd8) (P l : List UInt8) (hs : r.s = (P ++ l, 0)) (h : OkP r.d.hasPic P) : r.one n = ⟨setP r.d P, place ((n : Int) - r.s.1.length) P r.pp, r.tp, (l, 0)⟩ := by
  obtain ⟨d, pp, tp, s⟩ := r
  simp only at hs h
  subst hs
  rcases h with ⟨hp, rfl⟩ | ⟨hp, y, rfl, hy⟩ | ⟨hp, y, z, rfl, hy⟩
  · simp [Rd8.one, hp, setP, place]
  · simp [Rd8.one, hp, setP, place, firstS, Dsc.first, by1_cons, tk_cons, hy]
  · simp [Rd8.one, hp, setP, place, firstS, Dsc.first, by1_cons, tk_cons, hy]
theorem two_form (n : Nat) (r : Rd8) (P l : List UInt8) (hs : r.s = (P ++ l, 0)) (h : Ok1 r.d.hasTl0 P) : r.two n = ⟨setT r.d P, r.pp, place ((n : Int) - r.s.1.length) P r.tp, (l, 0)⟩ := by
  obtain ⟨d, pp, tp, s⟩ := r
  simp only at hs h
  subst hs
  rcases h with ⟨hp, rfl⟩ | ⟨hp, y, rfl⟩
  · simp [Rd8.two, hp, setT, place]
  · simp [Rd8.two, hp, setT, place, by1_cons, tk_cons]
theorem three_form (r : Rd8) (P l : List UInt8) (hs : r.s = (P ++ l, 0)) (h : Ok1 (r.d.hasTid || r.d.hasKey) P) : r.three = ⟨setK r.d P, r.pp, r.tp, (l, 0)⟩ := by
  obtain ⟨d, pp, tp, s⟩ := r
  simp only at hs h
  subst hs
  rcases h with ⟨hp, rfl⟩ | ⟨hp, y, rfl⟩
  · simp only [Rd8.three, hp, setK]
    simp
  · simp [Rd8.three, hp, setK, by1_cons, tk_cons]
theorem one_split (n : Nat) (r : Rd8) (l : List UInt8) (hs : r.s = (l, 0)) (h : (r.one n).s.2 = 0) : ∃ P l', l = P ++ l' ∧ OkP r.d.hasPic P := by
  obtain ⟨d, pp, tp, s⟩ := r
  simp only at hs
  subst hs
  cases hp : d.hasPic
  · exact ⟨[], l, rfl, .inl ⟨rfl, rfl⟩⟩
  · cases l with
    | nil => simp [Rd8.one, hp, firstS, by1_nil, tk_nil, bt] at h
    | cons y l =>
      cases hy : bt y.toNat 128
      · exact ⟨[y], l, rfl, .inr (.inl ⟨rfl, y, rfl, hy⟩)⟩
      · cases l with
        | nil => simp [Rd8.one, hp, firstS, by1_cons, tk_cons, hy, tk_nil] at h
        | cons z l => exact ⟨[y, z], l, rfl, .inr (.inr ⟨rfl, y, z, rfl, hy⟩)⟩
theorem two_split (n : Nat) (r : Rd8) (l : List UInt8) (hs : r.s = (l, 0)) (h : (r.two n).s.2 = 0) : ∃ P l', l = P ++ l' ∧ Ok1 r.d.hasTl0 P := by
  obtain ⟨d, pp, tp, s⟩ := r
  simp only at hs
  subst hs
  cases hp : d.hasTl0
  · exact ⟨[], l, rfl, .inl ⟨rfl, rfl⟩⟩
  · cases l with
    | nil => simp [Rd8.two, hp, tk_nil] at h
    | cons y l => exact ⟨[y], l, rfl, .inr ⟨rfl, y, rfl⟩⟩
theorem three_split (r : Rd8) (l : List UInt8) (hs : r.s = (l, 0)) (h : r.three.s.2 = 0) : ∃ P l', l = P ++ l' ∧ Ok1 (r.d.hasTid || r.d.hasKey) P := by
  obtain ⟨d, pp, tp, s⟩ := r
  simp only at hs
  subst hs
  cases hp : (d.hasTid || d.hasKey)
  · exact ⟨[], l, by rfl, .inl ⟨rfl, rfl⟩⟩
  · cases l with
    | nil => simp [Rd8.three, hp, tk_nil] at h
    | cons y l => exact ⟨[y], l, rfl, .inr ⟨rfl, y, rfl⟩⟩

/-- bytes that begin with a descriptor of more than one byte -/
structure Form (x0 x1 : UInt8) (P T K : List UInt8) : Prop where
  more : bt x0.toNat 128 = true
  p : OkP (bt x1.toNat 128) P
  t : Ok1 (bt x1.toNat 64) T
  k : Ok1 (bt x1.toNat 32 || bt x1.toNat 16) K
def formD (x0 x1 : UInt8) (P T K : List UInt8) : Dsc := setK (setT (setP ((Dsc.head x0.toNat).has x1.toNat) P) T) K
def formB (x0 x1 : UInt8) (P T K rest : List UInt8) : List UInt8 := x0 :: x1 :: (P ++ (T ++ (K ++ rest)))

theorem setP_tl0 (d : Dsc) (P : List UInt8) : (setP d P).hasTl0 = d.hasTl0 := by unfold setP; split <;> rfl
theorem setP_tid (d : Dsc) (P : List UInt8) : (setP d P).hasTid = d.hasTid := by unfold setP; split <;> rfl
theorem setP_key (d : Dsc) (P : List UInt8) : (setP d P).hasKey = d.hasKey := by unfold setP; split <;> rfl
theorem setT_tid (d : Dsc) (P : List UInt8) : (setT d P).hasTid = d.hasTid := by unfold setT; split <;> rfl
theorem setT_key (d : Dsc) (P : List UInt8) : (setT d P).hasKey = d.hasKey := by unfold setT; split <;> rfl

theorem form_parse {x0 x1 : UInt8} {P T K : List UInt8} (rest : List UInt8) (h : Form x0 x1 P T K) : vpParse (formB x0 x1 P T K rest) = ⟨formD x0 x1 P T K, place 2 P 0, place (2 + P.length) T 0, (rest, 0)⟩ := by
  have hm : bt (by1 (formB x0 x1 P T K rest, 0)) 128 = true := by rw [formB, by1_cons]; exact h.more
  rw [vpParse, if_pos hm]
  have h1 : rd1 (formB x0 x1 P T K rest) = ⟨(Dsc.head x0.toNat).has x1.toNat, 0, 0, (P ++ (T ++ (K ++ rest)), 0)⟩ := by simp [rd1, rd0, formB, by1_cons, tk_cons]
  rw [h1, one_form (P := P) (l := T ++ (K ++ rest)) _ _ rfl h.p]
  rw [two_form (P := T) (l := K ++ rest) _ _ rfl (by rw [setP_tl0]; exact h.t)]
  rw [three_form (P := K) (l := rest) _ rfl (by simp only; rw [setT_tid, setT_key, setP_tid, setP_key]; exact h.k)]
  have e1 : ((formB x0 x1 P T K rest).length : Int) - (P ++ (T ++ (K ++ rest))).length = 2 := by simp [formB]; omega
  have e2 : ((formB x0 x1 P T K rest).length : Int) - (T ++ (K ++ rest)).length = 2 + P.length := by simp [formB]; omega
  simp only [e1, e2]
  rfl
theorem lone_parse (x0 : UInt8) (rest : List UInt8) (h : bt x0.toNat 128 = false) : vpParse (x0 :: rest) = ⟨Dsc.head x0.toNat, 0, 0, (rest, 0)⟩ := by
  rw [vpParse, by1_cons, h]
  simp [rd0, by1_cons, tk_cons]
theorem form_of (b : List UInt8) (h : vpE b = 0) : (∃ x0 rest, b = x0 :: rest ∧ bt x0.toNat 128 = false) ∨ ∃ x0 x1 P T K rest, b = formB x0 x1 P T K rest ∧ Form x0 x1 P T K := by
  unfold vpE vpParse at h
  cases b with
  | nil => simp [by1_nil, rd0, tk_nil, bt] at h
  | cons x0 t =>
    cases hm : bt x0.toNat 128
    · exact .inl ⟨x0, t, rfl, hm⟩
    · right
      rw [by1_cons, hm, if_pos rfl] at h
      have h3 : ((rd1 (x0 :: t)).one (x0 :: t).length).two (x0 :: t).length |>.s.2 = 0 := Decidable.byContradiction fun hc => three_stays _ hc h
      have h2 : ((rd1 (x0 :: t)).one (x0 :: t).length).s.2 = 0 := Decidable.byContradiction fun hc => two_stays _ _ hc h3
      have h1 : (rd1 (x0 :: t)).s.2 = 0 := Decidable.byContradiction fun hc => one_stays _ _ hc h2
      cases t with
      | nil => simp [rd1, rd0, tk_cons, tk_nil] at h1
      | cons x1 t =>
        have e1 : rd1 (x0 :: x1 :: t) = ⟨(Dsc.head x0.toNat).has x1.toNat, 0, 0, (t, 0)⟩ := by simp [rd1, rd0, by1_cons, tk_cons]
        rw [e1] at h h2 h3
        obtain ⟨P, l, rfl, hP⟩ := one_split _ _ t rfl h2
        rw [one_form (P := P) (l := l) _ _ rfl hP] at h h3
        obtain ⟨T, l, rfl, hT⟩ := two_split _ _ l rfl h3
        rw [two_form (P := T) (l := l) _ _ rfl hT] at h
        obtain ⟨K, l, rfl, hK⟩ := three_split _ l rfl h
        simp only at hT hK
        rw [setP_tl0] at hT
        rw [setT_tid, setT_key, setP_tid, setP_key] at hK
        exact ⟨x0, x1, P, T, K, l, rfl, hm, hP, hT, hK⟩
end Go.Proofs.Ytekioihjfggmdaa

/- Two cells of a block, stored in whichever order. -/
namespace Go.Proofs.Ytekioihjfggmdaa
open Go.RowKit
set_option linter.unusedVariables false

theorem setCell_comm (w : World) (g i j : Nat) (u v : Value) (h : i ≠ j) : (w.setCell ⟨g, i, none⟩ u).setCell ⟨g, j, none⟩ v = (w.setCell ⟨g, j, none⟩ v).setCell ⟨g, i, none⟩ u := by
  simp only [World.setCell]
  congr 1
  apply Array.ext
  · simp
  · intro k h1 h2
    simp only [Array.getElem_modify]
    by_cases hk : g = k
    · subst hk
      simp only [if_true]
      cases w.heap[g]'(by simpa using h1) with
      | cells c e f =>
        show Obj.cells ((c.setIfInBounds i u).setIfInBounds j v) e f = Obj.cells ((c.setIfInBounds j v).setIfInBounds i u) e f
        obtain ⟨l⟩ := c
        simp only [List.setIfInBounds_toArray]
        rw [List.set_comm _ _ h]
      | _ => rfl
    · simp [hk]
theorem setCell_again (w : World) (g i : Nat) (u : Value) : (w.setCell ⟨g, i, none⟩ u).setCell ⟨g, i, none⟩ u = w.setCell ⟨g, i, none⟩ u := by
  simp only [World.setCell]
  congr 1
  apply Array.ext
  · simp
  · intro k h1 h2
    simp only [Array.getElem_modify]
    by_cases hk : g = k
    · subst hk
      simp only [if_true]
      cases w.heap[g]'(by simpa using h1) with
      | cells c e f =>
        show Obj.cells ((c.setIfInBounds i u).setIfInBounds i u) e f = Obj.cells (c.setIfInBounds i u) e f
        obtain ⟨l⟩ := c
        simp only [List.setIfInBounds_toArray, List.set_set]
      | _ => rfl
    · simp [hk]

/-- of two stores none, one, or both have been done -/
def Two (g i j : Nat) (u v : Value) (w w' : World) : Prop :=
  w' = w ∨ w' = w.setCell ⟨g, i, none⟩ u ∨ w' = w.setCell ⟨g, j, none⟩ v ∨ w' = (w.setCell ⟨g, i, none⟩ u).setCell ⟨g, j, none⟩ v
section
variable {g i j : Nat} {u v : Value}
theorem Two.refl (w : World) : Two g i j u v w w := .inl rfl
theorem Two.trans (h : i ≠ j) {a b c : World} (h1 : Two g i j u v a b) (h2 : Two g i j u v b c) : Two g i j u v a c := by
  have e1 : ∀ w : World, (w.setCell ⟨g, j, none⟩ v).setCell ⟨g, i, none⟩ u = (w.setCell ⟨g, i, none⟩ u).setCell ⟨g, j, none⟩ v := fun w => (setCell_comm w g i j u v h).symm
  have e2 : ∀ w : World, ((w.setCell ⟨g, i, none⟩ u).setCell ⟨g, j, none⟩ v).setCell ⟨g, i, none⟩ u = (w.setCell ⟨g, i, none⟩ u).setCell ⟨g, j, none⟩ v := fun w => by rw [e1, setCell_again]
  rcases h1 with rfl | rfl | rfl | rfl
  · exact h2
  · rcases h2 with rfl | rfl | rfl | rfl
    · exact .inr (.inl rfl)
    · exact .inr (.inl (setCell_again ..))
    · exact .inr (.inr (.inr rfl))
    · exact .inr (.inr (.inr (by rw [setCell_again])))
  · rcases h2 with rfl | rfl | rfl | rfl
    · exact .inr (.inr (.inl rfl))
    · exact .inr (.inr (.inr (e1 _)))
    · exact .inr (.inr (.inl (setCell_again ..)))
    · exact .inr (.inr (.inr (by rw [e1, setCell_again])))
  · rcases h2 with rfl | rfl | rfl | rfl
    · exact .inr (.inr (.inr rfl))
    · exact .inr (.inr (.inr (e2 _)))
    · exact .inr (.inr (.inr (setCell_again ..)))
    · exact .inr (.inr (.inr (by rw [e2, setCell_again])))
theorem Two.heap {a b : World} (h : Two g i j u v a b) {k : Nat} {o : Obj} (hk : a.heap[k]? = some o) (hne : k ≠ g) : b.heap[k]? = some o := by
  rcases h with rfl | rfl | rfl | rfl
  · exact hk
  · exact heap_far _ hk hne
  · exact heap_far _ hk hne
  · exact heap_far _ (heap_far _ hk hne) hne
/-- both have been done -/
theorem Two.both (h : i ≠ j) {a b : World} (h1 : Two g i j u v a b) (hu : b.setCell ⟨g, i, none⟩ u = b) (hv : b.setCell ⟨g, j, none⟩ v = b) : b = (a.setCell ⟨g, i, none⟩ u).setCell ⟨g, j, none⟩ v := by
  rcases h1 with rfl | rfl | rfl | rfl
  · rw [hu, hv]
  · exact hv.symm
  · rw [setCell_comm _ g i j u v h, hu]
  · rfl
theorem Two.keep1 (h : i ≠ j) {a b : World} (h1 : Two g i j u v a b) (hu : a.setCell ⟨g, i, none⟩ u = a) : b.setCell ⟨g, i, none⟩ u = b := by
  rcases h1 with rfl | rfl | rfl | rfl
  · exact hu
  · exact setCell_again ..
  · rw [← setCell_comm _ g i j u v h, hu]
  · rw [← setCell_comm _ g i j u v h, setCell_again]
theorem Two.keep2 (h : i ≠ j) {a b : World} (h1 : Two g i j u v a b) (hv : a.setCell ⟨g, j, none⟩ v = a) : b.setCell ⟨g, j, none⟩ v = b := by
  rcases h1 with rfl | rfl | rfl | rfl
  · exact hv
  · rw [setCell_comm _ g i j u v h, hv]
  · exact setCell_again ..
  · exact setCell_again ..
end
end Go.Proofs.Ytekioihjfggmdaa
