/- Texts of one claim, laid together: StoreA DownN -/
import Derived.RegionTactic
import Derived.ChangeAlike
import Derived.Test.YtekioihjfggmdaaJo14
import Derived.Test.YtekioihjfggmdaaJo12
/- store.Add. -/
namespace Go.Proofs.Ytekioihjfggmdaa
open Go.RowKit
set_option linter.unusedVariables false

theorem StAt.le {w w' : World} {sb rb mb c : Nat} {s : St} {vs : List Value} (h : StAt w sb rb mb c s vs) (hl : Le w w') : StAt w' sb rb mb c s vs :=
  ⟨hl.heap h.hs, hl.heap h.hr, h.len, fun i hi => (h.bytes i hi).le hl, h.map.same (hl.out.block _ h.map.lt)⟩
theorem StAt.cells {w : World} {sb rb mb c : Nat} {s : St} {vs : List Value} (h : StAt w sb rb mb c s vs) : w.cell? ⟨sb, 0, none⟩ = some (.slice (some ⟨rb, 0, none⟩) s.room s.room) ∧ w.cell? ⟨sb, 1, none⟩ = some (.int .i64 s.at_) ∧ w.cell? ⟨sb, 2, none⟩ = some (.int .i64 s.n) ∧ w.cell? ⟨sb, 3, none⟩ = some (.map (some mb)) :=
  ⟨box_cell h.hs 0 _ rfl _ (Le.refl _), box_cell h.hs 1 _ rfl _ (Le.refl _), box_cell h.hs 2 _ rfl _ (Le.refl _), box_cell h.hs 3 _ rfl _ (Le.refl _)⟩

theorem flat_set (a : Nat) (v : Value) : ∀ (l : List (Nat × Value)) (i : Nat), i < l.length → ((l.flatMap entC).set (i * 2) (.int .u16 a)).set (i * 2 + 1) v = (l.set i (a, v)).flatMap entC
  | [], _, h => by simp at h
  | x :: l, 0, _ => by simp [entC]
  | x :: l, i + 1, h => by
    have ih := flat_set a v l i (by simpa using h)
    rw [List.flatMap_cons, List.set_cons_succ, List.flatMap_cons, ← ih, show (i + 1) * 2 = i * 2 + 1 + 1 by omega]
    simp [entC]
theorem zip_set {α β : Type} (a : α) (b : β) : ∀ (l : List α) (m : List β) (i : Nat), (l.set i a).zip (m.set i b) = (l.zip m).set i (a, b)
  | [], m, i => by simp
  | x :: l, [], i => by simp
  | x :: l, y :: m, 0 => by simp
  | x :: l, y :: m, i + 1 => by simp [zip_set a b l m i]
theorem StAt.ne_map {w : World} {sb rb mb c : Nat} {s : St} {vs : List Value} (h : StAt w sb rb mb c s vs) {k : Nat} {cs : Array Value} {T : TypeId} {fr : Nat × Nat} (hk : w.heap[k]? = some (.cells cs T fr)) : k ≠ mb := by
  intro e
  obtain ⟨D, ⟨es, cl, hb, _⟩, _⟩ := h.map
  rw [e, hb] at hk
  cases hk
theorem StAt.mapped {w w' : World} {sb rb mb c c' : Nat} {s : St} {vs : List Value} {f : Nat → Option Nat} (h : StAt w sb rb mb c s vs) (hg : w.grownBy w' (some mb)) (hm : MapI w' mb c' f) : StAt w' sb rb mb c' ⟨s.room, s.ring, s.at_, s.n, f⟩ vs := by
  have hk : ∀ {k : Nat} {cs : Array Value} {T : TypeId} {fr : Nat × Nat}, w.heap[k]? = some (.cells cs T fr) → w'.heap[k]? = some (.cells cs T fr) := fun hk => heap_grown hg hk (by intro e; injection e with e; exact h.ne_map hk e.symm)
  refine ⟨hk h.hs, hk h.hr, h.len, fun i hi => ?_, hm⟩
  rcases h.bytes i hi with hb | ⟨g, h1, h2⟩
  · exact .inl hb
  · exact .inr ⟨g, h1, hk h2⟩
theorem blk_ne {w : World} {a b : Nat} {cs cs' : Array Value} {T T' : TypeId} {fr fr' : Nat × Nat} (ha : w.heap[a]? = some (.cells cs T fr)) (hb : w.heap[b]? = some (.cells cs' T' fr')) (hn : T ≠ T') : a ≠ b := by
  intro e
  rw [e, hb] at ha
  injection ha with ha
  injection ha with _ ha _
  exact hn ha.symm
theorem set_map {w : World} {b n : Nat} {f : Nat → Option Nat} (h : MapI w b n f) {p : Addr} (hp : b ≠ p.block) (u : Value) : MapI (w.setCell p u) b n f := h.same (Below.heap_setCell _ _ _ _ hp)
theorem StAt.stored {w : World} {sb rb mb c : Nat} {s : St} {vs : List Value} (h : StAt w sb rb mb c s vs) (hk : s.Ok) {seq : Nat} {bl : List UInt8} {v : Value} (hv : B8 w bl v) :
    StAt ((w.setCell ⟨rb, s.at_ * 2, none⟩ (.int .u16 seq)).setCell ⟨rb, s.at_ * 2 + 1, none⟩ v) sb rb mb c ⟨s.room, s.ring.set s.at_ (seq, bl), s.at_, s.n, s.wh⟩ (vs.set s.at_ v) := by
  have h1 : s.at_ < s.ring.length := by rw [hk.len]; exact hk.at_
  have h2 : s.at_ < vs.length := by rw [h.len]; exact hk.at_
  have far : ∀ {k : Nat} {cs : Array Value} {T : TypeId}, w.heap[k]? = some (.cells cs T (0, 0)) → T ≠ 169 → ((w.setCell ⟨rb, s.at_ * 2, none⟩ (.int .u16 seq)).setCell ⟨rb, s.at_ * 2 + 1, none⟩ v).heap[k]? = some (.cells cs T (0, 0)) := fun hh hn =>
    heap_far _ (heap_far _ hh (blk_ne hh h.hr hn)) (blk_ne hh h.hr hn)
  refine ⟨far h.hs (by decide), ?_, by simp [h.len], fun i hi => ?_, ?_⟩
  · have := heap_set (i := s.at_ * 2 + 1) v (heap_set (i := s.at_ * 2) (.int .u16 seq) h.hr)
    rw [this, List.map_set, zip_set, ← flat_set seq v _ _ (by rw [List.length_zip, List.length_map]; omega)]
    simp
  · by_cases e : i = s.at_
    · subst e
      rw [List.getD_eq_getElem?_getD, List.getElem?_set_self h1, List.getD_eq_getElem?_getD, List.getElem?_set_self h2]
      simp only [Option.getD_some]
      rcases hv with hv | ⟨g, e1, e2⟩
      · exact .inl hv
      · exact .inr ⟨g, e1, far e2 (by decide)⟩
    · have hb := h.bytes i hi
      simp only [List.getD_eq_getElem?_getD, List.getElem?_set_ne (Ne.symm e)] at hb ⊢
      rcases hb with hb | ⟨g, e1, e2⟩
      · exact .inl hb
      · exact .inr ⟨g, e1, far e2 (by decide)⟩
  · exact set_map (set_map h.map (fun e => h.ne_map h.hr e.symm) _) (fun e => h.ne_map h.hr e.symm) _
theorem StAt.set_at {w : World} {sb rb mb c : Nat} {s : St} {vs : List Value} (h : StAt w sb rb mb c s vs) (a : Nat) : StAt (w.setCell ⟨sb, 1, none⟩ (.int .i64 a)) sb rb mb c ⟨s.room, s.ring, a, s.n, s.wh⟩ vs := by
  have far : ∀ {k : Nat} {cs : Array Value} {T : TypeId}, w.heap[k]? = some (.cells cs T (0, 0)) → T ≠ 137 → (w.setCell ⟨sb, 1, none⟩ (.int .i64 a)).heap[k]? = some (.cells cs T (0, 0)) := fun hh hn => heap_far _ hh (blk_ne hh h.hs hn)
  refine ⟨heap_set (i := 1) (.int .i64 a) h.hs, far h.hr (by decide), h.len, fun i hi => ?_, set_map h.map (fun e => h.ne_map h.hs e.symm) _⟩
  rcases h.bytes i hi with hb | ⟨g, e1, e2⟩
  · exact .inl hb
  · exact .inr ⟨g, e1, far e2 (by decide)⟩
theorem StAt.set_n {w : World} {sb rb mb c : Nat} {s : St} {vs : List Value} (h : StAt w sb rb mb c s vs) (a : Nat) : StAt (w.setCell ⟨sb, 2, none⟩ (.int .i64 a)) sb rb mb c ⟨s.room, s.ring, s.at_, a, s.wh⟩ vs := by
  have far : ∀ {k : Nat} {cs : Array Value} {T : TypeId}, w.heap[k]? = some (.cells cs T (0, 0)) → T ≠ 137 → (w.setCell ⟨sb, 2, none⟩ (.int .i64 a)).heap[k]? = some (.cells cs T (0, 0)) := fun hh hn => heap_far _ hh (blk_ne hh h.hs hn)
  refine ⟨heap_set (i := 2) (.int .i64 a) h.hs, far h.hr (by decide), h.len, fun i hi => ?_, set_map h.map (fun e => h.ne_map h.hs e.symm) _⟩
  rcases h.bytes i hi with hb | ⟨g, e1, e2⟩
  · exact .inl hb
  · exact .inr ⟨g, e1, far e2 (by decide)⟩

/-- Add on its way -/
structure AdSt (w W : World) (sb rb mb c : Nat) (s : St) (vs : List Value) (g0 q : Nat) (A : Option Addr) (n : Nat) : Prop where
  st : StAt W sb rb mb c s vs
  box : W.heap[g0]? = some (.cells #[.int .u16 q, .slice A n n] 169 (0, 0))
  fp : Fp (stS sb rb mb) w W
theorem AdSt.le {w W W' : World} {sb rb mb c : Nat} {s : St} {vs : List Value} {g0 q : Nat} {A : Option Addr} {n : Nat} (h : AdSt w W sb rb mb c s vs g0 q A n) (hl : Le W W') : AdSt w W' sb rb mb c s vs g0 q A n := ⟨h.st.le hl, hl.heap h.box, h.fp.trans (Fp.of_le hl)⟩

set_option maxRecDepth 100000 in
set_option maxHeartbeats 1000000 in
theorem stAdd_any {w : World} {sb rb mb c : Nat} {s : St} {vs : List Value} (h : StAt w sb rb mb c s vs) (hk : s.Ok) (seq : Nat) (hs : seq < 65536) (hc : c < 1000000) (Ab : Option Addr) (cap : Nat) (bl : List UInt8) (hbl : bl.length ≤ 1000000) (hrb8 : ∀ W, Fp (stS sb rb mb) w W → RSl 1 RU8 W bl (.slice Ab bl.length cap)) :
    Calls Try.prog 87 #[.pointer (some ⟨sb, 0, none⟩), .int .u16 seq, .slice Ab bl.length cap] w (fun e w' => e = .returned (.tuple #[]) ∧ (∃ vs', StAt w' sb rb mb (c + 1) (s.add seq bl) vs') ∧ Fp (stS sb rb mb) w w') := by
  have HO := hide (fun W (hW : Fp (stS sb rb mb) w W) => own_any Ab cap bl W (hrb8 W hW) hbl)
  clear hrb8 hbl
  obtain ⟨c0, c1, c2, c3⟩ := h.cells
  have hq := h.seq_at hk hk.at_
  have hb := h.b_at hk hk.at_
  have hi0 : (0 : Int) ≤ s.at_ := by omega
  have hi1 : (s.at_ : Int) < s.room := by have := hk.at_; omega
  have hro := hk.le
  have hby := h.bytes _ hk.at_
  have hq6 := (ring_len hk s.at_).2
  have hsb := lt_of_heap h.hs
  have hrb := lt_of_heap h.hr
  have hwh := show s.wh1 = if s.n = s.room ∧ s.wh (s.ring.getD s.at_ (0, [])).1 = some s.at_ then mupd s.wh (s.ring.getD s.at_ (0, [])).1 none else s.wh from rfl
  generalize (s.ring.getD s.at_ (0, [])).1 = q at *
  generalize (s.ring.getD s.at_ (0, [])).2 = L at *
  obtain ⟨A, hA⟩ := hby.slice
  rw [hA] at hb
  have HA := hide hA
  have HWH := hide hwh
  clear hA hby hwh
  have H := hide h
  have HK := hide hk
  clear h hk
  go_enter Try.func87, Try.ntmps87
  go_wp2_with fail
  go_region
  have ha : AdSt w (w.alloc (.cells #[.int .u16 q, .slice A L.length L.length] 169)).drew sb rb mb c s vs w.heap.size q A L.length :=
    ⟨H.out.le ((Le.refl w).alloc _).drew, heap_alloc_new w _, Fp.of_le ((Le.refl w).alloc _).drew⟩
  generalize (w.alloc (.cells #[.int .u16 q, .slice A L.length L.length] 169)).drew = W1 at *
  generalize w.heap.size = g0 at *
  have HA1 := hide ha
  clear ha H c0 c1 c2 c3 hq hb
  obtain ⟨c0, c1, c2, c3⟩ := HA1.out.st.cells
  have hlk := fun nq => (HA1.out.le ((Le.refl W1).drewN nq)).st.map.look hq6
  have d0 : W1.cell? ⟨g0, 0, none⟩ = some (.int .u16 q) := box_cell HA1.out.box 0 _ rfl _ (Le.refl _)
  go_wp2_with fail
  go_quiet (fail)
  have HA2 := hide (HA1.out.le ((Le.refl W1).drewN nq))
  generalize W1.drewN nq = W2 at *
  clear c0 c1 c2 c3 d0 hlk HA1
  have HI := hide (show ∃ i is, (s.wh q).getD 0 = i ∧ (s.wh q).isSome = is ∧ (s.wh q = some s.at_ ↔ is = true ∧ i = s.at_) from ⟨_, _, rfl, rfl, by cases s.wh q <;> simp⟩)
  obtain ⟨i, is, hi, his, hiff⟩ := HI.out
  rw [hi, his]
  have hwh : ∃ B, B = decide (s.n = s.room ∧ is = true ∧ i = s.at_) ∧ s.wh1 = if B = true then mupd s.wh q none else s.wh := ⟨_, rfl, by rw [HWH.out]; simp [hiff]⟩
  obtain ⟨B, hB, hwh⟩ := hwh
  have HB := hide hB
  have HWH := hide hwh
  clear hi his hiff hB hwh HI
  obtain ⟨c0, c1, c2, c3⟩ := HA2.out.st.cells
  go_upto_region 3 with fail
  go_cut [51] (fun sv wx => sv = .bool B ∧ AdSt w wx sb rb mb c s vs g0 q A L.length)
  case first =>
    by_cases hn : s.n = s.room
    · have hn2 : ((s.n : Int) == s.room) = true := by rw [beq_iff_eq]; omega
      have HN := hide hn
      clear hn
      cases is
      · go_quiet (fail)
        go_wp2_with fail
        go_meet
        exact ⟨by rw [HB.out]; simp, HA2.out.le ((Le.refl _).drewN _)⟩
      · by_cases he : i = s.at_
        · have he2 : ((i : Int) == s.at_) = true := by rw [beq_iff_eq]; omega
          have HE := hide he
          clear he
          go_quiet (fail)
          go_wp2_with fail
          go_meet
          exact ⟨by rw [HB.out]; simp [HN.out, HE.out], HA2.out.le ((Le.refl _).drewN _)⟩
        · have he2 : ((i : Int) == s.at_) = false := by rw [beq_eq_false_iff_ne]; omega
          go_quiet (fail)
          go_wp2_with fail
          go_meet
          exact ⟨by rw [HB.out]; simp [he], HA2.out.le ((Le.refl _).drewN _)⟩
    · have hn2 : ((s.n : Int) == s.room) = false := by rw [beq_eq_false_iff_ne]; omega
      go_quiet (fail)
      go_wp2_with fail
      go_meet
      exact ⟨by rw [HB.out]; simp [hn], HA2.out.le ((Le.refl _).drewN _)⟩
  case rest =>
    obtain ⟨rfl, ha3⟩ := hcut
    generalize wc = W3 at *
    have HA3 := hide ha3
    clear ha3
    obtain ⟨c0, c1, c2, c3⟩ := HA3.out.st.cells
    have d0 : W3.cell? ⟨g0, 0, none⟩ = some (.int .u16 q) := box_cell HA3.out.box 0 _ rfl _ (Le.refl _)
    go_upto_if 51 with fail
    go_cut [] (fun wx => AdSt w wx sb rb mb c ⟨s.room, s.ring, s.at_, s.n, s.wh1⟩ vs g0 q A L.length)
    case first =>
      cases B
      · go_wp2_with fail
        go_meet
        have e : s.wh1 = s.wh := by rw [HWH.out]; rfl
        rw [e]
        exact HA3.out
      · have e : s.wh1 = mupd s.wh q none := HWH.out
        obtain ⟨w4, hr4, hm4, hg4⟩ := (HA3.out.le (Le.refl W3).drew).st.map.drop hq6 0
        have HM4 := hide (And.intro hm4 hg4)
        clear hm4 hg4
        have HE := hide e
        clear e
        go_wp2_with fail
        go_still_tail 6, (by kernel_rfl)
        change wpList _ _ _ _ _ W3.drew
        go_wp2_with fail
        go_meet
        rw [HE.out]
        exact ⟨(HA3.out.le (Le.refl W3).drew).st.mapped HM4.out.2 HM4.out.1, heap_grown HM4.out.2 (HA3.out.le (Le.refl W3).drew).box (by intro e; injection e with e; exact HA3.out.st.ne_map HA3.out.box e.symm), (HA3.out.le (Le.refl W3).drew).fp.trans (Fp.of_grown HM4.out.2 (.inr (.inr rfl)))⟩
    case rest =>
      have HA4 := hide hcut
      clear hcut
      generalize wc = W4 at *
      clear c0 c1 c2 c3 d0 HA3
      have hk4 : St.Ok ⟨s.room, s.ring, s.at_, s.n, s.wh1⟩ := ⟨HK.out.pos, HK.out.le, HK.out.len, HK.out.at_, HK.out.n, fun k i h => by
        have h : s.wh1 k = some i := h
        rw [HWH.out] at h
        split at h
        · simp only [mupd] at h
          split at h
          · cases h
          · exact HK.out.wh _ _ h
        · exact HK.out.wh _ _ h, HK.out.seq⟩
      have HK4 := hide hk4
      clear hk4
      have HS4 := hide HA4.out.st
      have HF4 := hide HA4.out.fp
      clear HA4
      replace HO := hide (fun W (hW : Le W4 W) => HO.out W (HF4.out.trans (Fp.of_le hW)))
      have HLE := hide (Le.refl W4).drew
      go_upto_region 5 with fail
      refine' wp_region_tail 13 13 58 Le (Is _ :: Is _ :: Is _ :: Is _ :: Is _ :: Is _ :: Is _ :: Is _ :: Is _ :: Is _ :: (fun v W => ∃ g, v = .slice (some ⟨g, 0, none⟩) bl.length bl.length ∧ W.heap[g]? = some (.cells (u8s bl).toArray 5 (0, 0))) :: (fun v W => ∃ g, v = .agg #[.int .u16 seq, .slice (some ⟨g, 0, none⟩) bl.length bl.length] ∧ W.heap[g]? = some (.cells (u8s bl).toArray 5 (0, 0))) :: Is _ :: []) ([] :: [0] :: [1] :: [2] :: [] :: [4] :: [5] :: [6] :: [] :: [] :: [9] :: [8, 10] :: [3, 7] :: []) (by kernel_rfl) (by kernel_rfl) (by rfl) (by kernel_rfl) (by kernel_rfl) Le.refl (fun _ _ _ h h' => h.trans h') ⟨St.is, St.is, St.is, St.is, St.is, St.is, St.is, St.is, St.is, St.is, (fun v w w' h hk => by obtain ⟨g, h1, h2⟩ := hk; exact ⟨g, h1, h.heap h2⟩), (fun v w w' h hk => by obtain ⟨g, h1, h2⟩ := hk; exact ⟨g, h1, h.heap h2⟩), St.is, trivial⟩ ?m5
      case m5 =>
        simp (maxSteps := 100000000) only [AllV, Obl2, Leans, factAt, allFacts, actOf, putAll, putRow, List.set_cons_succ, List.set_cons_zero, List.getElem?_cons_zero, List.getElem?_cons_succ, List.take_succ_cons, List.take_zero, List.drop_succ_cons, List.drop_zero, List.cons_append, List.nil_append, List.length_cons, List.length_nil, Nat.reduceAdd]
        intro x0 x1 x2 x3 x4 x5 x6 x7 x8 x9 x10 x11 x12
        refine ⟨⟨?_, ?_, ?_, ?_, ?_, ?_, ?_, ?_, ?_, ?_, ?_, ?_, ?_, trivial⟩, ?_⟩
        -- 0: 58 := Op.move t0
        · intro w hw  K hK; go_simp; exact hK _ _ (Le.refl _) (Is.mk _ _)
        -- 1: 59 := Op.nilCheck t58
        · intro w hw h0 K hK; cases h0; go_simp; exact hK _ _ (Le.refl _) (Is.mk _ _)
        -- 2: 60 := Op.fieldAddr 137 t59 0
        · intro w hw h1 K hK; cases h1; go_simp; exact hK _ _ (Le.refl _) (Is.mk _ _)
        -- 3: 61 := Op.load 134 t60
        · intro w hw h2 K hK; cases h2; have hle := HLE.out.trans hw; obtain ⟨c0, c1, c2, c3⟩ := (HS4.out.le hle).cells; go_simp; exact hK _ _ (Le.refl _) (Is.mk _ _)
        -- 4: 62 := Op.move t0
        · intro w hw  K hK; go_simp; exact hK _ _ (Le.refl _) (Is.mk _ _)
        -- 5: 63 := Op.nilCheck t62
        · intro w hw h4 K hK; cases h4; go_simp; exact hK _ _ (Le.refl _) (Is.mk _ _)
        -- 6: 64 := Op.fieldAddr 137 t63 1
        · intro w hw h5 K hK; cases h5; go_simp; exact hK _ _ (Le.refl _) (Is.mk _ _)
        -- 7: 65 := Op.load 3 t64
        · intro w hw h6 K hK; cases h6; have hle := HLE.out.trans hw; obtain ⟨c0, c1, c2, c3⟩ := (HS4.out.le hle).cells; go_simp; exact hK _ _ (Le.refl _) (Is.mk _ _)
        -- 8: 66 := Op.move t1
        · intro w hw  K hK; go_simp; exact hK _ _ (Le.refl _) (Is.mk _ _)
        -- 9: 67 := Op.move t2
        · intro w hw  K hK; go_simp; exact hK _ _ (Le.refl _) (Is.mk _ _)
        -- 10: 68 := Op.call { value (Operand.func 69), args := #[t67], argTypes := #[44] }
        · intro w hw h9 K hK; cases h9; go_simp; refine (HO.out _ (HLE.out.trans hw)).mono ?_; rintro r w' ⟨g, rfl, hg1, hg2, hb'⟩; exact hK _ _ ⟨hb'⟩ ⟨g, rfl, hg2⟩
        -- 11: 69 := Op.build 169 #[(0, t66), (1, t68)]
        · intro w hw h8 h10 K hK; cases h8; obtain ⟨g, rfl, hg⟩ := h10; go_simp; exact hK _ _ (Le.refl _) ⟨g, rfl, hg⟩
        -- 12: 70 := Op.indexAddr 134 t61 t65
        · intro w hw h3 h7 K hK; cases h3; cases h7; go_simp; exact hK _ _ (Le.refl _) (Is.mk _ _)
        · intro wz hz h0 h1 h2 h3 h4 h5 h6 h7 h8 h9 h10 h11 h12; cases h0; cases h1; cases h2; cases h3; cases h4; cases h5; cases h6; cases h7; cases h8; cases h9; obtain ⟨g', rfl, hg'⟩ := h10; obtain ⟨g, rfl, hg⟩ := h11; cases h12; skip
          have hlz := HLE.out.trans hz
          have hsz := HS4.out.le hlz
          have e0 := hsz.seq_at HK4.out HK4.out.at_
          have e1 := hsz.b_at HK4.out HK4.out.at_
          have f0 : wz.frozen? ⟨rb, s.at_ * 2, none⟩ = false := free_block hsz.hr _
          have f1 : wz.frozen? ⟨rb, s.at_ * 2 + 1, none⟩ = false := free_block hsz.hr _
          have H5 := hide (hsz.stored HK4.out (seq := seq) (.inr ⟨g, rfl, hg⟩))
          have F5 := hide (((HF4.out.trans (Fp.of_le hlz)).setCell (p := ⟨rb, s.at_ * 2, none⟩) (.inr (.inl rfl)) (.int .u16 seq)).setCell (p := ⟨rb, s.at_ * 2 + 1, none⟩) (.inr (.inl rfl)) (.slice (some ⟨g, 0, none⟩) bl.length bl.length))
          clear hsz hg hg' hz hlz HO
          simp only at e0 e1
          go_upto_region 6 with fail
          generalize (wz.setCell ⟨rb, s.at_ * 2, none⟩ (.int .u16 seq)).setCell ⟨rb, s.at_ * 2 + 1, none⟩ (.slice (some ⟨g, 0, none⟩) bl.length bl.length) = W5 at *
          clear e0 e1 f0 f1 HS4 HF4 HLE
          have hh5 := H5.out
          simp only at hh5
          replace H5 := hide hh5
          obtain ⟨c0, c1, c2, c3⟩ := hh5.cells
          simp only at c0 c1 c2 c3
          clear hh5
          obtain ⟨w6, hr6, hm6, hg6⟩ := (H5.out.le (Le.refl W5).drew).map.store hs (v := s.at_) (by have := HK.out.at_; omega) (by omega)
          have H6 := hide ((H5.out.le (Le.refl W5).drew).mapped hg6 hm6)
          have F6 := hide ((F5.out.drew).trans (Fp.of_grown hg6 (.inr (.inr rfl))))
          clear hm6 hg6
          go_still_tail 9, (by kernel_rfl)
          change wpList _ _ _ _ _ W5.drew
          go_wp2_with fail
          clear hr6 c0 c1 c2 c3 H5 F5
          have hh6 := H6.out
          obtain ⟨c0, c1, c2, c3⟩ := hh6.cells
          have f1 : w6.frozen? ⟨sb, 1, none⟩ = false := free_block hh6.hs 1
          simp only at c0 c1 c2 c3
          clear hh6
          have hrz : ((s.room : Int) == 0) = false := by rw [beq_eq_false_iff_ne]; have := HK.out.pos; omega
          have hw1 : IntKind.i64.wrap ((s.at_ : Int) + 1) = (s.at_ : Int) + 1 := IntWalk.i64_in _ (by omega)
          have hap : 0 ≤ (s.at_ : Int) + 1 := by omega
          go_region
          have hrm : ((s.at_ : Int) + 1) % s.room = ((s.at_ + 1) % s.room : Nat) := by rw [Int.natCast_emod, Int.natCast_add]; rfl
          rw [hrm]
          have H7 := hide (((H6.out.set_at ((s.at_ + 1) % s.room))).le (Le.refl _).drew)
          have F7 := hide ((F6.out.setCell (p := ⟨sb, 1, none⟩) (.inl rfl) (.int .i64 ((s.at_ + 1) % s.room : Nat))).drew)
          generalize (w6.setCell ⟨sb, 1, none⟩ (.int .i64 ((s.at_ + 1) % s.room : Nat))).drew = W7 at *
          clear c0 c1 c2 c3 f1 hrm hrz hw1 hap H6 F6
          have hh7 := H7.out
          simp only at hh7
          replace H7 := hide hh7
          obtain ⟨c0, c1, c2, c3⟩ := hh7.cells
          have f2 : W7.frozen? ⟨sb, 2, none⟩ = false := free_block hh7.hs 2
          simp only at c0 c1 c2 c3
          clear hh7
          have hnn := HK.out.n
          have hw2 : IntKind.i64.wrap ((s.n : Int) + 1) = (s.n : Int) + 1 := IntWalk.i64_in _ (by omega)
          have HG := hide (fun W (h : StAt W sb rb mb (c + 1) ⟨s.room, s.ring.set s.at_ (seq, bl), (s.at_ + 1) % s.room, min (s.n + 1) s.room, mupd s.wh1 seq (some s.at_)⟩ (vs.set s.at_ (.slice (some ⟨g, 0, none⟩) bl.length bl.length))) => (show ∃ vs', StAt W sb rb mb (c + 1) (s.add seq bl) vs' from ⟨_, h⟩))
          by_cases hlt : s.n + 1 ≤ s.room
          · have hm : min (s.n + 1) s.room = s.n + 1 := Nat.min_eq_left hlt
            rw [hm] at HG
            clear hm
            have hle1 : ((s.n : Int) + 1) ≤ s.room := by omega
            go_wp2_with fail
            go_region
            go_end0
            exact ⟨rfl, HG.out _ ((H7.out.set_n (s.n + 1)).le (Le.refl _).drew), (F7.out.setCell (p := ⟨sb, 2, none⟩) (.inl rfl) _).drew⟩
          · have hm : min (s.n + 1) s.room = s.room := Nat.min_eq_right (by omega)
            rw [hm] at HG
            clear hm
            have hle1 : ¬ ((s.n : Int) + 1) ≤ s.room := by omega
            have hle2 : (s.room : Int) < ((s.n : Int) + 1) := by omega
            go_wp2_with fail
            go_region
            go_end0
            exact ⟨rfl, HG.out _ ((H7.out.set_n s.room).le (Le.refl _).drew), (F7.out.setCell (p := ⟨sb, 2, none⟩) (.inl rfl) _).drew⟩
end Go.Proofs.Ytekioihjfggmdaa

/- serial: numbers that go round. -/
namespace Go.Proofs.Ytekioihjfggmdaa
open Go.RowKit
set_option linter.unusedVariables false

theorem from16_any (a b : Nat) (ha : a < 65536) (hb : b < 65536) (w : World) : Calls Try.prog 97 #[.int .u16 a, .int .u16 b, .int .i64 32768] w fun e w' => e = .returned (.int .i64 (fromN 65536 a b)) ∧ w' = w := by
  obtain ⟨D, hD⟩ := Int.eq_ofNat_of_zero_le (Int.emod_nonneg ((b : Int) - a) (show (65536 : Int) ≠ 0 by omega))
  have hD2 : D < 65536 := by have := Int.emod_lt_of_pos ((b : Int) - a) (show (0 : Int) < 65536 by omega); omega
  have h1 : IntKind.u16.wrap ((b : Int) - a) = D := by
    rw [← hD]
    simp [IntKind.wrap, IntKind.signed, IntKind.bits]
  have h3 : IntKind.i64.wrap (D : Int) = D := IntWalk.i64_in _ (by omega)
  have h4 : IntKind.i64.wrap ((D : Int) - 65536) = (D : Int) - 65536 := IntWalk.i64_in _ (by omega)
  have hf : fromN 65536 a b = if 32768 ≤ D then (D : Int) - 65536 else D := by
    unfold fromN
    rw [show (((65536 : Nat) : Int)) = 65536 from rfl, hD]
    by_cases h : 32768 ≤ D
    · rw [if_pos h, if_pos (by omega)]
    · rw [if_neg h, if_neg (by omega)]
  by_cases h : 32768 ≤ D
  · rw [hf, if_pos h]
    have hI : (32768 : Int) ≤ (D : Int) := by omega
    clear hf h
    go_enter Try.func97, Try.ntmps97
    go_wp2_with go_in
    go_ret
    exact ⟨rfl, rfl⟩
  · rw [hf, if_neg h]
    have hI : ¬ (32768 : Int) ≤ (D : Int) := by omega
    clear hf h
    go_enter Try.func97, Try.ntmps97
    go_wp2_with go_in
    go_ret
    exact ⟨rfl, rfl⟩
theorem from32_any (a b : Nat) (ha : a < 4294967296) (hb : b < 4294967296) (w : World) : Calls Try.prog 78 #[.int .u32 a, .int .u32 b, .int .i64 2147483648] w fun e w' => e = .returned (.int .i64 (fromN 4294967296 a b)) ∧ w' = w := by
  obtain ⟨D, hD⟩ := Int.eq_ofNat_of_zero_le (Int.emod_nonneg ((b : Int) - a) (show (4294967296 : Int) ≠ 0 by omega))
  have hD2 : D < 4294967296 := by have := Int.emod_lt_of_pos ((b : Int) - a) (show (0 : Int) < 4294967296 by omega); omega
  have h1 : IntKind.u32.wrap ((b : Int) - a) = D := by
    rw [← hD]
    simp [IntKind.wrap, IntKind.signed, IntKind.bits]
  have h3 : IntKind.i64.wrap (D : Int) = D := IntWalk.i64_in _ (by omega)
  have h4 : IntKind.i64.wrap ((D : Int) - 4294967296) = (D : Int) - 4294967296 := IntWalk.i64_in _ (by omega)
  have hf : fromN 4294967296 a b = if 2147483648 ≤ D then (D : Int) - 4294967296 else D := by
    unfold fromN
    rw [show (((4294967296 : Nat) : Int)) = 4294967296 from rfl, hD]
    by_cases h : 2147483648 ≤ D
    · rw [if_pos h, if_pos (by omega)]
    · rw [if_neg h, if_neg (by omega)]
  by_cases h : 2147483648 ≤ D
  · rw [hf, if_pos h]
    have hI : (2147483648 : Int) ≤ (D : Int) := by omega
    clear hf h
    go_enter Try.func78, Try.ntmps78
    go_wp2_with go_in
    go_ret
    exact ⟨rfl, rfl⟩
  · rw [hf, if_neg h]
    have hI : ¬ (2147483648 : Int) ≤ (D : Int) := by omega
    clear hf h
    go_enter Try.func78, Try.ntmps78
    go_wp2_with go_in
    go_ret
    exact ⟨rfl, rfl⟩
theorem fromN16_range (a b : Nat) : -32768 ≤ fromN 65536 a b ∧ fromN 65536 a b < 32768 := by
  unfold fromN
  have h1 := Int.emod_nonneg ((b : Int) - a) (show (65536 : Int) ≠ 0 by omega)
  have h2 := Int.emod_lt_of_pos ((b : Int) - a) (show (0 : Int) < 65536 by omega)
  rw [show (((65536 : Nat) : Int)) = 65536 from rfl]
  split <;> omega
theorem near16_any (last : Int) (x : Nat) (hx : x < 65536) (h1 : -4611686018427387904 ≤ last) (h2 : last ≤ 4611686018427387904) (w : World) : Calls Try.prog 95 #[.int .i64 last, .int .u16 x] w fun e w' => e = .returned (.int .i64 (near16 last x)) ∧ w' = w := by
  obtain ⟨D, hD⟩ := Int.eq_ofNat_of_zero_le (Int.emod_nonneg last (show (65536 : Int) ≠ 0 by omega))
  have hD2 : D < 65536 := by have := Int.emod_lt_of_pos last (show (0 : Int) < 65536 by omega); omega
  have hw : IntKind.u16.wrap last = D := by
    rw [← hD]
    simp [IntKind.wrap, IntKind.signed, IntKind.bits]
  have hn : near16 last x = last + fromN 65536 D x := by rw [near16, hD, Int.toNat_natCast]
  have hr := fromN16_range D x
  have HF := hide (fun W => from16_any D x hD2 hx W)
  rw [hn]
  generalize fromN 65536 D x = F at *
  have hw2 : IntKind.i64.wrap (last + F) = last + F := IntWalk.i64_in _ (by omega)
  clear hn
  go_enter Try.func95, Try.ntmps95
  go_wp2_with fail
  refine (HF.out w).mono ?_
  rintro e w' ⟨rfl, rfl⟩
  go_wp2_with fail
  go_ret
  exact ⟨rfl, rfl⟩
theorem fromN32_range (a b : Nat) : -2147483648 ≤ fromN 4294967296 a b ∧ fromN 4294967296 a b < 2147483648 := by
  unfold fromN
  have h1 := Int.emod_nonneg ((b : Int) - a) (show (4294967296 : Int) ≠ 0 by omega)
  have h2 := Int.emod_lt_of_pos ((b : Int) - a) (show (0 : Int) < 4294967296 by omega)
  rw [show (((4294967296 : Nat) : Int)) = 4294967296 from rfl]
  split <;> omega
theorem from32x_any (a b : Nat) (ha : a < 4294967296) (hb : b < 4294967296) (w : World) : Calls Try.prog 46 #[.int .u32 a, .int .u32 b] w fun e w' => e = .returned (.int .i64 (fromN 4294967296 a b)) ∧ w' = w := by
  have HF := hide (fun W => from32_any a b ha hb W)
  have hr := fromN32_range a b
  generalize fromN 4294967296 a b = F at *
  have hw : IntKind.i64.wrap F = F := IntWalk.i64_in _ (by omega)
  go_enter Try.func46, Try.ntmps46
  go_wp2_with fail
  refine (HF.out w).mono ?_
  rintro e w' ⟨rfl, rfl⟩
  go_wp2_with fail
  go_ret
  exact ⟨rfl, rfl⟩
theorem less32_any (a b : Nat) (ha : a < 4294967296) (hb : b < 4294967296) (w : World) : Calls Try.prog 23 #[.int .u32 a, .int .u32 b] w fun e w' => e = .returned (.bool (less32 a b)) ∧ w' = w := by
  have HF := hide (fun W => from32x_any a b ha hb W)
  have hd : less32 a b = decide (0 < fromN 4294967296 a b) := rfl
  rw [hd]
  generalize fromN 4294967296 a b = F at *
  clear hd
  go_enter Try.func23, Try.ntmps23
  go_wp2_with fail
  refine (HF.out w).mono ?_
  rintro e w' ⟨rfl, rfl⟩
  go_wp2_with fail
  go_ret
  exact ⟨rfl, rfl⟩
end Go.Proofs.Ytekioihjfggmdaa
