/- Vp8Ignores: the law's walk. -/
import Derived.Test.YtkbdbandeioibaaLaw07
import Derived.Test.YtkbdbandeioibaaMake
import Derived.Test.YtkbdbandeioibaaVp8E
import Derived.Laws.CopyOwn
import Derived.Laws.BitsAll
namespace Go.Proofs.Ytkbdbandeioibaa
open Go.RowKit
set_option linter.unusedVariables false

set_option maxRecDepth 100000 in
theorem head_xor (x y : Nat) (hx : x < 256) (hy : y < 256) : Dsc.head (x ^^^ (y &&& 72)) = Dsc.head x ∧ bt (x ^^^ (y &&& 72)) 128 = bt x 128 ∧ x ^^^ (y &&& 72) < 256 := by
  have h1 : ∀ y, y < 256 → y &&& 72 = 0 ∨ y &&& 72 = 8 ∨ y &&& 72 = 64 ∨ y &&& 72 = 72 := by decide
  have h2 : ∀ x, x < 256 → Dsc.head (x ^^^ 8) = Dsc.head x ∧ bt (x ^^^ 8) 128 = bt x 128 ∧ x ^^^ 8 < 256 := by decide
  have h3 : ∀ x, x < 256 → Dsc.head (x ^^^ 64) = Dsc.head x ∧ bt (x ^^^ 64) 128 = bt x 128 ∧ x ^^^ 64 < 256 := by decide
  have h4 : ∀ x, x < 256 → Dsc.head (x ^^^ 72) = Dsc.head x ∧ bt (x ^^^ 72) 128 = bt x 128 ∧ x ^^^ 72 < 256 := by decide
  rcases h1 y hy with h | h | h | h
  · rw [h]; simpa using hx
  · rw [h]; exact h2 x hx
  · rw [h]; exact h3 x hx
  · rw [h]; exact h4 x hx
set_option maxRecDepth 1000000 in
theorem has_xor (x y : Nat) (hx : x < 256) (hy : y < 256) : (bt (x ^^^ (y &&& 15)) 128 = bt x 128 ∧ bt (x ^^^ (y &&& 15)) 64 = bt x 64 ∧ bt (x ^^^ (y &&& 15)) 32 = bt x 32 ∧ bt (x ^^^ (y &&& 15)) 16 = bt x 16) ∧ x ^^^ (y &&& 15) < 256 := by
  have h1 : ∀ y, y < 256 → y &&& 15 < 16 := by decide
  have h2 : ∀ m, m < 16 → ∀ x, x < 256 → (bt (x ^^^ m) 128 = bt x 128 ∧ bt (x ^^^ m) 64 = bt x 64 ∧ bt (x ^^^ m) 32 = bt x 32 ∧ bt (x ^^^ m) 16 = bt x 16) ∧ x ^^^ m < 256 := by decide +kernel
  exact h2 _ (h1 y hy) x hx
theorem vp_same (x0 y0 x1 y1 : UInt8) (t : List UInt8) (h0 : Dsc.head y0.toNat = Dsc.head x0.toNat) (hm : bt y0.toNat 128 = bt x0.toNat 128) (h1 : bt x0.toNat 128 = true → ∀ d : Dsc, d.has y1.toNat = d.has x1.toNat) :
    vpV (y0 :: y1 :: t) = vpV (x0 :: x1 :: t) := by
  cases hb : bt x0.toNat 128
  · have e1 := lone_parse x0 (x1 :: t) hb
    have e2 := lone_parse y0 (y1 :: t) (by rw [hm]; exact hb)
    rw [vpV, vpV, vpD, vpD, vpN, vpN, vpE, vpE, e1, e2, h0]
    rfl
  · have h2 := h1 hb
    have e : vpParse (y0 :: y1 :: t) = vpParse (x0 :: x1 :: t) := by
      rw [vpParse, vpParse, by1_cons, by1_cons, hm, hb, if_pos rfl, if_pos rfl]
      have e1 : rd1 (x0 :: x1 :: t) = ⟨(Dsc.head x0.toNat).has x1.toNat, 0, 0, (t, 0)⟩ := by simp [rd1, rd0, by1_cons, tk_cons]
      have e2 : rd1 (y0 :: y1 :: t) = ⟨(Dsc.head y0.toNat).has y1.toNat, 0, 0, (t, 0)⟩ := by simp [rd1, rd0, by1_cons, tk_cons]
      rw [e1, e2, h0, h2]
      rfl
    rw [vpV, vpV, vpD, vpD, vpN, vpN, vpE, vpE, e]
    rfl

theorem desc_eq_self (more lone start : Bool) (part : Nat) (hasPic wide : Bool) (pic : Nat) (hasTl0 : Bool) (tl0 : Nat) (hasTid : Bool) (tid : Nat) (sync hasKey : Bool) (key : Nat) (w : World) :
    (Op.equalIn 10000 49 (.agg #[.bool more, .bool lone, .bool start, .int .u8 part, .bool hasPic, .bool wide, .int .u16 pic, .bool hasTl0, .int .u8 tl0, .bool hasTid, .int .u8 tid, .bool sync, .bool hasKey, .int .u8 key]) (.agg #[.bool more, .bool lone, .bool start, .int .u8 part, .bool hasPic, .bool wide, .int .u16 pic, .bool hasTl0, .int .u8 tl0, .bool hasTid, .int .u8 tid, .bool sync, .bool hasKey, .int .u8 key])).run Try.prog w = .ok true w := by
  have h := desc_eq ⟨more, lone, start, part, hasPic, wide, pic, hasTl0, tl0, hasTid, tid, sync, hasKey, key⟩ ⟨more, lone, start, part, hasPic, wide, pic, hasTl0, tl0, hasTid, tid, sync, hasKey, key⟩ w
  simpa [Dsc.val] using h
theorem desc_eql_self (more lone start : Bool) (part : Nat) (hasPic wide : Bool) (pic : Nat) (hasTl0 : Bool) (tl0 : Nat) (hasTid : Bool) (tid : Nat) (sync hasKey : Bool) (key : Nat) (w : World) :
    (binOp .eql 49 (.agg #[.bool more, .bool lone, .bool start, .int .u8 part, .bool hasPic, .bool wide, .int .u16 pic, .bool hasTl0, .int .u8 tl0, .bool hasTid, .int .u8 tid, .bool sync, .bool hasKey, .int .u8 key]) (.agg #[.bool more, .bool lone, .bool start, .int .u8 part, .bool hasPic, .bool wide, .int .u16 pic, .bool hasTl0, .int .u8 tl0, .bool hasTid, .int .u8 tid, .bool sync, .bool hasKey, .int .u8 key])).run Try.prog w = .ok (.bool true) w := by
  rw [run_eql_struct, desc_eq_self]
  rfl

set_option maxRecDepth 100000 in
set_option maxHeartbeats 4000000 in
theorem vp8Ignores_walk (w : World) (l : List UInt8) (A : Option Addr) (n cap : Nat) (hr : RSl 1 RU8 w l (.slice A n cap)) (x : Nat) (hx : x < 256) : Calls Try.prog 13 #[.slice A n cap, .int .u8 x] w (Gives w (.bool true)) := by
  have HR := hide hr
  obtain ⟨A', cap', hv, hcap, hi⟩ := hr
  injection hv with e1 e2 e3
  subst e1 e2 e3
  have HI := hide hi
  clear hi
  go_enter Try.func13, Try.ntmps13
  go_wp2_with fail
  refine (awake07 _).mono ?_
  rintro r w1 ⟨rfl, hb1⟩
  have hl1 : Le w w1 := ⟨hb1⟩
  clear hb1
  by_cases hbig : 300 < l.length
  · go_wp2_with fail
    go_ret
    exact ⟨rfl, hl1.out⟩
  have hn1 : ¬ (300 : Int) < (l.length : Int) := by omega
  by_cases hsm : l.length < 2
  · have hn2 : (l.length : Int) < 2 := by omega
    go_wp2_with fail
    go_ret
    exact ⟨rfl, hl1.out⟩
  have hn2 : ¬ (l.length : Int) < 2 := by omega
  obtain ⟨x0, x1, t, rfl⟩ : ∃ x0 x1 t, l = x0 :: x1 :: t := by
    match l, hsm with
    | x0 :: x1 :: t, _ => exact ⟨x0, x1, t, rfl⟩
    | [_], h => exact absurd (by simp) h
    | [], h => exact absurd (by simp) h
  generalize hL : x0 :: x1 :: t = L at *
  have hll : L.length ≤ 300 := by omega
  have hl2 : 2 ≤ L.length := by omega
  have HR1 := hide (hl1.rsl keeps_u8 HR.out)
  go_wp2_with (at_make; go_must (refine wpl_make rfl sl8 (.tmp 25) (.tmp 25) rfl rfl rfl (by omega) (by omega) ?_))
  intro w2 ho2 hle2
  have hg2 : w2.heap[w1.heap.size]? = some (.cells (u8s (List.replicate L.length 0)).toArray 5 (0, 0)) := by
    rcases ho2.2 with ⟨hv, _⟩ | ⟨g, c', cur, hv, _, hh, _, _, hcs, ht⟩
    · cases hv
    · injection hv with e1 e2 e3
      injection e1 with e1
      injection e1 with e1 _ _
      subst e1 e3
      have hm : (madeCells #[Value.int .u8 0] L.length).toList = u8s (List.replicate L.length 0) := by
        have h := made_u8 L.length
        rw [Nat.mul_one] at h
        exact h
      rw [List.take_of_length_le (by simp [hcs]), hm] at ht
      rw [hh, ← ht]
  have HG2 := hide hg2
  have HR2 := hide (hle2.rsl keeps_u8 HR1.out)
  have hps : 0 < (u8s L).length → (some (⟨w1.heap.size, 0, none⟩ : Addr)) = some ⟨w1.heap.size, 0, none⟩ ∧ ∃ ad, A = some ad ∧ ∀ j v, (u8s L)[j]? = some v → w2.cell? (ad.add j) = some v := by
    intro hne
    obtain ⟨b, off, hA, hc⟩ := cells_of_rsl HR2.out (by intro e; rw [e] at hne; simp at hne)
    exact ⟨rfl, _, hA, fun j v hj => by rw [addr_add]; exact hc j v hj⟩
  have HPS := hide hps
  have HB2 := hide hle2.out
  clear ho2 hle2 hg2 hps
  go_upto_region 8 with (refine wpList_copy_splice rfl (.tmp 27) (.tmp 28) 26 26 rfl 5 Try.underlying26 (by kernel_rfl) _ _ _ _ _ _ rfl rfl w1.heap.size 0 (u8s (List.replicate L.length 0)) 5 HG2.out (u8s L) (by simp [u8s]) HPS.out (by simp [u8s]) u8s_one w1.heap.size w1 HB2.out (Nat.le_refl _) ?_; intro w3 hg3 hb3)
  have hg3' : w3.heap[w1.heap.size]? = some (.cells (u8s L).toArray 5 (0, 0)) := by
    have h : w3.heap[w1.heap.size]? = some (.cells (splice (u8s (List.replicate L.length 0)) 0 (u8s L)).toArray 5 (0, 0)) := hg3
    rw [h]
    simp [splice, u8s]
  have hc3 : w3.ownsRow w1.heap.size 5 1 (.slice (some ⟨w1.heap.size, 0, none⟩) L.length L.length) L.length (u8s L) :=
    ⟨by simp [u8s], .inr ⟨w1.heap.size, L.length, _, rfl, Nat.le_refl _, hg3', Nat.le_refl _, by simp only [maxLen]; omega, by simp [u8s], by rw [Nat.mul_one]; exact List.take_of_length_le (by simp [u8s])⟩⟩
  have HC3 := hide hc3
  have HB3 := hide hb3
  clear hg3 hb3 hg3' hc3 HG2 HPS HB2
  have hx0 := x0.toNat_lt
  have hx1 := x1.toNat_lt
  obtain ⟨hh1, hh2, hh3⟩ := head_xor x0.toNat x (by omega) hx
  obtain ⟨hh4, hh5⟩ := has_xor x1.toNat x (by omega) hx
  have ha72 : bits .and .u8 (x : Int) 72 = ((x &&& 72 : Nat) : Int) := u8_and_nat x 72 hx (by omega)
  have ha15 : bits .and .u8 (x : Int) 15 = ((x &&& 15 : Nat) : Int) := u8_and_nat x 15 hx (by omega)
  have hm72 : x &&& 72 < 256 := Nat.lt_of_le_of_lt Nat.and_le_left hx
  have hm15 : x &&& 15 < 256 := Nat.lt_of_le_of_lt Nat.and_le_left hx
  have hx72 := u8_xor_nat x0.toNat (x &&& 72) (by omega) hm72
  have hx15 := u8_xor_nat x1.toNat (x &&& 15) (by omega) hm15
  generalize x &&& 72 = m0 at *
  generalize x &&& 15 = m1 at *
  obtain ⟨V0, hV0⟩ : ∃ V0, V0 = x0.toNat ^^^ m0 := ⟨_, rfl⟩
  obtain ⟨V1, hV1⟩ : ∃ V1, V1 = x1.toNat ^^^ m1 := ⟨_, rfl⟩
  rw [← hV0] at hh1 hh2 hh3 hx72
  rw [← hV1] at hh4 hh5 hx15
  have cb : w3.cell? ⟨w1.heap.size, 0, none⟩ = some (.int .u8 (x0.toNat : Nat)) := by
    rw [HC3.out.cellAt 0 (by omega), ← hL]
    simp [u8s]
  have fb := HC3.out.frozenAt 0
  have HF := hide (And.intro hh1 (And.intro hh2 hh4))
  clear hV0 hV1 hm72 hm15 hh1 hh2 hh4
  have hpos : (0 : Int) < (L.length : Int) := by omega
  have hpos1 : (1 : Int) < (L.length : Int) := by omega
  have ho4 := own_put HC3.out 0 (V0 : Nat) V0 rfl hh3
  have HB4 := hide (HB3.out.setCell (p := ⟨w1.heap.size, 0, none⟩) (Nat.le_refl _) (.int .u8 (V0 : Nat)))
  go_upto_region 9 with fail
  generalize w3.setCell ⟨w1.heap.size, 0, none⟩ (.int .u8 (V0 : Nat)) = w4 at *
  clear cb fb HC3 HB3
  obtain ⟨bb, off, rfl, hi⟩ := HI.out (by intro e; rw [e] at hl2; simp at hl2)
  obtain ⟨cs, _, hc, hR⟩ := hi 0 (by omega)
  have c0A := hc 0 (by omega)
  have e0 : L[0]'(by omega) = x0 := by subst hL; rfl
  rw [show cs = [.int .u8 (L[0]'(by omega)).toNat] from hR, e0] at c0A
  simp only [Nat.mul_one, Nat.add_zero, List.getElem?_cons_zero] at c0A
  have c0B := (hl1.trans (Le.mk HB4.out)).cell c0A
  have cb1 : w4.cell? ⟨w1.heap.size, 1, none⟩ = some (.int .u8 (x1.toNat : Nat)) := by
    rw [ho4.cellAt 1 (by omega), ← hL]
    simp [u8s]
  have fb1 := ho4.frozenAt 1
  have HO4 := hide ho4
  clear ho4 hc hR hi c0A
  have ht0 : (UInt8.ofNat V0).toNat = V0 := by rw [UInt8.toNat_ofNat']; omega
  have ht1 : (UInt8.ofNat V1).toNat = V1 := by rw [UInt8.toNat_ofNat']; omega
  rcases Nat.lt_or_ge x0.toNat 128 with h128 | h128
  · have h128I : ¬ (128 : Int) ≤ (x0.toNat : Int) := by omega
    go_upto_region 11 with fail
    have hCl : (L.set 0 (UInt8.ofNat V0)).length = L.length := by simp
    have hV : vpV (L.set 0 (UInt8.ofNat V0)) = vpV L := by
      rw [← hL]
      refine vp_same x0 (UInt8.ofNat V0) x1 x1 t (by rw [ht0]; exact HF.out.1) (by rw [ht0]; exact HF.out.2.1) (fun h => ?_)
      rw [bt] at h
      have := of_decide_eq_true h
      omega
    have hoC := HO4.out
    have hBW := HB4.out
    generalize L.set 0 (UInt8.ofNat V0) = C at *
    generalize w4 = W at *
    have hleW := hl1.trans (Le.mk hBW)
    clear cb1 fb1 c0B HO4 HB4
    have hpb := parseX_any (some ⟨bb, off, none⟩) cap L W (hleW.rsl keeps_u8 HR.out) (by omega)
    have hcr := rsl_of_own hoC
    have hpc := fun W' (hW : Le W W') => parseX_any (some ⟨w1.heap.size, 0, none⟩) L.length C W' (hW.rsl keeps_u8 (by rw [hCl]; exact hcr)) (by omega)
    rw [hCl, hV] at hpc
    have HLW := hide (Le.mk hBW)
    clear hoC hCl hV hcr hBW
    rw [vpV] at hpb hpc
    generalize vpD L = d at *
    generalize vpN L = nn at *
    generalize vpE L = ee at *
    obtain ⟨more, lone, start, part, hasPic, wide, pic, hasTl0, tl0, hasTid, tid, sync, hasKey, key⟩ := d
    simp only [Dsc.val] at hpb hpc
    have HPC := hide hpc
    have HPB := hide hpb
    clear hpb hpc
    go_wp2_with fail
    refine HPB.out.mono ?_
    rintro r w6 ⟨rfl, hb6⟩
    have hz := heap_alloc_new w6 (.cells #[.bool more, .bool lone, .bool start, .int .u8 part, .bool hasPic, .bool wide, .int .u16 pic, .bool hasTl0, .int .u8 tl0, .bool hasTid, .int .u8 tid, .bool sync, .bool hasKey, .int .u8 key] 49)
    have HL6 := hide ((Le.mk hb6).alloc (.cells #[.bool more, .bool lone, .bool start, .int .u8 part, .bool hasPic, .bool wide, .int .u16 pic, .bool hasTl0, .int .u8 tl0, .bool hasTid, .int .u8 tid, .bool sync, .bool hasKey, .int .u8 key] 49))
    clear hb6 HPB
    go_wp2_with fail
    generalize w6.alloc (.cells #[.bool more, .bool lone, .bool start, .int .u8 part, .bool hasPic, .bool wide, .int .u16 pic, .bool hasTl0, .int .u8 tl0, .bool hasTid, .int .u8 tid, .bool sync, .bool hasKey, .int .u8 key] 49) = w7 at *
    generalize w6.heap.size = p7 at *
    have HZ := hide hz
    clear hz
    refine (HPC.out w7 HL6.out).mono ?_
    rintro r w8 ⟨rfl, hb8⟩
    have hl8 := Le.mk hb8
    have hl9 := (Le.refl w8).alloc (.cells #[.bool more, .bool lone, .bool start, .int .u8 part, .bool hasPic, .bool wide, .int .u16 pic, .bool hasTl0, .int .u8 tl0, .bool hasTid, .int .u8 tid, .bool sync, .bool hasKey, .int .u8 key] 49)
    have c0 := (hl8.trans hl9).cell (box_cell HZ.out 0 (.bool more) rfl w7 (Le.refl w7))
    have c1 := (hl8.trans hl9).cell (box_cell HZ.out 1 (.bool lone) rfl w7 (Le.refl w7))
    have c2 := (hl8.trans hl9).cell (box_cell HZ.out 2 (.bool start) rfl w7 (Le.refl w7))
    have c3 := (hl8.trans hl9).cell (box_cell HZ.out 3 (.int .u8 part) rfl w7 (Le.refl w7))
    have c4 := (hl8.trans hl9).cell (box_cell HZ.out 4 (.bool hasPic) rfl w7 (Le.refl w7))
    have c5 := (hl8.trans hl9).cell (box_cell HZ.out 5 (.bool wide) rfl w7 (Le.refl w7))
    have c6 := (hl8.trans hl9).cell (box_cell HZ.out 6 (.int .u16 pic) rfl w7 (Le.refl w7))
    have c7 := (hl8.trans hl9).cell (box_cell HZ.out 7 (.bool hasTl0) rfl w7 (Le.refl w7))
    have c8 := (hl8.trans hl9).cell (box_cell HZ.out 8 (.int .u8 tl0) rfl w7 (Le.refl w7))
    have c9 := (hl8.trans hl9).cell (box_cell HZ.out 9 (.bool hasTid) rfl w7 (Le.refl w7))
    have c10 := (hl8.trans hl9).cell (box_cell HZ.out 10 (.int .u8 tid) rfl w7 (Le.refl w7))
    have c11 := (hl8.trans hl9).cell (box_cell HZ.out 11 (.bool sync) rfl w7 (Le.refl w7))
    have c12 := (hl8.trans hl9).cell (box_cell HZ.out 12 (.bool hasKey) rfl w7 (Le.refl w7))
    have c13 := (hl8.trans hl9).cell (box_cell HZ.out 13 (.int .u8 key) rfl w7 (Le.refl w7))
    have heq1 := fun W => desc_eq_self more lone start part hasPic wide pic hasTl0 tl0 hasTid tid sync hasKey key W
    have heq2 := fun W => desc_eql_self more lone start part hasPic wide pic hasTl0 tl0 hasTid tid sync hasKey key W
    have hgu := desc_guard
    have HLF := hide (HLW.out.trans (HL6.out.trans (hl8.trans hl9)))
    clear hl8 hl9 hb8
    go_wp2_with fail
    go_ret
    exact ⟨rfl, (hl1.trans HLF.out).out⟩
  · have h128I : (128 : Int) ≤ (x0.toNat : Int) := by omega
    go_upto_region 11 with fail
    have hoC := own_put HO4.out 1 (V1 : Nat) V1 rfl hh5
    have hBW := HB4.out.setCell (p := ⟨w1.heap.size, 1, none⟩) (Nat.le_refl _) (.int .u8 (V1 : Nat))
    have hCl : ((L.set 0 (UInt8.ofNat V0)).set 1 (UInt8.ofNat V1)).length = L.length := by simp
    have hV : vpV ((L.set 0 (UInt8.ofNat V0)).set 1 (UInt8.ofNat V1)) = vpV L := by
      rw [← hL]
      refine vp_same x0 (UInt8.ofNat V0) x1 (UInt8.ofNat V1) t (by rw [ht0]; exact HF.out.1) (by rw [ht0]; exact HF.out.2.1) (fun _ d => ?_)
      rw [ht1, Dsc.has, Dsc.has, HF.out.2.2.1, HF.out.2.2.2.1, HF.out.2.2.2.2.1, HF.out.2.2.2.2.2]
    generalize (L.set 0 (UInt8.ofNat V0)).set 1 (UInt8.ofNat V1) = C at *
    generalize w4.setCell ⟨w1.heap.size, 1, none⟩ (.int .u8 (V1 : Nat)) = W at *
    have hleW := hl1.trans (Le.mk hBW)
    clear cb1 fb1 c0B HO4 HB4
    have hpb := parseX_any (some ⟨bb, off, none⟩) cap L W (hleW.rsl keeps_u8 HR.out) (by omega)
    have hcr := rsl_of_own hoC
    have hpc := fun W' (hW : Le W W') => parseX_any (some ⟨w1.heap.size, 0, none⟩) L.length C W' (hW.rsl keeps_u8 (by rw [hCl]; exact hcr)) (by omega)
    rw [hCl, hV] at hpc
    have HLW := hide (Le.mk hBW)
    clear hoC hCl hV hcr hBW
    rw [vpV] at hpb hpc
    generalize vpD L = d at *
    generalize vpN L = nn at *
    generalize vpE L = ee at *
    obtain ⟨more, lone, start, part, hasPic, wide, pic, hasTl0, tl0, hasTid, tid, sync, hasKey, key⟩ := d
    simp only [Dsc.val] at hpb hpc
    have HPC := hide hpc
    have HPB := hide hpb
    clear hpb hpc
    go_wp2_with fail
    refine HPB.out.mono ?_
    rintro r w6 ⟨rfl, hb6⟩
    have hz := heap_alloc_new w6 (.cells #[.bool more, .bool lone, .bool start, .int .u8 part, .bool hasPic, .bool wide, .int .u16 pic, .bool hasTl0, .int .u8 tl0, .bool hasTid, .int .u8 tid, .bool sync, .bool hasKey, .int .u8 key] 49)
    have HL6 := hide ((Le.mk hb6).alloc (.cells #[.bool more, .bool lone, .bool start, .int .u8 part, .bool hasPic, .bool wide, .int .u16 pic, .bool hasTl0, .int .u8 tl0, .bool hasTid, .int .u8 tid, .bool sync, .bool hasKey, .int .u8 key] 49))
    clear hb6 HPB
    go_wp2_with fail
    generalize w6.alloc (.cells #[.bool more, .bool lone, .bool start, .int .u8 part, .bool hasPic, .bool wide, .int .u16 pic, .bool hasTl0, .int .u8 tl0, .bool hasTid, .int .u8 tid, .bool sync, .bool hasKey, .int .u8 key] 49) = w7 at *
    generalize w6.heap.size = p7 at *
    have HZ := hide hz
    clear hz
    refine (HPC.out w7 HL6.out).mono ?_
    rintro r w8 ⟨rfl, hb8⟩
    have hl8 := Le.mk hb8
    have hl9 := (Le.refl w8).alloc (.cells #[.bool more, .bool lone, .bool start, .int .u8 part, .bool hasPic, .bool wide, .int .u16 pic, .bool hasTl0, .int .u8 tl0, .bool hasTid, .int .u8 tid, .bool sync, .bool hasKey, .int .u8 key] 49)
    have c0 := (hl8.trans hl9).cell (box_cell HZ.out 0 (.bool more) rfl w7 (Le.refl w7))
    have c1 := (hl8.trans hl9).cell (box_cell HZ.out 1 (.bool lone) rfl w7 (Le.refl w7))
    have c2 := (hl8.trans hl9).cell (box_cell HZ.out 2 (.bool start) rfl w7 (Le.refl w7))
    have c3 := (hl8.trans hl9).cell (box_cell HZ.out 3 (.int .u8 part) rfl w7 (Le.refl w7))
    have c4 := (hl8.trans hl9).cell (box_cell HZ.out 4 (.bool hasPic) rfl w7 (Le.refl w7))
    have c5 := (hl8.trans hl9).cell (box_cell HZ.out 5 (.bool wide) rfl w7 (Le.refl w7))
    have c6 := (hl8.trans hl9).cell (box_cell HZ.out 6 (.int .u16 pic) rfl w7 (Le.refl w7))
    have c7 := (hl8.trans hl9).cell (box_cell HZ.out 7 (.bool hasTl0) rfl w7 (Le.refl w7))
    have c8 := (hl8.trans hl9).cell (box_cell HZ.out 8 (.int .u8 tl0) rfl w7 (Le.refl w7))
    have c9 := (hl8.trans hl9).cell (box_cell HZ.out 9 (.bool hasTid) rfl w7 (Le.refl w7))
    have c10 := (hl8.trans hl9).cell (box_cell HZ.out 10 (.int .u8 tid) rfl w7 (Le.refl w7))
    have c11 := (hl8.trans hl9).cell (box_cell HZ.out 11 (.bool sync) rfl w7 (Le.refl w7))
    have c12 := (hl8.trans hl9).cell (box_cell HZ.out 12 (.bool hasKey) rfl w7 (Le.refl w7))
    have c13 := (hl8.trans hl9).cell (box_cell HZ.out 13 (.int .u8 key) rfl w7 (Le.refl w7))
    have heq1 := fun W => desc_eq_self more lone start part hasPic wide pic hasTl0 tl0 hasTid tid sync hasKey key W
    have heq2 := fun W => desc_eql_self more lone start part hasPic wide pic hasTl0 tl0 hasTid tid sync hasKey key W
    have hgu := desc_guard
    have HLF := hide (HLW.out.trans (HL6.out.trans (hl8.trans hl9)))
    clear hl8 hl9 hb8
    go_wp2_with fail
    go_ret
    exact ⟨rfl, (hl1.trans HLF.out).out⟩
end Go.Proofs.Ytkbdbandeioibaa
