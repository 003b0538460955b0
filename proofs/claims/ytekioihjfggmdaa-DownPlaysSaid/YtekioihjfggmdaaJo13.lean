/- Texts of one claim, laid together: RtpQ -/
import Derived.Test.YtekioihjfggmdaaJo12
/- rtp.Put. -/
namespace Go.Proofs.Ytekioihjfggmdaa
open Go.RowKit
set_option linter.unusedVariables false

set_option maxRecDepth 100000 in
set_option maxHeartbeats 1000000 in
theorem rtpPut_big (p : Pk) (hp : p.Ok) (A5 A6 A7 : Option Addr) (c5 c6 c7 : Nat) (w : World) (h : PkCtx w p A5 c5 A6 c6 A7 c7) (hm : p.may = true) (he : extErr p.exts = 0) (hEl : (extB p.exts).length ≤ 10000000) (hbig : (1500 : Int) < p.size + p.payload.length + p.pad) :
    Calls Try.prog 48 #[p.v A5 c5 A6 c6 A7 c7] w (PutV w [] 13) := by
  have HM := hide (fun W => pkMay_any p.mark p.type p.seq p.time p.ssrc A5 p.csrc.length c5 (.slice A6 p.exts.length c6) (.slice A7 p.payload.length c7) p.pad W)
  have HE := hide (fun W (hW : Le w W) => extPut_any p.exts A6 p.exts.length c6 W (h.le hW).exts hp.ne)
  have HS0 := hide (fun W (hW : Le w W) => pkSize_any p.mark p.type p.seq p.time p.ssrc A5 p.csrc.length c5 A6 c6 p.exts W (h.le hW).exts hp.ne hp.nc hEl)
  have hpm : 0 ≤ p.pad ∧ p.pad ≤ 255 ∧ p.csrc.length ≤ 15 := by
    rw [Pk.may] at hm
    simp only [mayN, Bool.and_eq_true, decide_eq_true_eq] at hm
    omega
  have hnp := hp.np
  rw [Pk.may] at hm
  rw [hm] at HM
  rw [he] at HE
  clear hm h hp he
  rw [Pk.v, Pk.val]
  have hsz : p.size = sizeN p.csrc.length p.exts := rfl
  have hszl : sizeN p.csrc.length p.exts ≤ 10000100 := by
    unfold sizeN
    split <;> omega
  rw [hsz] at hbig
  clear hsz
  generalize sizeN p.csrc.length p.exts = Z at *
  have hw1 : IntKind.i64.wrap ((Z : Int) + p.payload.length) = (Z : Int) + p.payload.length := IntWalk.i64_in _ (by omega)
  have hw2 : IntKind.i64.wrap ((Z : Int) + p.payload.length + p.pad) = (Z : Int) + p.payload.length + p.pad := IntWalk.i64_in _ (by omega)
  have hd : decide ((1500 : Int) < (Z : Int) + p.payload.length + p.pad) = true := decide_eq_true hbig
  have HW := hide (And.intro hw1 (And.intro hw2 hd))
  clear hw1 hw2 hbig hd
  go_enter Try.func48, Try.ntmps48
  go_wp2_with fail
  refine (HM.out _).mono ?_
  rintro e w1 ⟨rfl, hb⟩
  have HB := hide (show PkBox w w1 p A5 c5 A6 c6 A7 c7 from ⟨((Le.refl w).alloc _).trans ⟨hb⟩, (Le.mk hb).heap (heap_alloc_new w _)⟩)
  clear hb
  obtain ⟨a0, a1, a2, a3, a4, a5, a6, a7, a8⟩ := HB.out.cells
  go_wp2_with fail
  refine (HE.out _ HB.out.le).mono ?_
  rintro e w2 ⟨v, rfl, ho, hb⟩
  obtain ⟨A, cap, rfl, hcap, _⟩ := own_slice ho
  have HB2 := hide (HB.out.later ⟨hb⟩)
  clear hb ho a0 a1 a2 a3 a4 a5 a6 a7 a8 HB
  have HS := hide (fun W (hW : Le w2 W) => HS0.out W (HB2.out.le.trans hW))
  have HLE := hide (Le.refl w2).drew
  go_upto_region 6 with fail
  obtain ⟨hw1, hw2, hd⟩ := HW.out
  refine' wp_region_rows 11 26 Le (Is _ :: Is _ :: Is _ :: Is _ :: Is _ :: Is _ :: Is _ :: Is _ :: Is _ :: Is _ :: Is _ :: []) ([] :: [0] :: [1] :: [] :: [3] :: [4] :: [2, 5] :: [] :: [7] :: [6, 8] :: [9] :: []) (by kernel_rfl) (by kernel_rfl) (by rfl) (by kernel_rfl) Le.refl (fun _ _ _ h h' => h.trans h') ⟨St.is, St.is, St.is, St.is, St.is, St.is, St.is, St.is, St.is, St.is, St.is, trivial⟩ ?m6
  case m6 =>
    simp (maxSteps := 100000000) only [AllV, Obl2, Leans, factAt, allFacts, actOf, putAll, putRow, List.set_cons_succ, List.set_cons_zero, List.getElem?_cons_zero, List.getElem?_cons_succ, List.take_succ_cons, List.take_zero, List.drop_succ_cons, List.drop_zero, List.cons_append, List.nil_append, List.length_cons, List.length_nil, Nat.reduceAdd]
    intro x0 x1 x2 x3 x4 x5 x6 x7 x8 x9 x10
    refine ⟨⟨?_, ?_, ?_, ?_, ?_, ?_, ?_, ?_, ?_, ?_, ?_, trivial⟩, ?_⟩
    -- 0: 26 := Op.fieldAddr 46 t1 0
    · intro w hw  K hK; go_simp; exact hK _ _ (Le.refl _) (Is.mk _ _)
    -- 1: 27 := Op.load 43 t26
    · intro w hw h0 K hK; cases h0; have hle := HLE.out.trans hw; obtain ⟨a0, a1, a2, a3, a4, a5, a6, a7, a8⟩ := (HB2.out.later hle).cells; go_simp; exact hK _ _ (Le.refl _) (Is.mk _ _)
    -- 2: 28 := Op.call { value (Operand.func 81), args := #[t27], argTypes := #[43] }
    · intro w hw h1 K hK; cases h1; go_simp; refine (HS.out _ (HLE.out.trans hw)).mono ?_; rintro r w' ⟨rfl, hb'⟩; exact hK _ _ ⟨hb'⟩ (Is.mk _ _)
    -- 3: 29 := Op.fieldAddr 46 t1 1
    · intro w hw  K hK; go_simp; exact hK _ _ (Le.refl _) (Is.mk _ _)
    -- 4: 30 := Op.load 44 t29
    · intro w hw h3 K hK; cases h3; have hle := HLE.out.trans hw; obtain ⟨a0, a1, a2, a3, a4, a5, a6, a7, a8⟩ := (HB2.out.later hle).cells; go_simp; exact hK _ _ (Le.refl _) (Is.mk _ _)
    -- 5: 31 := Op.call { builtin len, args := #[t30], argTypes := #[44] }
    · intro w hw h4 K hK; cases h4; go_simp; exact hK _ _ (Le.refl _) (Is.mk _ _)
    -- 6: 32 := Op.binOp BinOp.add 3 t28 t31 3
    · intro w hw h2 h5 K hK; cases h2; cases h5; go_simp; exact hK _ _ (Le.refl _) (Is.mk _ _)
    -- 7: 33 := Op.fieldAddr 46 t1 2
    · intro w hw  K hK; go_simp; exact hK _ _ (Le.refl _) (Is.mk _ _)
    -- 8: 34 := Op.load 3 t33
    · intro w hw h7 K hK; cases h7; have hle := HLE.out.trans hw; obtain ⟨a0, a1, a2, a3, a4, a5, a6, a7, a8⟩ := (HB2.out.later hle).cells; go_simp; exact hK _ _ (Le.refl _) (Is.mk _ _)
    -- 9: 35 := Op.binOp BinOp.add 3 t32 t34 3
    · intro w hw h6 h8 K hK; cases h6; cases h8; go_simp; exact hK _ _ (Le.refl _) (Is.mk _ _)
    -- 10: 36 := Op.binOp BinOp.gtr 3 t35 (const (1500:i64)) 3
    · intro w hw h9 K hK; cases h9; go_simp; exact hK _ _ (Le.refl _) (Is.mk _ _)
    · intro wz hz h0 h1 h2 h3 h4 h5 h6 h7 h8 h9 h10; cases h0; cases h1; cases h2; cases h3; cases h4; cases h5; cases h6; cases h7; cases h8; cases h9; cases h10; skip
      clear hw1 hw2
      go_wp2_with fail
      go_ret2
      exact putV_bad (HB2.out.le.trans (HLE.out.trans hz))

theorem or_first : ∀ n : Nat, n ≤ 15 → bits .or .i64 (128 : Int) (n : Int) = ((128 + n : Nat) : Int) ∧ bits .or .i64 ((128 + n : Nat) : Int) (32 : Int) = ((160 + n : Nat) : Int) ∧ bits .or .i64 ((128 + n : Nat) : Int) (16 : Int) = ((144 + n : Nat) : Int) ∧ bits .or .i64 ((160 + n : Nat) : Int) (16 : Int) = ((176 + n : Nat) : Int) := by
  decide +kernel
theorem or_second (t : Nat) (h : t < 128) : bits .or .u64 (t : Int) (128 : Int) = ((t + 128 : Nat) : Int) := by
  have := bits_or_u64_nat t 128 (by omega) (by omega)
  rw [show ((128 : Nat) : Int) = 128 from rfl] at this
  rw [this, show t ||| 128 = 128 ||| t from Nat.or_comm _ _, show (128 : Nat) = 1 <<< 7 from rfl, ← Nat.shiftLeft_add_eq_or_of_lt (by omega)]
  congr 1
  omega
theorem be4_puts (x : Nat) : puts [(x, 4)] = be x 4 := by rw [puts_one]; exact putOne_be x 4 (by omega) (by omega)
theorem csB_take (l : List Nat) (k : Nat) (h : k < l.length) : csB (l.take (k + 1)) = csB (l.take k) ++ be l[k] 4 := by
  rw [csB, csB, List.take_succ_eq_append_getElem h, List.flatMap_append]
  simp
theorem csB_len (l : List Nat) : (csB l).length = 4 * l.length := by
  induction l with
  | nil => rfl
  | cons x l ih => rw [show csB (x :: l) = be x 4 ++ csB l by simp [csB], List.length_append, be_length, ih, List.length_cons]; omega
theorem head_len (p : Pk) : p.head.length = 12 := by
  simp [Pk.head, puts, putOne, mayB, be_length]

/-- bytes on their way -/
structure RpAt (W wr : World) (l : List UInt8) (v : Value) : Prop where
  le : Le W wr
  own : wr.ownsRow W.heap.size 5 1 v l.length (u8s l)

theorem own_ge {w : World} {base : Nat} {e : TypeId} {size n : Nat} {v : Value} {xs : List Value} (h : w.ownsRow base e size v n xs) : ∀ k, v.ownBlock = some k → base ≤ k := by
  intro k hk
  rcases h.2 with ⟨rfl, _⟩ | ⟨g, cap, cur, rfl, hb, _⟩
  · cases hk
  · injection hk with hk
    rw [← hk]
    exact hb
theorem RpAt.later {W wr wr' : World} {l : List UInt8} {v : Value} (h : RpAt W wr l v) (hl : Le wr wr') : RpAt W wr' l v := ⟨h.le.trans hl, hl.own h.own⟩
theorem RpAt.app {W wr w6 : World} {l m : List UInt8} {v v6 : Value} (h : RpAt W wr l v) (ho : w6.ownsRow W.heap.size 5 1 v6 (l.length + m.length) (u8s l ++ u8s m)) (hg : wr.grownBy w6 v.ownBlock) : RpAt W w6 (l ++ m) v6 :=
  ⟨⟨h.le.out.grown hg h.le.size (own_ge h.own)⟩, by rw [List.length_append, u8s_append]; exact ho⟩
theorem own_some {w : World} {base : Nat} {e : TypeId} {size n : Nat} {v : Value} {xs : List Value} (h : w.ownsRow base e size v n xs) (h0 : 0 < n) : ∃ g cap, v = .slice (some ⟨g, 0, none⟩) n cap := by
  rcases h.2 with ⟨_, h1⟩ | ⟨g, cap, cur, rfl, _⟩
  · omega
  · exact ⟨g, cap, rfl⟩
theorem prof_lt (l : List It) : extProf l < 65536 := by unfold extProf; split <;> (try split) <;> omega
theorem rnat_at {w : World} {q : IntKind} {l : List Nat} {b off n cap : Nat} (h : RSl 1 (RNat q) w l (.slice (some ⟨b, off, none⟩) n cap)) (k : Nat) (hk : k < l.length) : w.cell? ⟨b, off + k, none⟩ = some (.int q (l[k] : Nat)) := by
  obtain ⟨A', cap', hv, _, hi⟩ := h
  injection hv with e1 e2 e3
  obtain ⟨b', off', hA, hg⟩ := hi (by rintro rfl; simp at hk)
  rw [← e1] at hA
  injection hA with hA
  injection hA with h1 h2 _
  subst h1 h2
  obtain ⟨cs, _, hc, hR⟩ := hg k hk
  have hR : cs = [.int q (l[k] : Nat)] := hR
  have := hc 0 (by omega)
  rw [hR] at this
  simpa using this

set_option maxRecDepth 100000 in
set_option maxHeartbeats 4000000 in
theorem rtpPut_ok (p : Pk) (hp : p.Ok) (A5 A6 A7 : Option Addr) (c5 c6 c7 : Nat) (w : World) (h : PkCtx w p A5 c5 A6 c6 A7 c7) (hm : p.may = true) (he : extErr p.exts = 0) (hbig : ¬ (1500 : Int) < p.size + p.payload.length + p.pad) :
    Calls Try.prog 48 #[p.v A5 c5 A6 c6 A7 c7] w (PutV w p.bytes 0) := by
  have hEl : (extB p.exts).length ≤ 1500 := by
    by_cases hx : p.exts = []
    · rw [hx]; decide
    · rw [Pk.size, if_neg hx] at hbig
      rw [Pk.may] at hm
      simp only [mayN, Bool.and_eq_true, decide_eq_true_eq] at hm
      omega
  have HM := hide (fun W => pkMay_any p.mark p.type p.seq p.time p.ssrc A5 p.csrc.length c5 (.slice A6 p.exts.length c6) (.slice A7 p.payload.length c7) p.pad W)
  have HE := hide (fun W (hW : Le w W) => extPut_any p.exts A6 p.exts.length c6 W (h.le hW).exts hp.ne)
  have HS0 := hide (fun W (hW : Le w W) => pkSize_any p.mark p.type p.seq p.time p.ssrc A5 p.csrc.length c5 A6 c6 p.exts W (h.le hW).exts hp.ne hp.nc (by omega))
  have HC := hide (fun W (hW : Le w W) => (h.le hW))
  have hpm : 0 ≤ p.pad ∧ p.pad ≤ 255 ∧ p.csrc.length ≤ 15 ∧ p.type < 128 := by
    rw [Pk.may] at hm
    simp only [mayN, Bool.and_eq_true, decide_eq_true_eq] at hm
    omega
  have hnp : p.payload.length ≤ 1500 := by omega
  have HOK := hide hp
  rw [Pk.may] at hm
  rw [hm] at HM
  rw [he] at HE
  have HPB := hide (show p.bytes = p.head ++ csB p.csrc ++ p.extP ++ p.payload ++ p.padB from rfl)
  obtain ⟨RES, hRES⟩ : ∃ RES, RES = p.bytes := ⟨_, rfl⟩
  rw [← hRES] at HPB ⊢
  clear hRES
  clear hm h hp he
  rw [Pk.v, Pk.val]
  have hsz : p.size = sizeN p.csrc.length p.exts := rfl
  have hszl : sizeN p.csrc.length p.exts ≤ 2000 := by
    unfold sizeN
    split <;> omega
  rw [hsz] at hbig
  clear hsz
  generalize sizeN p.csrc.length p.exts = Z at *
  have hw1 : IntKind.i64.wrap ((Z : Int) + p.payload.length) = (Z : Int) + p.payload.length := IntWalk.i64_in _ (by omega)
  have hw2 : IntKind.i64.wrap ((Z : Int) + p.payload.length + p.pad) = (Z : Int) + p.payload.length + p.pad := IntWalk.i64_in _ (by omega)
  have hd : decide ((1500 : Int) < (Z : Int) + p.payload.length + p.pad) = false := decide_eq_false hbig
  have HW := hide (And.intro hw1 (And.intro hw2 hd))
  clear hw1 hw2 hbig hd hszl
  go_enter Try.func48, Try.ntmps48
  go_wp2_with fail
  refine (HM.out _).mono ?_
  rintro e w1 ⟨rfl, hb⟩
  have HB := hide (show PkBox w w1 p A5 c5 A6 c6 A7 c7 from ⟨((Le.refl w).alloc _).trans ⟨hb⟩, (Le.mk hb).heap (heap_alloc_new w _)⟩)
  clear hb
  obtain ⟨a0, a1, a2, a3, a4, a5, a6, a7, a8⟩ := HB.out.cells
  go_wp2_with fail
  refine (HE.out _ HB.out.le).mono ?_
  rintro e w2 ⟨v, rfl, ho, hb⟩
  have HX0 := hide ho
  obtain ⟨Ax, cx, rfl, hcap, _⟩ := own_slice ho
  have HB2 := hide (HB.out.later ⟨hb⟩)
  clear hb ho a0 a1 a2 a3 a4 a5 a6 a7 a8 HB
  have HS := hide (fun W (hW : Le w2 W) => HS0.out W (HB2.out.le.trans hW))
  have HLE := hide (Le.refl w2).drew
  go_upto_region 6 with fail
  obtain ⟨hw1, hw2, hd⟩ := HW.out
  refine' wp_region_rows 11 26 Le (Is _ :: Is _ :: Is _ :: Is _ :: Is _ :: Is _ :: Is _ :: Is _ :: Is _ :: Is _ :: Is _ :: []) ([] :: [0] :: [1] :: [] :: [3] :: [4] :: [2, 5] :: [] :: [7] :: [6, 8] :: [9] :: []) (by kernel_rfl) (by kernel_rfl) (by rfl) (by kernel_rfl) Le.refl (fun _ _ _ h h' => h.trans h') ⟨St.is, St.is, St.is, St.is, St.is, St.is, St.is, St.is, St.is, St.is, St.is, trivial⟩ ?m6
  case m6 =>
    simp (maxSteps := 100000000) only [AllV, Obl2, Leans, factAt, allFacts, actOf, putAll, putRow, List.set_cons_succ, List.set_cons_zero, List.getElem?_cons_zero, List.getElem?_cons_succ, List.take_succ_cons, List.take_zero, List.drop_succ_cons, List.drop_zero, List.cons_append, List.nil_append, List.length_cons, List.length_nil, Nat.reduceAdd]
    intro x0 x1 x2 x3 x4 x5 x6 x7 x8 x9 x10
    refine ⟨⟨?_, ?_, ?_, ?_, ?_, ?_, ?_, ?_, ?_, ?_, ?_, trivial⟩, ?_⟩
    -- 0: 26 := Op.fieldAddr 46 t1 0
    · intro w hw  K hK; go_simp; exact hK _ _ (Le.refl _) (Is.mk _ _)
    -- 1: 27 := Op.load 43 t26
    · intro w hw h0 K hK; cases h0; have hle := HLE.out.trans hw; obtain ⟨a0, a1, a2, a3, a4, a5, a6, a7, a8⟩ := (HB2.out.later hle).cells; go_simp; exact hK _ _ (Le.refl _) (Is.mk _ _)
    -- 2: 28 := Op.call { value (Operand.func 81), args := #[t27], argTypes := #[43] }
    · intro w hw h1 K hK; cases h1; go_simp; refine (HS.out _ (HLE.out.trans hw)).mono ?_; rintro r w' ⟨rfl, hb'⟩; exact hK _ _ ⟨hb'⟩ (Is.mk _ _)
    -- 3: 29 := Op.fieldAddr 46 t1 1
    · intro w hw  K hK; go_simp; exact hK _ _ (Le.refl _) (Is.mk _ _)
    -- 4: 30 := Op.load 44 t29
    · intro w hw h3 K hK; cases h3; have hle := HLE.out.trans hw; obtain ⟨a0, a1, a2, a3, a4, a5, a6, a7, a8⟩ := (HB2.out.later hle).cells; go_simp; exact hK _ _ (Le.refl _) (Is.mk _ _)
    -- 5: 31 := Op.call { builtin len, args := #[t30], argTypes := #[44] }
    · intro w hw h4 K hK; cases h4; go_simp; exact hK _ _ (Le.refl _) (Is.mk _ _)
    -- 6: 32 := Op.binOp BinOp.add 3 t28 t31 3
    · intro w hw h2 h5 K hK; cases h2; cases h5; go_simp; exact hK _ _ (Le.refl _) (Is.mk _ _)
    -- 7: 33 := Op.fieldAddr 46 t1 2
    · intro w hw  K hK; go_simp; exact hK _ _ (Le.refl _) (Is.mk _ _)
    -- 8: 34 := Op.load 3 t33
    · intro w hw h7 K hK; cases h7; have hle := HLE.out.trans hw; obtain ⟨a0, a1, a2, a3, a4, a5, a6, a7, a8⟩ := (HB2.out.later hle).cells; go_simp; exact hK _ _ (Le.refl _) (Is.mk _ _)
    -- 9: 35 := Op.binOp BinOp.add 3 t32 t34 3
    · intro w hw h6 h8 K hK; cases h6; cases h8; go_simp; exact hK _ _ (Le.refl _) (Is.mk _ _)
    -- 10: 36 := Op.binOp BinOp.gtr 3 t35 (const (1500:i64)) 3
    · intro w hw h9 K hK; cases h9; go_simp; exact hK _ _ (Le.refl _) (Is.mk _ _)
    · intro wz hz h0 h1 h2 h3 h4 h5 h6 h7 h8 h9 h10; cases h0; cases h1; cases h2; cases h3; cases h4; cases h5; cases h6; cases h7; cases h8; cases h9; cases h10; skip
      clear hw1 hw2
      have HB3 := hide (HB2.out.later (HLE.out.trans hz))
      have HX3 := hide ((HLE.out.trans hz).own HX0.out)
      clear hz HB2 HX0 HLE HS HS0 HE HM HW
      generalize wz = W1 at *
      obtain ⟨a0, a1, a2, a3, a4, a5, a6, a7, a8⟩ := HB3.out.cells
      obtain ⟨o1, o2, o3, o4⟩ := or_first p.csrc.length hpm.2.2.1
      obtain ⟨F1, hF1⟩ : ∃ F1, F1 = 128 + p.csrc.length := ⟨_, rfl⟩
      rw [← hF1] at o1 o2 o3
      obtain ⟨F2, hF2⟩ : ∃ F2, F2 = if 0 < p.pad then 160 + p.csrc.length else F1 := ⟨_, rfl⟩
      obtain ⟨F3, hF3⟩ : ∃ F3, F3 = if p.exts = [] then F2 else F2 + 16 := ⟨_, rfl⟩
      have HF := hide (And.intro hF1 (And.intro hF2 (And.intro hF3 (And.intro o2 (And.intro o3 o4)))))
      clear hF1 hF2 hF3 o2 o3 o4
      go_upto_if 44 with fail
      clear o1
      go_cut [7] (fun v wx => v = .int .i64 (F2 : Nat) ∧ wx = W1)
      case first =>
        by_cases hpad : 0 < p.pad
        · have o2 := HF.out.2.2.2.1
          have e : F2 = 160 + p.csrc.length := by rw [HF.out.2.1, if_pos hpad]
          rw [← e] at o2
          have HE2 := hide e
          clear e
          go_wp2_with fail
          go_meet
          exact ⟨rfl, rfl⟩
        · have e : F2 = F1 := by rw [HF.out.2.1, if_neg hpad]
          have HE2 := hide e
          clear e
          go_wp2_with fail
          go_meet
          exact ⟨by rw [HE2.out], rfl⟩
      case rest =>
        obtain ⟨rfl, hwc⟩ := hcut
        rw [hwc]
        clear hwc
        have hN : ∃ N, p.exts.length = N ∧ (p.exts = [] ↔ N = 0) ∧ N ≤ 100000 := ⟨_, rfl, by rw [List.length_eq_zero_iff], HOK.out.ne⟩
        obtain ⟨N6, hN6, hN0, hN1⟩ := hN
        have HN6 := hide (And.intro hN6 hN0)
        rw [hN6] at a6
        clear hN6 hN0
        go_upto_if 51 with fail
        go_cut [7] (fun v wx => v = .int .i64 (F3 : Nat) ∧ wx = W1)
        case first =>
          by_cases hx : N6 = 0
          · have e : F3 = F2 := by rw [HF.out.2.2.1, if_pos (HN6.out.2.2 hx)]
            have HE2 := hide e
            clear e
            subst hx
            go_wp2_with fail
            go_meet
            exact ⟨by rw [HE2.out], rfl⟩
          · have hx1 : (0 : Int) < N6 := by omega
            have hor : bits .or .i64 (F2 : Int) 16 = (F3 : Int) := by
              rw [HF.out.2.2.1, if_neg (fun e => hx (HN6.out.2.1 e)), HF.out.2.1]
              split
              · rw [HF.out.2.2.2.2.2]; congr 1; omega
              · rw [HF.out.2.2.2.2.1, HF.out.1]; congr 1; omega
            clear hx
            go_wp2_with fail
            go_meet
            exact ⟨rfl, rfl⟩
        case rest =>
          obtain ⟨rfl, hwc⟩ := hcut
          rw [hwc]
          clear hwc
          have ho2 := or_second p.type hpm.2.2.2
          have hF3 : F3 = p.first := by
            rw [HF.out.2.2.1, HF.out.2.1, HF.out.1, Pk.first]
            split <;> split <;> omega
          clear HF
          go_upto_if 60 with fail
          go_cut [8] (fun v wx => v = .int .u64 (p.second : Nat) ∧ wx = W1)
          case first =>
            have hs2 := hide (show p.second = p.type + if p.mark then 128 else 0 from rfl)
            generalize p.second = sec at *
            generalize p.mark = mk at *
            clear hF3
            cases mk
            · go_wp2_with fail
              go_meet
              exact ⟨by rw [hs2.out]; rfl, rfl⟩
            · go_wp2_with fail
              go_meet
              exact ⟨by rw [hs2.out]; rfl, rfl⟩
          case rest =>
            obtain ⟨rfl, hwc⟩ := hcut
            rw [hwc]
            clear hwc ho2
            rw [hF3]
            clear hF3
            obtain ⟨hs1, hs2, hs3, hs4⟩ : p.first < 256 ∧ p.second < 256 ∧ p.seq < 65536 ∧ p.time < 4294967296 := by
              refine ⟨?_, ?_, HOK.out.seq, HOK.out.time⟩
              · unfold Pk.first; split <;> split <;> omega
              · unfold Pk.second; split <;> omega
            have hs5 := HOK.out.ssrc
            have HH := hide (show puts [(p.first, 1), (p.second, 1), (p.seq, 2), (p.time, 4), (p.ssrc, 4)] = p.head from rfl)
            have HHL := hide (head_len p)
            have HCB := hide HOK.out.csrc
            have q1 : IntKind.u64.wrap (p.first : Int) = p.first := by simp [IntKind.wrap, IntKind.signed, IntKind.bits]; omega
            have q3 : IntKind.u64.wrap (p.seq : Int) = p.seq := by simp [IntKind.wrap, IntKind.signed, IntKind.bits]; omega
            have q4 : IntKind.u64.wrap (p.time : Int) = p.time := by simp [IntKind.wrap, IntKind.signed, IntKind.bits]; omega
            have q5 : IntKind.u64.wrap (p.ssrc : Int) = p.ssrc := by simp [IntKind.wrap, IntKind.signed, IntKind.bits]; omega
            have HQ := hide (And.intro hs1 (And.intro hs2 (And.intro hs3 (And.intro hs4 hs5))))
            have HCSR := hide (fun W (hW : Le W1 W) => (HC.out W (HB3.out.le.trans hW)))
            generalize p.first = f1 at *
            generalize p.second = f2 at *
            clear hs1 hs2 hs3 hs4 hs5 HC
            go_wp2_with fail
            refine (put_any _ _ _ [(f1, 1), (f2, 1), (p.seq, 2), (p.time, 4), (p.ssrc, 4)] _ (rsl_parts rfl (by simp) (by have := HQ.out; simp; omega) (cells_new _ _ _)) (by simp)).mono ?_
            rintro e w4 ⟨v4, rfl, ho4, hb4⟩
            rw [HH.out] at ho4
            have hR4 : RpAt W1 w4 p.head v4 := ⟨((Le.refl W1).alloc _).trans ⟨hb4⟩, own_base ho4 (by simp)⟩
            have HR4 := hide hR4
            clear ho4 hb4 hR4 q1 q3 q4 q5 HQ HH
            generalize p.head = HD at *
            obtain ⟨b0, b1, b2, b3, b4, b5, b6, b7, b8⟩ := (HB3.out.later HR4.out.le).cells
            clear a0 a1 a2 a3 a4 a5 a6 a7 a8
            go_wp2_with fail
            go_loopw [9, 89] (fun v j wr => ∃ k : Nat, k ≤ p.csrc.length ∧ j = .int .i64 k ∧ RpAt W1 wr (HD ++ csB (p.csrc.take k)) v) (fun _ j _ => p.csrc.length - (intOf j).toNat)
            case atStart => exact ⟨0, Nat.zero_le _, rfl, by simpa [csB] using HR4.out⟩
            case round =>
              obtain ⟨k, hk, rfl, hR⟩ := hrel
              have HR := hide hR
              clear hR
              by_cases hlt : k < p.csrc.length
              · have hr := (HCSR.out wr HR.out.le).csrc
                obtain ⟨b, off, hA⟩ := rsl_addr hr (by omega)
                rw [hA] at hr
                have hcell := rnat_at hr k hlt
                have hx := HCB.out _ (List.getElem_mem hlt)
                have HT := hide (csB_take p.csrc k hlt)
                have HTL := hide (show (HD ++ csB (p.csrc.take k)).length ≤ 200 by rw [List.length_append, csB_len, HHL.out]; have := List.length_take_le k p.csrc; omega)
                have HA := hide hA
                have b5' : wr.cell? ⟨w.heap.size, 5, none⟩ = some (.slice (some ⟨b, off, none⟩) p.csrc.length c5) := by rw [← hA]; exact (HB3.out.later HR.out.le).cells.2.2.2.2.2.1
                clear hr
                subst hA
                generalize p.csrc[k] = x at *
                have q6 : IntKind.u64.wrap (x : Int) = x := by simp [IntKind.wrap, IntKind.signed, IntKind.bits]; omega
                go_wp2_with fail
                refine (put_any _ _ _ [(x, 4)] _ (rsl_parts rfl (by simp) (by simp; omega) (cells_new _ _ _)) (by simp)).mono ?_
                rintro e w5 ⟨v5, rfl, ho5, hb5⟩
                rw [be4_puts] at ho5
                obtain ⟨A9, cap9, rfl, hcap9, hc9⟩ := own_slice ho5
                have HR5 := hide (HR.out.later (((Le.refl wr).alloc _).trans ⟨hb5⟩))
                have HC9 := hide hc9
                clear ho5 hb5 hc9 q6 hcell
                have hbl : (be x 4).length = 4 := be_length x 4
                have HBL := hide hbl
                rw [hbl]
                rw [hbl] at hcap9
                clear hbl
                go_wp2_with (at_builtin; (refine wpl_app rfl sl8 (.tmp 93) (.tmp 98) rfl HR5.out.own rfl rfl (news := u8s (be x 4)) HC9.out (by rw [u8s_length, HBL.out]) u8s_one (by have := HTL.out; omega) (by have := HTL.out; omega) HR5.out.le.size ?_); intro v6 w6 ho6 hg6 hat6; have HR6 := hide (HR5.out.app (by rw [HBL.out]; exact ho6) hg6); clear ho6 hg6 hat6)
                go_roundw
                case rel => exact ⟨k + 1, by omega, by go_num, by rw [HT.out, ← List.append_assoc]; exact HR6.out⟩
                case measure => simp [intOf]; omega
              · have hke : k = p.csrc.length := by omega
                subst hke
                obtain ⟨a0, a1, a2, a3, a4, a5, a6, a7, a8⟩ := (HB3.out.later HR.out.le).cells
                have hN6 := HN6.out.1
                rw [hN6] at a6
                clear hN6 b0 b1 b2 b3 b4 b5 b6 b7 b8
                have hl1 : (HD ++ csB (p.csrc.take p.csrc.length)) = HD ++ csB p.csrc := by rw [List.take_of_length_le (Nat.le_refl _)]
                have hR1 := HR.out
                rw [hl1] at hR1
                have HL1 := hide (show 12 ≤ (HD ++ csB p.csrc).length ∧ (HD ++ csB p.csrc).length ≤ 80 by rw [List.length_append, csB_len, HHL.out]; omega)
                clear HR hl1
                have HR := hide hR1
                clear hR1
                generalize hL1 : HD ++ csB p.csrc = L1 at *
                have HLL1 := hide hL1
                clear hL1
                go_upto_if 105 with fail
                go_cut [9] (fun v wx => RpAt W1 wx (L1 ++ p.extP) v)
                case first =>
                  by_cases hx : N6 = 0
                  · have e : p.extP = [] := by rw [Pk.extP, if_pos (HN6.out.2.2 hx)]
                    have HE2 := hide e
                    clear e
                    subst hx
                    go_wp2_with fail
                    go_meet
                    rw [HE2.out, List.append_nil]
                    exact HR.out
                  · have hx1 : (0 : Int) < N6 := by omega
                    have e : p.extP = puts [(extProf p.exts, 2), ((extB p.exts).length / 4, 2)] ++ extB p.exts := by rw [Pk.extP, if_neg (fun e => hx (HN6.out.2.1 e))]
                    have HE2 := hide e
                    have hpl := prof_lt p.exts
                    have hQ : ∃ Q : Nat, ((extB p.exts).length : Int) / 4 = Q ∧ Q = (extB p.exts).length / 4 := ⟨_, by omega, rfl⟩
                    obtain ⟨Q, hQ, hQ2⟩ := hQ
                    have hQl : Q ≤ 1500 := by omega
                    rw [← hQ2] at HE2
                    clear e hx hQ2
                    have q1 : IntKind.u64.wrap (Q : Int) = Q := by simp [IntKind.wrap, IntKind.signed, IntKind.bits]; omega
                    have q2 : IntKind.u64.wrap (extProf p.exts : Int) = extProf p.exts := by simp [IntKind.wrap, IntKind.signed, IntKind.bits]; omega
                    generalize extProf p.exts = PR at *
                    generalize extB p.exts = EB at *
                    go_wp2_with fail
                    refine (put_any _ _ _ [(PR, 2), (Q, 2)] _ (rsl_parts rfl (by simp) (by simp; omega) (cells_new _ _ _)) (by simp)).mono ?_
                    rintro e w5 ⟨v5, rfl, ho5, hb5⟩
                    have hpl2 : (puts [(PR, 2), (Q, 2)]).length = 4 := by rw [puts_two]; simp [putOne, mayB, be_length]
                    generalize puts [(PR, 2), (Q, 2)] = PB at *
                    obtain ⟨A9, cap9, rfl, hcap9, hc9⟩ := own_slice ho5
                    have HR5 := hide (HR.out.later (((Le.refl wr).alloc _).trans ⟨hb5⟩))
                    have HC9 := hide hc9
                    have HBL := hide hpl2
                    clear ho5 hb5 hc9 q1 q2 hQ hpl2
                    go_upto_region 24 with (at_builtin; go_must (refine wpl_app rfl sl8 (.tmp 106) (.tmp 116) rfl HR5.out.own rfl rfl (news := u8s PB) HC9.out (by rw [u8s_length, Nat.mul_one]) u8s_one (by have := HL1.out; rw [HBL.out]; omega) (by have := HL1.out; rw [HBL.out]; omega) HR5.out.le.size ?_); intro v6 w6 ho6 hg6 hat6; have HR6 := hide (HR5.out.app ho6 hg6); have HC6 := hide (own_slice (HR6.out.le.own HX3.out)); clear ho6 hg6 hat6)
                    go_wp2_with (at_builtin; go_must (refine wpl_app rfl sl8 (.tmp 118) (.tmp 119) rfl HR6.out.own rfl rfl (news := u8s EB) (by obtain ⟨A', c', e1, _, e2⟩ := HC6.out; injection e1 with e1 _ _; rw [e1]; exact e2) (by rw [u8s_length, Nat.mul_one]) u8s_one (by have := HL1.out; have := HBL.out; rw [List.length_append, HBL.out]; omega) (by have := HL1.out; rw [List.length_append, HBL.out]; omega) HR6.out.le.size ?_); intro v7 w7 ho7 hg7 hat7; have HR7 := hide (HR6.out.app ho7 hg7); clear ho7 hg7 hat7)
                    go_meet
                    rw [HE2.out, ← List.append_assoc]
                    exact HR7.out
                case rest =>
                  have HR2 := hide hcut
                  clear hcut a0 a1 a2 a3 a4 a5 a6 a7 a8 HR HN6
                  generalize wc = W2 at *
                  obtain ⟨a0, a1, a2, a3, a4, a5, a6, a7, a8⟩ := (HB3.out.later HR2.out.le).cells
                  have HEX := hide (show p.extP.length ≤ 1504 by
                    rw [Pk.extP]
                    split
                    · simp
                    · rw [List.length_append, puts_two]; simp [putOne, mayB, be_length]; omega)
                  have HCP := hide (cells_of_rsl (HCSR.out W2 HR2.out.le).payload)
                  have HL2 := hide (show 12 ≤ (L1 ++ p.extP).length ∧ (L1 ++ p.extP).length ≤ 1600 by rw [List.length_append]; have := HL1.out; have := HEX.out; omega)
                  generalize hL2 : L1 ++ p.extP = L2 at *
                  have HLL2 := hide hL2
                  clear hL2 HEX
                  go_upto_region 26 with (at_builtin; (refine wpl_app rfl sl8 (.tmp 121) (.tmp 123) rfl HR2.out.own rfl rfl (news := u8s p.payload) HCP.out (by rw [u8s_length, Nat.mul_one]) u8s_one (by have := HL2.out; omega) (by have := HL2.out; omega) HR2.out.le.size ?_); intro v6 w6 ho6 hg6 hat6; have HR6 := hide (HR2.out.app ho6 hg6); clear ho6 hg6 hat6)
                  clear a0 a1 a2 a3 a4 a5 a6 a7 a8
                  have hL3 : (L2 ++ p.payload).length ≤ 3200 := by have := HL2.out; rw [List.length_append]; omega
                  have hL3' : 0 < (L2 ++ p.payload).length := by have := HL2.out; rw [List.length_append]; omega
                  have HL3 := hide (And.intro hL3 hL3')
                  generalize hL3e : L2 ++ p.payload = L3 at *
                  have HLL3 := hide hL3e
                  clear hL3 hL3' hL3e HR2 HCP HCB HCSR
                  have hpb := hide (show p.padB = if 0 < p.pad then List.replicate (p.pad.toNat - 1) 0 ++ [UInt8.ofNat p.pad.toNat] else [] from rfl)
                  have HFIN : Hd (RES = L3 ++ p.padB) := hide (by rw [HPB.out, ← HLL3.out, ← HLL2.out, ← HLL1.out])
                  obtain ⟨a0, a1, a2, a3, a4, a5, a6, a7, a8⟩ := (HB3.out.later HR6.out.le).cells
                  clear a0 a1 a2 a3 a4 a5 a6 a7
                  have HB6 := hide (HB3.out.le)
                  have hfin : ∀ (wq : World) (l : List UInt8) (vq : Value), RES = l → RpAt W1 wq l vq → PutV w RES 0 (.returned (.tuple #[vq, .int .i64 0])) wq := by
                    rintro wq l vq rfl hq
                    exact ⟨vq, rfl, own_base hq.own HB6.out.size, (HB6.out.trans hq.le).out⟩
                  have HF2 := hide hfin
                  clear hfin
                  by_cases hpad : 0 < p.pad
                  · obtain ⟨pm, hpm2⟩ : ∃ pm : Nat, p.pad = (pm : Int) + 1 := ⟨(p.pad - 1).toNat, by omega⟩
                    have hpb2 : p.padB = List.replicate pm 0 ++ [UInt8.ofNat (pm + 1)] := by
                      rw [hpb.out, if_pos hpad, hpm2]
                      rw [show ((pm : Int) + 1).toNat = pm + 1 by omega]
                      rfl
                    have hpm3 : pm ≤ 254 := by omega
                    rw [hpb2] at HFIN
                    rw [hpm2] at a8
                    have HPM2 := hide hpm2
                    clear hpm2
                    obtain ⟨g, cg, hv6⟩ := own_some HR6.out.own HL3.out.2
                    subst hv6
                    have h8 : IntKind.u8.wrap ((pm : Int) + 1) = ((UInt8.ofNat (pm + 1)).toNat : Int) := by
                      have := wrap_u8 (pm + 1)
                      simpa using this
                    generalize UInt8.ofNat (pm + 1) = PB1 at *
                    clear hpb hpb2 hpad
                    go_upto_region 28 with (at_builtin; go_must (refine wpl_app_zeros rfl (.tmp 128) (.tmp 131) rfl HR6.out.own rfl (m := pm) rfl (by have := HL3.out; omega) HR6.out.le.size ?_); intro v7 w7 ho7 hg7 hat7; have HR7 := hide (HR6.out.app (m := List.replicate pm 0) (by rw [← z8_u8s, List.length_replicate]; exact ho7) hg7); clear ho7 hg7 hat7)
                    clear a8
                    have a8 := (HB3.out.later HR7.out.le).cells.2.2.2.2.2.2.2.2
                    rw [HPM2.out] at a8
                    have HL7 := hide (show (L3 ++ List.replicate pm 0).length ≤ 3500 by rw [List.length_append, List.length_replicate]; have := HL3.out; omega)
                    have HR8 := hide (HR7.out.later ((Le.refl w7).alloc (.cells (u8s [PB1]).toArray 5)))
                    go_wp2_with (at_builtin; go_must (refine wpl_app rfl sl8 (.tmp 133) (.tmp 137) rfl HR8.out.own rfl rfl (news := u8s [PB1]) (cells_new _ _ _) rfl u8s_one (by have := HL7.out; omega) (by have := HL7.out; omega) HR8.out.le.size ?_); intro v8 w8 ho8 hg8 hat8; have HR9 := hide (HR8.out.app (m := [PB1]) ho8 hg8); clear ho8 hg8 hat8)
                    go_ret2
                    exact HF2.out _ _ _ (by rw [HFIN.out, List.append_assoc]) HR9.out
                  · have hpb2 : p.padB = [] := by rw [hpb.out, if_neg hpad]
                    rw [hpb2, List.append_nil] at HFIN
                    clear hpb hpb2
                    go_wp2_with fail
                    go_ret2
                    exact HF2.out _ _ _ HFIN.out HR6.out

theorem extB_small (l : List It) (hl : l.length ≤ 100000) : (extB l).length ≤ 10000000 := by
  unfold extB
  split
  · rename_i h
    have h14 : l.length ≤ 14 := by
      unfold extErr at h
      split at h
      · cases h
      · omega
    have hb : l.any badB = false := by
      unfold extErr at h
      rw [if_neg (by omega)] at h
      cases hb : l.any badB
      · rfl
      · rw [hb] at h; cases h
    have h1 := bodyB_len (shortB l) 255 l (fun x hx => (good_all hb x hx).2)
    have h2 : padN (bodyB (shortB l) l).length < 4 := by unfold padN; omega
    simp only [padB, List.length_append, List.length_replicate]
    have : (255 + 2) * l.length ≤ 257 * 14 := Nat.mul_le_mul_left _ h14
    omega
  · simp
theorem rtpPut_any (p : Pk) (hp : p.Ok) (v5 v6 v7 : Value) (w : World) (h : PkAt w p v5 v6 v7) : Calls Try.prog 48 #[p.val v5 v6 v7] w (PutV w p.out p.err) := by
  obtain ⟨A5, c5, A6, c6, A7, c7, rfl, rfl, rfl, hc⟩ := h.ctx
  have hv : p.val (.slice A5 p.csrc.length c5) (.slice A6 p.exts.length c6) (.slice A7 p.payload.length c7) = p.v A5 c5 A6 c6 A7 c7 := rfl
  rw [hv]
  cases hm : p.may with
  | false =>
    have e : p.err = 1 := by rw [Pk.err, if_pos hm]
    rw [out_bad (by rw [e]; decide), e]
    exact rtpPut_bad1 p A5 A6 A7 c5 c6 c7 w hc hm
  | true =>
    by_cases he : extErr p.exts = 0
    · by_cases hb : (1500 : Int) < p.size + p.payload.length + p.pad
      · have e : p.err = 13 := by rw [Pk.err, if_neg (by rw [hm]; decide), if_neg (by rw [he]; decide), if_pos hb]
        rw [out_bad (by rw [e]; decide), e]
        exact rtpPut_big p hp A5 A6 A7 c5 c6 c7 w hc hm he (extB_small _ hp.ne) hb
      · have e : p.err = 0 := by rw [Pk.err, if_neg (by rw [hm]; decide), if_neg (by rw [he]; decide), if_neg hb]
        rw [Pk.out, if_pos e, e]
        exact rtpPut_ok p hp A5 A6 A7 c5 c6 c7 w hc hm he hb
    · have e : p.err = extErr p.exts := by rw [Pk.err, if_neg (by rw [hm]; decide), if_pos he]
      rw [out_bad (by rw [e]; exact he), e]
      exact rtpPut_bad2 p hp A5 A6 A7 c5 c6 c7 w hc hm he
end Go.Proofs.Ytekioihjfggmdaa
