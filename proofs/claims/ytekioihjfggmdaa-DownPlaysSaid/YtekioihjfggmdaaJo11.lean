/- Texts of one claim, laid together: Vp8W -/
import Derived.Deep.CutBlock
import Derived.Test.YtekioihjfggmdaaJo10
/- vp8.Write. -/
namespace Go.Proofs.Ytekioihjfggmdaa
open Go.RowKit
set_option linter.unusedVariables false

theorem u8s_set (l : List UInt8) (k : Nat) (x : UInt8) : (u8s l).set k (.int .u8 x.toNat) = u8s (l.set k x) := by simp [u8s]
theorem u8_nat (n : Nat) (h : n < 256) : ((UInt8.ofNat n).toNat : Int) = n := by
  rw [UInt8.toNat_ofNat']
  omega

theorem third_eq (d : Dsc) (x : Nat) : d.third x = { d with tid := if d.hasTid then x / 64 else d.tid, sync := if d.hasTid then bt x 32 else d.sync, key := if d.hasKey then x % 32 else d.key } := by
  obtain ⟨more, lone, start, part, hasPic, wide, pic, hasTl0, tl0, hasTid, tid, sync, hasKey, key⟩ := d
  cases hasTid <;> cases hasKey <;> rfl
theorem setK_part (d : Dsc) (K : List UInt8) : (setK d K).part = d.part := by
  unfold setK
  split
  · rw [third_eq]
  · rfl
theorem setK_hasPic (d : Dsc) (K : List UInt8) : (setK d K).hasPic = d.hasPic := by
  unfold setK
  split
  · rw [third_eq]
  · rfl
theorem setK_wide (d : Dsc) (K : List UInt8) : (setK d K).wide = d.wide := by
  unfold setK
  split
  · rw [third_eq]
  · rfl
theorem setK_pic (d : Dsc) (K : List UInt8) : (setK d K).pic = d.pic := by
  unfold setK
  split
  · rw [third_eq]
  · rfl
theorem setK_hasTl0 (d : Dsc) (K : List UInt8) : (setK d K).hasTl0 = d.hasTl0 := by
  unfold setK
  split
  · rw [third_eq]
  · rfl
theorem setK_tl0 (d : Dsc) (K : List UInt8) : (setK d K).tl0 = d.tl0 := by
  unfold setK
  split
  · rw [third_eq]
  · rfl
theorem setT_part' (d : Dsc) (K : List UInt8) : (setT d K).part = d.part := by
  unfold setT
  split <;> rfl
theorem setT_hasPic' (d : Dsc) (K : List UInt8) : (setT d K).hasPic = d.hasPic := by
  unfold setT
  split <;> rfl
theorem setT_wide' (d : Dsc) (K : List UInt8) : (setT d K).wide = d.wide := by
  unfold setT
  split <;> rfl
theorem setT_pic' (d : Dsc) (K : List UInt8) : (setT d K).pic = d.pic := by
  unfold setT
  split <;> rfl
theorem setT_hasTl0' (d : Dsc) (K : List UInt8) : (setT d K).hasTl0 = d.hasTl0 := by
  unfold setT
  split <;> rfl
theorem setT_tid' (d : Dsc) (K : List UInt8) : (setT d K).tid = d.tid := by
  unfold setT
  split <;> rfl
theorem setT_key' (d : Dsc) (K : List UInt8) : (setT d K).key = d.key := by
  unfold setT
  split <;> rfl
theorem setP_part' (d : Dsc) (K : List UInt8) : (setP d K).part = d.part := by
  unfold setP
  split <;> rfl
theorem setP_hasPic' (d : Dsc) (K : List UInt8) : (setP d K).hasPic = d.hasPic := by
  unfold setP
  split <;> rfl
theorem setP_hasTl0' (d : Dsc) (K : List UInt8) : (setP d K).hasTl0 = d.hasTl0 := by
  unfold setP
  split <;> rfl
theorem setP_tl0' (d : Dsc) (K : List UInt8) : (setP d K).tl0 = d.tl0 := by
  unfold setP
  split <;> rfl
theorem setP_tid' (d : Dsc) (K : List UInt8) : (setP d K).tid = d.tid := by
  unfold setP
  split <;> rfl
theorem setP_key' (d : Dsc) (K : List UInt8) : (setP d K).key = d.key := by
  unfold setP
  split <;> rfl
theorem setP_wide (d : Dsc) (P : List UInt8) (h : d.wide = false) : (setP d P).wide = (match P with | [_, _] => true | _ => false) := by
  unfold setP
  repeat' split
  all_goals simp_all
theorem formD_pic (x0 x1 : UInt8) (P T K : List UInt8) : (formD x0 x1 P T K).hasPic = bt x1.toNat 128 := by
  rw [formD, setK_hasPic, setT_hasPic', setP_hasPic']; rfl
theorem formD_tl0 (x0 x1 : UInt8) (P T K : List UInt8) : (formD x0 x1 P T K).hasTl0 = bt x1.toNat 64 := by
  rw [formD, setK_hasTl0, setT_hasTl0', setP_hasTl0']; rfl
theorem formD_wide (x0 x1 : UInt8) (P T K : List UInt8) : (formD x0 x1 P T K).wide = (match P with | [_, _] => true | _ => false) := by
  rw [formD, setK_wide, setT_wide', setP_wide _ _ rfl]

/-- where the numbers stand -/
theorem vp_places (b : List UInt8) (h : vpE b = 0) : 0 < b.length ∧ ∃ pn tn : Nat, (vpParse b).pp = pn ∧ (vpParse b).tp = tn ∧ ((vpParse b).d.hasPic = true → pn < b.length) ∧ ((vpParse b).d.wide = true → pn + 1 < b.length) ∧ ((vpParse b).d.hasTl0 = true → tn < b.length) := by
  rcases form_of b h with ⟨x0, rest, rfl, h0⟩ | ⟨x0, x1, P, T, K, rest, rfl, hF⟩
  · rw [lone_parse x0 rest h0]
    exact ⟨by simp, 0, 0, rfl, rfl, by simp [Dsc.head, Dsc.zero], by simp [Dsc.head, Dsc.zero], by simp [Dsc.head, Dsc.zero]⟩
  · rw [form_parse rest hF]
    refine ⟨by simp [formB], if P = [] then 0 else 2, if T = [] then 0 else 2 + P.length, ?_, ?_, ?_, ?_, ?_⟩
    · simp only [place]; split <;> rfl
    · simp only [place]; split <;> simp
    · intro hp
      simp only at hp
      rw [formD_pic] at hp
      rcases hF.p with ⟨h1, _⟩ | ⟨_, y, rfl, _⟩ | ⟨_, y, z, rfl, _⟩
      · rw [hp] at h1; cases h1
      · simp [formB]
      · simp [formB]
    · intro hw
      simp only at hw
      rw [formD_wide] at hw
      split at hw
      · simp [formB]
      · cases hw
    · intro ht
      simp only at ht
      rw [formD_tl0] at ht
      rcases hF.t with ⟨h1, _⟩ | ⟨_, t, rfl⟩
      · rw [ht] at h1; cases h1
      · simp [formB]; omega

/-- the bytes with other numbers -/
def wrP (d : Dsc) (pn : Nat) (pic : Nat) (b : List UInt8) : List UInt8 :=
  if d.wide then (b.set pn (UInt8.ofNat (128 + pic / 256 % 128))).set (pn + 1) (UInt8.ofNat (pic % 256)) else if d.hasPic then b.set pn (UInt8.ofNat (pic % 128)) else b
def wrT (d : Dsc) (tn : Nat) (tl0 : Nat) (b : List UInt8) : List UInt8 := if d.hasTl0 then b.set tn (UInt8.ofNat tl0) else b
def vpWr (b : List UInt8) (pic tl0 : Nat) : List UInt8 :=
  if vpE b = 0 then wrT (vpParse b).d (vpParse b).tp.toNat tl0 (wrP (vpParse b).d (vpParse b).pp.toNat pic b) else []
theorem wrP_len (d : Dsc) (pn pic : Nat) (b : List UInt8) : (wrP d pn pic b).length = b.length := by
  unfold wrP
  repeat' split
  all_goals simp
theorem wrT_len (d : Dsc) (tn tl0 : Nat) (b : List UInt8) : (wrT d tn tl0 b).length = b.length := by
  unfold wrT
  split <;> simp

theorem own_put {w : World} {base g n cap : Nat} {l : List UInt8} (h : w.ownsRow base 5 1 (.slice (some ⟨g, 0, none⟩) n cap) n (u8s l)) (i : Nat) (x : Int) (k : Nat) (hx : x = k) (hk : k < 256) :
    (w.setCell ⟨g, i, none⟩ (.int .u8 x)).ownsRow base 5 1 (.slice (some ⟨g, 0, none⟩) n cap) n (u8s (l.set i (UInt8.ofNat k))) := by
  subst hx
  rw [← u8_nat k hk, ← u8s_set]
  exact (h.stored i _).1
/-- what Write has at hand -/
structure WAt (w wx : World) (g p8 cap : Nat) (l : List UInt8) (c8 c9 : Array Value) : Prop where
  own : wx.ownsRow w.heap.size 5 1 (.slice (some ⟨g, 0, none⟩) l.length cap) l.length (u8s l)
  le : Below w.heap.size w wx
  h8 : wx.heap[p8]? = some (.cells c8 74 (0, 0))
  h9 : wx.heap[p8 + 1]? = some (.cells c9 128 (0, 0))
theorem WAt.put {w wx : World} {g p8 cap : Nat} {l : List UInt8} {c8 c9 : Array Value} (h : WAt w wx g p8 cap l c8 c9) (i : Nat) (x : Int) (k : Nat) (hx : x = k) (hk : k < 256) : WAt w (wx.setCell ⟨g, i, none⟩ (.int .u8 x)) g p8 cap (l.set i (UInt8.ofNat k)) c8 c9 := by
  have hb := (h.own.lt g rfl).1
  have h1 : p8 ≠ g := fun e => own_ne h.own h.h8 (by decide) (by rw [e]; rfl)
  have h2 : p8 + 1 ≠ g := fun e => own_ne h.own h.h9 (by decide) (by rw [e]; rfl)
  refine ⟨?_, h.le.setCell hb _, heap_far _ h.h8 h1, heap_far _ h.h9 h2⟩
  rw [List.length_set]
  exact own_put h.own i x k hx hk
theorem WAt.cell {w wx : World} {g p8 cap : Nat} {l : List UInt8} {c8 c9 : Array Value} (h : WAt w wx g p8 cap l c8 c9) (i : Nat) (hi : i < l.length) : wx.cell? ⟨g, i, none⟩ = some (.int .u8 (l[i].toNat : Nat)) := by
  rw [h.own.cellAt i (by omega)]
  simp [u8s, hi]
theorem WAt.drew {w wx : World} {g p8 cap : Nat} {l : List UInt8} {c8 c9 : Array Value} (h : WAt w wx g p8 cap l c8 c9) : WAt w wx.drew g p8 cap l c8 c9 := ⟨h.own, h.le.trans ((Below.refl _ _).drew), h.h8, h.h9⟩

theorem wat_two {w w0 wx : World} {g p8 cap i j V1 V2 : Nat} {l : List UInt8} {c8 c9 : Array Value} (h1 : V1 < 256) (h2 : V2 < 256) (ht : Two g i j (.int .u8 (V1 : Nat)) (.int .u8 (V2 : Nat)) w0 wx) (h : WAt w w0 g p8 cap l c8 c9) : ∃ L, L.length = l.length ∧ WAt w wx g p8 cap L c8 c9 := by
  rcases ht with rfl | rfl | rfl | rfl
  · exact ⟨l, rfl, h⟩
  · exact ⟨_, by simp, h.put i _ V1 rfl h1⟩
  · exact ⟨_, by simp, h.put j _ V2 rfl h2⟩
  · exact ⟨_, by simp, (h.put i _ V1 rfl h1).put j _ V2 rfl h2⟩
set_option maxRecDepth 100000 in
theorem or128 (x : Nat) (h : x < 256) : bits .or .u8 128 (x : Int) = ((128 + x % 128 : Nat) : Int) := by
  have e : ∀ x, x < 256 → 128 ||| x = 128 + x % 128 := by decide
  have := u8_or_nat 128 x (by omega) h
  rw [e x h] at this
  exact this
theorem and127 (x : Nat) (h : x < 256) : bits .and .u8 (x : Int) 127 = ((x % 128 : Nat) : Int) := by
  have := u8_and_nat x 127 h (by omega)
  rw [show x &&& 127 = x % 128 from Nat.and_two_pow_sub_one_eq_mod x 7] at this
  exact this

set_option maxRecDepth 100000 in
set_option maxHeartbeats 4000000 in
theorem write_any (A : Option Addr) (cap : Nat) (b : List UInt8) (pic tl0 : Nat) (w : World) (hr : RSl 1 RU8 w b (.slice A b.length cap)) (hn : b.length ≤ 1000000) (hpic : pic < 65536) (htl0 : tl0 < 256) :
    Calls Try.prog 86 #[.slice A b.length cap, .int .u16 pic, .int .u8 tl0] w (PutV w (vpWr b pic tl0) (vpE b)) := by
  have hp := parse_any A cap b w hr (by omega)
  have HR := hide hr
  obtain ⟨B, hB⟩ : ∃ B, B = vpWr b pic tl0 := ⟨_, rfl⟩
  rw [← hB]
  have hpl := vp_places b
  have hee := vpE_two b
  rw [vpE] at *
  rw [vpWr, vpE] at hB
  generalize vpParse b = r at *
  obtain ⟨d, pp, tp, s⟩ := r
  obtain ⟨more, lone, start, part, hasPic, wide, pc, hasTl0, t0, hasTid, tid, sync, hasKey, key⟩ := d
  simp only [Rd8.val, Dsc.val] at hp
  simp only at hpl hee hB
  have HB := hide hB
  have HPL := hide hpl
  have HP := hide hp
  clear hp hr hB hpl
  rw [show (Rd8.mk ⟨more, lone, start, part, hasPic, wide, pc, hasTl0, t0, hasTid, tid, sync, hasKey, key⟩ pp tp s).s.2 = s.2 from rfl]
  rcases hee with he | he
  · rw [he] at HB HPL HP ⊢
    obtain ⟨hb0, pn, tn, rfl, rfl, hb1, hb2, hb3⟩ := HPL.out rfl
    have hBB := HB.out
    simp only [if_true, Int.toNat_natCast] at hBB
    have HBB := hide hBB
    clear HB HPL hBB he
    go_enter Try.func86, Try.ntmps86
    go_wp2_with fail
    refine HP.out.mono ?_
    rintro e w1 ⟨rfl, hbw⟩
    have HL := hide (Le.mk hbw)
    clear hbw HP
    go_wp2_with fail
    have HR2 := hide (((HL.out.alloc (.cells #[.bool more, .bool lone, .bool start, .int .u8 part, .bool hasPic, .bool wide, .int .u16 pc, .bool hasTl0, .int .u8 t0, .bool hasTid, .int .u8 tid, .bool sync, .bool hasKey, .int .u8 key] 74)).alloc (.cells #[.int .i64 pn, .int .i64 tn] 128)).rsl keeps_u8 HR.out)
    refine (clone_any _ A b.length cap b HR2.out (by omega)).mono ?_
    rintro e w2 ⟨v2, rfl, ho2, hbc⟩
    have hlw := (HL.out.alloc (.cells #[.bool more, .bool lone, .bool start, .int .u8 part, .bool hasPic, .bool wide, .int .u16 pc, .bool hasTl0, .int .u8 t0, .bool hasTid, .int .u8 tid, .bool sync, .bool hasKey, .int .u8 key] 74)).alloc (.cells #[.int .i64 pn, .int .i64 tn] 128)
    have HO2 := hide (own_base ho2 hlw.size)
    have HL2 := hide (hlw.trans (Le.mk hbc))
    have h8 := heap_below hbc (heap_alloc (o' := .cells #[.int .i64 pn, .int .i64 tn] 128) (heap_alloc_new w1 (.cells #[.bool more, .bool lone, .bool start, .int .u8 part, .bool hasPic, .bool wide, .int .u16 pc, .bool hasTl0, .int .u8 t0, .bool hasTid, .int .u8 tid, .bool sync, .bool hasKey, .int .u8 key] 74))) (by simp; omega)
    have h9 := heap_below hbc (heap_at (w := w1.alloc (.cells #[.bool more, .bool lone, .bool start, .int .u8 part, .bool hasPic, .bool wide, .int .u16 pc, .bool hasTl0, .int .u8 t0, .bool hasTid, .int .u8 tid, .bool sync, .bool hasKey, .int .u8 key] 74)) (o := .cells #[.int .i64 pn, .int .i64 tn] 128) (alloc_size _ _)) (by simp)
    have y4 : w2.cell? ⟨w1.heap.size, 4, none⟩ = some (.bool hasPic) := cell_block h8 4
    have y5 : w2.cell? ⟨w1.heap.size, 5, none⟩ = some (.bool wide) := cell_block h8 5
    have y7 : w2.cell? ⟨w1.heap.size, 7, none⟩ = some (.bool hasTl0) := cell_block h8 7
    have z0 : w2.cell? ⟨w1.heap.size + 1, 0, none⟩ = some (.int .i64 pn) := cell_block h9 0
    have z1 : w2.cell? ⟨w1.heap.size + 1, 1, none⟩ = some (.int .i64 tn) := cell_block h9 1
    obtain ⟨A2, cap2, rfl, hcap2, _⟩ := own_slice ho2
    obtain ⟨g, rfl⟩ : ∃ g, A2 = some ⟨g, 0, none⟩ := by
      rcases HO2.out.2 with ⟨hv, h0⟩ | ⟨g, c', cur, hv, _⟩
      · omega
      · injection hv with e1 e2 e3
        exact ⟨g, e1⟩
    have hw := hide (WAt.mk HO2.out HL2.out.out h8 h9)
    have HBC := hide (And.intro hb1 (And.intro hb2 hb3))
    clear ho2 hbc hlw HL h8 h9 HO2 HL2 hb1 hb2 hb3
    generalize w1.heap.size = p8 at *
    go_upto_block 0 with fail
    go_cut [25] (fun _ wx => WAt w wx g p8 cap2 (wrP ⟨more, lone, start, part, hasPic, wide, pc, hasTl0, t0, hasTid, tid, sync, hasKey, key⟩ pn pic b) #[.bool more, .bool lone, .bool start, .int .u8 part, .bool hasPic, .bool wide, .int .u16 pc, .bool hasTl0, .int .u8 t0, .bool hasTid, .int .u8 tid, .bool sync, .bool hasKey, .int .u8 key] #[.int .i64 pn, .int .i64 tn])
    case first =>
      cases wide
      · cases hasPic
        · go_wp2_with fail
          go_meet
          exact hw.out
        · have hb1 := HBC.out.1 rfl
          have cb := hw.out.cell pn hb1
          have fb := hw.out.own.frozenAt pn
          have h127 : bits .and .u8 ((pic : Int) % 256) 127 = ((pic % 128 : Nat) : Int) := (and127 (pic % 256) (by omega)).trans (by omega)
          go_wp2_with fail
          go_meet
          exact hw.out.put pn _ (pic % 128) (by omega) (by omega)
      · have hb2 := HBC.out.2.1 rfl
        have hb1 : pn < b.length := by omega
        obtain ⟨V1, hV1⟩ : ∃ V1, V1 = 128 + pic / 256 % 128 := ⟨_, rfl⟩
        obtain ⟨V2, hV2⟩ : ∃ V2, V2 = pic % 256 := ⟨_, rfl⟩
        have hV1l : V1 < 256 := by omega
        have hV2l : V2 < 256 := by omega
        have h128 : bits .or .u8 128 ((pic : Int) / 256) = (V1 : Nat) := by rw [hV1]; exact or128 (pic / 256) (by omega)
        have h256 : (pic : Int) % 256 = (V2 : Nat) := by omega
        have hwp : IntKind.u8.wrap ((pic : Int) / 256) = (pic : Int) / 256 := by simp [IntKind.wrap, IntKind.signed, IntKind.bits]; omega
        have hwi : IntKind.i64.wrap ((pn : Int) + 1) = (pn : Int) + 1 := IntWalk.i64_in _ (by omega)
        have hw8 : IntKind.u8.wrap (pic : Int) = (V2 : Nat) := by simp [IntKind.wrap, IntKind.signed, IntKind.bits]; omega
        have hb2I : (pn : Int) + 1 < (b.length : Int) := by omega
        have HVV := hide (And.intro hV1 hV2)
        have HWD := hide hw.out.drew
        have H9 := hide hw.out.drew.h9
        have hne9 : p8 + 1 ≠ g := fun e => own_ne hw.out.own hw.out.h9 (by decide) (by rw [e]; rfl)
        clear hV1 hV2
        go_wp2_with fail
        refine' wp_region_rows 14 28 (Two g pn (pn + 1) (.int .u8 (V1 : Nat)) (.int .u8 (V2 : Nat))) (Is _ :: Is _ :: Is _ :: Is _ :: Is _ :: Is _ :: Is _ :: Is _ :: Is _ :: Is _ :: Is _ :: Is _ :: Is _ :: Is _ :: (fun _ W => W.setCell ⟨g, pn, none⟩ (.int .u8 (V1 : Nat)) = W) :: Is _ :: (fun _ W => W.setCell ⟨g, pn + 1, none⟩ (.int .u8 (V2 : Nat)) = W) :: []) ([] :: [] :: [1] :: [] :: [] :: [4] :: [5] :: [] :: [7] :: [8] :: [9] :: [] :: [11] :: [0, 2] :: [10, 13] :: [3, 6] :: [12, 15] :: []) (by kernel_rfl) (by kernel_rfl) (by rfl) (by kernel_rfl) Two.refl (fun _ _ _ h h' => h.trans (by omega) h') ⟨St.is, St.is, St.is, St.is, St.is, St.is, St.is, St.is, St.is, St.is, St.is, St.is, St.is, St.is, (fun _ _ _ h hk => h.keep1 (by omega) hk), St.is, (fun _ _ _ h hk => h.keep2 (by omega) hk), trivial⟩ ?m6
        case m6 =>
          simp (maxSteps := 100000000) only [AllV, Obl2, Leans, factAt, allFacts, actOf, putAll, putRow, Act.put, List.setIfInBounds_toArray, List.set_cons_succ, List.set_cons_zero, List.getElem?_cons_zero, List.getElem?_cons_succ, List.take_succ_cons, List.take_zero, List.drop_succ_cons, List.drop_zero, List.cons_append, List.nil_append, List.length_cons, List.length_nil, Nat.reduceAdd]
          intro x0 x1 x2 x3 x4 x5 x6 x7 x8 x9 x10 x11 x12 x13 x14 x15 x16
          refine ⟨⟨?_, ?_, ?_, ?_, ?_, ?_, ?_, ?_, ?_, ?_, ?_, ?_, ?_, ?_, ?_, ?_, ?_, trivial⟩, ?_⟩
          -- 0: 28 := Op.move t12
          · intro w hw  K hK; go_simp; exact hK _ _ (Two.refl _) (Is.mk _ _)
          -- 1: 29 := Op.fieldAddr 82 t9 0
          · intro w hw  K hK; go_simp; exact hK _ _ (Two.refl _) (Is.mk _ _)
          -- 2: 30 := Op.load 3 t29
          · intro w hw h1 K hK; cases h1; have hz := cell_block (hw.heap H9.out hne9) 0; simp only [List.getElem?_toArray, List.getElem?_cons_zero] at hz; go_simp; exact hK _ _ (Two.refl _) (Is.mk _ _)
          -- 3: 31 := Op.move t12
          · intro w hw  K hK; go_simp; exact hK _ _ (Two.refl _) (Is.mk _ _)
          -- 4: 32 := Op.fieldAddr 82 t9 0
          · intro w hw  K hK; go_simp; exact hK _ _ (Two.refl _) (Is.mk _ _)
          -- 5: 33 := Op.load 3 t32
          · intro w hw h4 K hK; cases h4; have hz := cell_block (hw.heap H9.out hne9) 0; simp only [List.getElem?_toArray, List.getElem?_cons_zero] at hz; go_simp; exact hK _ _ (Two.refl _) (Is.mk _ _)
          -- 6: 34 := Op.binOp BinOp.add 3 t33 (const (1:i64)) 3
          · intro w hw h5 K hK; cases h5; go_simp; exact hK _ _ (Two.refl _) (Is.mk _ _)
          -- 7: 35 := Op.move t1
          · intro w hw  K hK; go_simp; exact hK _ _ (Two.refl _) (Is.mk _ _)
          -- 8: 36 := Op.binOp BinOp.shr 25 t35 (const (8:u64)) 69
          · intro w hw h7 K hK; cases h7; go_simp; exact hK _ _ (Two.refl _) (Is.mk _ _)
          -- 9: 37 := Op.convert 25 5 t36
          · intro w hw h8 K hK; cases h8; go_simp; exact hK _ _ (Two.refl _) (Is.mk _ _)
          -- 10: 38 := Op.binOp BinOp.or 5 (const (128:u8)) t37 5
          · intro w hw h9 K hK; cases h9; go_simp; exact hK _ _ (Two.refl _) (Is.mk _ _)
          -- 11: 39 := Op.move t1
          · intro w hw  K hK; go_simp; exact hK _ _ (Two.refl _) (Is.mk _ _)
          -- 12: 40 := Op.convert 25 5 t39
          · intro w hw h11 K hK; cases h11; go_simp; exact hK _ _ (Two.refl _) (Is.mk _ _)
          -- 13: 41 := Op.indexAddr 26 t28 t30
          · intro w hw h0 h2 K hK; cases h0; cases h2; go_simp; exact hK _ _ (Two.refl _) (Is.mk _ _)
          -- 14: none := Op.store 5 t41 t38
          · intro w hw h10 h13 K hK; cases h10; cases h13; obtain ⟨L, hL, hW⟩ := wat_two hV1l hV2l hw HWD.out; have cb := hW.cell pn (by omega); have fb := hW.own.frozenAt pn; go_simp; exact hK undef _ (.inr (.inl rfl)) (setCell_again ..)
          -- 15: 42 := Op.indexAddr 26 t31 t34
          · intro w hw h3 h6 K hK; cases h3; cases h6; go_simp; exact hK _ _ (Two.refl _) (Is.mk _ _)
          -- 16: none := Op.store 5 t42 t40
          · intro w hw h12 h15 K hK; cases h12; cases h15; obtain ⟨L, hL, hW⟩ := wat_two hV1l hV2l hw HWD.out; have cb := hW.cell (pn + 1) (by omega); have fb := hW.own.frozenAt (pn + 1); go_simp; exact hK undef _ (.inr (.inr (.inl rfl))) (setCell_again ..)
          · intro wz hz h0 h1 h2 h3 h4 h5 h6 h7 h8 h9 h10 h11 h12 h13 h14 h15 h16; cases h0; cases h1; cases h2; cases h3; cases h4; cases h5; cases h6; cases h7; cases h8; cases h9; cases h10; cases h11; cases h12; cases h13; cases h15; skip
            go_wp2_with fail
            go_meet
            have hwz := hz.both (by omega) h14 h16
            rw [hwz]
            have hfin := (HWD.out.put pn _ V1 rfl hV1l).put (pn + 1) _ V2 rfl hV2l
            rw [HVV.out.1, HVV.out.2] at hfin ⊢
            exact hfin
    case rest =>
      have hw2 := hide hcut
      have hlen := wrP_len ⟨more, lone, start, part, hasPic, wide, pc, hasTl0, t0, hasTid, tid, sync, hasKey, key⟩ pn pic b
      have y7' : wc.cell? ⟨p8, 7, none⟩ = some (.bool hasTl0) := cell_block hcut.h8 7
      have z1' : wc.cell? ⟨p8 + 1, 1, none⟩ = some (.int .i64 tn) := cell_block hcut.h9 1
      clear hcut y4 y5 y7 z0 z1 hw
      have hbb := HBB.out
      generalize wrP ⟨more, lone, start, part, hasPic, wide, pc, hasTl0, t0, hasTid, tid, sync, hasKey, key⟩ pn pic b = b1 at *
      have HB1 := hide hbb
      clear hbb HBB
      cases hasTl0
      · go_wp2_with fail
        go_ret2
        rw [HB1.out]
        exact ⟨_, rfl, hlen ▸ hw2.out.own, hw2.out.le⟩
      · have hb3 := HBC.out.2.2 rfl
        have cb := hw2.out.cell tn (by omega)
        have fb := hw2.out.own.frozenAt tn
        go_wp2_with fail
        go_ret2
        have hf := hw2.out.put tn _ tl0 rfl htl0
        rw [HB1.out]
        have ho := hf.own
        rw [List.length_set, hlen] at ho
        refine ⟨_, rfl, ?_, hf.le⟩
        have e : (wrT ⟨more, lone, start, part, hasPic, wide, pc, true, t0, hasTid, tid, sync, hasKey, key⟩ tn tl0 b1).length = b.length := by rw [wrT_len, hlen]
        rw [e]
        exact ho
  · rw [he] at HB HP ⊢
    have hBB := HB.out
    have HBB := hide hBB
    go_enter Try.func86, Try.ntmps86
    go_wp2_with fail
    refine HP.out.mono ?_
    rintro e w1 ⟨rfl, hbw⟩
    have HL := hide (Le.mk hbw)
    clear hbw HP
    go_wp2_with fail
    go_ret2
    rw [HBB.out]
    exact ⟨_, rfl, World.ownsRow_nil _ _ _ _, ((HL.out.alloc _).alloc _).out⟩
end Go.Proofs.Ytekioihjfggmdaa
