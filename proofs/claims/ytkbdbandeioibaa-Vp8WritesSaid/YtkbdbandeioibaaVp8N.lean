/- vp8 numbers written, in plain lists. -/
import Derived.Test.YtkbdbandeioibaaVp8G
namespace Go.Proofs.Ytkbdbandeioibaa
open Go.RowKit
set_option linter.unusedVariables false

def newP (pic : Nat) : List UInt8 → List UInt8
  | [_] => [UInt8.ofNat (pic % 128)]
  | [_, _] => [UInt8.ofNat (128 + pic / 256 % 128), UInt8.ofNat (pic % 256)]
  | P => P
def newT (tl0 : Nat) : List UInt8 → List UInt8
  | [_] => [UInt8.ofNat tl0]
  | T => T
theorem wr_form {x0 x1 : UInt8} {P T K : List UInt8} (rest : List UInt8) (h : Form x0 x1 P T K) (pic tl0 : Nat) : vpWr (formB x0 x1 P T K rest) pic tl0 = formB x0 x1 (newP pic P) (newT tl0 T) K rest := by
  have hp := form_parse rest h
  have hE : vpE (formB x0 x1 P T K rest) = 0 := by rw [vpE, hp]
  rw [vpWr, if_pos hE, hp]
  simp only
  rw [wrT, wrP, formD_wide, formD_pic, formD_tl0]
  have h1 := h.p
  have h2 := h.t
  rcases h1 with ⟨hb, rfl⟩ | ⟨hb, y, rfl, hy⟩ | ⟨hb, y, z, rfl, hy⟩ <;> rcases h2 with ⟨ht, rfl⟩ | ⟨ht, t, rfl⟩ <;> simp [hb, ht, place, newP, newT, formB]
theorem new_form {x0 x1 : UInt8} {P T K : List UInt8} (h : Form x0 x1 P T K) (pic tl0 : Nat) : Form x0 x1 (newP pic P) (newT tl0 T) K := by
  refine ⟨h.more, ?_, ?_, h.k⟩
  · rcases h.p with ⟨hb, rfl⟩ | ⟨hb, y, rfl, hy⟩ | ⟨hb, y, z, rfl, hy⟩
    · exact .inl ⟨hb, rfl⟩
    · exact .inr (.inl ⟨hb, _, rfl, by rw [nat_u8 _ (by omega)]; simp only [bt, decide_eq_false_iff_not]; omega⟩)
    · exact .inr (.inr ⟨hb, _, _, rfl, by rw [nat_u8 _ (by omega)]; simp only [bt, decide_eq_true_eq]; omega⟩)
  · rcases h.t with ⟨ht, rfl⟩ | ⟨ht, t, rfl⟩
    · exact .inl ⟨ht, rfl⟩
    · exact .inr ⟨ht, _, rfl⟩
/-- a descriptor with other numbers -/
def Dsc.with (d : Dsc) (pic tl0 : Nat) : Dsc := { d with pic := if d.hasPic then (if d.wide then pic % 32768 else pic % 128) else d.pic, tl0 := if d.hasTl0 then tl0 else d.tl0 }
def upd (d : Dsc) (pic tl0 : Nat) : Dsc := { d with pic := pic, tl0 := tl0 }
theorem with_upd (d : Dsc) (pic tl0 : Nat) : d.with pic tl0 = upd d (if d.hasPic then (if d.wide then pic % 32768 else pic % 128) else d.pic) (if d.hasTl0 then tl0 else d.tl0) := rfl
theorem setK_tl0c (d : Dsc) (K : List UInt8) (pic tl0 : Nat) : setK (upd d pic tl0) K = upd (setK d K) pic tl0 := by
  unfold upd
  unfold setK
  split
  · rw [third_eq, third_eq]
  · rfl
theorem new_desc {x0 x1 : UInt8} {P T K : List UInt8} (h : Form x0 x1 P T K) (pic tl0 : Nat) (hpic : pic < 65536) (ht0 : tl0 < 256) : formD x0 x1 (newP pic P) (newT tl0 T) K = (formD x0 x1 P T K).with pic tl0 := by
  rw [with_upd, formD_pic, formD_wide, formD_tl0]
  have hpp : (formD x0 x1 P T K).pic = (setP ((Dsc.head x0.toNat).has x1.toNat) P).pic := by rw [formD, setK_pic, setT_pic']
  have htt : (formD x0 x1 P T K).tl0 = (setT (setP ((Dsc.head x0.toNat).has x1.toNat) P) T).tl0 := by rw [formD, setK_tl0]
  rw [hpp, htt, formD, formD, ← setK_tl0c]
  congr 1
  rcases h.p with ⟨hb, rfl⟩ | ⟨hb, y, rfl, hy⟩ | ⟨hb, y, z, rfl, hy⟩ <;> rcases h.t with ⟨ht, rfl⟩ | ⟨ht, t, rfl⟩ <;>
    simp only [upd, newP, newT, setP, setT, Dsc.second, hb, ht, nat_u8 _ ht0, nat_u8 _ (show pic % 128 < 256 by omega), nat_u8 _ (show pic % 256 < 256 by omega), nat_u8 _ (show 128 + pic / 256 % 128 < 256 by omega), if_true, Bool.false_eq_true, if_false]
  all_goals (try rw [show (128 + pic / 256 % 128) % 128 * 256 + pic % 256 = pic % 32768 by omega])
theorem new_back {x0 x1 : UInt8} {P T K : List UInt8} (h : Form x0 x1 P T K) (pic tl0 : Nat) : newP (formD x0 x1 P T K).pic (newP pic P) = P ∧ newT (formD x0 x1 P T K).tl0 (newT tl0 T) = T := by
  have hpp : (formD x0 x1 P T K).pic = (setP ((Dsc.head x0.toNat).has x1.toNat) P).pic := by rw [formD, setK_pic, setT_pic']
  have htt : (formD x0 x1 P T K).tl0 = (setT (setP ((Dsc.head x0.toNat).has x1.toNat) P) T).tl0 := by rw [formD, setK_tl0]
  rw [hpp, htt]
  constructor
  · rcases h.p with ⟨hb, rfl⟩ | ⟨hb, y, rfl, hy⟩ | ⟨hb, y, z, rfl, hy⟩
    · rfl
    · have hy8 := y.toNat_lt
      have h7 : y.toNat / 128 % 2 ≠ 1 := by simpa [bt] using hy
      simp only [newP, setP]
      rw [show y.toNat % 128 = y.toNat by omega]
      simp
    · have hy8 := y.toNat_lt
      have hz8 := z.toNat_lt
      have h7 : y.toNat / 128 % 2 = 1 := by simpa [bt] using hy
      simp only [newP, setP]
      rw [show 128 + (y.toNat % 128 * 256 + z.toNat) / 256 % 128 = y.toNat by omega, show (y.toNat % 128 * 256 + z.toNat) % 256 = z.toNat by omega]
      simp
  · rcases h.t with ⟨ht, rfl⟩ | ⟨ht, t, rfl⟩
    · rfl
    · simp [newT, setT, Dsc.second]
theorem lone_wr (x0 : UInt8) (rest : List UInt8) (h : bt x0.toNat 128 = false) (pic tl0 : Nat) : vpWr (x0 :: rest) pic tl0 = x0 :: rest := by
  have hp := lone_parse x0 rest h
  have hE : vpE (x0 :: rest) = 0 := by rw [vpE, hp]
  rw [vpWr, if_pos hE, hp]
  simp [wrT, wrP, Dsc.head, Dsc.zero]
theorem newP_len (pic : Nat) (P : List UInt8) : (newP pic P).length = P.length := by unfold newP; split <;> rfl
theorem newT_len (t : Nat) (P : List UInt8) : (newT t P).length = P.length := by unfold newT; split <;> rfl

/-- what Vp8Numbers says, in plain lists -/
theorem numbers (b : List UInt8) (pic tl0 : Nat) (hpic : pic < 65536) (ht0 : tl0 < 256) (h : vpE b = 0) :
    vpE (vpWr b pic tl0) = 0 ∧ vpN (vpWr b pic tl0) = vpN b ∧ (vpWr b pic tl0).length = b.length ∧ (vpWr b pic tl0).drop (vpN b).toNat = b.drop (vpN b).toNat ∧
      vpD (vpWr b pic tl0) = (vpD b).with pic tl0 ∧ vpWr (vpWr b pic tl0) (vpD b).pic (vpD b).tl0 = b := by
  rcases form_of b h with ⟨x0, rest, rfl, h0⟩ | ⟨x0, x1, P, T, K, rest, rfl, hF⟩
  · rw [lone_wr x0 rest h0]
    refine ⟨h, rfl, rfl, rfl, ?_, lone_wr x0 rest h0 _ _⟩
    rw [vpD, if_pos h, lone_parse x0 rest h0]
    simp [Dsc.with, Dsc.head, Dsc.zero]
  · have hp := form_parse rest hF
    have hF2 := new_form hF pic tl0
    have hp2 := form_parse rest hF2
    have hD : vpD (formB x0 x1 P T K rest) = formD x0 x1 P T K := by rw [vpD, if_pos h, hp]
    have hN : vpN (formB x0 x1 P T K rest) = ((2 + P.length + T.length + K.length : Nat) : Int) := by
      rw [vpN, if_pos h, hp]
      simp [formB]
      omega
    have hE2 : vpE (formB x0 x1 (newP pic P) (newT tl0 T) K rest) = 0 := by rw [vpE, hp2]
    have hD2 : vpD (formB x0 x1 (newP pic P) (newT tl0 T) K rest) = formD x0 x1 (newP pic P) (newT tl0 T) K := by rw [vpD, if_pos hE2, hp2]
    have hN2 : vpN (formB x0 x1 (newP pic P) (newT tl0 T) K rest) = ((2 + P.length + T.length + K.length : Nat) : Int) := by
      rw [vpN, if_pos hE2, hp2]
      simp [formB, newP_len, newT_len]
      omega
    obtain ⟨hb1, hb2⟩ := new_back hF pic tl0
    have hdr : ∀ P T : List UInt8, (formB x0 x1 P T K rest).drop (2 + P.length + T.length + K.length) = rest := by
      intro P T
      have e : formB x0 x1 P T K rest = (x0 :: x1 :: (P ++ (T ++ K))) ++ rest := by simp [formB]
      rw [e, List.drop_append_of_le_length (by simp; omega), List.drop_of_length_le (by simp; omega)]
      rfl
    rw [wr_form rest hF, hD, hN, hD2, hN2, new_desc hF pic tl0 hpic ht0, wr_form rest hF2, hb1, hb2]
    refine ⟨hE2, rfl, ?_, ?_, rfl, rfl⟩
    · simp [formB, newP_len, newT_len]
    · rw [Int.toNat_natCast, hdr P T]
      have := hdr (newP pic P) (newT tl0 T)
      rw [newP_len, newT_len] at this
      exact this
theorem head_ok (x : UInt8) : (Dsc.head x.toNat).Ok := ⟨by simp only [Dsc.head]; omega, by simp [Dsc.head, Dsc.zero], by simp [Dsc.head, Dsc.zero], by simp [Dsc.head, Dsc.zero], by simp [Dsc.head, Dsc.zero]⟩
theorem vpD_ok (b : List UInt8) : (vpD b).Ok := by
  rcases vpE_two b with h | h
  · rcases form_of b h with ⟨x0, rest, rfl, h0⟩ | ⟨x0, x1, P, T, K, rest, rfl, hF⟩
    · rw [vpD, if_pos h, lone_parse x0 rest h0]
      exact head_ok x0
    · rw [vpD, if_pos h, form_parse rest hF]
      obtain ⟨q1, q2, q3, q4, q5⟩ := head_ok x0
      refine ⟨?_, ?_, ?_, ?_, ?_⟩
      · show (formD x0 x1 P T K).part < 256
        rw [formD, setK_part, setT_part', setP_part']
        exact q1
      · show (formD x0 x1 P T K).pic < 65536
        rw [formD, setK_pic, setT_pic']
        unfold setP
        split
        · have := UInt8.toNat_lt ‹UInt8›; simp only; omega
        · rename_i y z
          have := z.toNat_lt
          simp only; omega
        · exact q2
      · show (formD x0 x1 P T K).tl0 < 256
        rw [formD, setK_tl0]
        unfold setT
        split
        · rename_i t
          have := t.toNat_lt
          simp only [Dsc.second]; omega
        · rw [setP_tl0']; exact q3
      · show (formD x0 x1 P T K).tid < 256
        rw [formD]
        unfold setK
        split
        · rename_i k
          have := k.toNat_lt
          rw [third_eq]
          simp only
          split
          · omega
          · rw [setT_tid', setP_tid']; exact q4
        · rw [setT_tid', setP_tid']; exact q4
      · show (formD x0 x1 P T K).key < 256
        rw [formD]
        unfold setK
        split
        · rename_i k
          have := k.toNat_lt
          rw [third_eq]
          simp only
          split
          · omega
          · rw [setT_key', setP_key']; exact q5
        · rw [setT_key', setP_key']; exact q5
  · rw [vpD, if_neg (by omega)]
    exact ⟨by decide, by decide, by decide, by decide, by decide⟩
end Go.Proofs.Ytkbdbandeioibaa
