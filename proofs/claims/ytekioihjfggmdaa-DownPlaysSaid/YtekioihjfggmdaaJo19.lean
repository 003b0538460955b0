/- Texts of one claim, laid together: Vp8N DownD MidIn DownE -/
import Derived.Test.YtekioihjfggmdaaJo18
import Derived.Test.YtekioihjfggmdaaJo13
import Derived.Test.YtekioihjfggmdaaJo15
import Derived.Test.YtekioihjfggmdaaJo17
import Derived.Test.YtekioihjfggmdaaJo04
/- vp8 numbers written, in plain lists. -/
namespace Go.Proofs.Ytekioihjfggmdaa
open Go.RowKit
set_option linter.unusedVariables false

def newP (pic : Nat) : List UInt8 → List UInt8
  | [_] => [UInt8.ofNat (pic % 128)]
  | [_, _] => [UInt8.ofNat (128 + pic / 256 % 128), UInt8.ofNat (pic % 256)]
  | P => P
def newT (tl0 : Nat) : List UInt8 → List UInt8
  | [_] => [UInt8.ofNat tl0]
  | T => T
theorem wr_form {x0 x1 : UInt8} {P T K : List UInt8} (rest : List UInt8) (h : Form x0 x1 P T K) (pic tl0 : Nat) : vpWr (formB x0 x1 P T K rest) pic tl0 = formB x0 x1 (newP pic P) (newT tl0 T) K rest := by
  have hp := form_parse rest h
  have hE : vpE (formB x0 x1 P T K rest) = 0 := by rw [vpE, hp]
  rw [vpWr, if_pos hE, hp]
  simp only
  rw [wrT, wrP, formD_wide, formD_pic, formD_tl0]
  have h1 := h.p
  have h2 := h.t
  rcases h1 with ⟨hb, rfl⟩ | ⟨hb, y, rfl, hy⟩ | ⟨hb, y, z, rfl, hy⟩ <;> rcases h2 with ⟨ht, rfl⟩ | ⟨ht, t, rfl⟩ <;> simp [hb, ht, place, newP, newT, formB]
theorem new_form {x0 x1 : UInt8} {P T K : List UInt8} (h : Form x0 x1 P T K) (pic tl0 : Nat) : Form x0 x1 (newP pic P) (newT tl0 T) K := by
  refine ⟨h.more, ?_, ?_, h.k⟩
  · rcases h.p with ⟨hb, rfl⟩ | ⟨hb, y, rfl, hy⟩ | ⟨hb, y, z, rfl, hy⟩
    · exact .inl ⟨hb, rfl⟩
    · exact .inr (.inl ⟨hb, _, rfl, by rw [nat_u8 _ (by omega)]; simp only [bt, decide_eq_false_iff_not]; omega⟩)
    · exact .inr (.inr ⟨hb, _, _, rfl, by rw [nat_u8 _ (by omega)]; simp only [bt, decide_eq_true_eq]; omega⟩)
  · rcases h.t with ⟨ht, rfl⟩ | ⟨ht, t, rfl⟩
    · exact .inl ⟨ht, rfl⟩
    · exact .inr ⟨ht, _, rfl⟩
/-- a descriptor with other numbers -/
def Dsc.with (d : Dsc) (pic tl0 : Nat) : Dsc := { d with pic := if d.hasPic then (if d.wide then pic % 32768 else pic % 128) else d.pic, tl0 := if d.hasTl0 then tl0 else d.tl0 }
def upd (d : Dsc) (pic tl0 : Nat) : Dsc := { d with pic := pic, tl0 := tl0 }
theorem with_upd (d : Dsc) (pic tl0 : Nat) : d.with pic tl0 = upd d (if d.hasPic then (if d.wide then pic % 32768 else pic % 128) else d.pic) (if d.hasTl0 then tl0 else d.tl0) := rfl
theorem setK_tl0c (d : Dsc) (K : List UInt8) (pic tl0 : Nat) : setK (upd d pic tl0) K = upd (setK d K) pic tl0 := by
  unfold upd
  unfold setK
  split
  · rw [third_eq, third_eq]
  · rfl
theorem new_desc {x0 x1 : UInt8} {P T K : List UInt8} (h : Form x0 x1 P T K) (pic tl0 : Nat) (hpic : pic < 65536) (ht0 : tl0 < 256) : formD x0 x1 (newP pic P) (newT tl0 T) K = (formD x0 x1 P T K).with pic tl0 := by
  rw [with_upd, formD_pic, formD_wide, formD_tl0]
  have hpp : (formD x0 x1 P T K).pic = (setP ((Dsc.head x0.toNat).has x1.toNat) P).pic := by rw [formD, setK_pic, setT_pic']
  have htt : (formD x0 x1 P T K).tl0 = (setT (setP ((Dsc.head x0.toNat).has x1.toNat) P) T).tl0 := by rw [formD, setK_tl0]
  rw [hpp, htt, formD, formD, ← setK_tl0c]
  congr 1
  rcases h.p with ⟨hb, rfl⟩ | ⟨hb, y, rfl, hy⟩ | ⟨hb, y, z, rfl, hy⟩ <;> rcases h.t with ⟨ht, rfl⟩ | ⟨ht, t, rfl⟩ <;>
    simp only [upd, newP, newT, setP, setT, Dsc.second, hb, ht, nat_u8 _ ht0, nat_u8 _ (show pic % 128 < 256 by omega), nat_u8 _ (show pic % 256 < 256 by omega), nat_u8 _ (show 128 + pic / 256 % 128 < 256 by omega), if_true, Bool.false_eq_true, if_false]
  all_goals (try rw [show (128 + pic / 256 % 128) % 128 * 256 + pic % 256 = pic % 32768 by omega])
theorem new_back {x0 x1 : UInt8} {P T K : List UInt8} (h : Form x0 x1 P T K) (pic tl0 : Nat) : newP (formD x0 x1 P T K).pic (newP pic P) = P ∧ newT (formD x0 x1 P T K).tl0 (newT tl0 T) = T := by
  have hpp : (formD x0 x1 P T K).pic = (setP ((Dsc.head x0.toNat).has x1.toNat) P).pic := by rw [formD, setK_pic, setT_pic']
  have htt : (formD x0 x1 P T K).tl0 = (setT (setP ((Dsc.head x0.toNat).has x1.toNat) P) T).tl0 := by rw [formD, setK_tl0]
  rw [hpp, htt]
  constructor
  · rcases h.p with ⟨hb, rfl⟩ | ⟨hb, y, rfl, hy⟩ | ⟨hb, y, z, rfl, hy⟩
    · rfl
    · have hy8 := y.toNat_lt
      have h7 : y.toNat / 128 % 2 ≠ 1 := by simpa [bt] using hy
      simp only [newP, setP]
      rw [show y.toNat % 128 = y.toNat by omega]
      simp
    · have hy8 := y.toNat_lt
      have hz8 := z.toNat_lt
      have h7 : y.toNat / 128 % 2 = 1 := by simpa [bt] using hy
      simp only [newP, setP]
      rw [show 128 + (y.toNat % 128 * 256 + z.toNat) / 256 % 128 = y.toNat by omega, show (y.toNat % 128 * 256 + z.toNat) % 256 = z.toNat by omega]
      simp
  · rcases h.t with ⟨ht, rfl⟩ | ⟨ht, t, rfl⟩
    · rfl
    · simp [newT, setT, Dsc.second]
theorem lone_wr (x0 : UInt8) (rest : List UInt8) (h : bt x0.toNat 128 = false) (pic tl0 : Nat) : vpWr (x0 :: rest) pic tl0 = x0 :: rest := by
  have hp := lone_parse x0 rest h
  have hE : vpE (x0 :: rest) = 0 := by rw [vpE, hp]
  rw [vpWr, if_pos hE, hp]
  simp [wrT, wrP, Dsc.head, Dsc.zero]
theorem newP_len (pic : Nat) (P : List UInt8) : (newP pic P).length = P.length := by unfold newP; split <;> rfl
theorem newT_len (t : Nat) (P : List UInt8) : (newT t P).length = P.length := by unfold newT; split <;> rfl

/-- what Vp8Numbers says, in plain lists -/
theorem numbers (b : List UInt8) (pic tl0 : Nat) (hpic : pic < 65536) (ht0 : tl0 < 256) (h : vpE b = 0) :
    vpE (vpWr b pic tl0) = 0 ∧ vpN (vpWr b pic tl0) = vpN b ∧ (vpWr b pic tl0).length = b.length ∧ (vpWr b pic tl0).drop (vpN b).toNat = b.drop (vpN b).toNat ∧
      vpD (vpWr b pic tl0) = (vpD b).with pic tl0 ∧ vpWr (vpWr b pic tl0) (vpD b).pic (vpD b).tl0 = b := by
  rcases form_of b h with ⟨x0, rest, rfl, h0⟩ | ⟨x0, x1, P, T, K, rest, rfl, hF⟩
  · rw [lone_wr x0 rest h0]
    refine ⟨h, rfl, rfl, rfl, ?_, lone_wr x0 rest h0 _ _⟩
    rw [vpD, if_pos h, lone_parse x0 rest h0]
    simp [Dsc.with, Dsc.head, Dsc.zero]
  · have hp := form_parse rest hF
    have hF2 := new_form hF pic tl0
    have hp2 := form_parse rest hF2
    have hD : vpD (formB x0 x1 P T K rest) = formD x0 x1 P T K := by rw [vpD, if_pos h, hp]
    have hN : vpN (formB x0 x1 P T K rest) = ((2 + P.length + T.length + K.length : Nat) : Int) := by
      rw [vpN, if_pos h, hp]
      simp [formB]
      omega
    have hE2 : vpE (formB x0 x1 (newP pic P) (newT tl0 T) K rest) = 0 := by rw [vpE, hp2]
    have hD2 : vpD (formB x0 x1 (newP pic P) (newT tl0 T) K rest) = formD x0 x1 (newP pic P) (newT tl0 T) K := by rw [vpD, if_pos hE2, hp2]
    have hN2 : vpN (formB x0 x1 (newP pic P) (newT tl0 T) K rest) = ((2 + P.length + T.length + K.length : Nat) : Int) := by
      rw [vpN, if_pos hE2, hp2]
      simp [formB, newP_len, newT_len]
      omega
    obtain ⟨hb1, hb2⟩ := new_back hF pic tl0
    have hdr : ∀ P T : List UInt8, (formB x0 x1 P T K rest).drop (2 + P.length + T.length + K.length) = rest := by
      intro P T
      have e : formB x0 x1 P T K rest = (x0 :: x1 :: (P ++ (T ++ K))) ++ rest := by simp [formB]
      rw [e, List.drop_append_of_le_length (by simp; omega), List.drop_of_length_le (by simp; omega)]
      rfl
    rw [wr_form rest hF, hD, hN, hD2, hN2, new_desc hF pic tl0 hpic ht0, wr_form rest hF2, hb1, hb2]
    refine ⟨hE2, rfl, ?_, ?_, rfl, rfl⟩
    · simp [formB, newP_len, newT_len]
    · rw [Int.toNat_natCast, hdr P T]
      have := hdr (newP pic P) (newT tl0 T)
      rw [newP_len, newT_len] at this
      exact this
theorem head_ok (x : UInt8) : (Dsc.head x.toNat).Ok := ⟨by simp only [Dsc.head]; omega, by simp [Dsc.head, Dsc.zero], by simp [Dsc.head, Dsc.zero], by simp [Dsc.head, Dsc.zero], by simp [Dsc.head, Dsc.zero]⟩
theorem vpD_ok (b : List UInt8) : (vpD b).Ok := by
  rcases vpE_two b with h | h
  · rcases form_of b h with ⟨x0, rest, rfl, h0⟩ | ⟨x0, x1, P, T, K, rest, rfl, hF⟩
    · rw [vpD, if_pos h, lone_parse x0 rest h0]
      exact head_ok x0
    · rw [vpD, if_pos h, form_parse rest hF]
      obtain ⟨q1, q2, q3, q4, q5⟩ := head_ok x0
      refine ⟨?_, ?_, ?_, ?_, ?_⟩
      · show (formD x0 x1 P T K).part < 256
        rw [formD, setK_part, setT_part', setP_part']
        exact q1
      · show (formD x0 x1 P T K).pic < 65536
        rw [formD, setK_pic, setT_pic']
        unfold setP
        split
        · have := UInt8.toNat_lt ‹UInt8›; simp only; omega
        · rename_i y z
          have := z.toNat_lt
          simp only; omega
        · exact q2
      · show (formD x0 x1 P T K).tl0 < 256
        rw [formD, setK_tl0]
        unfold setT
        split
        · rename_i t
          have := t.toNat_lt
          simp only [Dsc.second]; omega
        · rw [setP_tl0']; exact q3
      · show (formD x0 x1 P T K).tid < 256
        rw [formD]
        unfold setK
        split
        · rename_i k
          have := k.toNat_lt
          rw [third_eq]
          simp only
          split
          · omega
          · rw [setT_tid', setP_tid']; exact q4
        · rw [setT_tid', setP_tid']; exact q4
      · show (formD x0 x1 P T K).key < 256
        rw [formD]
        unfold setK
        split
        · rename_i k
          have := k.toNat_lt
          rw [third_eq]
          simp only
          split
          · omega
          · rw [setT_key', setP_key']; exact q5
        · rw [setT_key', setP_key']; exact q5
  · rw [vpD, if_neg (by omega)]
    exact ⟨by decide, by decide, by decide, by decide, by decide⟩
end Go.Proofs.Ytekioihjfggmdaa

/- down: a track as somebody is sent it, in plain Lean and in memory. -/
namespace Go.Proofs.Ytekioihjfggmdaa
open Go.RowKit
set_option linter.unusedVariables false

structure Dn where
  ssrc : Nat
  pick : Ch
  nums : Ms
  st : St
  sent : Nat
  left : Nat
  dropped : Nat
  late : Nat
  bad : Nat
def Dn.new (ssrc room : Nat) : Dn := ⟨ssrc, ⟨false, 0, 0, 0⟩, ⟨false, 0, 0, Nm.zero, Nm.zero⟩, St.new room, 0, 0, 0, 0, 0⟩
def Pk.renum (p : Pk) (n : Nm) (ssrc : Nat) : Pk := ⟨p.mark, p.type, n.seq, n.time, ssrc, p.csrc, p.exts, vpWr p.payload n.pic n.tl0, p.pad⟩
def Dn.send (d : Dn) (p : Pk) (n : Nm) : Dn × List UInt8 :=
  (⟨d.ssrc, d.pick, d.nums, d.st.add n.seq (p.renum n d.ssrc).out, d.sent + 1, d.left, d.dropped, d.late, d.bad⟩, (p.renum n d.ssrc).out)
def Dn.setNums (d : Dn) (s : Ms) : Dn := ⟨d.ssrc, d.pick, s, d.st, d.sent, d.left, d.dropped, d.late, d.bad⟩
def Dn.setPick (d : Dn) (s : Ch) : Dn := ⟨d.ssrc, s, d.nums, d.st, d.sent, d.left, d.dropped, d.late, d.bad⟩
def Dn.addLeft (d : Dn) : Dn := ⟨d.ssrc, d.pick, d.nums, d.st, d.sent, d.left + 1, d.dropped, d.late, d.bad⟩
def Dn.addDropped (d : Dn) : Dn := ⟨d.ssrc, d.pick, d.nums, d.st, d.sent, d.left, d.dropped + 1, d.late, d.bad⟩
def Dn.addLate (d : Dn) : Dn := ⟨d.ssrc, d.pick, d.nums, d.st, d.sent, d.left, d.dropped, d.late + 1, d.bad⟩
def Dn.addBad (d : Dn) : Dn := ⟨d.ssrc, d.pick, d.nums, d.st, d.sent, d.left, d.dropped, d.late, d.bad + 1⟩
def Pk.inn (p : Pk) (f l : Int) : Inn := ⟨f, l, (vpD p.payload).begins, vpW p.payload, (vpD p.payload).hasTid, (vpD p.payload).tid, (vpD p.payload).sync⟩
def Pk.nm (p : Pk) : Nm := ⟨p.seq, p.time, (vpD p.payload).pic, (vpD p.payload).tl0⟩
/-- what a closure does -/
def Dn.does (d : Dn) (p : Pk) (f l : Int) (what : Int) : Dn × Option (List UInt8) :=
  if what = 0 then (d.addLeft, none)
  else if what = 2 then ((d.setNums (d.nums.drop p.nm (vpD p.payload).begins)).addDropped, none)
  else if what = 3 then
    let r := (d.setNums (d.nums.switch p.nm 3000).1).send p (d.nums.switch p.nm 3000).2
    (r.1, some r.2)
  else if (d.nums.send p.nm).2.2 then
    let r := (d.setNums (d.nums.send p.nm).1).send p (d.nums.send p.nm).2.1
    (r.1, some r.2)
  else ((d.setNums (d.nums.send p.nm).1).addLate, none)
def Dn.take1 (d : Dn) (p : Pk) (f l : Int) (x : Wnt) : Dn × Option (List UInt8) :=
  if vpE p.payload ≠ 0 ∨ p.err ≠ 0 then ((if d.pick.is f l then d.setNums (d.nums.drop ⟨p.seq, 0, 0, 0⟩ false) else d).addBad, none)
  else (d.setPick (d.pick.take (p.inn f l) x).1).does p f l (d.pick.take (p.inn f l) x).2
def Dn.mute (d : Dn) : Dn := (d.setPick ⟨false, d.pick.src, d.pick.layer, d.pick.tid⟩).addLeft
def Dn.take (d : Dn) (p : Pk) (f l : Int) (x : Wnt) (muted : Bool) : Dn × Option (List UInt8) × Bool :=
  if muted then (d.mute, none, false) else ((d.take1 p f l x).1, (d.take1 p f l x).2, (d.take1 p f l x).1.pick.asks x)

/-- bounds behind i packets -/
structure Dn.Ok (d : Dn) (i : Nat) : Prop where
  ssrc : d.ssrc < 4294967296
  st : d.st.Ok
  high : -(65536 * ((i : Int) + 1)) ≤ d.nums.high ∧ d.nums.high ≤ 65536 * ((i : Int) + 1)
  since : -(65536 * ((i : Int) + 1)) ≤ d.nums.since ∧ d.nums.since ≤ 65536 * ((i : Int) + 1)
  off : d.nums.off.Ok
  out : d.nums.out.Ok
  cnt : d.sent + d.left + d.dropped + d.late + d.bad = i
theorem Dn.Ok.nums {d : Dn} {i : Nat} (h : d.Ok i) (hi : i ≤ 1000000) : d.nums.Ok :=
  ⟨by have := h.high; omega, by have := h.since; omega, h.off, h.out⟩
theorem nm_zero_ok : Nm.zero.Ok := ⟨by decide, by decide, by decide, by decide⟩
theorem Dn.new_ok {ssrc room : Nat} (h : ssrc < 4294967296) (h1 : 0 < room) (h2 : room ≤ 4096) : (Dn.new ssrc room).Ok 0 :=
  ⟨h, St.new_ok h1 h2, by simp [Dn.new], by simp [Dn.new], nm_zero_ok, nm_zero_ok, rfl⟩

def Ms.cs (s : Ms) : List Value := [.bool s.on, .int .i64 s.high, .int .i64 s.since, .int .u16 s.off.seq, .int .u32 s.off.time, .int .u16 s.off.pic, .int .u8 s.off.tl0, .int .u16 s.out.seq, .int .u32 s.out.time, .int .u16 s.out.pic, .int .u8 s.out.tl0]
def Ch.cs (s : Ch) : List Value := [.bool s.on, .int .i64 s.src, .int .i64 s.layer, .int .i64 s.tid]
def Dn.cells (d : Dn) (sb : Nat) : List Value := .int .u32 d.ssrc :: (d.pick.cs ++ (d.nums.cs ++ [.pointer (some ⟨sb, 0, none⟩), .int .i64 d.sent, .int .i64 d.left, .int .i64 d.dropped, .int .i64 d.late, .int .i64 d.bad]))
/-- where a downtrack lies -/
structure Dl where
  db : Nat
  sb : Nat
  rb : Nat
  mb : Nat
def Dl.S (L : Dl) (k : Nat) : Prop := k = L.db ∨ k = L.sb ∨ k = L.rb ∨ k = L.mb
structure DnAt (w : World) (L : Dl) (c : Nat) (d : Dn) (vs : List Value) : Prop where
  hd : w.heap[L.db]? = some (.cells (d.cells L.sb).toArray 95 (0, 0))
  st : StAt w L.sb L.rb L.mb c d.st vs
theorem DnAt.le {w w' : World} {L : Dl} {c : Nat} {d : Dn} {vs : List Value} (h : DnAt w L c d vs) (hl : Le w w') : DnAt w' L c d vs := ⟨hl.heap h.hd, h.st.le hl⟩
theorem DnAt.cell {w : World} {L : Dl} {c : Nat} {d : Dn} {vs : List Value} (h : DnAt w L c d vs) (i : Nat) (v : Value) (hv : (d.cells L.sb)[i]? = some v) : w.cell? ⟨L.db, i, none⟩ = some v := by
  rw [cell_block h.hd, List.getElem?_toArray]; exact hv
theorem DnAt.free {w : World} {L : Dl} {c : Nat} {d : Dn} {vs : List Value} (h : DnAt w L c d vs) (i : Nat) : w.frozen? ⟨L.db, i, none⟩ = false := free_block h.hd i
theorem stS_dl {L : Dl} {k : Nat} (h : stS L.sb L.rb L.mb k) : L.S k := by
  rcases h with h | h | h
  · exact .inr (.inl h)
  · exact .inr (.inr (.inl h))
  · exact .inr (.inr (.inr h))
/-- the blocks of a downtrack hold no bytes -/
theorem DnAt.not8 {w : World} {L : Dl} {c : Nat} {d : Dn} {vs : List Value} (h : DnAt w L c d vs) : ∀ k cs fr, L.S k → w.heap[k]? ≠ some (.cells cs 5 fr) := by
  rintro k cs fr (rfl | rfl | rfl | rfl) e
  · exact blk_ne e h.hd (by decide) rfl
  · exact blk_ne e h.st.hs (by decide) rfl
  · exact blk_ne e h.st.hr (by decide) rfl
  · exact h.st.ne_map e rfl
theorem own_fp {S : Nat → Prop} {w w' : World} {base : Nat} {n : Nat} {v : Value} {xs : List Value} (h : w.ownsRow base 5 1 v n xs) (hf : Fp S w w') (hs : ∀ k cs fr, S k → w.heap[k]? ≠ some (.cells cs 5 fr)) : w'.ownsRow base 5 1 v n xs := by
  refine ⟨h.1, ?_⟩
  rcases h.2 with h1 | ⟨g, cap, cur, hv, hb, hg, r⟩
  · exact .inl h1
  · exact .inr ⟨g, cap, cur, hv, hb, hf.heap hg (fun e => hs g _ _ e hg), r⟩
end Go.Proofs.Ytekioihjfggmdaa

/- A struct loaded from, or stored into, the middle of a known block. -/
namespace Go.Proofs.Ytekioihjfggmdaa
open Go.RowKit
set_option linter.unusedVariables false

theorem heap_setCells_mid (g : Nat) {T : TypeId} {fr : Nat × Nat} (post : List Value) : ∀ (vs pre old : List Value) (w : World), old.length = vs.length → w.heap[g]? = some (.cells (pre ++ (old ++ post)).toArray T fr) → (w.setCells g pre.length vs).heap[g]? = some (.cells (pre ++ (vs ++ post)).toArray T fr)
  | [], pre, old, w, hl, h => by
    obtain rfl := List.eq_nil_of_length_eq_zero hl
    exact h
  | v :: vs, pre, [], w, hl, h => by simp at hl
  | v :: vs, pre, u :: old, w, hl, h => by
    have h1 := heap_set (i := pre.length) v h
    have e : (pre ++ (u :: old ++ post)).toArray.setIfInBounds pre.length v = ((pre ++ [v]) ++ (old ++ post)).toArray := by simp
    rw [e] at h1
    have := heap_setCells_mid g post vs (pre ++ [v]) old _ (by simpa using hl) h1
    simpa [World.setCells] using this
section
variable {P : Program} {ops : Array Oper} {rest : List Oper} {o : Oper} {a : Act} {w : World} {Q : Exit → Act → World → Prop}
theorem wp_store_in {K : Act → World → Prop} (ty : TypeId) (x y : Operand) (ho : o.op = .store ty x y) {g : Nat} (pre : List Value) {cs old post : List Value} {T : TypeId} (hx : a.eval x = .pointer (some ⟨g, pre.length, none⟩)) (hy : a.eval y = .agg cs.toArray)
    (hi : (P.info? ty).map (·.size) = some cs.length) (h1 : ∀ v ∈ cs, v.oneCell' = true) (hg : w.heap[g]? = some (.cells (pre ++ (old ++ post)).toArray T (0, 0))) (hl : old.length = cs.length)
    (h : ∀ w', w'.heap[g]? = some (.cells (pre ++ (cs ++ post)).toArray T (0, 0)) → w.grownBy w' (some g) → K (a.put o.dst undef) w') : o.wp P a w K Q := by
  have ht : w.there g pre.length cs.length := fun j hj => by
    rw [cell_block hg, free_block hg]
    rw [List.getElem?_toArray, List.getElem?_append_right (by omega), Nat.add_sub_cancel_left, List.getElem?_append_left (by omega)]
    simp [hl, hj]
  refine wp_store_mid ty x y ho g pre.length cs.toArray hx hy (by simpa using ht) (by simpa using hi) (all_oneCell_toArray h1) (h _ ?_ ?_)
  · have := heap_setCells_mid g post cs pre old w hl hg
    simpa using this
  · exact setCells_grown g _ _ w
theorem wpl_store_in (hgd : o.guard = none) (ty : TypeId) (x y : Operand) (ho : o.op = .store ty x y) {g : Nat} (pre : List Value) {cs old post : List Value} {T : TypeId} (hx : a.eval x = .pointer (some ⟨g, pre.length, none⟩)) (hy : a.eval y = .agg cs.toArray)
    (hi : (P.info? ty).map (·.size) = some cs.length) (h1 : ∀ v ∈ cs, v.oneCell' = true) (hg : w.heap[g]? = some (.cells (pre ++ (old ++ post)).toArray T (0, 0))) (hl : old.length = cs.length)
    (h : ∀ w', w'.heap[g]? = some (.cells (pre ++ (cs ++ post)).toArray T (0, 0)) → w.grownBy w' (some g) → wpList P ops Q rest (a.put o.dst undef) w') : wpList P ops Q (o :: rest) a w :=
  wpList_plain hgd fun _ hK => wp_store_in ty x y ho pre hx hy hi h1 hg hl fun w' h2 h3 => hK _ _ (h w' h2 h3)
theorem range_in {g : Nat} {pre cs post : List Value} {T : TypeId} {fr : Nat × Nat} (hg : w.heap[g]? = some (.cells (pre ++ (cs ++ post)).toArray T fr)) : w.rangeAt g pre.length cs := fun j v hj => by
  have hlt : j < cs.length := (List.getElem?_eq_some_iff.1 hj).1
  rw [cell_block hg, List.getElem?_toArray, List.getElem?_append_right (by omega), Nat.add_sub_cancel_left, List.getElem?_append_left hlt]
  exact hj
theorem wp_load_in {K : Act → World → Prop} (ty : TypeId) (x : Operand) (ho : o.op = .load ty x) {g : Nat} (pre cs post : List Value) {T : TypeId} {fr : Nat × Nat} (d : TypeDesc) (hx : a.eval x = .pointer (some ⟨g, pre.length, none⟩))
    (hu : P.underlying ty = some d) (hd : d.isRow = true) (hi : (P.info? ty).map (·.size) = some cs.length) (hg : w.heap[g]? = some (.cells (pre ++ (cs ++ post)).toArray T fr))
    (h : K (a.put o.dst (.agg cs.toArray)) w) : o.wp P a w K Q :=
  wp_load_mid ty x ho g pre.length hx cs d (range_in hg) hu hd hi h
theorem wpl_load_in (hgd : o.guard = none) (ty : TypeId) (x : Operand) (ho : o.op = .load ty x) {g : Nat} (pre cs post : List Value) {T : TypeId} {fr : Nat × Nat} (d : TypeDesc) (hx : a.eval x = .pointer (some ⟨g, pre.length, none⟩))
    (hu : P.underlying ty = some d) (hd : d.isRow = true) (hi : (P.info? ty).map (·.size) = some cs.length) (hg : w.heap[g]? = some (.cells (pre ++ (cs ++ post)).toArray T fr))
    (h : wpList P ops Q rest (a.put o.dst (.agg cs.toArray)) w) : wpList P ops Q (o :: rest) a w :=
  wpList_load_mid hgd ty x ho g pre.length hx cs d (range_in hg) hu hd hi h
end

end Go.Proofs.Ytekioihjfggmdaa

/- down: New, SSRC, Count, Again; what a store into a downtrack leaves. -/
namespace Go.Proofs.Ytekioihjfggmdaa
open Go.RowKit
set_option linter.unusedVariables false

theorem StAt.grown {w w' : World} {sb rb mb c : Nat} {s : St} {vs : List Value} {g : Nat} (h : StAt w sb rb mb c s vs) (hg : w.grownBy w' (some g)) (h1 : sb ≠ g) (h2 : rb ≠ g) (h3 : mb ≠ g) (h4 : ∀ cs fr, w.heap[g]? ≠ some (.cells cs 5 fr)) : StAt w' sb rb mb c s vs := by
  have hk : ∀ {k : Nat} {o : Obj}, k ≠ g → w.heap[k]? = some o → w'.heap[k]? = some o := fun hne hk => (hg.block _ (lt_of_heap hk) (by intro e; injection e with e; exact hne e)).trans hk
  refine ⟨hk h1 h.hs, hk h2 h.hr, h.len, fun i hi => ?_, h.map.same (hg.block _ h.map.lt (by intro e; injection e with e; exact h3 e))⟩
  rcases h.bytes i hi with hb | ⟨k, e1, e2⟩
  · exact .inl hb
  · exact .inr ⟨k, e1, hk (by rintro rfl; exact h4 _ _ e2) e2⟩
theorem DnAt.change {w w' : World} {L : Dl} {c : Nat} {d d' : Dn} {vs : List Value} (h : DnAt w L c d vs) (hg : w.grownBy w' (some L.db)) (hh : w'.heap[L.db]? = some (.cells (d'.cells L.sb).toArray 95 (0, 0))) (hs : d'.st = d.st) : DnAt w' L c d' vs :=
  ⟨hh, by rw [hs]; exact h.st.grown hg (blk_ne h.st.hs h.hd (by decide)) (blk_ne h.st.hr h.hd (by decide)) (fun e => h.st.ne_map h.hd e.symm) (fun cs fr e => blk_ne e h.hd (by decide) rfl)⟩
theorem grown_cell (w : World) (g i : Nat) (v : Value) : w.grownBy (w.setCell ⟨g, i, none⟩ v) (some g) := grown_set v
theorem DnAt.setCell {w : World} {L : Dl} {c : Nat} {d : Dn} {vs : List Value} (h : DnAt w L c d vs) (i : Nat) (v : Value) (d' : Dn) (hs : d'.st = d.st) (hc : (d.cells L.sb).set i v = d'.cells L.sb) : DnAt (w.setCell ⟨L.db, i, none⟩ v) L c d' vs :=
  h.change (grown_cell _ _ _ _) (by have := heap_set (i := i) v h.hd; rw [this, List.setIfInBounds_toArray, hc]) hs

set_option maxRecDepth 100000 in
set_option maxHeartbeats 1000000 in
theorem downNew_any (ssrc n : Nat) (h0 : 0 < n) (h1 : n ≤ 4096) (w : World) : Calls Try.prog 12 #[.int .u32 ssrc, .int .i64 n] w (fun e w' => ∃ (L : Dl) (vs : List Value), e = .returned (.pointer (some ⟨L.db, 0, none⟩)) ∧ DnAt w' L 0 (Dn.new ssrc n) vs ∧ (∀ k, L.S k → w.heap.size ≤ k) ∧ Below w.heap.size w w') := by
  have HN := hide (fun W => stNew_any n h0 h1 W)
  clear h0 h1
  go_enter Try.func12, Try.ntmps12
  go_wp2_with fail
  refine (HN.out _).mono ?_
  rintro e w1 ⟨rb, mb, sb, rfl, hst, hlt, hb⟩
  have H := hide (And.intro hst (And.intro hlt hb))
  clear hst hlt hb
  go_wp2_with fail
  go_ret
  refine ⟨⟨w1.heap.size, sb, rb, mb⟩, _, rfl, ⟨heap_alloc_new w1 _, H.out.1.le ((Le.refl w1).alloc _)⟩, ?_, ((Le.mk H.out.2.2).alloc _).out⟩
  have := H.out.2.1
  have := H.out.2.2.size
  rintro k (rfl | rfl | rfl | rfl) <;> (first | omega | (dsimp only; omega))
set_option maxRecDepth 100000 in
theorem downSSRC_any {w : World} {L : Dl} {c : Nat} {d : Dn} {vs : List Value} (h : DnAt w L c d vs) : Calls Try.prog 17 #[.pointer (some ⟨L.db, 0, none⟩)] w (fun e w' => e = .returned (.int .u32 d.ssrc) ∧ w = w') := by
  have c0 := h.cell 0 (.int .u32 d.ssrc) rfl
  go_enter Try.func17, Try.ntmps17
  go_wp2_with fail
  go_ret
  exact ⟨rfl, rfl⟩
def Dn.countV (d : Dn) : Value := .agg #[.int .i64 d.sent, .int .i64 d.left, .int .i64 d.dropped, .int .i64 d.late, .int .i64 d.bad]
set_option maxRecDepth 100000 in
theorem downCount_any {w : World} {L : Dl} {c : Nat} {d : Dn} {vs : List Value} (h : DnAt w L c d vs) : Calls Try.prog 16 #[.pointer (some ⟨L.db, 0, none⟩)] w (Gives w d.countV) := by
  have c17 := h.cell 17 (.int .i64 d.sent) rfl
  have c18 := h.cell 18 (.int .i64 d.left) rfl
  have c19 := h.cell 19 (.int .i64 d.dropped) rfl
  have c20 := h.cell 20 (.int .i64 d.late) rfl
  have c21 := h.cell 21 (.int .i64 d.bad) rfl
  have hlt := lt_of_heap h.hd
  rw [Dn.countV]
  go_enter Try.func16, Try.ntmps16
  go_wp2_with fail
  exact bodyPost_ret (results_cell_row Try.results16 _ _ _ 60 _ (0, 0) _ rfl (heap_alloc_new w _) Try.underlying60 rfl (by kernel_rfl)) rfl ⟨rfl, ((Le.refl w).alloc _).out⟩
set_option maxRecDepth 100000 in
theorem downAgain_any {w : World} {L : Dl} {c : Nat} {d : Dn} {vs : List Value} (h : DnAt w L c d vs) (hk : d.st.Ok) (seq : Nat) (hs : seq < 65536) : Calls Try.prog 18 #[.pointer (some ⟨L.db, 0, none⟩), .int .u16 seq] w (GetP w (d.st.get seq)) := by
  have c16 := h.cell 16 (.pointer (some ⟨L.sb, 0, none⟩)) rfl
  have HG := hide (stGet_any h.st hk seq hs)
  clear h hk hs
  go_enter Try.func18, Try.ntmps18
  go_wp2_with fail
  refine HG.out.mono ?_
  rintro e w1 ⟨v, rfl, hv, hb⟩
  have H := hide (And.intro hv hb)
  clear hv hb
  go_wp2_with fail
  go_ret2
  exact ⟨_, rfl, H.out.1, H.out.2⟩
end Go.Proofs.Ytekioihjfggmdaa
