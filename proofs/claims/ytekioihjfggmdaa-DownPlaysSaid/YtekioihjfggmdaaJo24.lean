/- Texts of one claim, laid together: DownI Ext2 ExtBd ExtBkL RtpR0 -/
import Derived.Test.YtekioihjfggmdaaJo23
import Derived.Test.YtekioihjfggmdaaJo06
import Derived.Test.YtekioihjfggmdaaJo13
import Derived.Test.YtekioihjfggmdaaJo20
/- down: what a Take leaves sound. -/
namespace Go.Proofs.Ytekioihjfggmdaa
open Go.RowKit
set_option linter.unusedVariables false

theorem near_bd (h : Int) (x : Nat) (hx : x < 65536) : h - 65536 ≤ near16 h x ∧ near16 h x ≤ h + 65536 := by
  unfold near16 fromN
  split <;> (try split) <;> omega
theorem Nm.from_ok (n i : Nm) : (n.from i).Ok := ⟨Nat.mod_lt _ (by decide), Nat.mod_lt _ (by decide), Nat.mod_lt _ (by decide), Nat.mod_lt _ (by decide)⟩
theorem Nm.next_ok (n : Nm) (k : Nat) : (n.next k).Ok := ⟨Nat.mod_lt _ (by decide), Nat.mod_lt _ (by decide), Nat.mod_lt _ (by decide), Nat.mod_lt _ (by decide)⟩
/-- bounds of numbers behind i packets -/
structure Ms.Bd (s : Ms) (i : Nat) : Prop where
  high : -(65536 * ((i : Int) + 1)) ≤ s.high ∧ s.high ≤ 65536 * ((i : Int) + 1)
  since : -(65536 * ((i : Int) + 1)) ≤ s.since ∧ s.since ≤ 65536 * ((i : Int) + 1)
  off : s.off.Ok
  out : s.out.Ok
theorem Ms.Bd.succ {s : Ms} {i : Nat} (h : s.Bd i) : s.Bd (i + 1) := ⟨by have := h.high; omega, by have := h.since; omega, h.off, h.out⟩
theorem Ms.Bd.switch {s : Ms} {i : Nat} (h : s.Bd i) {n : Nm} (hn : n.Ok) (k : Nat) : (s.switch n k).1.Bd (i + 1) ∧ (s.switch n k).2.Ok := by
  have hs := hn.seq
  have ho : (if s.on then s.out.next k else n).Ok := by split <;> first | exact Nm.next_ok _ _ | exact hn
  exact ⟨⟨by simp only [Ms.switch]; omega, by simp only [Ms.switch]; omega, Nm.from_ok _ _, ho⟩, ho⟩
theorem Ms.Bd.send {s : Ms} {i : Nat} (h : s.Bd i) {n : Nm} (hn : n.Ok) : (s.send n).1.Bd (i + 1) ∧ (s.send n).2.1.Ok := by
  have hb := near_bd s.high n.seq hn.seq
  have h1 := h.high
  have h2 := h.since
  have h3 := Nm.from_ok s.off n
  simp only [Ms.send]
  split
  · exact ⟨h.succ, nm_zero_ok⟩
  · split
    · exact ⟨h.succ, h3⟩
    · have ho : (⟨(s.off.from n).seq, if less32 (s.off.from n).time s.out.time then s.out.time else (s.off.from n).time, (s.off.from n).pic, (s.off.from n).tl0⟩ : Nm).Ok := ⟨h3.seq, by dsimp only; split <;> first | exact h.out.time | exact h3.time, h3.pic, h3.tl0⟩
      exact ⟨⟨by dsimp only; omega, by dsimp only; omega, h.off, ho⟩, ho⟩
theorem Ms.Bd.drop {s : Ms} {i : Nat} (h : s.Bd i) {n : Nm} (hn : n.seq < 65536) (b : Bool) : (s.drop n b).Bd (i + 1) := by
  have hb := near_bd s.high n.seq hn
  have h1 := h.high
  have h2 := h.since
  simp only [Ms.drop]
  split
  · exact h.succ
  · exact ⟨by dsimp only; omega, by dsimp only; omega, ⟨Nat.mod_lt _ (by decide), h.off.time, by dsimp only; split <;> first | exact Nat.mod_lt _ (by decide) | exact h.off.pic, h.off.tl0⟩, h.out⟩
theorem Dn.Ok.bd {d : Dn} {i : Nat} (h : d.Ok i) : d.nums.Bd i := ⟨h.high, h.since, h.off, h.out⟩
theorem Dn.ok_of {d : Dn} {i : Nat} (h1 : d.ssrc < 4294967296) (h2 : d.st.Ok) (h3 : d.nums.Bd i) (h4 : d.sent + d.left + d.dropped + d.late + d.bad = i) : d.Ok i := ⟨h1, h2, h3.high, h3.since, h3.off, h3.out, h4⟩
theorem Pk.nm_ok {p : Pk} (hp : p.Ok) : p.nm.Ok := by
  have h := vpD_ok p.payload
  exact ⟨hp.seq, hp.time, h.pic, h.tl0⟩
theorem Dn.send_ok {d : Dn} {i : Nat} {s : Ms} (h : d.Ok i) (hs : s.Bd (i + 1)) {p : Pk} {n : Nm} (hn : n.Ok) : ((d.setNums s).send p n).1.Ok (i + 1) :=
  Dn.ok_of h.ssrc (St.add_ok h.st hn.seq (by have := out_len (p.renum n d.ssrc); exact Nat.le_trans this (by decide))) hs (by have := h.cnt; simp only [Dn.send, Dn.setNums]; omega)
theorem Dn.does_ok {d : Dn} {i : Nat} (h : d.Ok i) (p : Pk) (hp : p.Ok) (f l what : Int) : (d.does p f l what).1.Ok (i + 1) := by
  have hn := Pk.nm_ok hp
  have hc := h.cnt
  unfold Dn.does
  split
  · exact Dn.ok_of h.ssrc h.st h.bd.succ (by simp only [Dn.addLeft]; omega)
  · split
    · exact Dn.ok_of h.ssrc h.st (h.bd.drop hn.seq _) (by simp only [Dn.addDropped, Dn.setNums]; omega)
    · split
      · exact Dn.send_ok h (h.bd.switch hn 3000).1 (h.bd.switch hn 3000).2
      · split
        · exact Dn.send_ok h (h.bd.send hn).1 (h.bd.send hn).2
        · exact Dn.ok_of h.ssrc h.st (h.bd.send hn).1 (by simp only [Dn.addLate, Dn.setNums]; omega)
theorem Dn.setPick_ok {d : Dn} {i : Nat} (h : d.Ok i) (s : Ch) : (d.setPick s).Ok i := ⟨h.ssrc, h.st, h.high, h.since, h.off, h.out, h.cnt⟩
theorem Dn.take1_ok {d : Dn} {i : Nat} (h : d.Ok i) (p : Pk) (hp : p.Ok) (f l : Int) (x : Wnt) : (d.take1 p f l x).1.Ok (i + 1) := by
  have hc := h.cnt
  unfold Dn.take1
  split
  · refine Dn.ok_of ?_ ?_ ?_ ?_
    · simp only [Dn.addBad]; split <;> exact h.ssrc
    · simp only [Dn.addBad]; split <;> exact h.st
    · simp only [Dn.addBad]
      split
      · exact h.bd.drop hp.seq _
      · exact h.bd.succ
    · simp only [Dn.addBad]; split <;> (try simp only [Dn.setNums]) <;> omega
  · exact Dn.does_ok (Dn.setPick_ok h _) p hp f l _
theorem Dn.take_ok {d : Dn} {i : Nat} (h : d.Ok i) (p : Pk) (hp : p.Ok) (f l : Int) (x : Wnt) (mu : Bool) : (d.take p f l x mu).1.Ok (i + 1) := by
  unfold Dn.take
  split
  · exact Dn.ok_of h.ssrc h.st h.bd.succ (by have := h.cnt; simp only [Dn.mute, Dn.addLeft, Dn.setPick]; omega)
  · exact Dn.take1_ok h p hp f l x
end Go.Proofs.Ytekioihjfggmdaa

/- ext.Find; few, plain of louverlaw05. -/
namespace Go.Proofs.Ytekioihjfggmdaa
open Go.RowKit
set_option linter.unusedVariables false

/-- items as the reference has them -/
def encR (x : It) : List Value := [.int .u8 x.1.toNat, .string (str x.2)]
def RI : Rd It := fun _ x cs => cs = encR x
theorem keeps_ri : Keeps RI := fun _ _ _ _ h _ => h
theorem slRI : SlT Try.prog 55 165 (.agg #[.int .u8 0, .string ByteArray.empty]) 2 24 := ⟨Try.underlying55, by kernel_rfl, rfl, by omega⟩
theorem rsl_ri {w : World} {base : Nat} {v : Value} {l : List It} (h : w.ownsRow base 165 2 v l.length (l.flatMap encR)) : RSl 2 RI w l v := by
  obtain ⟨A, cap, rfl, hc, hcl⟩ := own_slice h
  exact rsl_of_cells rfl hc (fun _ _ => rfl) (fun _ _ => rfl) (by omega) hcl

end Go.Proofs.Ytekioihjfggmdaa

/- How many items are parsed, and how long their data are, in plain lists. -/
namespace Go.Proofs.Ytekioihjfggmdaa
open Go.RowKit
set_option linter.unusedVariables false

def Bd (N : Nat) (r : List It × Int) : Prop := r.1.length ≤ 14 ∧ ∀ x ∈ r.1, x.2.length ≤ N
end Go.Proofs.Ytekioihjfggmdaa

/- What is put is parsed as it was, in plain lists. -/
namespace Go.Proofs.Ytekioihjfggmdaa
open Go.RowKit
set_option linter.unusedVariables false

theorem body_fuel {out : List It} {id : UInt8} {n : Nat} {r : List UInt8} {g h : List It → List UInt8 → List It × Int} (e : ∀ o r', r'.length ≤ r.length → g o r' = h o r') : bodyX out id n r g = bodyX out id n r h := by
  unfold bodyX
  split
  · rfl
  · split
    · rfl
    · exact e _ _ (by simp)
theorem fuel_eq (s : Bool) : ∀ (n f g : Nat) (out : List It) (l : List UInt8), l.length ≤ n → l.length ≤ f → l.length ≤ g → parseF s f out l = parseF s g out l := by
  intro n
  induction n with
  | zero =>
    intro f g out l hn _ _
    obtain rfl := List.eq_nil_of_length_eq_zero (Nat.le_zero.1 hn)
    rw [parseF_nil, parseF_nil]
  | succ n ih =>
    intro f g out l hn hf hg
    match l with
    | [] => rw [parseF_nil, parseF_nil]
    | a :: l =>
      simp only [List.length_cons] at hn hf hg
      obtain ⟨f, rfl⟩ : ∃ k, f = k + 1 := ⟨f - 1, by omega⟩
      obtain ⟨g, rfl⟩ : ∃ k, g = k + 1 := ⟨g - 1, by omega⟩
      have e : ∀ (r : List UInt8), r.length ≤ l.length → ∀ o r', r'.length ≤ r.length → parseF s f o r' = parseF s g o r' := fun r hr o r' hr' => ih f g o r' (by omega) (by omega) (by omega)
      rw [parseF, parseF, ih f g out l (by omega) (by omega) (by omega), body_fuel (e l (Nat.le_refl _))]
      unfold longX
      clear hn hf hg
      revert e
      cases l with
      | nil => intro _; rfl
      | cons b l' =>
        intro e
        simp only
        rw [body_fuel (e l' (by simp only [List.length_cons]; omega))]
def pX (s : Bool) (out : List It) (l : List UInt8) : List It × Int := parseF s l.length out l
theorem pX_of (s : Bool) (f : Nat) (out : List It) (l : List UInt8) (h : l.length ≤ f) : parseF s f out l = pX s out l := fuel_eq s l.length f l.length out l (Nat.le_refl _) h (Nat.le_refl _)
theorem pX_nil (s : Bool) (out : List It) : pX s out [] = (out, 0) := parseF_nil _ _ _
theorem pX_zero (s : Bool) (out : List It) (l : List UInt8) : pX s out (0 :: l) = pX s out l := by
  rw [pX, List.length_cons, parseF_zero rfl]
  rfl
theorem pX_zeros (s : Bool) (out : List It) (l : List UInt8) : ∀ n, pX s out (List.replicate n 0 ++ l) = pX s out l
  | 0 => rfl
  | n + 1 => by rw [List.replicate_succ, List.cons_append, pX_zero, pX_zeros s out l n]
theorem pX_item (s : Bool) (out : List It) (x : It) (l : List UInt8) (h0 : x.1.toNat ≠ 0) (h255 : x.2.length ≤ 255) (hs : s = true → x.1.toNat < 15 ∧ 1 ≤ x.2.length ∧ x.2.length ≤ 16) (ho : out.length < 14) :
    pX s out (itemB s x ++ l) = pX s (out ++ [x]) l := by
  obtain ⟨i, d⟩ := x
  simp only at *
  cases s with
  | true =>
    obtain ⟨h1, h2, h3⟩ := hs rfl
    have e : (UInt8.ofNat (16 * i.toNat + d.length - 1)).toNat = 16 * i.toNat + d.length - 1 := by rw [UInt8.toNat_ofNat']; omega
    simp only [itemB, if_true, List.cons_append]
    rw [pX, List.length_cons, parseF_short (by rw [e]; omega), e, if_neg (by omega), if_neg (by omega),
      show (16 * i.toNat + d.length - 1) / 16 = i.toNat by omega, show (16 * i.toNat + d.length - 1) % 16 + 1 = d.length by omega,
      show UInt8.ofNat i.toNat = i from UInt8.ofNat_toNat, bodyX_on (by simp) (by omega)]
    simp only [List.take_left, List.drop_left]
    exact pX_of true _ _ _ (by simp)
  | false =>
    have e : (UInt8.ofNat d.length).toNat = d.length := by rw [UInt8.toNat_ofNat']; omega
    simp only [itemB, Bool.false_eq_true, if_false, List.cons_append]
    rw [pX, List.length_cons, parseF_long h0, e, bodyX_on (by simp) (by omega)]
    simp only [List.take_left, List.drop_left]
    exact pX_of false _ _ _ (by simp; omega)
theorem pX_body (s : Bool) (l : List UInt8) : ∀ (xs out : List It), (∀ x ∈ xs, x.1.toNat ≠ 0 ∧ x.2.length ≤ 255 ∧ (s = true → x.1.toNat < 15 ∧ 1 ≤ x.2.length ∧ x.2.length ≤ 16)) → out.length + xs.length ≤ 14 →
    pX s out (bodyB s xs ++ l) = pX s (out ++ xs) l
  | [], out, _, _ => by simp [bodyB]
  | x :: xs, out, h, hl => by
    have h1 := h x (by simp)
    simp only [List.length_cons] at hl
    have e : bodyB s (x :: xs) = itemB s x ++ bodyB s xs := by simp [bodyB]
    rw [e, List.append_assoc, pX_item s out x _ h1.1 h1.2.1 h1.2.2 (by omega), pX_body s l xs (out ++ [x]) (fun y hy => h y (by simp [hy])) (by simp; omega)]
    simp
theorem ext_px (p : Nat) (l : List UInt8) (h : profK p ≠ 0) : extParse p l = pX (profK p == 1) [] l := by
  rw [extParse, if_neg h]; rfl

/-- what was put, with noughts ahead and behind -/
theorem err_parts {l : List It} (h : extErr l = 0) : l.length ≤ 14 ∧ l.any badB = false := by
  unfold extErr at h
  by_cases h1 : 14 < l.length
  · rw [if_pos h1] at h; omega
  · rw [if_neg h1] at h
    cases hb : l.any badB
    · exact ⟨by omega, rfl⟩
    · rw [hb] at h; simp at h
theorem body_back {l : List It} (h : extErr l = 0) (a : Nat) (rest : List UInt8) : pX (shortB l) [] (List.replicate a 0 ++ (extB l ++ rest)) = pX (shortB l) l rest := by
  obtain ⟨h14, hgd⟩ := err_parts h
  have hX : extB l = padB (bodyB (shortB l) l) := by rw [extB, if_pos h]
  have hall : ∀ x ∈ l, x.1.toNat ≠ 0 ∧ x.2.length ≤ 255 ∧ (shortB l = true → x.1.toNat < 15 ∧ 1 ≤ x.2.length ∧ x.2.length ≤ 16) := fun x hx => by
    have h1 := good_all hgd x hx
    refine ⟨h1.1, h1.2, fun hs => ?_⟩
    have hb : l.any bigB = false := by
      unfold shortB at hs
      simpa using hs
    have := short_all hb x hx
    omega
  rw [pX_zeros, hX, padB, List.append_assoc, pX_body _ _ l [] hall (by simpa using h14), pX_zeros]
  simp
end Go.Proofs.Ytekioihjfggmdaa

/- rtp.Parse: words for the walk over what was put. -/
namespace Go.Proofs.Ytekioihjfggmdaa
open Go.RowKit
set_option linter.unusedVariables false

theorem cut_app (a r : List UInt8) (n : Nat) (h : a.length = n) : cut (a ++ r) 0 n true = (r, 0, a) := by
  unfold cut
  rw [if_neg (by simp), if_neg (by decide), if_neg (by rw [List.length_append]; omega)]
  rw [Int.toNat_natCast, ← h, List.drop_left, List.take_left]
theorem cut_be (x n : Nat) (r : List UInt8) (h1 : 1 ≤ n) (h8 : n ≤ 8) : cut (be x n ++ r) 0 n (mayB n) = (r, 0, be x n) := by
  rw [show mayB (n : Int) = true by simp [mayB]; omega]
  exact cut_app _ _ _ (be_length x n)
theorem num_be (W : World) (base pc x n : Nat) (r : List UInt8) (h1 : 1 ≤ n) (h8 : n ≤ 8) (hx : x < 256 ^ n) (hr : r.length ≤ 100000) (h : CutAt W base pc (be x n ++ r) 0) :
    Calls Try.prog 39 #[.pointer (some ⟨pc, 0, none⟩), .int .i64 n] W (fun e w' => e = .returned (.int .u64 x) ∧ CutAt w' base pc r 0 ∧ W.grownBy w' (some pc)) := by
  have hn := num_any W base pc (be x n ++ r) 0 n h (by rw [List.length_append, be_length]; omega)
  rw [cut_be x n r h1 h8] at hn
  refine hn.mono ?_
  rintro e w' ⟨rfl, h2, h3⟩
  exact ⟨by simp only [val_be, Nat.mod_eq_of_lt hx], h2, h3⟩
theorem bytes_app (W : World) (base pc : Nat) (a r : List UInt8) (h : CutAt W base pc (a ++ r) 0) (hl : (a ++ r).length ≤ 100000) :
    Calls Try.prog 41 #[.pointer (some ⟨pc, 0, none⟩), .int .i64 a.length] W (TakeP W base pc (r, 0, a)) := by
  have hn := bytes_any W base pc (a ++ r) 0 a.length h (by omega)
  rw [show decide ((0 : Int) ≤ (a.length : Int)) = true by simp] at hn
  rw [cut_app a r a.length rfl] at hn
  exact hn
theorem ext_back (l : List It) (h : extErr l = 0) (hne : l ≠ []) : extParse (extProf l) (extB l) = (l, 0) := by
  have hp : extProf l = if shortB l then 48862 else 4096 := by rw [extProf, if_pos h]
  have hk : profK (extProf l) ≠ 0 ∧ (profK (extProf l) == 1) = shortB l := by
    rw [hp]
    cases shortB l <;> decide
  rw [ext_px _ _ hk.1, hk.2]
  have := body_back h 0 []
  simpa [pX_nil] using this
theorem first_bits : ∀ n : Nat, n ≤ 15 → ∀ a : Nat, a ≤ 1 → ∀ b : Nat, b ≤ 1 → bits .and .u64 ((128 + n + 32 * a + 16 * b : Nat) : Int) 15 = (n : Int) ∧ bits .and .u64 ((128 + n + 32 * a + 16 * b : Nat) : Int) 16 = ((16 * b : Nat) : Int) ∧ bits .and .u64 ((128 + n + 32 * a + 16 * b : Nat) : Int) 32 = ((32 * a : Nat) : Int) ∧ (128 + n + 32 * a + 16 * b) / 64 = 2 := by
  decide +kernel
theorem second_bits : ∀ s : Nat, s < 256 → bits .and .u64 (s : Int) 127 = ((s % 128 : Nat) : Int) := by decide +kernel
theorem Pk.first_eq (p : Pk) : p.first = 128 + p.csrc.length + 32 * (if 0 < p.pad then 1 else 0) + 16 * (if p.exts = [] then 0 else 1) := by
  unfold Pk.first
  split <;> split <;> rfl

/-- Parse on its way: the result's box, the packet's box, the cutter -/
structure RdSt (w W : World) (g7 pc : Nat) (l : List UInt8) (cs : List Value) : Prop where
  le : Le w W
  h2 : W.heap[w.heap.size]? = some (.cells #[.bool false, .int .u8 0, .int .u16 0, .int .u32 0, .int .u32 0, .slice none 0 0, .slice none 0 0, .slice none 0 0, .int .i64 0] 46 (0, 0))
  h7 : W.heap[g7]? = some (.cells cs.toArray 46 (0, 0))
  cut : CutAt W w.heap.size pc l 0
  ne : w.heap.size < g7
theorem CutAt.typ {W : World} {base pc : Nat} {l : List UInt8} {e : Int} (h : CutAt W base pc l e) : ∃ cs, W.heap[pc]? = some (.cells cs 171 (0, 0)) := by
  obtain ⟨_, A, cap, hp, _⟩ := h
  exact ⟨_, hp⟩
theorem RdSt.cutter {w W W' : World} {g7 pc : Nat} {l l' : List UInt8} {cs : List Value} (h : RdSt w W g7 pc l cs) (hc : CutAt W' w.heap.size pc l' 0) (hg : W.grownBy W' (some pc)) : RdSt w W' g7 pc l' cs := by
  obtain ⟨c0, hc0⟩ := h.cut.typ
  have hk : ∀ {k : Nat} {cs : Array Value}, W.heap[k]? = some (.cells cs 46 (0, 0)) → W'.heap[k]? = some (.cells cs 46 (0, 0)) := fun h1 => heap_grown hg h1 (by intro e; injection e with e; exact blk_ne h1 hc0 (by decide) e.symm)
  exact ⟨⟨h.le.out.grown hg h.le.size (by rintro k e; injection e with e; rw [← e]; exact h.cut.1)⟩, hk h.h2, hk h.h7, hc, h.ne⟩
theorem RdSt.later {w W W' : World} {g7 pc : Nat} {l : List UInt8} {cs : List Value} (h : RdSt w W g7 pc l cs) (hl : Le W W') : RdSt w W' g7 pc l cs := ⟨h.le.trans hl, hl.heap h.h2, hl.heap h.h7, h.cut.keep hl.out (Nat.le_refl _), h.ne⟩
/-- behind an append to a row of numbers -/
theorem RdSt.app {w W W' : World} {g7 pc : Nat} {l : List UInt8} {cs : List Value} {o : Obj} {v : Value} {n : Nat} {xs : List Value} (h : RdSt w W g7 pc l cs) (hg : (W.alloc o).grownBy W' v.ownBlock) (ho : (W.alloc o).ownsRow w.heap.size 22 1 v n xs) : RdSt w W' g7 pc l cs := by
  have h' := h.later ((Le.refl W).alloc o)
  have hk : ∀ {k : Nat} {cs : Array Value} {T : TypeId} {fr : Nat × Nat}, (W.alloc o).heap[k]? = some (.cells cs T fr) → T ≠ 22 → W'.heap[k]? = some (.cells cs T fr) := fun h1 hn => heap_grown hg h1 (own_ne ho h1 (fun e => hn e.symm))
  refine ⟨⟨h'.le.out.grown hg h'.le.size (own_ge ho)⟩, hk h'.h2 (by decide), hk h'.h7 (by decide), ?_, h'.ne⟩
  obtain ⟨hb, A, cap, hp, hc, hd⟩ := h'.cut
  refine ⟨hb, A, cap, hk hp (by decide), hc, fun hn => ?_⟩
  obtain ⟨g, off, cur, h3, h4, h5, h6⟩ := hd hn
  exact ⟨g, off, cur, h3, h4, hk h5 (by decide), h6⟩
theorem RdSt.set {w W : World} {g7 pc : Nat} {l : List UInt8} {cs : List Value} (h : RdSt w W g7 pc l cs) (i : Nat) (v : Value) : RdSt w (W.setCell ⟨g7, i, none⟩ v) g7 pc l (cs.set i v) :=
  ⟨⟨h.le.out.setCell (Nat.le_of_lt h.ne) v⟩, heap_far _ h.h2 (by have := h.ne; omega), by have := heap_set (i := i) v h.h7; rw [this, List.setIfInBounds_toArray], h.cut.set_other h.h7 (by decide) (by decide) v, h.ne⟩
theorem RdSt.cell {w W : World} {g7 pc : Nat} {l : List UInt8} {cs : List Value} (h : RdSt w W g7 pc l cs) (i : Nat) (v : Value) (hv : cs[i]? = some v) : W.cell? ⟨g7, i, none⟩ = some v := by
  rw [cell_block h.h7, List.getElem?_toArray]; exact hv
theorem RdSt.free {w W : World} {g7 pc : Nat} {l : List UInt8} {cs : List Value} (h : RdSt w W g7 pc l cs) (i : Nat) : W.frozen? ⟨g7, i, none⟩ = false := free_block h.h7 i
end Go.Proofs.Ytekioihjfggmdaa
