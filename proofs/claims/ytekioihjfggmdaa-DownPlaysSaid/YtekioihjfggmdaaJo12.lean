/- Texts of one claim, laid together: DownL DownC RtpL RtpP -/
import Derived.Laws.Rows
import Derived.Test.YtekioihjfggmdaaJo04
import Derived.Test.YtekioihjfggmdaaJo06
import Derived.Test.YtekioihjfggmdaaJo07
import Derived.Test.YtekioihjfggmdaaJo11
/- Numbers that go round, streams, numbers that are sent on: in plain Lean. -/
namespace Go.Proofs.Ytekioihjfggmdaa
open Go.RowKit
set_option linter.unusedVariables false

/-- how far it is from a number to another one, of so many -/
def fromN (m : Nat) (a b : Nat) : Int := if (m : Int) / 2 ≤ ((b : Int) - a) % m then ((b : Int) - a) % m - m else ((b : Int) - a) % m
def near16 (last : Int) (x : Nat) : Int := last + fromN 65536 (last % 65536).toNat x
def less32 (a b : Nat) : Bool := decide (0 < fromN 4294967296 a b)

structure Nm where
  seq : Nat
  time : Nat
  pic : Nat
  tl0 : Nat
  deriving DecidableEq
structure Nm.Ok (n : Nm) : Prop where
  seq : n.seq < 65536
  time : n.time < 4294967296
  pic : n.pic < 65536
  tl0 : n.tl0 < 256
def Nm.val (n : Nm) : Value := .agg #[.int .u16 n.seq, .int .u32 n.time, .int .u16 n.pic, .int .u8 n.tl0]
def Nm.zero : Nm := ⟨0, 0, 0, 0⟩
/-- in less n -/
def Nm.from (n i : Nm) : Nm := ⟨(i.seq + 65536 - n.seq) % 65536, (i.time + 4294967296 - n.time) % 4294967296, (i.pic + 65536 - n.pic) % 65536, (i.tl0 + 256 - n.tl0) % 256⟩
def Nm.next (n : Nm) (step : Nat) : Nm := ⟨(n.seq + 1) % 65536, (n.time + step) % 4294967296, (n.pic + 1) % 65536, (n.tl0 + 1) % 256⟩
structure Ms where
  on : Bool
  high : Int
  since : Int
  off : Nm
  out : Nm
def Ms.val (s : Ms) : Value := .agg #[.bool s.on, .int .i64 s.high, .int .i64 s.since, .int .u16 s.off.seq, .int .u32 s.off.time, .int .u16 s.off.pic, .int .u8 s.off.tl0, .int .u16 s.out.seq, .int .u32 s.out.time, .int .u16 s.out.pic, .int .u8 s.out.tl0]
def Ms.switch (s : Ms) (i : Nm) (step : Nat) : Ms × Nm :=
  let out := if s.on then s.out.next step else i
  (⟨true, i.seq, i.seq, out.from i, out⟩, out)
def Ms.send (s : Ms) (i : Nm) : Ms × Nm × Bool :=
  let x := near16 s.high i.seq
  if s.on = false ∨ (x ≤ s.high ∧ x ≤ s.since) then (s, Nm.zero, false)
  else
    let out := s.off.from i
    if x ≤ s.high then (s, out, true)
    else
      let o : Nm := ⟨out.seq, if less32 out.time s.out.time then s.out.time else out.time, out.pic, out.tl0⟩
      (⟨true, x, s.since, s.off, o⟩, o, true)
def Ms.drop (s : Ms) (i : Nm) (begin_ : Bool) : Ms :=
  let x := near16 s.high i.seq
  if s.on = false ∨ x ≤ s.high then s
  else ⟨true, x, x, ⟨(s.off.seq + 1) % 65536, s.off.time, if begin_ then (s.off.pic + 1) % 65536 else s.off.pic, s.off.tl0⟩, s.out⟩

structure Ch where
  on : Bool
  src : Int
  layer : Int
  tid : Int
structure Inn where
  src : Int
  layer : Int
  begin_ : Bool
  whole : Bool
  hasTid : Bool
  tid : Int
  sync : Bool
structure Wnt where
  src : Int
  layer : Int
  tid : Int
def Ch.val (s : Ch) : Value := .agg #[.bool s.on, .int .i64 s.src, .int .i64 s.layer, .int .i64 s.tid]
def Inn.val (s : Inn) : Value := .agg #[.int .i64 s.src, .int .i64 s.layer, .bool s.begin_, .bool s.whole, .bool s.hasTid, .int .i64 s.tid, .bool s.sync]
def Wnt.val (s : Wnt) : Value := .agg #[.int .i64 s.src, .int .i64 s.layer, .int .i64 s.tid]
def Ch.is (s : Ch) (f l : Int) : Bool := s.on && (decide (f = s.src) && decide (l = s.layer))
def Ch.asks (s : Ch) (w : Wnt) : Bool := !s.is w.src w.layer
def Ch.nextTid (s : Ch) (i : Inn) (w : Wnt) : Int :=
  if i.begin_ = false then s.tid
  else if i.whole = true ∨ w.tid < s.tid then w.tid
  else if i.hasTid = true ∧ i.sync = true ∧ s.tid < i.tid ∧ i.tid ≤ w.tid then i.tid
  else s.tid
def Ch.take (s : Ch) (i : Inn) (w : Wnt) : Ch × Int :=
  if s.is i.src i.layer then
    let s := { s with tid := s.nextTid i w }
    if i.hasTid = true ∧ s.tid < i.tid then (s, 2) else (s, 1)
  else if i.src = w.src ∧ i.layer = w.layer ∧ i.begin_ = true ∧ i.whole = true then (⟨true, w.src, w.layer, w.tid⟩, 3)
  else (s, 0)
end Go.Proofs.Ytekioihjfggmdaa

/- choose: which packets are sent on. -/
namespace Go.Proofs.Ytekioihjfggmdaa
open Go.RowKit
set_option linter.unusedVariables false

def srm (f l : Int) : Value := .agg #[.int .i64 f, .int .i64 l]
theorem ret_b {a b : Bool} (h : a = b) : Ending.returned (.bool a) = .returned (.bool b) := by rw [h]
theorem ret_i {k : IntKind} {a b : Int} (h : a = b) : Ending.returned (.int k a) = .returned (.int k b) := by rw [h]

set_option maxRecDepth 100000 in
theorem chOf_any (s : Ch) (f l : Int) (w : World) : Calls Try.prog 58 #[s.val, srm f l] w (Gives w (.bool (s.is f l))) := by
  obtain ⟨on, src, layer, tid⟩ := s
  simp only [Ch.val, srm, Ch.is]
  go_enter Try.func58, Try.ntmps58
  cases on
  · go_wp2_with fail
    go_ret
    exact ⟨rfl, (((Le.refl w).alloc _).alloc _).out⟩
  · go_wp2_with fail
    all_goals
      go_ret
      exact ⟨ret_b (by simp [*]), (((Le.refl w).alloc _).alloc _).out⟩

set_option maxRecDepth 100000 in
theorem chAsks_any (s : Ch) (x : Wnt) (w : World) : Calls Try.prog 27 #[s.val, x.val] w (Gives w (.bool (s.asks x))) := by
  have HX := hide (fun W => chOf_any s x.src x.layer W)
  rw [Ch.asks]
  generalize s.is x.src x.layer = b at *
  obtain ⟨on, src, layer, tid⟩ := s
  obtain ⟨xs, xl, xt⟩ := x
  simp only [Ch.val, Wnt.val, srm] at HX ⊢
  go_enter Try.func27, Try.ntmps27
  go_wp2_with fail
  refine (HX.out _).mono ?_
  rintro e w' ⟨rfl, hb⟩
  go_wp2_with fail
  go_ret
  exact ⟨rfl, ((((Le.refl w).alloc _).alloc _).trans ⟨hb⟩).out⟩

set_option maxRecDepth 100000 in
set_option maxHeartbeats 1000000 in
theorem chTid_any (s : Ch) (i : Inn) (x : Wnt) (w : World) : Calls Try.prog 88 #[s.val, i.val, x.val] w (Gives w (.int .i64 (s.nextTid i x))) := by
  obtain ⟨on, src, layer, tid⟩ := s
  obtain ⟨xs, xl, xt⟩ := x
  obtain ⟨is, il, begin_, whole, hasTid, itid, sync⟩ := i
  simp only [Ch.val, Wnt.val, Inn.val, Ch.nextTid]
  cases begin_ <;> cases whole <;> cases hasTid <;> cases sync <;>
  · go_enter Try.func88, Try.ntmps88
    go_wp2_with fail
    all_goals
      go_ret
      exact ⟨ret_i (by simp [*]), ((((Le.refl w).alloc _).alloc _).alloc _).out⟩
end Go.Proofs.Ytekioihjfggmdaa

/- rtp: packets, in plain Lean; may, Size. -/
namespace Go.Proofs.Ytekioihjfggmdaa
open Go.RowKit
set_option linter.unusedVariables false

structure Pk where
  mark : Bool
  type : Nat
  seq : Nat
  time : Nat
  ssrc : Nat
  csrc : List Nat
  exts : List It
  payload : List UInt8
  pad : Int
structure Pk.Ok (p : Pk) : Prop where
  type : p.type < 256
  seq : p.seq < 65536
  time : p.time < 4294967296
  ssrc : p.ssrc < 4294967296
  csrc : ∀ x ∈ p.csrc, x < 4294967296
  nc : p.csrc.length ≤ 100000
  ne : p.exts.length ≤ 100000
  np : p.payload.length ≤ 100000
  pad : -9223372036854775808 ≤ p.pad ∧ p.pad ≤ 9223372036854775807
def Pk.val (p : Pk) (v5 v6 v7 : Value) : Value := .agg #[.bool p.mark, .int .u8 p.type, .int .u16 p.seq, .int .u32 p.time, .int .u32 p.ssrc, v5, v6, v7, .int .i64 p.pad]
structure PkAt (w : World) (p : Pk) (v5 v6 v7 : Value) : Prop where
  csrc : RSl 1 (RNat .u32) w p.csrc v5
  exts : RSl 2 RItem w p.exts v6
  payload : RSl 1 RU8 w p.payload v7
theorem PkAt.le {w w' : World} {p : Pk} {v5 v6 v7 : Value} (h : PkAt w p v5 v6 v7) (hl : Le w w') : PkAt w' p v5 v6 v7 := ⟨hl.rsl (keeps_nat _) h.csrc, hl.rsl keeps_item h.exts, hl.rsl keeps_u8 h.payload⟩
def mayN (t n : Nat) (pad : Int) : Bool := decide (t < 128) && (decide (n ≤ 15) && (decide (0 ≤ pad) && decide (pad ≤ 255)))
def Pk.may (p : Pk) : Bool := mayN p.type p.csrc.length p.pad
def Pk.size (p : Pk) : Nat := 12 + 4 * p.csrc.length + if p.exts = [] then 0 else 4 + (extB p.exts).length
def Pk.err (p : Pk) : Int := if p.may = false then 1 else if extErr p.exts ≠ 0 then extErr p.exts else if (1500 : Int) < p.size + p.payload.length + p.pad then 13 else 0
def Pk.first (p : Pk) : Nat := 128 + p.csrc.length + (if 0 < p.pad then 32 else 0) + (if p.exts = [] then 0 else 16)
def Pk.second (p : Pk) : Nat := p.type + (if p.mark then 128 else 0)
def Pk.head (p : Pk) : List UInt8 := puts [(p.first, 1), (p.second, 1), (p.seq, 2), (p.time, 4), (p.ssrc, 4)]
def csB (l : List Nat) : List UInt8 := l.flatMap fun x => be x 4
def Pk.extP (p : Pk) : List UInt8 := if p.exts = [] then [] else puts [(extProf p.exts, 2), ((extB p.exts).length / 4, 2)] ++ extB p.exts
def Pk.padB (p : Pk) : List UInt8 := if 0 < p.pad then List.replicate (p.pad.toNat - 1) 0 ++ [UInt8.ofNat p.pad.toNat] else []
def Pk.bytes (p : Pk) : List UInt8 := p.head ++ csB p.csrc ++ p.extP ++ p.payload ++ p.padB
def Pk.out (p : Pk) : List UInt8 := if p.err = 0 then p.bytes else []

set_option maxRecDepth 100000 in
set_option maxHeartbeats 1000000 in
theorem pkMay_any (m : Bool) (t s tm ss : Nat) (A5 : Option Addr) (n5 c5 : Nat) (v6 v7 : Value) (pad : Int) (w : World) :
    Calls Try.prog 79 #[.agg #[.bool m, .int .u8 t, .int .u16 s, .int .u32 tm, .int .u32 ss, .slice A5 n5 c5, v6, v7, .int .i64 pad]] w (Gives w (.bool (mayN t n5 pad))) := by
  have hm : ∀ b : Bool, (b = true ↔ (t < 128 ∧ n5 ≤ 15 ∧ 0 ≤ pad ∧ pad ≤ 255)) → b = mayN t n5 pad := fun b h => by
    rw [Bool.eq_iff_iff, h]; simp [mayN]
  have HM := hide hm
  clear hm
  generalize mayN t n5 pad = B at *
  go_enter Try.func79, Try.ntmps79
  go_wp2_with fail
  all_goals
    go_ret
    exact ⟨congrArg (fun b => Ending.returned (.bool b)) (HM.out _ (by simp; omega)), ((Le.refl w).alloc _).out⟩
def sizeN (n5 : Nat) (l : List It) : Nat := 12 + 4 * n5 + if l = [] then 0 else 4 + (extB l).length
set_option maxRecDepth 100000 in
set_option maxHeartbeats 1000000 in
theorem pkSize_any (m : Bool) (t s tm ss : Nat) (A5 : Option Addr) (n5 c5 : Nat) (A6 : Option Addr) (c6 : Nat) (l : List It) (w : World) (hr : RSl 2 RItem w l (.slice A6 l.length c6)) (hl : l.length ≤ 100000) (hn5 : n5 ≤ 100000) (hlen : (extB l).length ≤ 10000000) :
    Calls Try.prog 81 #[.agg #[.bool m, .int .u8 t, .int .u16 s, .int .u32 tm, .int .u32 ss, .slice A5 n5 c5, .slice A6 l.length c6]] w (Gives w (.int .i64 (sizeN n5 l))) := by
  have HP := hide (fun W (hW : Le w W) => extPut_any l A6 l.length c6 W (hW.rsl keeps_item hr) hl)
  clear hr
  have HL := hide ((Le.refl w).alloc (.cells #[.bool m, .int .u8 t, .int .u16 s, .int .u32 tm, .int .u32 ss, .slice A5 n5 c5, .slice A6 l.length c6] 43))
  rcases l with _ | ⟨x, l⟩
  · rw [sizeN, if_pos rfl]
    simp only [List.length_nil]
    go_enter Try.func81, Try.ntmps81
    go_wp2_with fail
    go_ret
    exact ⟨ret_i (by omega), HL.out.out⟩
  · have hs : sizeN n5 (x :: l) = 12 + 4 * n5 + (4 + (extB (x :: l)).length) := rfl
    have HS := hide hs
    clear hs
    have hpos : (0 : Int) < ((x :: l).length : Nat) := by rw [List.length_cons]; omega
    generalize (x :: l).length = N at *
    generalize sizeN n5 (x :: l) = Z at *
    go_enter Try.func81, Try.ntmps81
    go_wp2_with fail
    refine (HP.out _ HL.out).mono ?_
    rintro e w2 ⟨v, rfl, ho, hb⟩
    obtain ⟨A, cap, rfl, hcap, _⟩ := own_slice ho
    have HB := hide hb
    clear hb ho
    generalize (extB (x :: l)).length = E at *
    go_wp2_with fail
    go_ret
    exact ⟨ret_i (by rw [HS.out]; omega), (HL.out.trans ⟨HB.out⟩).out⟩
end Go.Proofs.Ytekioihjfggmdaa

/- rtp.Put: packets that may not be put. -/
namespace Go.Proofs.Ytekioihjfggmdaa
open Go.RowKit
set_option linter.unusedVariables false

/-- what is known of a packet's parts, wherever -/
structure PkCtx (w : World) (p : Pk) (A5 : Option Addr) (c5 : Nat) (A6 : Option Addr) (c6 : Nat) (A7 : Option Addr) (c7 : Nat) : Prop where
  csrc : RSl 1 (RNat .u32) w p.csrc (.slice A5 p.csrc.length c5)
  exts : RSl 2 RItem w p.exts (.slice A6 p.exts.length c6)
  payload : RSl 1 RU8 w p.payload (.slice A7 p.payload.length c7)
theorem PkCtx.le {w w' : World} {p : Pk} {A5 A6 A7 : Option Addr} {c5 c6 c7 : Nat} (h : PkCtx w p A5 c5 A6 c6 A7 c7) (hl : Le w w') : PkCtx w' p A5 c5 A6 c6 A7 c7 :=
  ⟨hl.rsl (keeps_nat _) h.csrc, hl.rsl keeps_item h.exts, hl.rsl keeps_u8 h.payload⟩
theorem PkAt.ctx {w : World} {p : Pk} {v5 v6 v7 : Value} (h : PkAt w p v5 v6 v7) : ∃ A5 c5 A6 c6 A7 c7, v5 = .slice A5 p.csrc.length c5 ∧ v6 = .slice A6 p.exts.length c6 ∧ v7 = .slice A7 p.payload.length c7 ∧ PkCtx w p A5 c5 A6 c6 A7 c7 := by
  obtain ⟨A5, c5, h5, _⟩ := own_rsl h.csrc
  obtain ⟨A6, c6, h6, _⟩ := own_rsl h.exts
  obtain ⟨A7, c7, h7, _⟩ := own_rsl h.payload
  have a := h.csrc; have b := h.exts; have c := h.payload
  rw [h5] at a; rw [h6] at b; rw [h7] at c
  exact ⟨A5, c5, A6, c6, A7, c7, h5, h6, h7, a, b, c⟩
def Pk.v (p : Pk) (A5 : Option Addr) (c5 : Nat) (A6 : Option Addr) (c6 : Nat) (A7 : Option Addr) (c7 : Nat) : Value := p.val (.slice A5 p.csrc.length c5) (.slice A6 p.exts.length c6) (.slice A7 p.payload.length c7)
theorem out_bad {p : Pk} (h : p.err ≠ 0) : p.out = [] := by rw [Pk.out, if_neg h]
theorem putV_bad {w w' : World} {err : Int} (hb : Le w w') : PutV w [] err (.returned (.tuple #[.slice none 0 0, .int .i64 err])) w' := ⟨_, rfl, World.ownsRow_nil _ _ _ _, hb.out⟩

set_option maxRecDepth 100000 in
set_option maxHeartbeats 1000000 in
theorem rtpPut_bad1 (p : Pk) (A5 A6 A7 : Option Addr) (c5 c6 c7 : Nat) (w : World) (h : PkCtx w p A5 c5 A6 c6 A7 c7) (hm : p.may = false) :
    Calls Try.prog 48 #[p.v A5 c5 A6 c6 A7 c7] w (PutV w [] 1) := by
  have HM := hide (fun W => pkMay_any p.mark p.type p.seq p.time p.ssrc A5 p.csrc.length c5 (.slice A6 p.exts.length c6) (.slice A7 p.payload.length c7) p.pad W)
  rw [Pk.may] at hm
  rw [hm] at HM
  clear hm h
  rw [Pk.v, Pk.val]
  go_enter Try.func48, Try.ntmps48
  go_wp2_with fail
  refine (HM.out _).mono ?_
  rintro e w1 ⟨rfl, hb⟩
  have HL := hide (((Le.refl w).alloc _).trans ⟨hb⟩)
  clear hb
  go_wp2_with fail
  go_ret2
  exact putV_bad HL.out

/-- the packet's box -/
structure PkBox (w W : World) (p : Pk) (A5 : Option Addr) (c5 : Nat) (A6 : Option Addr) (c6 : Nat) (A7 : Option Addr) (c7 : Nat) : Prop where
  le : Le w W
  box : W.heap[w.heap.size]? = some (.cells #[.bool p.mark, .int .u8 p.type, .int .u16 p.seq, .int .u32 p.time, .int .u32 p.ssrc, .slice A5 p.csrc.length c5, .slice A6 p.exts.length c6, .slice A7 p.payload.length c7, .int .i64 p.pad] 46 (0, 0))
theorem PkBox.later {w W W' : World} {p : Pk} {A5 A6 A7 : Option Addr} {c5 c6 c7 : Nat} (h : PkBox w W p A5 c5 A6 c6 A7 c7) (hl : Le W W') : PkBox w W' p A5 c5 A6 c6 A7 c7 := ⟨h.le.trans hl, hl.heap h.box⟩
theorem PkBox.cells {w W : World} {p : Pk} {A5 A6 A7 : Option Addr} {c5 c6 c7 : Nat} (h : PkBox w W p A5 c5 A6 c6 A7 c7) :
    W.cell? ⟨w.heap.size, 0, none⟩ = some (.bool p.mark) ∧ W.cell? ⟨w.heap.size, 1, none⟩ = some (.int .u8 p.type) ∧ W.cell? ⟨w.heap.size, 2, none⟩ = some (.int .u16 p.seq) ∧ W.cell? ⟨w.heap.size, 3, none⟩ = some (.int .u32 p.time) ∧ W.cell? ⟨w.heap.size, 4, none⟩ = some (.int .u32 p.ssrc) ∧
    W.cell? ⟨w.heap.size, 5, none⟩ = some (.slice A5 p.csrc.length c5) ∧ W.cell? ⟨w.heap.size, 6, none⟩ = some (.slice A6 p.exts.length c6) ∧ W.cell? ⟨w.heap.size, 7, none⟩ = some (.slice A7 p.payload.length c7) ∧ W.cell? ⟨w.heap.size, 8, none⟩ = some (.int .i64 p.pad) :=
  ⟨box_cell h.box 0 _ rfl _ (Le.refl _), box_cell h.box 1 _ rfl _ (Le.refl _), box_cell h.box 2 _ rfl _ (Le.refl _), box_cell h.box 3 _ rfl _ (Le.refl _), box_cell h.box 4 _ rfl _ (Le.refl _), box_cell h.box 5 _ rfl _ (Le.refl _), box_cell h.box 6 _ rfl _ (Le.refl _), box_cell h.box 7 _ rfl _ (Le.refl _), box_cell h.box 8 _ rfl _ (Le.refl _)⟩

set_option maxRecDepth 100000 in
set_option maxHeartbeats 1000000 in
theorem rtpPut_bad2 (p : Pk) (hp : p.Ok) (A5 A6 A7 : Option Addr) (c5 c6 c7 : Nat) (w : World) (h : PkCtx w p A5 c5 A6 c6 A7 c7) (hm : p.may = true) (he : extErr p.exts ≠ 0) :
    Calls Try.prog 48 #[p.v A5 c5 A6 c6 A7 c7] w (PutV w [] (extErr p.exts)) := by
  have HM := hide (fun W => pkMay_any p.mark p.type p.seq p.time p.ssrc A5 p.csrc.length c5 (.slice A6 p.exts.length c6) (.slice A7 p.payload.length c7) p.pad W)
  have HE := hide (fun W (hW : Le w W) => extPut_any p.exts A6 p.exts.length c6 W (h.le hW).exts hp.ne)
  rw [Pk.may] at hm
  rw [hm] at HM
  clear hm h hp
  rw [Pk.v, Pk.val]
  have hen : (extErr p.exts != 0) = true := by simpa using he
  clear he
  generalize extErr p.exts = E at *
  go_enter Try.func48, Try.ntmps48
  go_wp2_with fail
  refine (HM.out _).mono ?_
  rintro e w1 ⟨rfl, hb⟩
  have HB := hide (show PkBox w w1 p A5 c5 A6 c6 A7 c7 from ⟨((Le.refl w).alloc _).trans ⟨hb⟩, (Le.mk hb).heap (heap_alloc_new w _)⟩)
  clear hb
  obtain ⟨a0, a1, a2, a3, a4, a5, a6, a7, a8⟩ := HB.out.cells
  go_wp2_with fail
  refine (HE.out _ HB.out.le).mono ?_
  rintro e w2 ⟨v, rfl, ho, hb⟩
  obtain ⟨A, cap, rfl, hcap, _⟩ := own_slice ho
  have HL := hide (HB.out.le.trans ⟨hb⟩)
  clear hb ho
  go_wp2_with fail
  go_ret2
  exact putV_bad HL.out
end Go.Proofs.Ytekioihjfggmdaa
