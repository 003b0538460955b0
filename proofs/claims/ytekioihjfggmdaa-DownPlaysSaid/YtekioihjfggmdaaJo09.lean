/- Texts of one claim, laid together: Vp8T -/
import Derived.Laws.Rows
import Derived.Test.YtekioihjfggmdaaJo08
/- vp8.parse. -/
namespace Go.Proofs.Ytekioihjfggmdaa
open Go.RowKit
set_option linter.unusedVariables false

theorem cut_cons (x : UInt8) (t : List UInt8) : cut (x :: t) 0 1 (mayB 1) = (t, 0, [x]) := by
  have h : ¬ ((t.length : Int) + 1 < 1) := by omega
  have h2 : mayB 1 = true := by decide
  simp [cut, h, h2]
theorem tk_cons (x : UInt8) (t : List UInt8) : tk (x :: t, 0) = (t, 0) := by rw [tk, cut_cons]
theorem by1_cons (x : UInt8) (t : List UInt8) : by1 (x :: t, 0) = x.toNat := by simp [by1, cut_cons, val]
theorem tk_nil : tk ([], 0) = ([], 10) := by decide
theorem by1_nil : by1 ([], 0) = 0 := by decide
theorem tk_bad (l : List UInt8) : tk (l, 10) = (l, 10) := by simp [tk, cut]
def Dsc.head (x : Nat) : Dsc := { Dsc.zero with more := bt x 128, lone := bt x 32, start := bt x 16, part := x % 8 }
def Dsc.has (d : Dsc) (x : Nat) : Dsc := { d with hasPic := bt x 128, hasTl0 := bt x 64, hasTid := bt x 32, hasKey := bt x 16 }
/-- a descriptor, the places, what is left and what went wrong -/
structure Rd8 where
  d : Dsc
  pp : Int
  tp : Int
  s : List UInt8 × Int
def Rd8.one (n : Nat) (r : Rd8) : Rd8 := if r.d.hasPic then ⟨r.d.first r.s, (n : Int) - r.s.1.length, r.tp, firstS r.s⟩ else r
def Rd8.two (n : Nat) (r : Rd8) : Rd8 := if r.d.hasTl0 then ⟨r.d.second (by1 r.s), r.pp, (n : Int) - r.s.1.length, tk r.s⟩ else r
def Rd8.three (r : Rd8) : Rd8 := if r.d.hasTid || r.d.hasKey then ⟨r.d.third (by1 r.s), r.pp, r.tp, tk r.s⟩ else r
def rd0 (b : List UInt8) : Rd8 := ⟨Dsc.head (by1 (b, 0)), 0, 0, tk (b, 0)⟩
def rd1 (b : List UInt8) : Rd8 := ⟨(rd0 b).d.has (by1 (rd0 b).s), 0, 0, tk (rd0 b).s⟩
/-- vp8.parse, in plain Lean -/
def vpParse (b : List UInt8) : Rd8 := if bt (by1 (b, 0)) 128 then (((rd1 b).one b.length).two b.length).three else rd0 b

theorem more_ok (b : List UInt8) (h : bt (by1 (b, 0)) 128 = true) : (tk (b, 0)).2 = 0 := by
  cases b with
  | nil => rw [by1_nil] at h; exact absurd h (by decide)
  | cons x t => rw [tk_cons]

/-- what parse hands back -/
def Rd8.val (n : Nat) (r : Rd8) : Value := .tuple #[r.d.val, .agg #[.int .i64 r.pp, .int .i64 r.tp], .int .i64 ((n : Int) - r.s.1.length), .int .i64 r.s.2]

theorem parse_ret {w : World} {Q : Ending → World → Prop} {tmps : Array Value} {g2 g3 : Nat} {d : Dsc} {pp tp m e : Int} (h2 : tmps.getD 2 undef = .pointer (some ⟨g2, 0, none⟩)) (h3 : tmps.getD 3 undef = .pointer (some ⟨g3, 0, none⟩))
    (h4 : tmps.getD 4 undef = .int .i64 m) (h5 : tmps.getD 5 undef = .int .i64 e)
    (hg2 : w.heap[g2]? = some (.cells d.cs 74 (0, 0))) (hg3 : w.heap[g3]? = some (.cells #[.int .i64 pp, .int .i64 tp] 128 (0, 0)))
    (hQ : Q (.returned (.tuple #[d.val, .agg #[.int .i64 pp, .int .i64 tp], .int .i64 m, .int .i64 e])) w) :
    bodyPost Try.prog Try.f44 Q .ret { tmps := tmps, defers := [] } w := by
  have r2 := run_loadVar_row (P := Try.prog) w g2 74 74 d.cs (0, 0) _ hg2 Try.underlying74 rfl (by kernel_rfl)
  have r3 := run_loadVar_row (P := Try.prog) w g3 128 128 #[.int .i64 pp, .int .i64 tp] (0, 0) _ hg3 Try.underlying128 rfl (by kernel_rfl)
  have h2' : tmps[2]?.getD undef = .pointer (some ⟨g2, 0, none⟩) := by simpa using h2
  have h3' : tmps[3]?.getD undef = .pointer (some ⟨g3, 0, none⟩) := by simpa using h3
  have h4' : tmps[4]?.getD undef = .int .i64 m := by simpa using h4
  have h5' : tmps[5]?.getD undef = .int .i64 e := by simpa using h5
  refine bodyPost_ret (v := .tuple #[d.val, .agg #[.int .i64 pp, .int .i64 tp], .int .i64 m, .int .i64 e]) ?_ rfl hQ
  simp [results, Try.results44, h2', h3', h4', h5', asAddr, r2, r3]
  rfl

/-- parse's variables ahead of its closures -/
structure PSt (w W : World) (base p1 p6 p8 pc : Nat) (A : Option Addr) (n cap : Nat) (d : Dsc) (s : List UInt8 × Int) : Prop where
  cut : CutAt W base pc s.1 s.2
  v1 : W.heap[p1]? = some (.cells #[.slice A n cap] 44 (0, 0))
  v6 : W.heap[p6]? = some (.cells #[.pointer (some ⟨pc, 0, none⟩)] 117 (0, 0))
  v8 : W.heap[p8]? = some (.cells d.cs 74 (0, 0))
  b8 : base ≤ p8
  below : Below base w W

section
variable {w W W' : World} {base p1 p6 p8 p10 pc px : Nat} {bs : Array Value} {A : Option Addr} {n cap : Nat} {d : Dsc} {pp tp : Int} {s s' : List UInt8 × Int}
theorem PSt.num (h : PSt w W base p1 p6 p8 pc A n cap d s) (hc : CutAt W' base pc s'.1 s'.2) (hg : W.grownBy W' (some pc)) : PSt w W' base p1 p6 p8 pc A n cap d s' := by
  obtain ⟨hb, A1, cap1, hp, _⟩ := h.cut
  have hne : ∀ {g : Nat} {cs : Array Value} {t : TypeId} {fr : Nat × Nat}, W.heap[g]? = some (.cells cs t fr) → 171 ≠ t → some pc ≠ some g := fun hh ht e => cells_ne hp hh ht (by injection e)
  exact ⟨hc, heap_grown hg h.v1 (hne h.v1 (by decide)), heap_grown hg h.v6 (hne h.v6 (by decide)), heap_grown hg h.v8 (hne h.v8 (by decide)), h.b8, below_row h.below hg hb (Nat.le_trans h.b8 (Nat.le_of_lt (lt_of_heap h.v8)))⟩
theorem PSt.set8 (h : PSt w W base p1 p6 p8 pc A n cap d s) (i : Nat) (u : Value) (d' : Dsc) (e : d.cs.setIfInBounds i u = d'.cs) : PSt w (W.setCell ⟨p8, i, none⟩ u) base p1 p6 p8 pc A n cap d' s :=
  ⟨h.cut.set_ h.v8 (by decide) (by decide) u, heap_far u h.v1 (cells_ne h.v1 h.v8 (by decide)), heap_far u h.v6 (cells_ne h.v6 h.v8 (by decide)), by rw [← e]; exact heap_set u h.v8, h.b8, h.below.setCell h.b8 u⟩
theorem PSt.alloc (h : PSt w W base p1 p6 p8 pc A n cap d s) (o : Obj) : PSt w (W.alloc o) base p1 p6 p8 pc A n cap d s :=
  ⟨h.cut.keep ((Below.refl W.heap.size W).alloc (Nat.le_refl _) o) (Nat.le_refl _), heap_alloc h.v1, heap_alloc h.v6, heap_alloc h.v8, h.b8, h.below.alloc (Nat.le_trans h.b8 (Nat.le_of_lt (lt_of_heap h.v8))) o⟩
theorem PSt.vst (h : PSt w W base p1 p6 p8 pc A n cap d s) (hx : W.heap.size + 1 = px) : VSt w ((W.alloc (.cells #[.int .i64 0, .int .i64 0] 128)).alloc (.cells bs 176)) base p1 p6 p8 W.heap.size pc px bs A n cap d 0 0 s := by
  have hs := Nat.le_trans h.b8 (Nat.le_of_lt (lt_of_heap h.v8))
  have h2 := (h.alloc (.cells #[.int .i64 0, .int .i64 0] 128)).alloc (.cells bs 176)
  subst hx
  refine ⟨h2.cut, h2.v1, h2.v6, h2.v8, heap_alloc (heap_alloc_new W _), ?_, h2.b8, hs, h2.below⟩
  have := heap_alloc_new (W.alloc (.cells #[.int .i64 0, .int .i64 0] 128)) (.cells bs 176)
  rwa [alloc_size] at this
theorem PSt.drew (h : PSt w W base p1 p6 p8 pc A n cap d s) : PSt w W.drew base p1 p6 p8 pc A n cap d s :=
  ⟨h.cut, h.v1, h.v6, h.v8, h.b8, h.below.trans ((Below.refl _ _).drew)⟩
end

/-- what may happen while results are laid into their blocks -/
structure Rr (t2 t3 : Nat) (D2 D3 : Obj) (w w' : World) : Prop where
  os : w'.os = w.os
  tape : w'.tape = w.tape
  output : w'.output = w.output
  size : w.heap.size ≤ w'.heap.size
  block : ∀ k, k < w.heap.size → k ≠ t2 → k ≠ t3 → w'.heap[k]? = w.heap[k]?
  k2 : w'.heap[t2]? = w.heap[t2]? ∨ w'.heap[t2]? = some D2
  k3 : w'.heap[t3]? = w.heap[t3]? ∨ w'.heap[t3]? = some D3
section
variable {t2 t3 : Nat} {D2 D3 : Obj} {w w' w'' : World}
theorem Rr.refl (w : World) : Rr t2 t3 D2 D3 w w := ⟨rfl, rfl, rfl, Nat.le_refl _, fun _ _ _ _ => rfl, .inl rfl, .inl rfl⟩
theorem Rr.trans (h : Rr t2 t3 D2 D3 w w') (h' : Rr t2 t3 D2 D3 w' w'') : Rr t2 t3 D2 D3 w w'' :=
  ⟨h'.os.trans h.os, h'.tape.trans h.tape, h'.output.trans h.output, Nat.le_trans h.size h'.size, fun k hk h2 h3 => (h'.block k (Nat.lt_of_lt_of_le hk h.size) h2 h3).trans (h.block k hk h2 h3),
   h'.k2.elim (fun e => by rw [e]; exact h.k2) .inr, h'.k3.elim (fun e => by rw [e]; exact h.k3) .inr⟩
theorem Rr.heap (h : Rr t2 t3 D2 D3 w w') {g : Nat} {o : Obj} (hg : w.heap[g]? = some o) (h2 : g ≠ t2) (h3 : g ≠ t3) : w'.heap[g]? = some o := (h.block g (lt_of_heap hg) h2 h3).trans hg
theorem Rr.at2 (h : Rr t2 t3 D2 D3 w w') {o : Obj} (hg : w.heap[t2]? = some o) : w'.heap[t2]? = some o ∨ w'.heap[t2]? = some D2 := h.k2.imp (fun e => e.trans hg) _root_.id
theorem Rr.at3 (h : Rr t2 t3 D2 D3 w w') {o : Obj} (hg : w.heap[t3]? = some o) : w'.heap[t3]? = some o ∨ w'.heap[t3]? = some D3 := h.k3.imp (fun e => e.trans hg) _root_.id
theorem Rr.cut (h : Rr t2 t3 D2 D3 w w') {base p : Nat} {l : List UInt8} {e : Int} (hc : CutAt w base p l e) (h2 : t2 < base) (h3 : t3 < base) : CutAt w' base p l e := by
  obtain ⟨hb, A, cap, hp, hl, hd⟩ := hc
  refine ⟨hb, A, cap, h.heap hp (by omega) (by omega), hl, fun hn => ?_⟩
  obtain ⟨k, off, cur, h4, h5, h6, h7⟩ := hd hn
  exact ⟨k, off, cur, h4, h5, h.heap h6 (by omega) (by omega), h7⟩
theorem Rr.below (h : Rr t2 t3 D2 D3 w w') {B : Nat} {w0 : World} (hb : Below B w0 w) (h2 : B ≤ t2) (h3 : B ≤ t3) (hB : B ≤ w.heap.size) : Below B w0 w' :=
  ⟨h.os.trans hb.os, h.tape.trans hb.tape, h.output.trans hb.output, Nat.le_trans hb.size h.size, fun k hk => (h.block k (by omega) (by omega) (by omega)).trans (hb.block k hk)⟩
theorem Rr.store2 (hg : w.grownBy w' (some t2)) (h : w'.heap[t2]? = some D2) (hne : t3 ≠ t2) (ht : t3 < w.heap.size) : Rr t2 t3 D2 D3 w w' :=
  ⟨hg.os, hg.tape, hg.output, hg.size, fun k hk h2 _ => hg.block k hk (fun e => h2 (Option.some.inj e)), .inr h, .inl (hg.block t3 ht (fun e => hne (Option.some.inj e)))⟩
theorem Rr.store3 (hg : w.grownBy w' (some t3)) (h : w'.heap[t3]? = some D3) (hne : t3 ≠ t2) (ht : t2 < w.heap.size) : Rr t2 t3 D2 D3 w w' :=
  ⟨hg.os, hg.tape, hg.output, hg.size, fun k hk _ h3 => hg.block k hk (fun e => h3 (Option.some.inj e)), .inl (hg.block t2 ht (fun e => hne (Option.some.inj e).symm)), .inr h⟩
end

def stg (n : Nat) (r : Rd8) : Nat → Rd8
  | 0 => r
  | 1 => r.one n
  | 2 => (r.one n).two n
  | _ => ((r.one n).two n).three
theorem one_tl0 (n : Nat) (r : Rd8) : (r.one n).d.hasTl0 = r.d.hasTl0 := by
  unfold Rd8.one Dsc.first
  repeat' split
  all_goals rfl
theorem one_tid (n : Nat) (r : Rd8) : (r.one n).d.hasTid = r.d.hasTid := by
  unfold Rd8.one Dsc.first
  repeat' split
  all_goals rfl
theorem one_key (n : Nat) (r : Rd8) : (r.one n).d.hasKey = r.d.hasKey := by
  unfold Rd8.one Dsc.first
  repeat' split
  all_goals rfl
theorem two_tid (n : Nat) (r : Rd8) : (r.two n).d.hasTid = r.d.hasTid := by
  unfold Rd8.two Dsc.second
  split
  all_goals rfl
theorem two_key (n : Nat) (r : Rd8) : (r.two n).d.hasKey = r.d.hasKey := by
  unfold Rd8.two Dsc.second
  split
  all_goals rfl
theorem one_len (n : Nat) (r : Rd8) : (r.one n).s.1.length ≤ r.s.1.length := by
  have h1 := tk_len r.s
  have h2 := tk_len (tk r.s)
  unfold Rd8.one firstS
  repeat' split
  all_goals (try simp only)
  all_goals omega
theorem two_len (n : Nat) (r : Rd8) : (r.two n).s.1.length ≤ r.s.1.length := by
  have h1 := tk_len r.s
  unfold Rd8.two
  split
  all_goals (try simp only)
  all_goals omega
theorem three_len (r : Rd8) : r.three.s.1.length ≤ r.s.1.length := by
  have h1 := tk_len r.s
  unfold Rd8.three
  split
  all_goals (try simp only)
  all_goals omega

def bsOf (p1 p6 p8 p10 : Nat) (h t T : Bool) : Array Value :=
  #[.bool h, .func (.func 75) #[] #[.pointer (some ⟨p1, 0, none⟩), .pointer (some ⟨p6, 0, none⟩), .pointer (some ⟨p10, 0, none⟩), .pointer (some ⟨p8, 0, none⟩)],
    .bool t, .func (.func 76) #[] #[.pointer (some ⟨p1, 0, none⟩), .pointer (some ⟨p6, 0, none⟩), .pointer (some ⟨p10, 0, none⟩), .pointer (some ⟨p8, 0, none⟩)],
    .bool T, .func (.func 77) #[] #[.pointer (some ⟨p6, 0, none⟩), .pointer (some ⟨p8, 0, none⟩)]]

set_option maxRecDepth 100000 in
set_option maxHeartbeats 4000000 in
theorem parse_any (A : Option Addr) (cap : Nat) (b : List UInt8) (w : World) (hr : RSl 1 RU8 w b (.slice A b.length cap)) (hn : b.length ≤ 2147483648) :
    Calls Try.prog 44 #[.slice A b.length cap] w (Gives w ((vpParse b).val b.length)) := by
  have HR := hide hr
  clear hr
  obtain ⟨R, hR⟩ : ∃ R, R = (vpParse b).val b.length := ⟨_, rfl⟩
  rw [← hR]
  have HRES := hide hR
  clear hR
  have hx := by1_lt (b, 0)
  have htl := tk_len (b, 0)
  obtain ⟨x, hxe⟩ : ∃ x, x = by1 (b, 0) := ⟨_, rfl⟩
  rw [← hxe] at hx
  have HX := hide hxe
  clear hxe
  obtain ⟨c7, c31, c127, k128, k64, k32, k16⟩ := bits8 x hx
  have hmf : ∀ (fn : Fn) (first cap : Array Value) (w : World), (Instr.makeFunc fn first cap).run Try.prog w = .ok (.func fn first cap) w := fun _ _ _ _ => rfl
  have hw0 : Le w (((w.alloc (Obj.cells #[Value.slice A b.length cap] 44)).alloc (Obj.cells Dsc.zero.cs 74)).alloc (Obj.cells #[Value.int IntKind.i64 0, Value.int IntKind.i64 0] 128)) := (((Le.refl w).alloc _).alloc _).alloc _
  have hv1 : (((w.alloc (Obj.cells #[Value.slice A b.length cap] 44)).alloc (Obj.cells Dsc.zero.cs 74)).alloc (Obj.cells #[Value.int IntKind.i64 0, Value.int IntKind.i64 0] 128)).heap[w.heap.size]? = _ := heap_alloc (heap_alloc (heap_alloc_new w _))
  have hv2 : (((w.alloc (Obj.cells #[Value.slice A b.length cap] 44)).alloc (Obj.cells Dsc.zero.cs 74)).alloc (Obj.cells #[Value.int IntKind.i64 0, Value.int IntKind.i64 0] 128)).heap[w.heap.size + 1]? = _ := heap_alloc (heap_at (alloc_size w _))
  have hv3 : (((w.alloc (Obj.cells #[Value.slice A b.length cap] 44)).alloc (Obj.cells Dsc.zero.cs 74)).alloc (Obj.cells #[Value.int IntKind.i64 0, Value.int IntKind.i64 0] 128)).heap[w.heap.size + 1 + 1]? = _ := heap_at ((alloc_size _ _).trans (congrArg (· + 1) (alloc_size w _)))
  simp only [Dsc.cs, Dsc.zero, Int.ofNat_zero] at hw0 hv1 hv2 hv3
  have HW0 := hide hw0
  have HV1 := hide hv1
  have HV2 := hide hv2
  have HV3 := hide hv3
  clear hw0 hv1 hv2 hv3
  go_enter Try.func44, Try.ntmps44
  go_wp2_with fail
  have HN := hide (new_any _ A b.length cap b (HW0.out.rsl keeps_u8 HR.out) hn)
  generalize hW0 : (World.alloc (World.alloc (World.alloc w _) _) _) = W0 at *
  clear hW0
  refine HN.out.mono ?_
  rintro e W1 ⟨pc, rfl, hcut, hb1⟩
  have hcell : (W1.alloc (.cells #[.pointer (some ⟨pc, 0, none⟩)] 117)).heap[W1.heap.size]? = _ := heap_alloc_new W1 _
  have hp0 := hide (And.intro (hcut.keep ((Below.refl W1.heap.size W1).alloc (Nat.le_refl _) (.cells #[.pointer (some ⟨pc, 0, none⟩)] 117)) (Nat.le_refl _)) (And.intro (heap_below (hb1.alloc hb1.size (.cells #[.pointer (some ⟨pc, 0, none⟩)] 117)) HV1.out (lt_of_heap HV1.out)) (And.intro hcell (hb1.alloc hb1.size (.cells #[.pointer (some ⟨pc, 0, none⟩)] 117)))))
  clear hcut hb1 hcell HN
  go_wp2_with fail
  obtain ⟨hcut, hv1, hv6, hbe⟩ := hp0.out
  generalize hp6 : W1.heap.size = p6 at *
  generalize W1.alloc _ = W2 at *
  refine (num_any _ _ _ _ _ _ hcut hn).mono ?_
  rintro e W3 ⟨hr, hc, hg⟩
  obtain rfl : e = .returned (.int .u64 x) := hr.trans (by rw [HX.out]; rfl)
  obtain ⟨_, A1, cap1, hpc, _⟩ := id hcut
  have hne : ∀ {g : Nat} {cs : Array Value} {t : TypeId} {fr : Nat × Nat}, W2.heap[g]? = some (.cells cs t fr) → 171 ≠ t → some pc ≠ some g := fun hh ht e => cells_ne hpc hh ht (by injection e)
  have hs3 : W0.heap.size ≤ W3.heap.size := Nat.le_trans hbe.size hg.size
  have hp := (show PSt W0 (W3.alloc (.cells (Dsc.head x).cs 74)) W0.heap.size w.heap.size p6 W3.heap.size pc A b.length cap (Dsc.head x) (tk (b, 0)) from
    ⟨(show CutAt W3 W0.heap.size pc (tk (b, 0)).1 (tk (b, 0)).2 from hc).keep ((Below.refl W3.heap.size W3).alloc (Nat.le_refl _) _) (Nat.le_refl _), heap_alloc (heap_grown hg hv1 (hne hv1 (by decide))), heap_alloc (heap_grown hg hv6 (hne hv6 (by decide))), heap_alloc_new W3 _, hs3, (below_row hbe hg hcut.1 hbe.size).alloc hs3 _⟩)
  have HP := hide hp
  clear hp hne hpc hc hg hbe hcut hv1 hv6 hr hp0 hp6
  have e8 : IntKind.u8.wrap (((x % 8 : Nat) : Int)) = ((x % 8 : Nat) : Int) := by simp [IntKind.wrap, IntKind.signed, IntKind.bits]; omega
  go_upto_region 4 with fail
  obtain ⟨W4, hW4⟩ : ∃ W4, W4 = W3.alloc (.cells (Dsc.head x).cs 74) := ⟨_, rfl⟩
  change Code.wp _ _ _ _ (W3.alloc (.cells (Dsc.head x).cs _))
  rw [← hW4] at HP ⊢
  clear hW4
  generalize W3.heap.size = p8 at *
  generalize hs1 : tk (b, 0) = s1 at *
  have y0 : W4.cell? ⟨p8, 0, none⟩ = some (.bool (bt x 128)) := cell_block HP.out.v8 0
  have y6 : W4.cell? ⟨p6, 0, none⟩ = some (.pointer (some ⟨pc, 0, none⟩)) := cell_block HP.out.v6 0
  have HER := hide (CutAt.err HP.out.cut)
  cases hb : bt x 128
  · rw [hb] at y0 k128
    have HB := hide hb
    clear hb
    have hres : R = .tuple #[(Dsc.head x).val, .agg #[.int .i64 0, .int .i64 0], .int .i64 ((b.length : Int) - s1.1.length), .int .i64 s1.2] := by
      rw [HRES.out, vpParse, ← HX.out, HB.out]
      simp only [Bool.false_eq_true, if_false, Rd8.val, rd0, ← HX.out, hs1]
    have HR5 := hide hres
    clear hres
    generalize Dsc.head x = d at *
    have hwr : IntKind.i64.wrap ((b.length : Int) - s1.1.length) = (b.length : Int) - s1.1.length := IntWalk.i64_in _ (by omega)
    have hl2 := lt_of_heap HV2.out
    have hl3 := lt_of_heap HV3.out
    have hd := HP.out.drew
    have hcd := hd.cut
    have h1d := hd.v1
    have h6d := hd.v6
    have h8d := hd.v8
    have h2d : W4.drew.heap[w.heap.size + 1]? = _ := heap_below hd.below HV2.out hl2
    have h3d : W4.drew.heap[w.heap.size + 1 + 1]? = _ := heap_below hd.below HV3.out hl3
    have hl8 := hd.b8
    have HC := hide hcd
    have HBW := hide (HW0.out.out.trans (hd.below.mono HW0.out.size))
    have H1 := hide h1d
    have H6 := hide h6d
    have H8 := hide h8d
    have H2 := hide h2d
    have H3 := hide h3d
    have hn16 : p6 ≠ w.heap.size + 1 := cells_ne H6.out H2.out (by decide)
    have hn26 : p6 ≠ w.heap.size + 1 + 1 := cells_ne H6.out H3.out (by decide)
    clear hd hcd h1d h6d h8d h2d h3d
    go_upto_region 5 with fail
    clear y0 y6
    refine' wp_region_rows 9 38 (Rr (w.heap.size + 1) (w.heap.size + 1 + 1) (.cells d.cs 74 (0, 0)) (.cells #[.int .i64 0, .int .i64 0] 128 (0, 0))) (Is _ :: Is _ :: Is _ :: Is _ :: Is _ :: Is _ :: Is _ :: Is _ :: Is _ :: (fun _ W => W.heap[w.heap.size + 1]? = some (Obj.cells d.cs 74 (0, 0))) :: (fun _ W => W.heap[w.heap.size + 1 + 1]? = some (Obj.cells #[.int .i64 0, .int .i64 0] 128 (0, 0))) :: Is _ :: Is _ :: []) ([] :: [] :: [] :: [2] :: [] :: [4] :: [3, 5] :: [] :: [7] :: [0] :: [1] :: [6] :: [8] :: []) (by kernel_rfl) (by kernel_rfl) (by rfl) (by kernel_rfl) Rr.refl (fun _ _ _ h h' => h.trans h') ⟨St.is, St.is, St.is, St.is, St.is, St.is, St.is, St.is, St.is, (fun _ _ _ h hk => h.k2.elim (fun e => e.trans hk) _root_.id), (fun _ _ _ h hk => h.k3.elim (fun e => e.trans hk) _root_.id), St.is, St.is, trivial⟩ ?m5
    case m5 =>
      simp (maxSteps := 100000000) only [AllV, Obl2, Leans, factAt, allFacts, actOf, putAll, putRow, Act.put, List.setIfInBounds_toArray, List.set_cons_succ, List.set_cons_zero, List.getElem?_cons_zero, List.getElem?_cons_succ, List.take_succ_cons, List.take_zero, List.drop_succ_cons, List.drop_zero, List.cons_append, List.nil_append, List.length_cons, List.length_nil, Nat.reduceAdd]
      intro x0 x1 x2 x3 x4 x5 x6 x7 x8 x9 x10 x11 x12
      refine ⟨⟨?_, ?_, ?_, ?_, ?_, ?_, ?_, ?_, ?_, ?_, ?_, ?_, ?_, trivial⟩, ?_⟩
      -- 0: 38 := Op.load 49 t8
      · intro w hw  K hK; refine cast (if_pos (show Region.wanted _ _ = true from rfl)).symm ?_; have hz := hw.heap H8.out (by omega) (by omega); refine wp_load_blk 74 (.tmp 8) rfl (cs := d.cs.toList) _ rfl Try.underlying74 rfl (by kernel_rfl) hz ?_; exact hK _ _ (Rr.refl _) (Is.mk _ _)
      -- 1: 39 := Op.build 82 #[]
      · intro w hw  K hK; go_simp; exact hK _ _ (Rr.refl _) (Is.mk _ _)
      -- 2: 40 := Op.load 26 t1
      · intro w hw  K hK; have hz := cell_block (hw.heap H1.out (by omega) (by omega)) 0; simp only [List.getElem?_toArray, List.getElem?_cons_zero] at hz; go_simp; exact hK _ _ (Rr.refl _) (Is.mk _ _)
      -- 3: 41 := Op.call { builtin len, args := #[t40], argTypes := #[26] }
      · intro w hw h2 K hK; cases h2; go_simp; exact hK _ _ (Rr.refl _) (Is.mk _ _)
      -- 4: 42 := Op.load 70 t6
      · intro w hw  K hK; have hz := cell_block (hw.heap H6.out hn16 hn26) 0; simp only [List.getElem?_toArray, List.getElem?_cons_zero] at hz; go_simp; exact hK _ _ (Rr.refl _) (Is.mk _ _)
      -- 5: 43 := Op.call { value (Operand.func 42), args := #[t42], argTypes := #[70] }
      · intro w hw h4 K hK; cases h4; go_simp; refine ((hw.cut HC.out hl2 hl3).left).mono ?_; rintro r w' ⟨rfl, rfl⟩; exact hK _ _ (Rr.refl _) (Is.mk _ _)
      -- 6: 44 := Op.binOp BinOp.sub 3 t41 t43 3
      · intro w hw h3 h5 K hK; cases h3; cases h5; go_simp; exact hK _ _ (Rr.refl _) (Is.mk _ _)
      -- 7: 45 := Op.load 70 t6
      · intro w hw  K hK; have hz := cell_block (hw.heap H6.out hn16 hn26) 0; simp only [List.getElem?_toArray, List.getElem?_cons_zero] at hz; go_simp; exact hK _ _ (Rr.refl _) (Is.mk _ _)
      -- 8: 46 := Op.call { value (Operand.func 44), args := #[t45], argTypes := #[70] }
      · intro w hw h7 K hK; cases h7; go_simp; refine ((hw.cut HC.out hl2 hl3).err).mono ?_; rintro r w' ⟨rfl, rfl⟩; exact hK _ _ (Rr.refl _) (Is.mk _ _)
      -- 9: none := Op.store 49 t2 t38
      · intro w hw h0 K hK; cases h0; refine cast (if_pos (show Region.wanted _ _ = true from rfl)).symm ?_; rcases hw.at2 H2.out with ho | ho <;> (refine wp_store_blk 74 (.tmp 2) (.tmp 38) rfl (cs := d.cs.toList) rfl rfl (by kernel_rfl) (by simp [Dsc.cs, Value.oneCell']) ho rfl ?_; intro w' h' hg'; exact hK undef _ (Rr.store2 hg' h' (by omega) (by have := hw.size; have := lt_of_heap H3.out; omega)) h')
      -- 10: none := Op.store 82 t3 t39
      · intro w hw h1 K hK; cases h1; refine cast (if_pos (show Region.wanted _ _ = true from rfl)).symm ?_; rcases hw.at3 H3.out with ho | ho <;> (refine wp_store_blk 128 (.tmp 3) (.tmp 39) rfl (cs := [.int .i64 0, .int .i64 0]) rfl rfl (by kernel_rfl) (by simp [Value.oneCell']) ho rfl ?_; intro w' h' hg'; exact hK undef _ (Rr.store3 hg' h' (by omega) (by have := hw.size; have := lt_of_heap H2.out; omega)) h')
      -- 11: 4 := Op.assign t44
      · intro w hw h6 K hK; cases h6; go_simp; exact hK _ _ (Rr.refl _) (Is.mk _ _)
      -- 12: 5 := Op.assign t46
      · intro w hw h8 K hK; cases h8; go_simp; exact hK _ _ (Rr.refl _) (Is.mk _ _)
      · intro wz hz h0 h1 h2 h3 h4 h5 h6 h7 h8 h9 h10 h11 h12; cases h0; cases h1; cases h2; cases h3; cases h4; cases h5; cases h6; cases h7; cases h8; cases h11; cases h12; skip
        go_wp2_with fail
        exact parse_ret rfl rfl rfl rfl h9 h10 ⟨congrArg Ending.returned HR5.out.symm, hz.below HBW.out (by omega) (by omega) HBW.out.size⟩
  · have hs2 := more_ok b (by rw [← HX.out]; exact hb)
    rw [hs1] at hs2
    rw [hs2] at HER
    rw [hb] at y0 k128
    have HB := hide hb
    clear hb
    have hrd : rd1 b = ⟨(Dsc.head x).has (by1 s1), 0, 0, tk s1⟩ := by
      rw [rd1, rd0]
      simp only [← HX.out, hs1]
    have hres : R = (stg b.length (rd1 b) 3).val b.length := by
      rw [HRES.out, vpParse, ← HX.out, HB.out]
      rfl
    rw [hrd] at hres
    have HR16 := hide hres
    clear hrd hres
    go_upto_region 6 with (go_at_call 40; refine HER.out.mono ?_; rintro e w' ⟨rfl, rfl⟩)
    have hy := by1_lt s1
    have htl2 := tk_len s1
    obtain ⟨y, hye⟩ : ∃ y, y = by1 s1 := ⟨_, rfl⟩
    rw [← hye] at hy HR16
    have HY := hide hye
    clear hye y0 k128 k64 k32 k16 c7 c31 c127 e8 HER hs2
    obtain ⟨c7, c31, c127, k128, k64, k32, k16⟩ := bits8 y hy
    have HT := hide (num_any W4 _ pc s1.1 s1.2 1 HP.out.cut (by omega))
    go_wp2_with fail
    refine HT.out.mono ?_
    rintro e W5 ⟨hr, hc, hg⟩
    obtain rfl : e = .returned (.int .u64 y) := hr.trans (by rw [HY.out]; rfl)
    have hp5 := HP.out.num (s' := tk s1) hc hg
    have f4 := free_block hp5.v8 4
    have f7 := free_block hp5.v8 7
    have f9 := free_block hp5.v8 9
    have f12 := free_block hp5.v8 12
    have u4 := cell_block hp5.v8 4
    have u7 := cell_block hp5.v8 7
    have u9 := cell_block hp5.v8 9
    have u12 := cell_block hp5.v8 12
    simp only [Dsc.cs, List.getElem?_toArray, List.getElem?_cons_zero, List.getElem?_cons_succ] at u4 u7 u9 u12
    have hp6 := ((((hp5.set8 4 (.bool (bt y 128)) { Dsc.head x with hasPic := bt y 128 } rfl).set8 7 (.bool (bt y 64)) { Dsc.head x with hasPic := bt y 128, hasTl0 := bt y 64 } rfl).set8 9 (.bool (bt y 32)) { Dsc.head x with hasPic := bt y 128, hasTl0 := bt y 64, hasTid := bt y 32 } rfl).set8 12 (.bool (bt y 16)) ((Dsc.head x).has y) rfl)
    have HP6 := hide hp6
    clear hp6 hp5 hc hg HT HP y6
    go_upto_region 9 with fail
    obtain ⟨W6, hW6⟩ : ∃ W6, W6 = (((W5.setCell ⟨p8, 4, none⟩ (.bool (bt y 128))).setCell ⟨p8, 7, none⟩ (.bool (bt y 64))).setCell ⟨p8, 9, none⟩ (.bool (bt y 32))).setCell ⟨p8, 12, none⟩ (.bool (bt y 16)) := ⟨_, rfl⟩
    rw [← hW6] at HP6 ⊢
    clear hW6 u4 u7 u9 u12 f4 f7 f9 f12 k128 k64 k32 k16
    have hmx : (W6.alloc (.cells #[.int .i64 0, .int .i64 0] 128)).cell? ⟨p8, 4, none⟩ = _ := cell_block (heap_alloc HP6.out.v8) 4
    have y4 : (W6.alloc (.cells #[.int .i64 0, .int .i64 0] 128)).cell? ⟨p8, 4, none⟩ = some (.bool (bt y 128)) := cell_block (heap_alloc HP6.out.v8) 4
    have y7 : (W6.alloc (.cells #[.int .i64 0, .int .i64 0] 128)).cell? ⟨p8, 7, none⟩ = some (.bool (bt y 64)) := cell_block (heap_alloc HP6.out.v8) 7
    have y9 : (W6.alloc (.cells #[.int .i64 0, .int .i64 0] 128)).cell? ⟨p8, 9, none⟩ = some (.bool (bt y 32)) := cell_block (heap_alloc HP6.out.v8) 9
    have y12 : (W6.alloc (.cells #[.int .i64 0, .int .i64 0] 128)).cell? ⟨p8, 12, none⟩ = some (.bool (bt y 16)) := cell_block (heap_alloc HP6.out.v8) 12
    clear hmx
    obtain ⟨r, hr⟩ : ∃ r, r = (⟨(Dsc.head x).has y, 0, 0, tk s1⟩ : Rd8) := ⟨_, rfl⟩
    have r1 : r.d.hasPic = bt y 128 := by rw [hr]; rfl
    have r2 : r.d.hasTl0 = bt y 64 := by rw [hr]; rfl
    have r3 : r.d.hasTid = bt y 32 := by rw [hr]; rfl
    have r4 : r.d.hasKey = bt y 16 := by rw [hr]; rfl
    have rl : r.s.1.length ≤ b.length := by rw [hr]; simp only at htl ⊢; omega
    rw [← hr] at HR16
    have hp7 := HP6.out
    rw [show (Dsc.head x).has y = r.d by rw [hr], show tk s1 = r.s by rw [hr]] at hp7
    have r5 : r.pp = 0 := by rw [hr]
    have r6 : r.tp = 0 := by rw [hr]
    have HP7 := hide hp7
    have hL : ∀ k, (stg b.length r k).s.1.length ≤ b.length := by
      intro k
      have h1 := one_len b.length r
      have h2 := two_len b.length (r.one b.length)
      have h3 := three_len ((r.one b.length).two b.length)
      match k with
      | 0 => exact rl
      | 1 => exact Nat.le_trans h1 rl
      | 2 => exact Nat.le_trans h2 (Nat.le_trans h1 rl)
      | n + 3 => exact Nat.le_trans h3 (Nat.le_trans h2 (Nat.le_trans h1 rl))
    have HL := hide hL
    clear hL hr hp7 HP6 rl
    cases h32 : bt y 32
    all_goals
      rw [h32] at y9
      have H32 := hide h32
      clear h32
      go_wp2_with fail
      go_loopw [83] (fun i wr => ∃ (k : Nat) (T : Bool), k ≤ 3 ∧ i = .int .i64 k ∧ T = (bt y 32 || bt y 16) ∧ VSt W0 wr W0.heap.size w.heap.size p6 p8 W6.heap.size pc (W6.heap.size + 1) (bsOf w.heap.size p6 p8 W6.heap.size (bt y 128) (bt y 64) T) A b.length cap (stg b.length r k).d (stg b.length r k).pp (stg b.length r k).tp (stg b.length r k).s) (fun i _ => 3 - (intOf i).toNat)
      case atStart =>
        have hv := HP7.out.vst (bs := bsOf w.heap.size p6 p8 W6.heap.size (bt y 128) (bt y 64) (bt y 32 || bt y 16)) rfl
        refine ⟨0, bt y 32 || bt y 16, by omega, rfl, rfl, ?_⟩
        change VSt _ _ _ _ _ _ _ _ _ _ _ _ _ r.d r.pp r.tp r.s
        rw [r5, r6]
        rw [H32.out] at hv ⊢
        exact hv
      case round =>
        clear y4 y7 y9 y12 HP7
        obtain ⟨k, T, hk, rfl, hT, hV⟩ := hrel
        by_cases hlt : k < 3
        · have hcase : k = 0 ∨ k = 1 ∨ k = 2 := by omega
          rcases hcase with rfl | rfl | rfl
          · have e0 := cell_block hV.vx 0
            have e1 := cell_block hV.vx 1
            simp only [bsOf, List.getElem?_toArray, List.getElem?_cons_zero, List.getElem?_cons_succ] at e0 e1
            have HV := hide hV
            clear hV
            cases hq : bt y 128
            · rw [hq] at e0
              have hs : stg b.length r 1 = stg b.length r 0 := by simp only [stg]; rw [Rd8.one, r1, hq]; rfl
              go_wp2_with (refine wpl_store_blk rfl 176 (.tmp 12) (.tmp 86) rfl (old := [.bool false, .nilFunc]) rfl rfl (by kernel_rfl) (by simp [Value.oneCell']) (heap_alloc_new wr _) rfl ?_; intro w2 h2 hg2; have x0 := cell_block h2 0; have x1 := cell_block h2 1; simp only [List.getElem?_toArray, List.getElem?_cons_zero, List.getElem?_cons_succ] at x0 x1; have HV2' := hide (HV.out.keep (below_row ((Below.refl wr.heap.size wr).alloc (Nat.le_refl _) _) hg2 (Nat.le_refl _) (le_alloc (Nat.le_refl _)))); clear h2 hg2)
              go_roundw
              case rel => exact ⟨1, T, by omega, rfl, hT, by have h := HV2'.out; rw [hq] at h; rw [hs]; exact h⟩
              case measure => simp [intOf]
            · rw [hq] at e0
              have hs : stg b.length r 1 = ⟨r.d.first r.s, (b.length : Int) - r.s.1.length, r.tp, firstS r.s⟩ := by simp only [stg]; rw [Rd8.one, r1, hq]; rfl
              go_wp2_with (refine wpl_store_blk rfl 176 (.tmp 12) (.tmp 86) rfl (old := [.bool false, .nilFunc]) rfl rfl (by kernel_rfl) (by simp [Value.oneCell']) (heap_alloc_new wr _) rfl ?_; intro w2 h2 hg2; have x0 := cell_block h2 0; have x1 := cell_block h2 1; simp only [List.getElem?_toArray, List.getElem?_cons_zero, List.getElem?_cons_succ] at x0 x1; have HV2' := hide (HV.out.keep (below_row ((Below.refl wr.heap.size wr).alloc (Nat.le_refl _) _) hg2 (Nat.le_refl _) (le_alloc (Nat.le_refl _)))); clear h2 hg2)
              refine (first_any W0 w2 _ _ _ _ _ _ _ _ _ _ _ _ _ _ _ HV2'.out hn (HL.out 0)).mono ?_
              rintro e w3 ⟨rfl, hv3⟩
              go_wp2_with fail
              go_roundw
              case rel => exact ⟨1, T, by omega, rfl, hT, by rw [hq] at hv3; rw [hs]; exact hv3⟩
              case measure => simp [intOf]
          · have e0 := cell_block hV.vx 2
            have e1 := cell_block hV.vx 3
            simp only [bsOf, List.getElem?_toArray, List.getElem?_cons_zero, List.getElem?_cons_succ] at e0 e1
            have HV := hide hV
            clear hV
            cases hq : bt y 64
            · rw [hq] at e0
              have hs : stg b.length r 2 = stg b.length r 1 := by simp only [stg]; rw [Rd8.two, one_tl0, r2, hq]; rfl
              go_wp2_with (refine wpl_store_blk rfl 176 (.tmp 12) (.tmp 86) rfl (old := [.bool false, .nilFunc]) rfl rfl (by kernel_rfl) (by simp [Value.oneCell']) (heap_alloc_new wr _) rfl ?_; intro w2 h2 hg2; have x0 := cell_block h2 0; have x1 := cell_block h2 1; simp only [List.getElem?_toArray, List.getElem?_cons_zero, List.getElem?_cons_succ] at x0 x1; have HV2' := hide (HV.out.keep (below_row ((Below.refl wr.heap.size wr).alloc (Nat.le_refl _) _) hg2 (Nat.le_refl _) (le_alloc (Nat.le_refl _)))); clear h2 hg2)
              go_roundw
              case rel => exact ⟨2, T, by omega, rfl, hT, by have h := HV2'.out; rw [hq] at h; rw [hs]; exact h⟩
              case measure => simp [intOf]
            · rw [hq] at e0
              have hs : stg b.length r 2 = ⟨(r.one b.length).d.second (by1 (r.one b.length).s), (r.one b.length).pp, (b.length : Int) - (r.one b.length).s.1.length, tk (r.one b.length).s⟩ := by simp only [stg]; rw [Rd8.two, one_tl0, r2, hq]; rfl
              go_wp2_with (refine wpl_store_blk rfl 176 (.tmp 12) (.tmp 86) rfl (old := [.bool false, .nilFunc]) rfl rfl (by kernel_rfl) (by simp [Value.oneCell']) (heap_alloc_new wr _) rfl ?_; intro w2 h2 hg2; have x0 := cell_block h2 0; have x1 := cell_block h2 1; simp only [List.getElem?_toArray, List.getElem?_cons_zero, List.getElem?_cons_succ] at x0 x1; have HV2' := hide (HV.out.keep (below_row ((Below.refl wr.heap.size wr).alloc (Nat.le_refl _) _) hg2 (Nat.le_refl _) (le_alloc (Nat.le_refl _)))); clear h2 hg2)
              refine (second_any W0 w2 _ _ _ _ _ _ _ _ _ _ _ _ _ _ _ HV2'.out hn (HL.out 1)).mono ?_
              rintro e w3 ⟨rfl, hv3⟩
              go_wp2_with fail
              go_roundw
              case rel => exact ⟨2, T, by omega, rfl, hT, by rw [hq] at hv3; rw [hs]; exact hv3⟩
              case measure => simp [intOf]
          · have e0 := cell_block hV.vx 4
            have e1 := cell_block hV.vx 5
            simp only [bsOf, List.getElem?_toArray, List.getElem?_cons_zero, List.getElem?_cons_succ] at e0 e1
            have HV := hide hV
            clear hV
            cases hq : T
            · rw [hq] at e0
              have hs : stg b.length r 3 = stg b.length r 2 := by simp only [stg]; rw [Rd8.three, two_tid, two_key, one_tid, one_key, r3, r4, ← hT, hq]; rfl
              go_wp2_with (refine wpl_store_blk rfl 176 (.tmp 12) (.tmp 86) rfl (old := [.bool false, .nilFunc]) rfl rfl (by kernel_rfl) (by simp [Value.oneCell']) (heap_alloc_new wr _) rfl ?_; intro w2 h2 hg2; have x0 := cell_block h2 0; have x1 := cell_block h2 1; simp only [List.getElem?_toArray, List.getElem?_cons_zero, List.getElem?_cons_succ] at x0 x1; have HV2' := hide (HV.out.keep (below_row ((Below.refl wr.heap.size wr).alloc (Nat.le_refl _) _) hg2 (Nat.le_refl _) (le_alloc (Nat.le_refl _)))); clear h2 hg2)
              go_roundw
              case rel => exact ⟨3, T, by omega, rfl, hT, by rw [hs]; exact HV2'.out⟩
              case measure => simp [intOf]
            · rw [hq] at e0
              have hs : stg b.length r 3 = ⟨((r.one b.length).two b.length).d.third (by1 ((r.one b.length).two b.length).s), ((r.one b.length).two b.length).pp, ((r.one b.length).two b.length).tp, tk ((r.one b.length).two b.length).s⟩ := by simp only [stg]; rw [Rd8.three, two_tid, two_key, one_tid, one_key, r3, r4, ← hT, hq]; rfl
              go_wp2_with (refine wpl_store_blk rfl 176 (.tmp 12) (.tmp 86) rfl (old := [.bool false, .nilFunc]) rfl rfl (by kernel_rfl) (by simp [Value.oneCell']) (heap_alloc_new wr _) rfl ?_; intro w2 h2 hg2; have x0 := cell_block h2 0; have x1 := cell_block h2 1; simp only [List.getElem?_toArray, List.getElem?_cons_zero, List.getElem?_cons_succ] at x0 x1; have HV2' := hide (HV.out.keep (below_row ((Below.refl wr.heap.size wr).alloc (Nat.le_refl _) _) hg2 (Nat.le_refl _) (le_alloc (Nat.le_refl _)))); clear h2 hg2)
              refine (third_any W0 w2 _ _ _ _ _ _ _ _ _ _ _ _ _ _ _ HV2'.out (Nat.le_trans (HL.out 2) hn)).mono ?_
              rintro e w3 ⟨rfl, hv3⟩
              go_wp2_with fail
              go_roundw
              case rel => exact ⟨3, T, by omega, rfl, hT, by rw [hs]; exact hv3⟩
              case measure => simp [intOf]
        · obtain rfl : k = 3 := by omega
          have e : R = (stg b.length r 3).val b.length := HR16.out
          have HE := hide e
          have hle := HL.out 3
          clear e hlt hk hT HL
          generalize stg b.length r 3 = q at *
          obtain ⟨d, pp, tp, s⟩ := q
          simp only at hV hle
          have hwr : IntKind.i64.wrap ((b.length : Int) - s.1.length) = (b.length : Int) - s.1.length := IntWalk.i64_in _ (by omega)
          have hl2 := lt_of_heap HV2.out
          have hl3 := lt_of_heap HV3.out
          have hd := hV.drew
          have hl8 := hd.b8
          have hl10 := hd.b10
          have HC := hide hd.cut
          have H1 := hide hd.v1
          have H6 := hide hd.v6
          have H8 := hide hd.v8
          have H10 := hide hd.v10
          have H2 := hide (heap_below hd.below HV2.out hl2)
          have H3 := hide (heap_below hd.below HV3.out hl3)
          have HBW := hide (HW0.out.out.trans (hd.below.mono HW0.out.size))
          have hn16 : p6 ≠ w.heap.size + 1 := cells_ne H6.out H2.out (by decide)
          have hn26 : p6 ≠ w.heap.size + 1 + 1 := cells_ne H6.out H3.out (by decide)
          clear hd hV
          go_upto_region 16 with fail
          refine' wp_region_rows 9 93 (Rr (w.heap.size + 1) (w.heap.size + 1 + 1) (.cells d.cs 74 (0, 0)) (.cells #[.int .i64 pp, .int .i64 tp] 128 (0, 0))) (Is _ :: Is _ :: Is _ :: Is _ :: Is _ :: Is _ :: Is _ :: Is _ :: Is _ :: (fun _ W => W.heap[w.heap.size + 1]? = some (Obj.cells d.cs 74 (0, 0))) :: (fun _ W => W.heap[w.heap.size + 1 + 1]? = some (Obj.cells #[.int .i64 pp, .int .i64 tp] 128 (0, 0))) :: Is _ :: Is _ :: []) ([] :: [] :: [] :: [2] :: [] :: [4] :: [3, 5] :: [] :: [7] :: [0] :: [1] :: [6] :: [8] :: []) (by kernel_rfl) (by kernel_rfl) (by rfl) (by kernel_rfl) Rr.refl (fun _ _ _ h h' => h.trans h') ⟨St.is, St.is, St.is, St.is, St.is, St.is, St.is, St.is, St.is, (fun _ _ _ h hk => h.k2.elim (fun e => e.trans hk) _root_.id), (fun _ _ _ h hk => h.k3.elim (fun e => e.trans hk) _root_.id), St.is, St.is, trivial⟩ ?m16
          case m16 =>
            simp (maxSteps := 100000000) only [AllV, Obl2, Leans, factAt, allFacts, actOf, putAll, putRow, Act.put, List.setIfInBounds_toArray, List.set_cons_succ, List.set_cons_zero, List.getElem?_cons_zero, List.getElem?_cons_succ, List.take_succ_cons, List.take_zero, List.drop_succ_cons, List.drop_zero, List.cons_append, List.nil_append, List.length_cons, List.length_nil, Nat.reduceAdd]
            intro x0 x1 x2 x3 x4 x5 x6 x7 x8 x9 x10 x11 x12
            refine ⟨⟨?_, ?_, ?_, ?_, ?_, ?_, ?_, ?_, ?_, ?_, ?_, ?_, ?_, trivial⟩, ?_⟩
            -- 0: 93 := Op.load 49 t8
            · intro w hw  K hK; refine cast (if_pos (show Region.wanted _ _ = true from rfl)).symm ?_; have hz := hw.heap H8.out (by omega) (by omega); refine wp_load_blk 74 (.tmp 8) rfl (cs := d.cs.toList) _ rfl Try.underlying74 rfl (by kernel_rfl) hz ?_; exact hK _ _ (Rr.refl _) (Is.mk _ _)
            -- 1: 94 := Op.load 82 t10
            · intro w hw  K hK; refine cast (if_pos (show Region.wanted _ _ = true from rfl)).symm ?_; have hz := hw.heap H10.out (by omega) (by omega); refine wp_load_blk 128 (.tmp 10) rfl (cs := [.int .i64 pp, .int .i64 tp]) _ rfl Try.underlying128 rfl (by kernel_rfl) hz ?_; exact hK _ _ (Rr.refl _) (Is.mk _ _)
            -- 2: 95 := Op.load 26 t1
            · intro w hw  K hK; have hz := cell_block (hw.heap H1.out (by omega) (by omega)) 0; simp only [List.getElem?_toArray, List.getElem?_cons_zero] at hz; go_simp; exact hK _ _ (Rr.refl _) (Is.mk _ _)
            -- 3: 96 := Op.call { builtin len, args := #[t95], argTypes := #[26] }
            · intro w hw h2 K hK; cases h2; go_simp; exact hK _ _ (Rr.refl _) (Is.mk _ _)
            -- 4: 97 := Op.load 70 t6
            · intro w hw  K hK; have hz := cell_block (hw.heap H6.out hn16 hn26) 0; simp only [List.getElem?_toArray, List.getElem?_cons_zero] at hz; go_simp; exact hK _ _ (Rr.refl _) (Is.mk _ _)
            -- 5: 98 := Op.call { value (Operand.func 42), args := #[t97], argTypes := #[70] }
            · intro w hw h4 K hK; cases h4; go_simp; refine ((hw.cut HC.out hl2 hl3).left).mono ?_; rintro r w' ⟨rfl, rfl⟩; exact hK _ _ (Rr.refl _) (Is.mk _ _)
            -- 6: 99 := Op.binOp BinOp.sub 3 t96 t98 3
            · intro w hw h3 h5 K hK; cases h3; cases h5; go_simp; exact hK _ _ (Rr.refl _) (Is.mk _ _)
            -- 7: 100 := Op.load 70 t6
            · intro w hw  K hK; have hz := cell_block (hw.heap H6.out hn16 hn26) 0; simp only [List.getElem?_toArray, List.getElem?_cons_zero] at hz; go_simp; exact hK _ _ (Rr.refl _) (Is.mk _ _)
            -- 8: 101 := Op.call { value (Operand.func 44), args := #[t100], argTypes := #[70] }
            · intro w hw h7 K hK; cases h7; go_simp; refine ((hw.cut HC.out hl2 hl3).err).mono ?_; rintro r w' ⟨rfl, rfl⟩; exact hK _ _ (Rr.refl _) (Is.mk _ _)
            -- 9: none := Op.store 49 t2 t93
            · intro w hw h0 K hK; cases h0; refine cast (if_pos (show Region.wanted _ _ = true from rfl)).symm ?_; rcases hw.at2 H2.out with ho | ho <;> (refine wp_store_blk 74 (.tmp 2) (.tmp 93) rfl (cs := d.cs.toList) rfl rfl (by kernel_rfl) (by simp [Dsc.cs, Value.oneCell']) ho rfl ?_; intro w' h' hg'; exact hK undef _ (Rr.store2 hg' h' (by omega) (by have := hw.size; have := lt_of_heap H3.out; omega)) h')
            -- 10: none := Op.store 82 t3 t94
            · intro w hw h1 K hK; cases h1; refine cast (if_pos (show Region.wanted _ _ = true from rfl)).symm ?_; rcases hw.at3 H3.out with ho | ho <;> (refine wp_store_blk 128 (.tmp 3) (.tmp 94) rfl (cs := [.int .i64 pp, .int .i64 tp]) rfl rfl (by kernel_rfl) (by simp [Value.oneCell']) ho rfl ?_; intro w' h' hg'; exact hK undef _ (Rr.store3 hg' h' (by omega) (by have := hw.size; have := lt_of_heap H2.out; omega)) h')
            -- 11: 4 := Op.assign t99
            · intro w hw h6 K hK; cases h6; go_simp; exact hK _ _ (Rr.refl _) (Is.mk _ _)
            -- 12: 5 := Op.assign t101
            · intro w hw h8 K hK; cases h8; go_simp; exact hK _ _ (Rr.refl _) (Is.mk _ _)
            · intro wz hz h0 h1 h2 h3 h4 h5 h6 h7 h8 h9 h10 h11 h12; cases h0; cases h1; cases h2; cases h3; cases h4; cases h5; cases h6; cases h7; cases h8; cases h11; cases h12; skip
              go_wp2_with fail
              exact parse_ret rfl rfl rfl rfl h9 h10 ⟨congrArg Ending.returned HE.out.symm, hz.below HBW.out (by omega) (by omega) HBW.out.size⟩
end Go.Proofs.Ytekioihjfggmdaa
