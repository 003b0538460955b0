/- Texts of one claim, laid together: DownJ AgL DownCounts DownMutes DownAgain RowDownAgain -/
import Derived.Laws.IdiomStrings
import Derived.ShutString
import Derived.ChangeOld
import Derived.OpenShut
import Derived.Test.YtekioihjfggmdaaJo24
import Derived.Test.YtekioihjfggmdaaJo26
import Derived.Test.YtekioihjfggmdaaJo27
/- down: what is sent. -/
namespace Go.Proofs.Ytekioihjfggmdaa
open Go.RowKit
set_option linter.unusedVariables false

theorem vpWr_length {b : List UInt8} (h : vpE b = 0) (pic tl0 : Nat) : (vpWr b pic tl0).length = b.length := by
  rw [vpWr, if_pos h, wrT_len, wrP_len]
theorem renum_err {p : Pk} (hp : p.err = 0) (hv : vpE p.payload = 0) (n : Nm) (ssrc : Nat) : (p.renum n ssrc).err = 0 := by
  rw [← hp]
  simp only [Pk.err, Pk.may, Pk.size, Pk.renum, vpWr_length hv]
  rfl
theorem Dn.does_out {d : Dn} {p : Pk} {f l what : Int} {b : List UInt8} (hk : d.nums.Bd 1000) (hp : p.Ok) (h : (d.does p f l what).2 = some b) : ∃ n : Nm, n.Ok ∧ b = (p.renum n d.ssrc).out := by
  have hn := Pk.nm_ok hp
  unfold Dn.does at h
  split at h
  · cases h
  · split at h
    · cases h
    · split at h
      · injection h with h
        exact ⟨_, (hk.switch hn 3000).2, h.symm⟩
      · split at h
        · injection h with h
          exact ⟨_, (hk.send hn).2, h.symm⟩
        · cases h
theorem Dn.take_some {d : Dn} {i : Nat} (hk : d.Ok i) (hi : i ≤ 1000) {p : Pk} (hp : p.Ok) {f l : Int} {x : Wnt} {mu : Bool} {b : List UInt8} (h : (d.take p f l x mu).2.1 = some b) :
    mu = false ∧ vpE p.payload = 0 ∧ ∃ n : Nm, n.Ok ∧ (p.renum n d.ssrc).err = 0 ∧ b = (p.renum n d.ssrc).bytes := by
  cases mu
  · simp only [Dn.take, Bool.false_eq_true, if_false] at h
    by_cases hb : vpE p.payload ≠ 0 ∨ p.err ≠ 0
    · rw [Dn.take1, if_pos hb] at h
      cases h
    · rw [Dn.take1, if_neg hb] at h
      obtain ⟨hv, he⟩ := not_or.1 hb
      have hv' : vpE p.payload = 0 := Classical.not_not.1 hv
      have he' : p.err = 0 := Classical.not_not.1 he
      obtain ⟨n, hn, e⟩ := Dn.does_out (d := d.setPick (d.pick.take (p.inn f l) x).1) ⟨by have := hk.high; show _ ≤ d.nums.high ∧ d.nums.high ≤ _; omega, by have := hk.since; show _ ≤ d.nums.since ∧ d.nums.since ≤ _; omega, hk.off, hk.out⟩ hp h
      have er := renum_err he' hv' n d.ssrc
      refine ⟨rfl, hv', n, hn, er, ?_⟩
      rw [e]
      show (p.renum n d.ssrc).out = _
      rw [Pk.out, if_pos er]
  · simp [Dn.take] at h
end Go.Proofs.Ytekioihjfggmdaa

/- DownAgain: the plain law of the store; strings made bytes. -/
namespace Go.Proofs.Ytekioihjfggmdaa
open Go.RowKit
set_option linter.unusedVariables false

def pZ : Pk := ⟨false, 0, 0, 0, 0, [], [], [], 0⟩
/-- i is the last place at which a packet of this Seq stands -/
structure LastAt (ps : List Pk) (q i : Nat) : Prop where
  lt : i < ps.length
  eq : (ps.getD i pZ).seq = q
  ne : ∀ j, i < j → j < ps.length → (ps.getD j pZ).seq ≠ q
theorem getD_snoc_lt {α : Type} (l : List α) (x d : α) {i : Nat} (h : i < l.length) : (l ++ [x]).getD i d = l.getD i d := by
  simp [List.getD, List.getElem?_append_left h]
theorem getD_snoc_eq {α : Type} (l : List α) (x d : α) : (l ++ [x]).getD l.length d = x := by
  simp [List.getD]
/-- the store behind what was sent -/
structure Ag (s : St) (ps : List Pk) : Prop where
  pos : 0 < s.room
  len : s.ring.length = s.room
  at_ : s.at_ = ps.length % s.room
  n : s.n = min ps.length s.room
  ring : ∀ i, i < ps.length → ps.length ≤ i + s.room → s.ring.getD (i % s.room) (0, []) = ((ps.getD i pZ).seq, (ps.getD i pZ).bytes)
  wh : ∀ q i, LastAt ps q i → s.wh q = if ps.length ≤ i + s.room then some (i % s.room) else none
  no : ∀ q, (∀ i, i < ps.length → (ps.getD i pZ).seq ≠ q) → s.wh q = none
theorem Ag.new {room : Nat} (h : 0 < room) : Ag (St.new room) [] :=
  ⟨h, by simp [St.new], by simp [St.new], by simp [St.new], fun i hi => by simp at hi, fun q i hl => by have := hl.lt; simp at this, fun q _ => rfl⟩
theorem mod_ne {i j r : Nat} (h1 : i < j) (h2 : j < i + r) : i % r ≠ j % r := by
  intro h
  have hr : 0 < r := by omega
  have a := Nat.div_add_mod i r
  have b := Nat.div_add_mod j r
  rw [h] at a
  have hc : r * (i / r) < r * (j / r) := by omega
  have hc' : i / r < j / r := Nat.lt_of_mul_lt_mul_left hc
  have hd : r * (i / r + 1) ≤ r * (j / r) := Nat.mul_le_mul_left _ hc'
  rw [Nat.mul_add] at hd
  omega
theorem Ag.add {s : St} {ps : List Pk} (h : Ag s ps) (p : Pk) : Ag (s.add p.seq p.bytes) (ps ++ [p]) := by
  have hp := h.pos
  have hat : s.at_ < s.room := by rw [h.at_]; exact Nat.mod_lt _ hp
  have hlen : (ps ++ [p]).length = ps.length + 1 := by simp
  have hw1 : ∀ q i, LastAt ps q i → s.wh1 q = if ps.length + 1 ≤ i + s.room then some (i % s.room) else none := by
    intro q i hl
    have hi := hl.lt
    have hwq := h.wh q i hl
    unfold St.wh1
    by_cases hfull : s.room ≤ ps.length
    · have hn : s.n = s.room := by rw [h.n]; omega
      obtain ⟨i0, hi0⟩ : ∃ i0, i0 = ps.length - s.room := ⟨_, rfl⟩
      have h0 : i0 < ps.length := by omega
      have hm : i0 % s.room = s.at_ := by
        rw [h.at_, show ps.length = i0 + s.room by omega, Nat.add_mod_right]
      have hr0 := h.ring i0 h0 (by omega)
      rw [hm] at hr0
      rw [hr0]
      dsimp only
      by_cases hq : q = (ps.getD i0 pZ).seq
      · subst hq
        by_cases hii : i = i0
        · subst hii
          rw [if_pos (by omega)] at hwq
          rw [if_pos ⟨hn, by rw [hwq, hm]⟩, mupd_same, if_neg (by omega)]
        · have hlt : i0 < i := by
            rcases Nat.lt_or_ge i i0 with hc | hc
            · exact absurd rfl (hl.ne i0 hc h0)
            · omega
          rw [if_pos (by omega)] at hwq
          rw [if_neg (by
            rintro ⟨_, hc⟩
            rw [hwq] at hc
            injection hc with hc
            rw [← hm] at hc
            exact mod_ne hlt (by omega) hc.symm), hwq, if_pos (by omega)]
      · have hii : i ≠ i0 := by
          rintro rfl
          exact hq hl.eq.symm
        have e : (if ps.length ≤ i + s.room then some (i % s.room) else none) = if ps.length + 1 ≤ i + s.room then some (i % s.room) else none := by
          by_cases hc : ps.length ≤ i + s.room
          · rw [if_pos hc, if_pos (by omega)]
          · rw [if_neg hc, if_neg (by omega)]
        rw [← e, ← hwq]
        split
        · exact mupd_ne hq
        · rfl
    · have hn : s.n = ps.length := by rw [h.n]; omega
      rw [if_neg (by rintro ⟨hc, _⟩; omega), hwq, if_pos (by omega), if_pos (by omega)]
  refine ⟨hp, by simp [St.add, h.len], ?_, ?_, ?_, ?_, ?_⟩
  · simp only [St.add, hlen, h.at_]
    rw [Nat.mod_add_mod]
  · simp only [St.add, hlen, h.n]
    omega
  · intro i hi hw
    rw [hlen] at hi hw
    simp only [St.add]
    simp only [St.add] at hw
    rcases Nat.lt_or_ge i ps.length with hlt | hge
    · rw [getD_snoc_lt _ _ _ hlt, List.getD, List.getElem?_set, if_neg (by rw [h.at_]; intro e; exact mod_ne hlt (by omega) e.symm)]
      exact h.ring i hlt (by omega)
    · obtain rfl : i = ps.length := by omega
      rw [getD_snoc_eq, List.getD, List.getElem?_set, if_pos h.at_, if_pos (by rw [h.len]; exact hat)]
      rfl
  · intro q i hl
    have hi := hl.lt
    rw [hlen] at hi ⊢
    show mupd s.wh1 p.seq (some s.at_) q = if ps.length + 1 ≤ i + s.room then some (i % s.room) else none
    by_cases hq : q = p.seq
    · subst hq
      rw [mupd_same]
      have : i = ps.length := by
        rcases Nat.lt_or_ge i ps.length with hc | hc
        · exact absurd (by rw [getD_snoc_eq]) (hl.ne ps.length hc (by omega))
        · omega
      subst this
      rw [if_pos (by omega), h.at_]
    · rw [mupd_ne hq]
      have hlt : i < ps.length := by
        rcases Nat.lt_or_ge i ps.length with hc | hc
        · exact hc
        · obtain rfl : i = ps.length := by omega
          have := hl.eq
          rw [getD_snoc_eq] at this
          exact absurd this.symm hq
      refine hw1 q i ⟨hlt, by rw [← hl.eq, getD_snoc_lt _ _ _ hlt], fun j h1 h2 => ?_⟩
      have := hl.ne j h1 (by omega)
      rwa [getD_snoc_lt _ _ _ h2] at this
  · intro q hq
    have h1 : q ≠ p.seq := by
      have := hq ps.length (by omega)
      rw [getD_snoc_eq] at this
      exact fun e => this e.symm
    have h2 : s.wh q = none := h.no q fun i hi => by
      have := hq i (by omega)
      rwa [getD_snoc_lt _ _ _ hi] at this
    simp only [St.add]
    rw [mupd_ne h1]
    unfold St.wh1
    split
    · simp only [mupd]
      split
      · rfl
      · exact h2
    · exact h2
theorem Ag.get {s : St} {ps : List Pk} (h : Ag s ps) {q i : Nat} (hl : LastAt ps q i) : s.get q = if ps.length ≤ i + s.room then some (ps.getD i pZ).bytes else none := by
  rw [St.get, h.wh q i hl]
  split
  · next hc =>
    rw [Option.map_some, h.ring i hl.lt hc]
  · rfl

/-- what was sent is kept; else nothing changes -/
theorem Dn.does_ag {d : Dn} {p : Pk} {f l what : Int} (hk : d.nums.Bd 1000) (hp : p.Ok) : ((d.does p f l what).2 = none ∧ (d.does p f l what).1.st = d.st) ∨ ∃ n : Nm, n.Ok ∧ (d.does p f l what).2 = some (p.renum n d.ssrc).out ∧ (d.does p f l what).1.st = d.st.add n.seq (p.renum n d.ssrc).out := by
  have hn := Pk.nm_ok hp
  unfold Dn.does
  split
  · exact .inl ⟨rfl, rfl⟩
  · split
    · exact .inl ⟨rfl, rfl⟩
    · split
      · exact .inr ⟨_, (hk.switch hn 3000).2, rfl, rfl⟩
      · split
        · exact .inr ⟨_, (hk.send hn).2, rfl, rfl⟩
        · exact .inl ⟨rfl, rfl⟩
theorem Dn.take_ag {d : Dn} {i : Nat} (hk : d.Ok i) (hi : i ≤ 1000) {p : Pk} (hp : p.Ok) (f l : Int) (x : Wnt) (mu : Bool) :
    ((d.take p f l x mu).2.1 = none ∧ (d.take p f l x mu).1.st = d.st) ∨ ∃ n : Nm, n.Ok ∧ (p.renum n d.ssrc).err = 0 ∧ (d.take p f l x mu).2.1 = some (p.renum n d.ssrc).bytes ∧ (d.take p f l x mu).1.st = d.st.add n.seq (p.renum n d.ssrc).bytes := by
  cases mu
  · simp only [Dn.take, Bool.false_eq_true, if_false]
    by_cases hb : vpE p.payload ≠ 0 ∨ p.err ≠ 0
    · rw [Dn.take1, if_pos hb]
      refine .inl ⟨rfl, ?_⟩
      dsimp only [Dn.addBad]
      split <;> rfl
    · rw [Dn.take1, if_neg hb]
      obtain ⟨hv, he⟩ := not_or.1 hb
      have hv' : vpE p.payload = 0 := Classical.not_not.1 hv
      have he' : p.err = 0 := Classical.not_not.1 he
      rcases Dn.does_ag (d := d.setPick (d.pick.take (p.inn f l) x).1) (p := p) (f := f) (l := l) (what := (d.pick.take (p.inn f l) x).2) ⟨by have := hk.high; show _ ≤ d.nums.high ∧ d.nums.high ≤ _; omega, by have := hk.since; show _ ≤ d.nums.since ∧ d.nums.since ≤ _; omega, hk.off, hk.out⟩ hp with ⟨h1, h2⟩ | ⟨n, hn, h1, h2⟩
      · exact .inl ⟨h1, h2⟩
      · have er := renum_err he' hv' n d.ssrc
        have eo : (p.renum n d.ssrc).out = (p.renum n d.ssrc).bytes := by rw [Pk.out, if_pos er]
        refine .inr ⟨n, hn, er, ?_, ?_⟩
        · rw [← eo]; exact h1
        · rw [← eo]; exact h2
  · exact .inl ⟨rfl, rfl⟩

/-- []byte of a string -/
theorem bytes_of (w : World) (l : List UInt8) : ∃ cap w', (convert 9 44 (.string (str l))).run Try.prog w = .ok (.slice (some ⟨w.heap.size, 0, none⟩) l.length cap) w' ∧ RSl 1 RU8 w' l (.slice (some ⟨w.heap.size, 0, none⟩) l.length cap) ∧ Le w w' := by
  have h := run_bytes_of_string (P := Try.prog) w 9 44 5 (str l) Try.underlying9 Try.underlying44 Try.underlying5
  have hs : (str l).size = l.length := by simp [str, ByteArray.size]
  rw [hs] at h
  refine ⟨_, _, h, ⟨_, _, rfl, ?_, fun hne => ⟨_, _, rfl, fun i hi => ⟨[.int .u8 l[i].toNat], rfl, fun j hj => ?_, rfl⟩⟩⟩, (Le.refl w).drew.alloc _⟩
  · have := grownCap_ge w l.length 0 5
    omega
  · obtain rfl : j = 0 := by omega
    have hz : w.drew.heap.size = w.heap.size := rfl
    have := World.cell?_alloc_mark w.drew (bytesRow (str l) (grownCap w l.length 0 5)) 5 ((bytesRow (str l) (grownCap w l.length 0 5)).size, (bytesRow (str l) (grownCap w l.length 0 5)).size + 1) (0 + i * 1 + 0)
    rw [hz] at this
    rw [this]
    have hb := bytesRow_at (str l) (grownCap w l.length 0 5) i (by simpa [str] using hi)
    rw [show 0 + i * 1 + 0 = i by omega, hb]
    simp [str]

/-- a row of strings -/
def strs (ps : List Pk) : List Value := ps.map fun p => .string (str p.bytes)
theorem slS : SlT Try.prog 82 9 (.string ByteArray.empty) 1 16 := ⟨Try.underlying82, by kernel_rfl, rfl, by omega⟩
end Go.Proofs.Ytekioihjfggmdaa

/- DownCounts: the walk. -/
namespace Go.Proofs.Ytekioihjfggmdaa
open Go.RowKit
set_option linter.unusedVariables false

theorem fewS_at {l : List Stp} (h : fewS l = true) (k : Nat) (hk : k < l.length) : l[k].p.few = true := by
  rw [fewS, Bool.and_eq_true] at h
  exact List.all_eq_true.1 h.1 _ (List.getElem_mem hk)
theorem fewS_len {l : List Stp} (h : fewS l = true) : l.length ≤ 120 := by
  rw [fewS, Bool.and_eq_true] at h
  simpa using h.2
theorem step_range {w wr : World} {b o : Nat} {x : Stp} {v5 v6 v7 : Value} (hl : Le w wr) (hc : ∀ j, j < 15 → w.cell? ⟨b, o + j, none⟩ = (x.cells v5 v6 v7)[j]?) : wr.rangeAt b o (x.cells v5 v6 v7) := fun j v hj => by
  refine hl.cell ?_
  have h15 : j < 15 := by
    have := (List.getElem?_eq_some_iff.1 hj).1
    simpa [Stp.cells] using this
  rw [hc j h15, hj]

set_option maxRecDepth 100000 in
set_option maxHeartbeats 4000000 in
theorem downCounts_walk (w : World) (room : Nat) (hroom : room < 256) (l : List Stp) (A : Option Addr) (n cap : Nat) (hr : RSl 15 RStp w l (.slice A n cap)) (hl : l.length ≤ 9223372036854775807) : Calls Try.prog 8 #[.int .u8 room, .slice A n cap] w (Gives w (.bool true)) := by
  have HR := hide hr
  obtain ⟨A', cap', hv, hcap, hi⟩ := hr
  injection hv with e1 e2 e3
  subst e1 e2 e3
  have HI := hide hi
  clear hi
  have HFEW := hide (fun W (hW : Le w W) => few14_any l A cap W (hW.rsl keeps_stp HR.out) hl)
  go_enter Try.func8, Try.ntmps8
  go_wp2_with fail
  refine (awake14 _).mono ?_
  rintro r w1 ⟨rfl, hb1⟩
  have HL1 := hide (show Le w w1 from ⟨hb1⟩)
  clear hb1
  go_wp2_with fail
  refine (HFEW.out _ HL1.out).mono ?_
  rintro r w2 ⟨rfl, hb2⟩
  have HL2 := hide (HL1.out.trans ⟨hb2⟩)
  clear hb2 HL1 HFEW
  cases hf : fewS l
  · go_wp2_with fail
    go_ret
    exact ⟨rfl, HL2.out.out⟩
  have hlen := fewS_len hf
  have HF := hide hf
  clear hf
  obtain ⟨M, hM⟩ : ∃ M, M = room % 9 := ⟨_, rfl⟩
  obtain ⟨N, hN⟩ : ∃ N, N = M + 1 := ⟨_, rfl⟩
  have hN1 : 0 < N ∧ N ≤ 9 := by omega
  have HNEW := hide (downNew_any 3 N hN1.1 (by omega) w2)
  have q1 : (room : Int).tmod 9 = (M : Int) := by rw [hM]; rfl
  have q2 : IntKind.u8.wrap (M : Int) = M := by simp [IntKind.wrap, IntKind.signed, IntKind.bits]; omega
  have q3 : (M : Int) + 1 = (N : Int) := by omega
  have q4 : IntKind.i64.wrap (N : Int) = N := IntWalk.i64_in _ (by omega)
  have q5 : IntKind.i64.wrap (M : Int) = M := IntWalk.i64_in _ (by omega)
  clear hM hN
  go_wp2_with fail
  refine HNEW.out.mono ?_
  rintro e w3 ⟨L, vs0, rfl, hd0, hS0, hb3⟩
  have HS := hide (fun k hk => Nat.le_trans HL2.out.size (hS0 k hk))
  have H3 := hide (And.intro hd0 (HL2.out.trans ⟨hb3⟩))
  clear hd0 hS0 hb3 HNEW q1 q2 q3 q4 q5
  go_wp2_with fail
  go_loopw [8, 9] (fun s j wr => ∃ (k : Nat) (d : Dn) (vs : List Value), k ≤ l.length ∧ j = .int .i64 k ∧ s = .int .i64 (d.sent : Nat) ∧ DnAt wr L k d vs ∧ d.Ok k ∧ Le w wr) (fun s j _ => l.length - (intOf j).toNat)
  case atStart => exact ⟨0, Dn.new 3 N, vs0, Nat.zero_le _, rfl, rfl, H3.out.1, Dn.new_ok (by decide) hN1.1 (by omega), H3.out.2⟩
  case round =>
    clear H3
    obtain ⟨k, d, vs, hk, rfl, rfl, hd, hok, hle⟩ := hrel
    by_cases hlt : k < l.length
    · obtain ⟨b, off, rfl, hg⟩ := HI.out (by rintro rfl; simp at hlt)
      obtain ⟨cs, _, hc, v5, v6, v7, hcs, hP, hN⟩ := hg k hlt
      subst hcs
      have hp := hN.ok (fewS_at HF.out k hlt)
      have hltI : (k : Int) < (l.length : Int) := by omega
      generalize l[k] = x at *
      have HRNG := hide (step_range hle hc)
      have hok' := Dn.take_ok hok x.p hp x.src x.layer x.want x.muted
      have hsent := Dn.take_sent d x.p x.src x.layer x.want x.muted
      have HTK := hide (fun W (hW : Le wr W) => downTake_any (hd.le hW) hok (by omega) x.p hp v5 v6 v7 (PdAt.old hP (hle.trans hW).out HS.out) (by omega) x.src x.layer x.want x.muted)
      obtain ⟨A5, c5, rfl, _, _⟩ := id hP.csrc
      obtain ⟨A6, c6, rfl, _, _⟩ := id hP.exts
      obtain ⟨A7, c7, rfl, _, _⟩ := id hP.payload
      generalize d.take x.p x.src x.layer x.want x.muted = r at *
      obtain ⟨d', o, ask⟩ := r
      dsimp only at hok' hsent
      have hcnt := hok'.cnt
      have HOK := hide hok'
      have HLE := hide hle
      clear hc hg hP hN hp hd hok hok' hle
      obtain ⟨p, sr, la, wn, mu⟩ := x
      obtain ⟨ws, wl, wt⟩ := wn
      obtain ⟨mk, ty, sq, tm, ss, cs, ex, pl, pd⟩ := p
      simp only [Stp.cells, Pk.val, Wnt.val] at HRNG HTK
      go_upto_region 13 with (first | (refine wpList_load_mid rfl 50 (.tmp 35) rfl b (off + k * 15) rfl [.bool mk, .int .u8 ty, .int .u16 sq, .int .u32 tm, .int .u32 ss, .slice A5 cs.length c5, .slice A6 ex.length c6, .slice A7 pl.length c7, .int .i64 pd, .int .i64 sr, .int .i64 la, .int .i64 ws, .int .i64 wl, .int .i64 wt, .bool mu] _ HRNG.out Try.underlying50 rfl (by kernel_rfl) ?_) | (refine wpl_store_blk rfl 50 (.tmp 10) (.tmp 36) (cs := [.bool mk, .int .u8 ty, .int .u16 sq, .int .u32 tm, .int .u32 ss, .slice A5 cs.length c5, .slice A6 ex.length c6, .slice A7 pl.length c7, .int .i64 pd, .int .i64 sr, .int .i64 la, .int .i64 ws, .int .i64 wl, .int .i64 wt, .bool mu]) rfl rfl rfl (by kernel_rfl) (by simp [Value.oneCell']) (heap_alloc_new _ _) rfl ?_; intro wz hn hgz; have HZ := hide (And.intro hn (((Le.refl wr).alloc _).boxed hgz (Nat.le_refl _))); clear hn hgz))
      have HTZ := hide (HTK.out wz HZ.out.2)
      have y9 : wz.cell? ⟨wr.heap.size, 9, none⟩ = some (.int .i64 sr) := box_cell HZ.out.1 9 _ rfl _ (Le.refl _)
      have y10 : wz.cell? ⟨wr.heap.size, 10, none⟩ = some (.int .i64 la) := box_cell HZ.out.1 10 _ rfl _ (Le.refl _)
      have y14 : wz.cell? ⟨wr.heap.size, 14, none⟩ = some (.bool mu) := box_cell HZ.out.1 14 _ rfl _ (Le.refl _)
      generalize wr.heap.size = g at *
      clear HTK HRNG
      go_wp2_with (first | (refine wpl_load_in rfl 46 (.tmp 39) rfl [] [.bool mk, .int .u8 ty, .int .u16 sq, .int .u32 tm, .int .u32 ss, .slice A5 cs.length c5, .slice A6 ex.length c6, .slice A7 pl.length c7, .int .i64 pd] [.int .i64 sr, .int .i64 la, .int .i64 ws, .int .i64 wl, .int .i64 wt, .bool mu] _ rfl Try.underlying46 rfl (by kernel_rfl) HZ.out.1 ?_) | (refine wpl_load_in rfl 48 (.tmp 45) rfl [.bool mk, .int .u8 ty, .int .u16 sq, .int .u32 tm, .int .u32 ss, .slice A5 cs.length c5, .slice A6 ex.length c6, .slice A7 pl.length c7, .int .i64 pd, .int .i64 sr, .int .i64 la] [.int .i64 ws, .int .i64 wl, .int .i64 wt] [.bool mu] _ rfl Try.underlying48 rfl (by kernel_rfl) HZ.out.1 ?_))
      refine HTZ.out.mono ?_
      rintro e w9 ⟨v, vs9, rfl, hd9, hr9, hf9⟩
      have hle9 : Le w w9 := ⟨hf9.below (HLE.out.trans HZ.out.2).out (HLE.out.trans HZ.out.2).size HS.out⟩
      have H9 := hide (And.intro hd9 hle9)
      have HCN := hide (fun W (hW : Le w9 W) => downCount_any (hd9.le hW))
      clear y9 y10 y14 hd9 hr9 hf9 hle9 HTZ
      dsimp only at HCN H9 ⊢
      simp only [Dn.countV] at HCN
      obtain ⟨dss, dpk, dnm, dst, S, Lf, Dr, La, Ba⟩ := d'
      dsimp only at hcnt hsent HCN
      generalize o.isSome = is at *
      generalize hdS : d.sent = S0 at *
      clear hdS
      obtain ⟨T1, hT1⟩ : ∃ T1, T1 = S + Lf := ⟨_, rfl⟩
      obtain ⟨T2, hT2⟩ : ∃ T2, T2 = T1 + Dr := ⟨_, rfl⟩
      obtain ⟨T3, hT3⟩ : ∃ T3, T3 = T2 + La := ⟨_, rfl⟩
      have e1 : (S : Int) + (Lf : Int) = (T1 : Int) := by omega
      have e2 : (T1 : Int) + (Dr : Int) = (T2 : Int) := by omega
      have e3 : (T2 : Int) + (La : Int) = (T3 : Int) := by omega
      have e4 : (T3 : Int) + (Ba : Int) = (k : Int) + 1 := by omega
      have t1 : IntKind.i64.wrap (T1 : Int) = T1 := IntWalk.i64_in _ (by omega)
      have t2 : IntKind.i64.wrap (T2 : Int) = T2 := IntWalk.i64_in _ (by omega)
      have t3 : IntKind.i64.wrap (T3 : Int) = T3 := IntWalk.i64_in _ (by omega)
      have hS : S ≤ 121 := by omega
      clear hcnt hT1 hT2 hT3
      cases is
      · have hSS : S = S0 := by simpa using hsent
        subst hSS
        clear hsent
        go_wp2_with fail
        refine (HCN.out _ (Le.refl _)).mono ?_
        rintro e w10 ⟨rfl, hb10⟩
        have H10 := hide (And.intro (H9.out.1.le ⟨hb10⟩) (H9.out.2.trans ⟨hb10⟩))
        clear hb10 HCN H9
        go_wp2_with fail
        go_roundw
        case rel => exact ⟨k + 1, _, vs9, by omega, by go_num, rfl, H10.out.1.le ((Le.refl _).alloc _), HOK.out, H10.out.2.alloc _⟩
        case measure => simp [intOf]; omega
      · have hSS : S = S0 + 1 := by simpa using hsent
        have e5 : (S0 : Int) + 1 = (S : Int) := by omega
        have t5 : IntKind.i64.wrap (S : Int) = S := IntWalk.i64_in _ (by omega)
        clear hsent hSS
        go_wp2_with fail
        refine (HCN.out _ (Le.refl _)).mono ?_
        rintro e w10 ⟨rfl, hb10⟩
        have H10 := hide (And.intro (H9.out.1.le ⟨hb10⟩) (H9.out.2.trans ⟨hb10⟩))
        clear hb10 HCN H9
        go_wp2_with fail
        go_roundw
        case rel => exact ⟨k + 1, _, vs9, by omega, by go_num, rfl, H10.out.1.le ((Le.refl _).alloc _), HOK.out, H10.out.2.alloc _⟩
        case measure => simp [intOf]; omega
    · have hltI : ¬ (k : Int) < (l.length : Int) := by omega
      have HB := hide hle
      clear hd hok hle
      go_wp2_with fail
      go_ret
      exact ⟨rfl, HB.out.out⟩
end Go.Proofs.Ytekioihjfggmdaa

/- DownMutes: the walk. -/
namespace Go.Proofs.Ytekioihjfggmdaa
open Go.RowKit
set_option linter.unusedVariables false

theorem DnAt.apart {w w' : World} {L L2 : Dl} {c c2 : Nat} {d e : Dn} {vs vs2 : List Value} (h1 : DnAt w L c d vs) (h2 : DnAt w L2 c2 e vs2) (hf : Fp L.S w w') (hd : ∀ k, L.S k → ¬ L2.S k) : DnAt w' L2 c2 e vs2 := by
  have hk : ∀ {k : Nat} {o : Obj}, ¬ L.S k → w.heap[k]? = some o → w'.heap[k]? = some o := fun hne hk => hf.heap hk hne
  have n1 : ¬ L.S L2.db := fun h => hd _ h (.inl rfl)
  have n2 : ¬ L.S L2.sb := fun h => hd _ h (.inr (.inl rfl))
  have n3 : ¬ L.S L2.rb := fun h => hd _ h (.inr (.inr (.inl rfl)))
  have n4 : ¬ L.S L2.mb := fun h => hd _ h (.inr (.inr (.inr rfl)))
  exact ⟨hk n1 h2.hd, hk n2 h2.st.hs, hk n3 h2.st.hr, h2.st.len, fun i hi => (h2.st.bytes i hi).later hf h1.not8, h2.st.map.same (hf.block _ h2.st.map.lt n4)⟩
theorem DnAt.lt {w : World} {L : Dl} {c : Nat} {d : Dn} {vs : List Value} (h : DnAt w L c d vs) : ∀ k, L.S k → k < w.heap.size := by
  rintro k (rfl | rfl | rfl | rfl)
  · exact lt_of_heap h.hd
  · exact lt_of_heap h.st.hs
  · exact lt_of_heap h.st.hr
  · exact h.st.map.lt
theorem cnt_field (a b c d e : Int) (w : World) : (Instr.field 60 (.agg #[.int .i64 a, .int .i64 b, .int .i64 c, .int .i64 d, .int .i64 e]) 0).run Try.prog w = .ok (.int .i64 a) w := by kernel_rfl

set_option maxRecDepth 100000 in
set_option maxHeartbeats 8000000 in
theorem downMutes_walk (w : World) (room : Nat) (hroom : room < 256) (l : List Stp) (A : Option Addr) (n cap : Nat) (hr : RSl 15 RStp w l (.slice A n cap)) (hl : l.length ≤ 9223372036854775807) (m : List Stp) (A2 : Option Addr) (n2 cap2 : Nat) (hr2 : RSl 15 RStp w m (.slice A2 n2 cap2)) (hm : m.length ≤ 9223372036854775807) :
    Calls Try.prog 9 #[.int .u8 room, .slice A n cap, .slice A2 n2 cap2] w (Gives w (.bool true)) := by
  have HR := hide hr
  have HR2 := hide hr2
  obtain ⟨A', cap', hv, hcap, hi⟩ := hr
  injection hv with e1 e2 e3
  subst e1 e2 e3
  have HI := hide hi
  clear hi
  obtain ⟨A', cap', hv, hcap2, hi⟩ := hr2
  injection hv with e1 e2 e3
  subst e1 e2 e3
  have HI2 := hide hi
  clear hi
  have HFEW := hide (fun W (hW : Le w W) => few14_any l A cap W (hW.rsl keeps_stp HR.out) hl)
  have HFEW2 := hide (fun W (hW : Le w W) => few14_any m A2 cap2 W (hW.rsl keeps_stp HR2.out) hm)
  go_enter Try.func9, Try.ntmps9
  go_wp2_with fail
  refine (awake14 _).mono ?_
  rintro r w1 ⟨rfl, hb1⟩
  have HL1 := hide (show Le w w1 from ⟨hb1⟩)
  clear hb1
  go_wp2_with fail
  refine (HFEW.out _ HL1.out).mono ?_
  rintro r wa ⟨rfl, hba⟩
  have HLa := hide (HL1.out.trans ⟨hba⟩)
  clear hba HL1 HFEW
  go_wp2_with fail
  refine (HFEW2.out _ HLa.out).mono ?_
  rintro r w2 ⟨rfl, hb2⟩
  have HL2 := hide (HLa.out.trans ⟨hb2⟩)
  clear hb2 HLa HFEW2
  cases hf : fewS l
  · go_wp2_with fail
    go_ret
    exact ⟨rfl, HL2.out.out⟩
  cases hf2 : fewS m
  · go_wp2_with fail
    go_ret
    exact ⟨rfl, HL2.out.out⟩
  have hlen := fewS_len hf
  have hlen2 := fewS_len hf2
  have HF := hide hf
  have HF2 := hide hf2
  clear hf hf2
  obtain ⟨M, hM⟩ : ∃ M, M = room % 9 := ⟨_, rfl⟩
  obtain ⟨N, hN⟩ : ∃ N, N = M + 1 := ⟨_, rfl⟩
  have hN1 : 0 < N ∧ N ≤ 9 := by omega
  have HNEW := hide (fun W => downNew_any 3 N hN1.1 (by omega) W)
  have q1 : (room : Int).tmod 9 = (M : Int) := by rw [hM]; rfl
  have q2 : IntKind.u8.wrap (M : Int) = M := by simp [IntKind.wrap, IntKind.signed, IntKind.bits]; omega
  have q3 : (M : Int) + 1 = (N : Int) := by omega
  have q4 : IntKind.i64.wrap (N : Int) = N := IntWalk.i64_in _ (by omega)
  have q5 : IntKind.i64.wrap (M : Int) = M := IntWalk.i64_in _ (by omega)
  clear hM hN
  go_wp2_with fail
  refine (HNEW.out _).mono ?_
  rintro e w3 ⟨L, vs0, rfl, hd0, hS0, hb3⟩
  have HS := hide (fun k hk => Nat.le_trans HL2.out.size (hS0 k hk))
  have H3 := hide (And.intro hd0 (HL2.out.trans ⟨hb3⟩))
  clear hd0 hS0 hb3 q1 q2 q3 q4 q5
  go_wp2_with fail
  refine (HNEW.out _).mono ?_
  rintro e w4 ⟨L2, vs1, rfl, hd1, hS1, hb4⟩
  have HS2 := hide (fun k hk => Nat.le_trans H3.out.2.size (hS1 k hk))
  have HAP := hide (show ∀ k, L.S k → ¬ L2.S k from fun k h1 h2 => absurd (H3.out.1.lt k h1) (Nat.not_lt.2 (hS1 k h2)))
  have H4 := hide (And.intro (H3.out.1.le ⟨hb4⟩) (And.intro hd1 (H3.out.2.trans ⟨hb4⟩)))
  clear hd1 hS1 hb4 HNEW H3
  go_wp2_with fail
  go_loopw [13] (fun j wr => ∃ (k : Nat) (d : Dn) (vs vs' : List Value), k ≤ l.length ∧ j = .int .i64 k ∧ DnAt wr L k d vs ∧ DnAt wr L2 k d vs' ∧ d.Ok k ∧ Le w wr) (fun j _ => l.length - (intOf j).toNat)
  case atStart => exact ⟨0, Dn.new 3 N, vs0, vs1, Nat.zero_le _, rfl, H4.out.1, H4.out.2.1, Dn.new_ok (by decide) hN1.1 (by omega), H4.out.2.2⟩
  case round =>
    clear H4
    obtain ⟨k, d, vs, vs', hk, rfl, hd, hd2, hok, hle⟩ := hrel
    by_cases hlt : k < l.length
    · obtain ⟨b, off, rfl, hg⟩ := HI.out (by rintro rfl; simp at hlt)
      obtain ⟨cs, _, hc, v5, v6, v7, hcs, hP, hN⟩ := hg k hlt
      subst hcs
      have hp := hN.ok (fewS_at HF.out k hlt)
      have hltI : (k : Int) < (l.length : Int) := by omega
      generalize l[k] = x at *
      have HRNG := hide (step_range hle hc)
      have hok' := Dn.take_ok hok x.p hp x.src x.layer x.want x.muted
      have HTK := hide (fun W (hW : Le wr W) => downTake_any (hd.le hW) hok (by omega) x.p hp v5 v6 v7 (PdAt.old hP (hle.trans hW).out HS.out) (by omega) x.src x.layer x.want x.muted)
      have HTK2 := hide (fun W vs (hW : DnAt W L2 k d vs) (hl : Le w W) => downTake_any hW hok (by omega) x.p hp v5 v6 v7 (PdAt.old hP hl.out HS2.out) (by omega) x.src x.layer x.want x.muted)
      obtain ⟨A5, c5, rfl, _, _⟩ := id hP.csrc
      obtain ⟨A6, c6, rfl, _, _⟩ := id hP.exts
      obtain ⟨A7, c7, rfl, _, _⟩ := id hP.payload
      generalize d.take x.p x.src x.layer x.want x.muted = r at *
      obtain ⟨d', o, ask⟩ := r
      dsimp only at hok'
      have HOK := hide hok'
      have HLE := hide hle
      have HDD := hide (And.intro hd hd2)
      clear hc hg hP hN hp hd hd2 hok hok' hle
      obtain ⟨p, sr, la, wn, mu⟩ := x
      obtain ⟨ws, wl, wt⟩ := wn
      obtain ⟨mk, ty, sq, tm, ss, cs, ex, pl, pd⟩ := p
      simp only [Stp.cells, Pk.val, Wnt.val] at HRNG HTK HTK2
      go_upto_region 15 with (first | (refine wpList_load_mid rfl 50 (.tmp 53) rfl b (off + k * 15) rfl [.bool mk, .int .u8 ty, .int .u16 sq, .int .u32 tm, .int .u32 ss, .slice A5 cs.length c5, .slice A6 ex.length c6, .slice A7 pl.length c7, .int .i64 pd, .int .i64 sr, .int .i64 la, .int .i64 ws, .int .i64 wl, .int .i64 wt, .bool mu] _ HRNG.out Try.underlying50 rfl (by kernel_rfl) ?_) | (refine wpl_store_blk rfl 50 (.tmp 14) (.tmp 54) (cs := [.bool mk, .int .u8 ty, .int .u16 sq, .int .u32 tm, .int .u32 ss, .slice A5 cs.length c5, .slice A6 ex.length c6, .slice A7 pl.length c7, .int .i64 pd, .int .i64 sr, .int .i64 la, .int .i64 ws, .int .i64 wl, .int .i64 wt, .bool mu]) rfl rfl rfl (by kernel_rfl) (by simp [Value.oneCell']) (heap_alloc_new _ _) rfl ?_; intro wz hn hgz; have HZ := hide (And.intro hn (((Le.refl wr).alloc _).boxed hgz (Nat.le_refl _))); clear hn hgz))
      have HTZ := hide (HTK.out wz HZ.out.2)
      have HNS := hide ((HDD.out.1.le HZ.out.2).notS HZ.out.1 (by decide) (by decide) (by decide))
      have HD2 := hide (And.intro (HDD.out.1.le HZ.out.2) (HDD.out.2.le HZ.out.2))
      have HLZ := hide (HLE.out.trans HZ.out.2)
      generalize wr.heap.size = g at *
      have y9 : wz.cell? ⟨g, 9, none⟩ = some (.int .i64 sr) := box_cell HZ.out.1 9 _ rfl _ (Le.refl _)
      have y10 : wz.cell? ⟨g, 10, none⟩ = some (.int .i64 la) := box_cell HZ.out.1 10 _ rfl _ (Le.refl _)
      have y14 : wz.cell? ⟨g, 14, none⟩ = some (.bool mu) := box_cell HZ.out.1 14 _ rfl _ (Le.refl _)
      clear HTK HRNG HDD
      go_wp2_with (first | (refine wpl_load_in rfl 46 (.tmp 56) rfl [] [.bool mk, .int .u8 ty, .int .u16 sq, .int .u32 tm, .int .u32 ss, .slice A5 cs.length c5, .slice A6 ex.length c6, .slice A7 pl.length c7, .int .i64 pd] [.int .i64 sr, .int .i64 la, .int .i64 ws, .int .i64 wl, .int .i64 wt, .bool mu] _ rfl Try.underlying46 rfl (by kernel_rfl) HZ.out.1 ?_) | (refine wpl_load_in rfl 48 (.tmp 62) rfl [.bool mk, .int .u8 ty, .int .u16 sq, .int .u32 tm, .int .u32 ss, .slice A5 cs.length c5, .slice A6 ex.length c6, .slice A7 pl.length c7, .int .i64 pd, .int .i64 sr, .int .i64 la] [.int .i64 ws, .int .i64 wl, .int .i64 wt] [.bool mu] _ rfl Try.underlying48 rfl (by kernel_rfl) HZ.out.1 ?_))
      refine HTZ.out.mono ?_
      rintro e w9 ⟨v, vs9, rfl, hd9, hr9, hf9⟩
      have hle9 : Le w w9 := ⟨hf9.below HLZ.out.out HLZ.out.size HS.out⟩
      have HZ9 := hide (show w9.heap[g]? = some (.cells [.bool mk, .int .u8 ty, .int .u16 sq, .int .u32 tm, .int .u32 ss, .slice A5 cs.length c5, .slice A6 ex.length c6, .slice A7 pl.length c7, .int .i64 pd, .int .i64 sr, .int .i64 la, .int .i64 ws, .int .i64 wl, .int .i64 wt, .bool mu].toArray 50 (0, 0)) from hf9.heap HZ.out.1 HNS.out)
      have hd29 : DnAt w9 L2 k d vs' := HD2.out.1.apart HD2.out.2 hf9 HAP.out
      have HT2 := hide (HTK2.out w9 vs' hd29 hle9)
      have H9 := hide (And.intro hd9 (And.intro hd29 hle9))
      clear y9 y10 y14 hd9 hr9 hf9 hle9 hd29 HTZ HTK2 HNS HD2 HLZ HZ
      dsimp only at H9 ⊢
      have y9 : w9.cell? ⟨g, 9, none⟩ = some (.int .i64 sr) := box_cell HZ9.out 9 _ rfl _ (Le.refl _)
      have y10 : w9.cell? ⟨g, 10, none⟩ = some (.int .i64 la) := box_cell HZ9.out 10 _ rfl _ (Le.refl _)
      have y14 : w9.cell? ⟨g, 14, none⟩ = some (.bool mu) := box_cell HZ9.out 14 _ rfl _ (Le.refl _)
      go_wp2_with (first | (refine wpl_load_in rfl 46 (.tmp 68) rfl [] [.bool mk, .int .u8 ty, .int .u16 sq, .int .u32 tm, .int .u32 ss, .slice A5 cs.length c5, .slice A6 ex.length c6, .slice A7 pl.length c7, .int .i64 pd] [.int .i64 sr, .int .i64 la, .int .i64 ws, .int .i64 wl, .int .i64 wt, .bool mu] _ rfl Try.underlying46 rfl (by kernel_rfl) HZ9.out ?_) | (refine wpl_load_in rfl 48 (.tmp 74) rfl [.bool mk, .int .u8 ty, .int .u16 sq, .int .u32 tm, .int .u32 ss, .slice A5 cs.length c5, .slice A6 ex.length c6, .slice A7 pl.length c7, .int .i64 pd, .int .i64 sr, .int .i64 la] [.int .i64 ws, .int .i64 wl, .int .i64 wt] [.bool mu] _ rfl Try.underlying48 rfl (by kernel_rfl) HZ9.out ?_))
      refine HT2.out.mono ?_
      rintro e w10 ⟨v2, vs10, rfl, hd10, hr10, hf10⟩
      have hle10 : Le w w10 := ⟨hf10.below H9.out.2.2.out H9.out.2.2.size HS2.out⟩
      have hd1 : DnAt w10 L (k + 1) d' vs9 := H9.out.2.1.apart H9.out.1 hf10 (fun k h1 h2 => HAP.out k h2 h1)
      have H10 := hide (And.intro hd1 (And.intro hd10 hle10))
      clear y9 y10 y14 hd1 hd10 hr10 hf10 hle10 HT2 H9 HZ9
      go_wp2_with fail
      go_roundw
      case rel => exact ⟨k + 1, d', vs9, vs10, by omega, by go_num, H10.out.1, H10.out.2.1, HOK.out, H10.out.2.2⟩
      case measure => simp [intOf]; omega
    · have hltI : ¬ (k : Int) < (l.length : Int) := by omega
      have hke : k = l.length := by omega
      subst hke
      have H5 := hide (And.intro hd (And.intro hd2 (And.intro hok hle)))
      clear hd hd2 hok hle hlt hk hltI HI HF HR
      go_wp2_with fail
      go_loopw [15] (fun j wr => ∃ (k : Nat) (d1 : Dn) (vs vs' : List Value), k ≤ m.length ∧ j = .int .i64 k ∧ DnAt wr L (l.length + k) d1 vs ∧ DnAt wr L2 l.length d vs' ∧ Hd (d1.st = d.st) ∧ Hd (d1.sent = d.sent) ∧ d1.Ok (l.length + k) ∧ Le w wr) (fun j _ => m.length - (intOf j).toNat)
      case atStart => exact ⟨0, d, vs, vs', Nat.zero_le _, rfl, H5.out.1, H5.out.2.1, hide rfl, hide rfl, H5.out.2.2.1, H5.out.2.2.2⟩
      case round =>
        obtain ⟨k, d1, vs, vs', hk, rfl, hd, hd2, HST, HSN, hok, hle⟩ := hrel
        have HOKE := hide H5.out.2.2.1
        clear H5
        by_cases hlt : k < m.length
        · obtain ⟨b, off, rfl, hg⟩ := HI2.out (by rintro rfl; simp at hlt)
          obtain ⟨cs, _, hc, v5, v6, v7, hcs, hP, hN⟩ := hg k hlt
          subst hcs
          have hp := hN.ok (fewS_at HF2.out k hlt)
          have hltI : (k : Int) < (m.length : Int) := by omega
          generalize m[k] = x at *
          have HRNG := hide (step_range hle hc)
          have hok' := Dn.take_ok hok x.p hp x.src x.layer x.want true
          have HTK := hide (fun W (hW : Le wr W) => downTake_any (hd.le hW) hok (by omega) x.p hp v5 v6 v7 (PdAt.old hP (hle.trans hW).out HS.out) (by omega) x.src x.layer x.want true)
          rw [show d1.take x.p x.src x.layer x.want true = (d1.mute, none, false) from rfl] at HTK hok'
          have HAG := hide (fun W vs c (hW : DnAt W L c d1.mute vs) => (HST.out ▸ downAgain_any hW hok'.st x.p.seq hp.seq : Calls Try.prog 18 #[.pointer (some ⟨L.db, 0, none⟩), .int .u16 x.p.seq] W (GetP W (d.st.get x.p.seq))))
          have HAG2 := hide (fun W vs c (hW : DnAt W L2 c d vs) => downAgain_any hW HOKE.out.st x.p.seq hp.seq)
          obtain ⟨A5, c5, rfl, _, _⟩ := id hP.csrc
          obtain ⟨A6, c6, rfl, _, _⟩ := id hP.exts
          obtain ⟨A7, c7, rfl, _, _⟩ := id hP.payload
          have HOK := hide hok'
          have HLE := hide hle
          have HDD := hide (And.intro hd hd2)
          clear hc hg hP hN hp hd hd2 hok hok' hle
          obtain ⟨p, sr, la, wn, mu⟩ := x
          obtain ⟨ws, wl, wt⟩ := wn
          obtain ⟨mk, ty, sq, tm, ss, cs, ex, pl, pd⟩ := p
          simp only [Stp.cells, Pk.val, Wnt.val] at HRNG HTK HAG HAG2
          generalize d.st.get sq = G at *
          go_upto_region 21 with (first | (refine wpList_load_mid rfl 50 (.tmp 87) rfl b (off + k * 15) rfl [.bool mk, .int .u8 ty, .int .u16 sq, .int .u32 tm, .int .u32 ss, .slice A5 cs.length c5, .slice A6 ex.length c6, .slice A7 pl.length c7, .int .i64 pd, .int .i64 sr, .int .i64 la, .int .i64 ws, .int .i64 wl, .int .i64 wt, .bool mu] _ HRNG.out Try.underlying50 rfl (by kernel_rfl) ?_) | (refine wpl_store_blk rfl 50 (.tmp 16) (.tmp 88) (cs := [.bool mk, .int .u8 ty, .int .u16 sq, .int .u32 tm, .int .u32 ss, .slice A5 cs.length c5, .slice A6 ex.length c6, .slice A7 pl.length c7, .int .i64 pd, .int .i64 sr, .int .i64 la, .int .i64 ws, .int .i64 wl, .int .i64 wt, .bool mu]) rfl rfl rfl (by kernel_rfl) (by simp [Value.oneCell']) (heap_alloc_new _ _) rfl ?_; intro wz hn hgz; have HZ := hide (And.intro hn (((Le.refl wr).alloc _).boxed hgz (Nat.le_refl _))); clear hn hgz))
          have HTZ := hide (HTK.out wz HZ.out.2)
          have HNS := hide ((HDD.out.1.le HZ.out.2).notS HZ.out.1 (by decide) (by decide) (by decide))
          have HD2 := hide (And.intro (HDD.out.1.le HZ.out.2) (HDD.out.2.le HZ.out.2))
          have HLZ := hide (HLE.out.trans HZ.out.2)
          generalize wr.heap.size = g at *
          have y9 : wz.cell? ⟨g, 9, none⟩ = some (.int .i64 sr) := box_cell HZ.out.1 9 _ rfl _ (Le.refl _)
          have y10 : wz.cell? ⟨g, 10, none⟩ = some (.int .i64 la) := box_cell HZ.out.1 10 _ rfl _ (Le.refl _)
          clear HTK HRNG HDD
          go_wp2_with (first | (refine wpl_load_in rfl 46 (.tmp 91) rfl [] [.bool mk, .int .u8 ty, .int .u16 sq, .int .u32 tm, .int .u32 ss, .slice A5 cs.length c5, .slice A6 ex.length c6, .slice A7 pl.length c7, .int .i64 pd] [.int .i64 sr, .int .i64 la, .int .i64 ws, .int .i64 wl, .int .i64 wt, .bool mu] _ rfl Try.underlying46 rfl (by kernel_rfl) HZ.out.1 ?_) | (refine wpl_load_in rfl 48 (.tmp 97) rfl [.bool mk, .int .u8 ty, .int .u16 sq, .int .u32 tm, .int .u32 ss, .slice A5 cs.length c5, .slice A6 ex.length c6, .slice A7 pl.length c7, .int .i64 pd, .int .i64 sr, .int .i64 la] [.int .i64 ws, .int .i64 wl, .int .i64 wt] [.bool mu] _ rfl Try.underlying48 rfl (by kernel_rfl) HZ.out.1 ?_))
          refine HTZ.out.mono ?_
          rintro e w9 ⟨v, vs9, rfl, hd9, hr9, hf9⟩
          have hle9 : Le w w9 := ⟨hf9.below HLZ.out.out HLZ.out.size HS.out⟩
          have HZ9 := hide (show w9.heap[g]? = some (.cells [.bool mk, .int .u8 ty, .int .u16 sq, .int .u32 tm, .int .u32 ss, .slice A5 cs.length c5, .slice A6 ex.length c6, .slice A7 pl.length c7, .int .i64 pd, .int .i64 sr, .int .i64 la, .int .i64 ws, .int .i64 wl, .int .i64 wt, .bool mu].toArray 50 (0, 0)) from hf9.heap HZ.out.1 HNS.out)
          have hd29 : DnAt w9 L2 l.length d vs' := HD2.out.1.apart HD2.out.2 hf9 HAP.out
          have H9 := hide (And.intro (show DnAt w9 L (l.length + k + 1) d1.mute vs9 from hd9) (And.intro hd29 hle9))
          obtain ⟨Av, cv, rfl, _, _⟩ := (show RSl 1 RU8 w9 [] v from hr9)
          clear y9 y10 hd9 hr9 hf9 hle9 hd29 HTZ HNS HD2 HLZ HZ
          dsimp only [Option.isSome_none, List.length_nil] at H9 ⊢
          have y2 : w9.cell? ⟨g, 2, none⟩ = some (.int .u16 sq) := box_cell HZ9.out 2 _ rfl _ (Le.refl _)
          go_wp2_with fail
          refine (HAG.out _ _ _ H9.out.1).mono ?_
          rintro e w10 ⟨va, rfl, hba, hb10⟩
          have H10 := hide (And.intro (H9.out.1.le ⟨hb10⟩) (And.intro (H9.out.2.1.le ⟨hb10⟩) (H9.out.2.2.trans ⟨hb10⟩)))
          have z2 : w10.cell? ⟨g, 2, none⟩ = some (.int .u16 sq) := box_cell HZ9.out 2 _ rfl _ ⟨hb10⟩
          have hra := hba.rsl
          obtain ⟨Aa, ca, rfl, _, _⟩ := id hra
          have HRA := hide hra
          clear y2 hb10 hba hra HAG H9
          go_wp2_with fail
          refine (HAG2.out _ _ _ H10.out.2.1).mono ?_
          rintro e w11 ⟨vb, rfl, hbb, hb11⟩
          have H11 := hide (And.intro (H10.out.1.le ⟨hb11⟩) (And.intro (H10.out.2.1.le ⟨hb11⟩) (H10.out.2.2.trans ⟨hb11⟩)))
          have hrb := hbb.rsl
          obtain ⟨Ab, cb, rfl, _, _⟩ := id hrb
          have f1 := conv_le HRA.out w11 ⟨hb11⟩
          have f2 := conv_le hrb w11 (Le.refl _)
          clear z2 hb11 hbb hrb HAG2 H10
          go_wp2_with fail
          go_roundw
          case rel => exact ⟨k + 1, d1.mute, vs9, vs', by omega, by go_num, H11.out.1, H11.out.2.1, hide HST.out, hide HSN.out, HOK.out, H11.out.2.2⟩
          case measure => simp [intOf]; omega
        · have hltI : ¬ (k : Int) < (m.length : Int) := by omega
          have HC1 := hide (fun W (hW : Le wr W) => downCount_any (hd.le hW))
          have HC2 := hide (fun W (hW : Le wr W) => downCount_any (hd2.le hW))
          have HB := hide hle
          simp only [Dn.countV] at HC1 HC2
          rw [HSN.out] at HC1
          have fl := fun (a b c d e : Int) (W : World) => cnt_field a b c d e W
          clear hd hd2 hok hle
          go_wp2_with fail
          refine (HC1.out _ (Le.refl _)).mono ?_
          rintro e w5 ⟨rfl, hb5⟩
          have H5 := hide (Le.mk hb5)
          clear hb5
          go_wp2_with fail
          refine (HC2.out _ H5.out).mono ?_
          rintro e w6 ⟨rfl, hb6⟩
          have H6 := hide (HB.out.trans (H5.out.trans ⟨hb6⟩))
          clear hb6
          go_wp2_with fail
          go_ret
          exact ⟨by simp, H6.out.out⟩
end Go.Proofs.Ytekioihjfggmdaa

/- DownAgain: the walk. -/
namespace Go.Proofs.Ytekioihjfggmdaa
open Go.RowKit
set_option linter.unusedVariables false

theorem own_fpb {S : Nat → Prop} {w w' : World} {base s : Nat} {t : TypeId} {n : Nat} {v : Value} {xs : List Value} (h : w.ownsRow base t s v n xs) (hf : Fp S w w') (hs : ∀ k, S k → k < base) : w'.ownsRow base t s v n xs := by
  refine ⟨h.1, ?_⟩
  rcases h.2 with h1 | ⟨g, cap, cur, hv, hb, hg, r⟩
  · exact .inl h1
  · exact .inr ⟨g, cap, cur, hv, hb, hf.heap hg (fun e => absurd (hs g e) (Nat.not_lt.2 hb)), r⟩
theorem DnAt.appended {w w' : World} {L : Dl} {c base n s : Nat} {d : Dn} {vs : List Value} {v : Value} {xs : List Value} {t : TypeId} (h : DnAt w L c d vs) (ho : w.ownsRow base t s v n xs) (ht : t ≠ 5) (hg : w.grownBy w' v.ownBlock) (hs : ∀ k, L.S k → k < base) : DnAt w' L c d vs := by
  rcases ho.2 with ⟨hv, _⟩ | ⟨g, cap, cur, hv, hb, hh, _⟩
  · subst hv
    exact h.le ⟨⟨hg.os, hg.tape, hg.output, hg.size, fun k hk => hg.block k hk (by simp [Value.ownBlock])⟩⟩
  · subst hv
    have hk : ∀ {k : Nat} {o : Obj}, k ≠ g → w.heap[k]? = some o → w'.heap[k]? = some o := fun hne hk => (hg.block _ (lt_of_heap hk) (by intro e; injection e with e; exact hne e)).trans hk
    have n1 : L.db ≠ g := fun e => absurd (hs L.db (.inl rfl)) (Nat.not_lt.2 (e ▸ hb))
    have n2 : L.sb ≠ g := fun e => absurd (hs L.sb (.inr (.inl rfl))) (Nat.not_lt.2 (e ▸ hb))
    have n3 : L.rb ≠ g := fun e => absurd (hs L.rb (.inr (.inr (.inl rfl)))) (Nat.not_lt.2 (e ▸ hb))
    have n4 : L.mb ≠ g := fun e => absurd (hs L.mb (.inr (.inr (.inr rfl)))) (Nat.not_lt.2 (e ▸ hb))
    exact ⟨hk n1 h.hd, h.st.grown hg n2 n3 n4 (by intro cs fr e; rw [hh] at e; injection e with e; injection e with _ e _; exact ht e)⟩
theorem strs_snoc (ps : List Pk) (p : Pk) : strs (ps ++ [p]) = strs ps ++ [.string (str p.bytes)] := by simp [strs]
theorem strs_at {w : World} {base : Nat} {v : Value} {ps : List Pk} (h : w.ownsRow base 9 1 v ps.length (strs ps)) {A : Option Addr} {n c : Nat} (hv : v = .slice A n c) {i : Nat} (hi : i < ps.length) : ∃ g, A = some ⟨g, 0, none⟩ ∧ w.cell? ⟨g, i, none⟩ = some (.string (str (ps.getD i pZ).bytes)) := by
  rcases h.2 with ⟨_, h0⟩ | ⟨g, cap, cur, hv', _⟩
  · omega
  · subst hv
    injection hv' with e1 e2 e3
    subst e1
    refine ⟨g, rfl, ?_⟩
    have hc := h.cells (g := g) rfl i (.string (str (ps.getD i pZ).bytes)) (by simp [strs, hi])
    rw [← hc]
    congr 1
    simp [Addr.add]

theorem nil_take (m : Bool) (W : World) : Calls Try.prog 13 #[.pointer none, .agg #[.bool false, .int .u8 0, .int .u16 0, .int .u32 0, .int .u32 0, .slice none 0 0, .slice none 0 0, .slice none 0 0, .int .i64 0], .int .i64 0, .int .i64 0, .agg #[.int .i64 0, .int .i64 0, .int .i64 0], .bool m] W (Gives W (.tuple #[.slice none 0 0, .bool false, .bool false])) := by
  go_enter Try.func13, Try.ntmps13
  go_wp2_with fail
  go_ret3
  exact ⟨rfl, ((((Le.refl W).alloc _).alloc _)).out⟩
theorem nil_again (s : Int) (W : World) : Calls Try.prog 18 #[.pointer none, .int .u16 s] W (Gives W (.tuple #[.slice none 0 0, .bool false])) := by
  go_enter Try.func18, Try.ntmps18
  go_wp2_with fail
  go_ret2
  exact ⟨rfl, (Le.refl W).out⟩
theorem nil_ssrc (W : World) : Calls Try.prog 17 #[.pointer none] W (Gives W (.int .u32 0)) := by
  go_enter Try.func17, Try.ntmps17
  go_wp2_with fail
  go_ret
  exact ⟨rfl, (Le.refl W).out⟩
theorem nil_count (W : World) : Calls Try.prog 16 #[.pointer none] W (Gives W (.agg #[.int .i64 0, .int .i64 0, .int .i64 0, .int .i64 0, .int .i64 0])) := by
  go_enter Try.func16, Try.ntmps16
  go_wp2_with fail
  exact bodyPost_ret (results_cell_row Try.results16 _ _ _ 60 _ (0, 0) _ rfl (heap_alloc_new W _) Try.underlying60 rfl (by kernel_rfl)) rfl ⟨rfl, ((Le.refl W).alloc _).out⟩

/-- the last place so far, of a Seq -/
def Lst (ps : List Pk) (q i a b : Nat) : Prop := i ≤ a ∧ a < b ∧ b ≤ ps.length ∧ (ps.getD a pZ).seq = q ∧ ∀ j, a < j → j < b → (ps.getD j pZ).seq ≠ q
theorem Lst.more {ps : List Pk} {q i a b : Nat} (h : Lst ps q i a b) (hb : b < ps.length) (hn : (ps.getD b pZ).seq ≠ q) : Lst ps q i a (b + 1) :=
  ⟨h.1, by have := h.2.1; omega, hb, h.2.2.2.1, fun j h1 h2 => by
    by_cases e : j = b
    · subst e; exact hn
    · exact h.2.2.2.2 j h1 (by omega)⟩
theorem Lst.next {ps : List Pk} {q i a b : Nat} (h : Lst ps q i a b) (hb : b < ps.length) (hn : (ps.getD b pZ).seq = q) : Lst ps q i b (b + 1) :=
  ⟨by have := h.1; have := h.2.1; omega, by omega, hb, hn, fun j h1 h2 => by omega⟩
theorem Lst.last {ps : List Pk} {q i a : Nat} (h : Lst ps q i a ps.length) : LastAt ps q a := ⟨h.2.1, h.2.2.2.1, h.2.2.2.2⟩

set_option maxRecDepth 100000 in
set_option maxHeartbeats 8000000 in
theorem downAgain_walk (w : World) (room : Nat) (hroom : room < 256) (l : List Stp) (A : Option Addr) (n cap : Nat) (hr : RSl 15 RStp w l (.slice A n cap)) (hl : l.length ≤ 9223372036854775807) : Calls Try.prog 7 #[.int .u8 room, .slice A n cap] w (Gives w (.bool true)) := by
  have HR := hide hr
  obtain ⟨A', cap', hv, hcap, hi⟩ := hr
  injection hv with e1 e2 e3
  subst e1 e2 e3
  have HI := hide hi
  clear hi
  have HFEW := hide (fun W (hW : Le w W) => few14_any l A cap W (hW.rsl keeps_stp HR.out) hl)
  go_enter Try.func7, Try.ntmps7
  go_wp2_with fail
  refine (awake14 _).mono ?_
  rintro r w1 ⟨rfl, hb1⟩
  have HL1 := hide (show Le w w1 from ⟨hb1⟩)
  clear hb1
  go_wp2_with fail
  refine (HFEW.out _ HL1.out).mono ?_
  rintro r w2 ⟨rfl, hb2⟩
  have HL2 := hide (HL1.out.trans ⟨hb2⟩)
  clear hb2 HL1 HFEW
  cases hf : fewS l
  · go_wp2_with fail
    go_ret
    exact ⟨rfl, HL2.out.out⟩
  have hlen := fewS_len hf
  have HF := hide hf
  clear hf
  obtain ⟨M, hM⟩ : ∃ M, M = room % 30 := ⟨_, rfl⟩
  obtain ⟨N, hN⟩ : ∃ N, N = M + 1 := ⟨_, rfl⟩
  have hN1 : 0 < N ∧ N ≤ 30 := by omega
  have HNEW := hide (downNew_any 5 N hN1.1 (by omega) w2)
  have q1 : (room : Int).tmod 30 = (M : Int) := by rw [hM]; rfl
  have q2 : IntKind.u8.wrap (M : Int) = M := by simp [IntKind.wrap, IntKind.signed, IntKind.bits]; omega
  have q3 : (M : Int) + 1 = (N : Int) := by omega
  have q4 : IntKind.i64.wrap (N : Int) = N := IntWalk.i64_in _ (by omega)
  have q5 : IntKind.i64.wrap (M : Int) = M := IntWalk.i64_in _ (by omega)
  clear hM hN
  go_wp2_with fail
  refine HNEW.out.mono ?_
  rintro e w3 ⟨L, vs0, rfl, hd0, hS0, hb3⟩
  have HS := hide (fun k hk => Nat.le_trans HL2.out.size (hS0 k hk))
  have HB := hide hd0.lt
  have H3 := hide (And.intro hd0 (HL2.out.trans ⟨hb3⟩))
  obtain ⟨base, hbase⟩ : ∃ base, base = w3.heap.size := ⟨_, rfl⟩
  rw [← hbase] at HB
  have HBS := hide hbase
  have HWB := hide (show w.heap.size ≤ base by rw [hbase]; exact H3.out.2.size)
  clear hd0 hS0 hb3 HNEW q1 q2 q3 q4 q5 hbase
  go_wp2_with fail
  go_loopw [9, 10] (fun sv j wr => ∃ (k : Nat) (d : Dn) (vs : List Value) (ps : List Pk), k ≤ l.length ∧ j = .int .i64 k ∧ DnAt wr L k d vs ∧ d.Ok k ∧ Hd (Ag d.st ps) ∧ ps.length ≤ k ∧ Hd (d.st.room = N) ∧ Hd (∀ i, i < ps.length → (ps.getD i pZ).Ok ∧ (ps.getD i pZ).err = 0) ∧ Hd (wr.ownsRow base 9 1 sv ps.length (strs ps)) ∧ Hd (base ≤ wr.heap.size) ∧ Le w wr) (fun _ j _ => l.length - (intOf j).toNat)
  case atStart => exact ⟨0, Dn.new 5 N, vs0, [], Nat.zero_le _, rfl, H3.out.1, Dn.new_ok (by decide) hN1.1 (by omega), hide (Ag.new hN1.1), by simp, hide rfl, hide (fun i h => by simp at h), hide (World.ownsRow_nil _ _ _ _), hide (Nat.le_of_eq HBS.out), H3.out.2⟩
  case round =>
    clear H3
    obtain ⟨k, d, vs, ps, hk, rfl, hd, hok, HAG, hpl, HRM, HPS, HOS, HBW, hle⟩ := hrel
    by_cases hlt : k < l.length
    · obtain ⟨b, off, rfl, hg⟩ := HI.out (by rintro rfl; simp at hlt)
      obtain ⟨cs, _, hc, v5, v6, v7, hcs, hP, hN⟩ := hg k hlt
      subst hcs
      have hp := hN.ok (fewS_at HF.out k hlt)
      have hltI : (k : Int) < (l.length : Int) := by omega
      generalize l[k] = x at *
      have HRNG := hide (step_range hle hc)
      have hok' := Dn.take_ok hok x.p hp x.src x.layer x.want x.muted
      have hstr := Dn.take_ag hok (by omega) hp x.src x.layer x.want x.muted
      have HTK := hide (fun W (hW : Le wr W) => downTake_any (hd.le hW) hok (by omega) x.p hp v5 v6 v7 (PdAt.old hP (hle.trans hW).out HS.out) (by omega) x.src x.layer x.want x.muted)
      have HRN := hide (fun n (hn : Nm.Ok n) => Pk.renum_ok hp hn hok.ssrc)
      obtain ⟨A5, c5, rfl, _, _⟩ := id hP.csrc
      obtain ⟨A6, c6, rfl, _, _⟩ := id hP.exts
      obtain ⟨A7, c7, rfl, _, _⟩ := id hP.payload
      generalize d.take x.p x.src x.layer x.want x.muted = r at *
      obtain ⟨d', o, ask⟩ := r
      dsimp only at hok' hstr
      have HST := hide hstr
      have HOK := hide hok'
      have HLE := hide hle
      have HDD := hide hd
      clear hc hg hP hN hp hd hok hok' hle hstr
      obtain ⟨p, sr, la, wn, mu⟩ := x
      obtain ⟨ws, wl, wt⟩ := wn
      obtain ⟨mk, ty, sq, tm, ss, cs, ex, pl, pd⟩ := p
      simp only [Stp.cells, Pk.val, Wnt.val] at HRNG HTK HST HRN
      go_upto_region 14 with (first | (refine wpList_load_mid rfl 50 (.tmp 51) rfl b (off + k * 15) rfl [.bool mk, .int .u8 ty, .int .u16 sq, .int .u32 tm, .int .u32 ss, .slice A5 cs.length c5, .slice A6 ex.length c6, .slice A7 pl.length c7, .int .i64 pd, .int .i64 sr, .int .i64 la, .int .i64 ws, .int .i64 wl, .int .i64 wt, .bool mu] _ HRNG.out Try.underlying50 rfl (by kernel_rfl) ?_) | (refine wpl_store_blk rfl 50 (.tmp 11) (.tmp 52) (cs := [.bool mk, .int .u8 ty, .int .u16 sq, .int .u32 tm, .int .u32 ss, .slice A5 cs.length c5, .slice A6 ex.length c6, .slice A7 pl.length c7, .int .i64 pd, .int .i64 sr, .int .i64 la, .int .i64 ws, .int .i64 wl, .int .i64 wt, .bool mu]) rfl rfl rfl (by kernel_rfl) (by simp [Value.oneCell']) (heap_alloc_new _ _) rfl ?_; intro wz hn hgz; have HZ := hide (And.intro hn (((Le.refl wr).alloc _).boxed hgz (Nat.le_refl _))); clear hn hgz))
      have HTZ := hide (HTK.out wz HZ.out.2)
      have HBZ := hide (Nat.le_trans HBW.out HZ.out.2.size)
      have y9 : wz.cell? ⟨wr.heap.size, 9, none⟩ = some (.int .i64 sr) := box_cell HZ.out.1 9 _ rfl _ (Le.refl _)
      have y10 : wz.cell? ⟨wr.heap.size, 10, none⟩ = some (.int .i64 la) := box_cell HZ.out.1 10 _ rfl _ (Le.refl _)
      have y14 : wz.cell? ⟨wr.heap.size, 14, none⟩ = some (.bool mu) := box_cell HZ.out.1 14 _ rfl _ (Le.refl _)
      generalize wr.heap.size = g at *
      clear HTK HRNG
      go_wp2_with (first | (refine wpl_load_in rfl 46 (.tmp 55) rfl [] [.bool mk, .int .u8 ty, .int .u16 sq, .int .u32 tm, .int .u32 ss, .slice A5 cs.length c5, .slice A6 ex.length c6, .slice A7 pl.length c7, .int .i64 pd] [.int .i64 sr, .int .i64 la, .int .i64 ws, .int .i64 wl, .int .i64 wt, .bool mu] _ rfl Try.underlying46 rfl (by kernel_rfl) HZ.out.1 ?_) | (refine wpl_load_in rfl 48 (.tmp 61) rfl [.bool mk, .int .u8 ty, .int .u16 sq, .int .u32 tm, .int .u32 ss, .slice A5 cs.length c5, .slice A6 ex.length c6, .slice A7 pl.length c7, .int .i64 pd, .int .i64 sr, .int .i64 la] [.int .i64 ws, .int .i64 wl, .int .i64 wt] [.bool mu] _ rfl Try.underlying48 rfl (by kernel_rfl) HZ.out.1 ?_))
      refine HTZ.out.mono ?_
      rintro e w9 ⟨v, vs9, rfl, hd9, hr9, hf9⟩
      have hle9 : Le w w9 := ⟨hf9.below (HLE.out.trans HZ.out.2).out (HLE.out.trans HZ.out.2).size HS.out⟩
      have HO9 := hide (own_fpb (HZ.out.2.own HOS.out) hf9 HB.out)
      have HR9 := hide hr9
      have HB9 := hide (show base ≤ w9.heap.size from Nat.le_trans HBZ.out hf9.size)
      have H9 := hide (And.intro hd9 hle9)
      clear y9 y10 y14 hd9 hr9 hf9 hle9 HTZ HDD HOS HBW
      dsimp only at H9 HR9 ⊢
      rcases HST.out with ⟨rfl, hst⟩ | ⟨n, hn, her, rfl, hst⟩
      · have HAG' := hide (show Ag d'.st ps by rw [hst]; exact HAG.out)
        have HRM' := hide (show d'.st.room = N by rw [hst]; exact HRM.out)
        clear hst HST
        simp only [Option.isSome_none]
        go_wp2_with fail
        go_roundw
        case rel => exact ⟨k + 1, d', vs9, ps, by omega, by go_num, H9.out.1, HOK.out, HAG', by omega, HRM', HPS, HO9, HB9, H9.out.2⟩
        case measure => simp [intOf]; omega
      · obtain ⟨q, hq⟩ : ∃ q, q = Pk.renum ⟨mk, ty, sq, tm, ss, cs, ex, pl, pd⟩ n d.ssrc := ⟨_, rfl⟩
        have hqs : n.seq = q.seq := by rw [hq]; rfl
        have hqo : q.Ok := by rw [hq]; exact HRN.out n hn
        rw [← hq] at hst her HR9
        rw [hqs] at hst
        have HAG' := hide (show Ag d'.st (ps ++ [q]) by rw [hst]; exact HAG.out.add q)
        have HRM' := hide (show d'.st.room = N by rw [hst]; exact HRM.out)
        have HPS' := hide (show ∀ i, i < (ps ++ [q]).length → ((ps ++ [q]).getD i pZ).Ok ∧ ((ps ++ [q]).getD i pZ).err = 0 from fun i hi => by
          rcases Nat.lt_or_ge i ps.length with h | h
          · rw [getD_snoc_lt _ _ _ h]; exact HPS.out i h
          · obtain rfl : i = ps.length := by simp at hi; omega
            rw [getD_snoc_eq]; exact ⟨hqo, her⟩)
        have HSN := hide (strs_snoc ps q)
        clear hst HST hn her hqo hqs hq HRN
        simp only [Option.isSome_some]
        simp only [Option.getD_some] at HR9
        obtain ⟨Av, cv, rfl, _, _⟩ := id HR9.out
        have f1 := conv_le HR9.out w9 (Le.refl w9)
        generalize q.bytes = BB at *
        go_wp2_with (at_builtin; go_must (refine wpl_app rfl slS (.tmp 70) (.tmp 73) rfl (HO9.out.alloc _) rfl rfl (news := [.string (str BB)]) (cells_new _ _ _) rfl (by simp [Value.oneCell']) (by omega) (by omega) (le_alloc HB9.out) ?_); intro v6 w6 ho6 hg6 hk6; rw [← HSN.out] at ho6; have HO6 := hide ho6; have HG6 := hide hg6; clear ho6 hk6 hg6)
        have hd6 := (H9.out.1.le ((Le.refl w9).alloc (.cells #[.string (str BB)] 9))).appended (HO9.out.alloc _) (by decide) HG6.out HB.out
        have HD6 := hide hd6
        have HL6 := hide (Le.mk (below_grown (H9.out.2.alloc (.cells #[.string (str BB)] 9)).out (HO9.out.alloc _) HG6.out HWB.out (H9.out.2.alloc _).size))
        have HW6 := hide (show base ≤ w6.heap.size from Nat.le_trans (le_alloc HB9.out) HG6.out.size)
        clear hd6 f1
        go_roundw
        case rel => exact ⟨k + 1, d', vs9, ps ++ [q], by omega, by go_num, HD6.out, HOK.out, HAG', by simp; omega, HRM', HPS', hide (by rw [List.length_append]; exact HO6.out), HW6, HL6.out⟩
        case measure => simp [intOf]; omega
    · have hltI : ¬ (k : Int) < (l.length : Int) := by omega
      have HD5 := hide (And.intro hd (And.intro hok hle))
      clear hd hok hle hltI HF HI HR
      generalize wr = W5 at *
      obtain ⟨As, cs9, rfl, _, _⟩ := own_slice HOS.out
      have hps : ps.length ≤ 1000 := by omega
      go_wp2_with fail
      go_loopw [15] (fun i wr => ∃ k : Nat, k ≤ ps.length ∧ i = .int .i64 k ∧ Le W5 wr) (fun i _ => ps.length - (intOf i).toNat)
      case atStart => exact ⟨0, Nat.zero_le _, rfl, Le.refl _⟩
      case round =>
        obtain ⟨i, hi, rfl, hle⟩ := hrel
        have HLE := hide hle
        clear hle
        by_cases hlt : i < ps.length
        · have hltI : (i : Int) < (ps.length : Int) := by omega
          have h0I : (0 : Int) ≤ (i : Int) := by omega
          obtain ⟨gs, rfl, hcell⟩ := strs_at HOS.out rfl hlt
          have c0 := HLE.out.cell hcell
          obtain ⟨hpo, hpe⟩ := HPS.out i hlt
          have HPI := hide (show (ps.getD i pZ).seq = (ps.getD i pZ).seq from rfl)
          obtain ⟨p, hp⟩ : ∃ p, p = ps.getD i pZ := ⟨_, rfl⟩
          have HPK := hide hp
          rw [← hp] at hpo hpe c0
          obtain ⟨cap1, wb, hcv, hrb, hlb⟩ := bytes_of wr p.bytes
          have HPAR := hide (rtpParse_put p hpo hpe _ cap1 wb hrb)
          have HLB := hide (HLE.out.trans hlb)
          have HQO := hide hpo
          clear hpo hpe hrb hlb hp hcell HPI
          generalize p.bytes = BB at *
          go_wp2_with fail
          refine HPAR.out.mono ?_
          rintro e w10 ⟨v5, v6, v7, rfl, hP10, hb10⟩
          obtain ⟨B5, Bc5, rfl, _, _⟩ := id hP10.csrc
          obtain ⟨B6, Bc6, rfl, _, _⟩ := id hP10.exts
          obtain ⟨B7, Bc7, rfl, _, _⟩ := id hP10.payload
          have HL10 := hide (HLB.out.trans ⟨hb10⟩)
          clear hP10 hb10 HPAR hcv c0
          simp only [Pk.val]
          go_upto_region 21 with fail
          have HB16 := hide (heap_alloc_new w10 (.cells #[.bool p.mark, .int .u8 p.type, .int .u16 p.seq, .int .u32 p.time, .int .u32 p.ssrc, .slice B5 p.csrc.length Bc5, .slice B6 p.exts.length Bc6, .slice B7 p.payload.length Bc7, .int .i64 p.pad] 46))
          have HL11 := hide (HL10.out.alloc (.cells #[.bool p.mark, .int .u8 p.type, .int .u16 p.seq, .int .u32 p.time, .int .u32 p.ssrc, .slice B5 p.csrc.length Bc5, .slice B6 p.exts.length Bc6, .slice B7 p.payload.length Bc7, .int .i64 p.pad] 46))
          generalize w10.alloc (.cells #[.bool p.mark, .int .u8 p.type, .int .u16 p.seq, .int .u32 p.time, .int .u32 p.ssrc, .slice B5 p.csrc.length Bc5, .slice B6 p.exts.length Bc6, .slice B7 p.payload.length Bc7, .int .i64 p.pad] 46) = w11 at *
          generalize w10.heap.size = g16 at *
          clear HL10 HLB HLE
          go_wp2_with fail
          go_loopw [18, 19] (fun la kk wr2 => ∃ a b : Nat, la = .int .i64 a ∧ kk = .int .i64 b ∧ Lst ps p.seq i a b ∧ Le w11 wr2) (fun _ kk _ => ps.length - (intOf kk).toNat)
          case atStart => exact ⟨i, i + 1, rfl, by go_num, ⟨Nat.le_refl _, by omega, by omega, by rw [HPK.out], fun j h1 h2 => by omega⟩, Le.refl _⟩
          case round =>
            obtain ⟨a, b, rfl, rfl, hls, hl2⟩ := hrel
            have hb1 := hls.2.1
            have hb2 := hls.2.2.1
            have HLS := hide hls
            have HL2 := hide hl2
            clear hls hl2
            by_cases hlt2 : b < ps.length
            · have hlt2I : (b : Int) < (ps.length : Int) := by omega
              have h0I2 : (0 : Int) ≤ (b : Int) := by omega
              have c1 := (HL11.out.trans HL2.out).cell (show W5.cell? ⟨gs, b, none⟩ = _ from by
                obtain ⟨g', e', hc'⟩ := strs_at HOS.out rfl hlt2
                injection e' with e'
                injection e' with e'
                rw [e']
                exact hc')
              obtain ⟨hpo, hpe⟩ := HPS.out b hlt2
              obtain ⟨q, hq⟩ : ∃ q, q = ps.getD b pZ := ⟨_, rfl⟩
              have HQK := hide hq
              rw [← hq] at hpo hpe c1
              generalize wr = wr2 at *
              obtain ⟨cap1, wb, hcv, hrb, hlb⟩ := bytes_of wr2 q.bytes
              have HPAR := hide (rtpParse_put q hpo hpe _ cap1 wb hrb)
              have HLB := hide (HL2.out.trans hlb)
              clear hpo hpe hrb hlb hq
              generalize q.bytes = B2 at *
              go_wp2_with fail
              refine HPAR.out.mono ?_
              rintro e w12 ⟨v5, v6, v7, rfl, hP12, hb12⟩
              obtain ⟨C5, Cc5, rfl, _, _⟩ := id hP12.csrc
              obtain ⟨C6, Cc6, rfl, _, _⟩ := id hP12.exts
              obtain ⟨C7, Cc7, rfl, _, _⟩ := id hP12.payload
              have HL12 := hide (HLB.out.trans ⟨hb12⟩)
              clear hP12 hb12 HPAR hcv c1
              simp only [Pk.val]
              go_upto_region 28 with fail
              have HB20 := hide (heap_alloc_new w12 (.cells #[.bool q.mark, .int .u8 q.type, .int .u16 q.seq, .int .u32 q.time, .int .u32 q.ssrc, .slice C5 q.csrc.length Cc5, .slice C6 q.exts.length Cc6, .slice C7 q.payload.length Cc7, .int .i64 q.pad] 46))
              have HL13 := hide (HL12.out.alloc (.cells #[.bool q.mark, .int .u8 q.type, .int .u16 q.seq, .int .u32 q.time, .int .u32 q.ssrc, .slice C5 q.csrc.length Cc5, .slice C6 q.exts.length Cc6, .slice C7 q.payload.length Cc7, .int .i64 q.pad] 46))
              generalize w12.alloc (.cells #[.bool q.mark, .int .u8 q.type, .int .u16 q.seq, .int .u32 q.time, .int .u32 q.ssrc, .slice C5 q.csrc.length Cc5, .slice C6 q.exts.length Cc6, .slice C7 q.payload.length Cc7, .int .i64 q.pad] 46) = w13 at *
              generalize w12.heap.size = g20 at *
              have z2 := box_cell HB20.out 2 _ rfl _ (Le.refl _)
              have y2 := box_cell HB16.out 2 _ rfl _ HL13.out
              by_cases hqq : q.seq = p.seq
              · have hqI : (((q.seq : Nat) : Int) == (p.seq : Int)) = true := by rw [hqq]; simp
                have HLN := hide (HLS.out.next hlt2 (by rw [← HQK.out]; exact hqq))
                clear hqq
                go_wp2_with fail
                go_roundw
                case rel => exact ⟨b, b + 1, rfl, by go_num, HLN.out, HL13.out⟩
                case measure => simp [intOf]; omega
              · have hqI : (((q.seq : Nat) : Int) == (p.seq : Int)) = false := by rw [beq_eq_false_iff_ne]; omega
                have HLN := hide (HLS.out.more hlt2 (by rw [← HQK.out]; exact hqq))
                clear hqq
                go_wp2_with fail
                go_roundw
                case rel => exact ⟨a, b + 1, rfl, by go_num, HLN.out, HL13.out⟩
                case measure => simp [intOf]; omega
            · have hlt2I : ¬ (b : Int) < (ps.length : Int) := by omega
              obtain rfl : b = ps.length := by omega
              have hla := HLS.out.last
              have hal := hla.lt
              have hget := HAG.out.get hla
              rw [HRM.out] at hget
              generalize wr = w14 at *
              have y2 := box_cell HB16.out 2 _ rfl _ HL2.out
              have HGT := hide (downAgain_any (HD5.out.1.le (HL11.out.trans HL2.out)) HD5.out.2.1.st p.seq HQO.out.seq)
              obtain ⟨g', e', hca⟩ := strs_at HOS.out rfl hal
              injection e' with e'
              injection e' with e'
              rw [← e'] at hca
              have HCA := hide hca
              clear hca hla e'
              generalize (ps.getD a pZ).bytes = LB at *
              rw [hget] at HGT
              clear hget
              go_wp2_with fail
              refine HGT.out.mono ?_
              rintro e w15 ⟨v, rfl, hbv, hb15⟩
              have HL15 := hide (Le.mk hb15)
              have hrv := hbv.rsl
              obtain ⟨Av, cv, rfl, _, _⟩ := id hrv
              have HRV := hide hrv
              have ca := (HL11.out.trans (HL2.out.trans HL15.out)).cell HCA.out
              clear hbv hb15 hrv y2 HGT
              have h0a : (0 : Int) ≤ (a : Int) := by omega
              have hla : (a : Int) < (ps.length : Int) := by omega
              have g2 : (LB != LB) = false := by simp
              by_cases hw : ps.length ≤ a + N
              · have hwI : (ps.length : Int) - (N : Int) ≤ (a : Int) := by omega
                have hwd : decide ((ps.length : Int) - (N : Int) ≤ (a : Int)) = true := decide_eq_true hwI
                simp only [if_pos hw, Option.isSome_some, Option.getD_some] at HRV ⊢
                have f1 := fun nq => conv_le HRV.out _ ((Le.refl w15).drewN nq)
                have wr1 : IntKind.i64.wrap ((ps.length : Int) - (N : Int)) = (ps.length : Int) - (N : Int) := IntWalk.i64_in _ (by omega)
                go_wp2_with fail
                go_quiet (fail)
                go_wp2_with fail
                go_roundw
                case rel => exact ⟨i + 1, by omega, by go_num, HL11.out.trans (HL2.out.trans (HL15.out.drewN _))⟩
                case measure => simp [intOf]; omega
              · have hwI : ¬ (ps.length : Int) - (N : Int) ≤ (a : Int) := by omega
                have hwd : decide ((ps.length : Int) - (N : Int) ≤ (a : Int)) = false := decide_eq_false hwI
                simp only [if_neg hw, Option.isSome_none, Option.getD_none] at HRV ⊢
                have wr1 : IntKind.i64.wrap ((ps.length : Int) - (N : Int)) = (ps.length : Int) - (N : Int) := IntWalk.i64_in _ (by omega)
                go_wp2_with fail
                go_quiet (fail)
                go_wp2_with fail
                go_roundw
                case rel => exact ⟨i + 1, by omega, by go_num, HL11.out.trans (HL2.out.trans (HL15.out.drewN _))⟩
                case measure => simp [intOf]; omega
        · have hltI : ¬ (i : Int) < (ps.length : Int) := by omega
          have HL5 := hide (HD5.out.2.2.trans HLE.out)
          clear HLE
          have hcnt := fun W => cnt_eql 0 0 0 0 0 W
          have hgu := cnt_guard
          go_wp2_with fail
          refine (nil_take false _).mono ?_
          rintro e wa ⟨rfl, hba⟩
          have HLa := hide (HL5.out.trans ⟨hba⟩)
          clear hba HL5
          go_wp2_with fail
          refine (nil_again 0 _).mono ?_
          rintro e wb ⟨rfl, hbb⟩
          have HLb := hide (HLa.out.trans ⟨hbb⟩)
          clear hbb HLa
          go_wp2_with fail
          refine (nil_ssrc _).mono ?_
          rintro e wc ⟨rfl, hbc⟩
          have HLc := hide (HLb.out.trans ⟨hbc⟩)
          clear hbc HLb
          go_wp2_with fail
          refine (nil_count _).mono ?_
          rintro e wd ⟨rfl, hbd⟩
          have HLd := hide (HLc.out.trans ⟨hbd⟩)
          clear hbd HLc
          go_wp2_with fail
          refine (downNew_none 1 _).mono ?_
          rintro e we ⟨rfl, rfl⟩
          go_wp2_with fail
          go_ret
          exact ⟨rfl, HLd.out.out⟩
end Go.Proofs.Ytekioihjfggmdaa

/- DownAgain: for every input the call returns true, and each argument reads behind it as it read before. No condition. -/
namespace Go.Proofs.Ytekioihjfggmdaa.downAgain
open Go.ChangeShapes Go.WideShapes Go.ChangeAt Go.RowKit
open Go.ChangeMaps (open_string shut_string)
set_option linter.unusedVariables false

theorem own : ownKnob Try.prog.godebug = none := by kernel_rfl
theorem laidOut : laidOutB Try.prog = true := by kernel_rfl

set_option maxRecDepth 100000 in
theorem lifted (os : Os) (started : os.Started) (H : Type) (enc : TypeId × Value → H) :
    ReturnsInHanded {} Try.checked os 7 .any (Rows.downAgainSpec.pre6 enc Try.prog Try.f7 Rows.downAgainRow.domain false) (Rows.downAgainSpec.post enc Try.prog Try.f7 false true false false) := by
  refine returnsInHanded_of_change (C := Try.checked) own started (by kernel_rfl) Try.func7
    (ChangeSpec.witness6 (enc := enc) (C := Try.checked) false ⟨#[], #[.int .u8 0, .slice none 0 0], []⟩ 8 (by kernel_rfl) (by kernel_rfl) (by kernel_rfl) (by kernel_rfl)) ?_
  intro W base args ds gs before hval0 hW hcnd _
  have hval : ∀ (j : Nat) t v, Try.f7.params[j]? = some t → args[j]? = some v → Value.okWide Try.prog W .any base t v := hval0
  have hW' := hW
  obtain ⟨p, q, hA0, hV, rfl, hfz, hnd⟩ := hW
  have hA : DataW.TrodAll enc Try.prog W 0 (fun _ => true) true Try.f7.params.toList args.toList ds p := hA0
  rw [Try.params7] at hA hval
  obtain ⟨v0, vs0, d0, ds0, p0, q0, hargs, rfl, rfl, h0, r0⟩ := trodAll_cons hA
  obtain ⟨v1, vs1, d1, ds1, p1, q1, rfl, rfl, rfl, h1, r1⟩ := trodAll_cons r0
  obtain ⟨rfl, rfl, rfl⟩ := trodAll_nil r1
  obtain rfl : args = #[v0, v1] := by cases args; simp_all
  obtain ⟨rfl, rfl⟩ := trodVars_none hV
  have lt0 : ∀ x ∈ p0, x.block < W.heap.size := by obtain ⟨m, hm⟩ := h0; exact DataW.trod_lt m _ _ _ hm
  have lt1 : ∀ x ∈ p1, x.block < W.heap.size := by obtain ⟨m, hm⟩ := h1; exact DataW.trod_lt m _ _ _ hm
  obtain ⟨y0, hv0, _, _, wx0⟩ := open_int Try.underlying5 (hval 0 5 v0 rfl rfl) h0
  subst hv0
  obtain ⟨x0, rfl, w0⟩ := wf_u8 wx0
  obtain ⟨a1, n1, c1, rfl⟩ := okWide_slice Try.underlying23 (hval 1 23 v1 rfl rfl)
  obtain ⟨l1, w1, x1⟩ := open_steps14 h1
  clear hA0 hval0
  refine (downAgain_walk W x0 w0 l1 a1 n1 c1 w1 x1).mono fun e W' ⟨he, bel⟩ => ?_
  subst he
  exact ⟨_, rfl, _, _, _, [], _, [], hW', trodAll_mk1 (shut_bool Try.underlying4 _), (trodAll_cons_mk (Below.trod laidOut (by kernel_rfl) (of_decide_eq_true (by kernel_rfl)) h0 bel lt0) (trodAll_cons_mk (Below.trod laidOut (by kernel_rfl) (of_decide_eq_true (by kernel_rfl)) h1 bel lt1) trodAll_mk0)), rfl, bel.frame _, fun h => by cases h⟩

theorem over : Rows.downAgainRow.holds Try.pinned (OpenSpec.ofChange Rows.downAgainSpec) :=
  OpenClaim.holds_of_wide 7 Try.f7 rfl rfl rfl rfl rfl rfl rfl ⟨rfl, rfl, rfl, rfl, rfl⟩ rfl rfl rfl rfl rfl (by kernel_rfl) Try.func7 (by kernel_rfl)
    (of_decide_eq_true (by kernel_rfl)) (by unfold Func.isWrapper; first | (rw [if_pos (by decide +kernel)]; kernel_rfl) | (rw [if_neg (by decide +kernel)]; exact ⟨rfl, rfl⟩))
    (fun os started H enc _ => lifted os started H enc)

/-- THE STATEMENT. -/
theorem proved : Rows.DownAgainSaid := over
#print axioms proved
end Go.Proofs.Ytekioihjfggmdaa.downAgain
