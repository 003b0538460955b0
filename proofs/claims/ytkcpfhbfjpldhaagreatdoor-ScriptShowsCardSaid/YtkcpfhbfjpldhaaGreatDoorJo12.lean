/- Texts of one claim, laid together: ScrL ScrA ScrP -/
import Derived.Test.YtkcpfhbfjpldhaaGreatDoorJo01
import Derived.Test.YtkcpfhbfjpldhaaGreatDoorJo04
/- script: steps and their bytes, in plain Lean. -/
namespace Go.Proofs.YtkcpfhbfjpldhaaGreatDoor
open Go.RowKit
set_option linter.unusedVariables false

structure Sp where
  op : Int
  shard : Int
  b : List UInt8
  deriving DecidableEq
def bOp (op : Int) : Bool := decide (op = 0) || decide (op = 1)
def sOp (op : Int) : Bool := decide (op = 2) || decide (op = 3)
def Sp.may (s : Sp) : Bool := decide (0 ≤ s.op) && (decide (s.op < 9) && ((bOp s.op || decide (s.b = [])) && ((sOp s.op || decide (s.shard = 0)) && (decide (s.b.length ≤ 65535) && (decide (0 ≤ s.shard) && decide (s.shard ≤ 255))))))
def Sp.out (s : Sp) : List UInt8 := UInt8.ofNat s.op.toNat :: ((if bOp s.op then be s.b.length 2 ++ s.b else []) ++ if sOp s.op then [UInt8.ofNat s.shard.toNat] else [])
def putSB (l : List Sp) : List UInt8 := if l.all Sp.may then l.flatMap Sp.out else []
def putSE (l : List Sp) : Int := if l.all Sp.may then 0 else 1
/-- the first step of bytes: an error, or it, and what is left -/
inductive St1 where
  | bad (e : Int)
  | ok (s : Sp) (r : List UInt8)
def step1 : List UInt8 → St1
  | [] => .bad 10
  | x :: r =>
    if 8 < x.toNat then .bad 11
    else if x.toNat < 2 then
      match r with
      | h :: l :: t => if t.length < 256 * h.toNat + l.toNat then .bad 10 else .ok ⟨x.toNat, 0, t.take (256 * h.toNat + l.toNat)⟩ (t.drop (256 * h.toNat + l.toNat))
      | _ => .bad 10
    else if x.toNat < 4 then
      match r with
      | s :: t => .ok ⟨x.toNat, s.toNat, []⟩ t
      | [] => .bad 10
    else .ok ⟨x.toNat, 0, []⟩ r
theorem step1_len {l r : List UInt8} {s : Sp} (h : step1 l = .ok s r) : r.length < l.length := by
  unfold step1 at h
  split at h
  · cases h
  · split at h
    · cases h
    · split at h
      · split at h
        · split at h
          · cases h
          · injection h with h1 h2
            subst h2
            simp only [List.length_drop, List.length_cons]
            omega
        · cases h
      · split at h
        · split at h
          · injection h with h1 h2
            subst h2
            simp only [List.length_cons]
            omega
          · cases h
        · injection h with h1 h2
          subst h2
          simp only [List.length_cons]
          omega
/-- the steps of bytes, behind those that were taken -/
def parseN : Nat → List UInt8 → List Sp → List Sp × Int
  | 0, _, out => (out, 0)
  | n + 1, l, out =>
    if l = [] then (out, 0)
    else match step1 l with
      | .bad e => ([], e)
      | .ok s r => parseN n r (out ++ [s])
def parseS (l : List UInt8) (out : List Sp) : List Sp × Int := parseN l.length l out
theorem parseN_more : ∀ (n : Nat) (l : List UInt8) (out : List Sp), l.length ≤ n → parseN n l out = parseN l.length l out := by
  intro n
  induction n using Nat.strongRecOn with
  | ind n ih =>
    intro l out h
    rcases l with _ | ⟨x, t⟩
    · cases n <;> simp [parseN]
    · obtain ⟨m, rfl⟩ : ∃ m, n = m + 1 := ⟨n - 1, by simp at h; omega⟩
      simp only [List.length_cons, parseN, reduceCtorEq, if_false]
      cases hs : step1 (x :: t) with
      | bad e => rfl
      | ok s r =>
        have hl := step1_len hs
        simp only [List.length_cons] at hl h
        dsimp only
        rw [ih m (by omega) r _ (by omega)]
        rcases Nat.lt_or_ge t.length m with h1 | h1
        · rw [ih t.length (by omega) r _ (by omega)]
        · rw [show t.length = m by omega, ih m (by omega) r _ (by omega)]
theorem parseS_nil (out : List Sp) : parseS [] out = (out, 0) := rfl
theorem parseS_bad {l : List UInt8} {e : Int} (hn : l ≠ []) (h : step1 l = .bad e) (out : List Sp) : parseS l out = ([], e) := by
  rcases l with _ | ⟨x, t⟩
  · exact absurd rfl hn
  · simp only [parseS, List.length_cons, parseN, reduceCtorEq, if_false, h]
theorem parseS_ok {l r : List UInt8} {s : Sp} (hn : l ≠ []) (h : step1 l = .ok s r) (out : List Sp) : parseS l out = parseS r (out ++ [s]) := by
  rcases l with _ | ⟨x, t⟩
  · exact absurd rfl hn
  · have hl := step1_len h
    simp only [List.length_cons] at hl
    simp only [parseS, List.length_cons, parseN, reduceCtorEq, if_false, h]
    exact parseN_more _ _ _ (by omega)
/-- what is taken first stays ahead -/
theorem parseN_out : ∀ (n : Nat) (l : List UInt8) (out : List Sp), (parseN n l out).2 = (parseN n l []).2 ∧ ((parseN n l []).2 = 0 → (parseN n l out).1 = out ++ (parseN n l []).1) ∧ ((parseN n l []).2 ≠ 0 → (parseN n l out).1 = [] ∧ (parseN n l []).1 = [])
  | 0, l, out => by simp [parseN]
  | n + 1, l, out => by
    simp only [parseN]
    split
    · simp
    · cases hs : step1 l with
      | bad e =>
        have : e ≠ 0 := by
          unfold step1 at hs
          split at hs
          · injection hs with hs; omega
          · split at hs
            · injection hs with hs; omega
            · split at hs
              · split at hs
                · split at hs
                  · injection hs with hs; omega
                  · cases hs
                · injection hs with hs; omega
              · split at hs
                · split at hs
                  · cases hs
                  · injection hs with hs; omega
                · cases hs
        simp [this]
      | ok s r =>
        dsimp only
        obtain ⟨a1, a2, a3⟩ := parseN_out n r (out ++ [s])
        obtain ⟨b1, b2, b3⟩ := parseN_out n r ([] ++ [s])
        rw [a1, b1]
        refine ⟨rfl, fun h => ?_, fun h => ?_⟩
        · rw [a2 h, b2 h]; simp
        · rw [(a3 h).1, (b3 h).1]; exact ⟨rfl, rfl⟩
theorem u8_of (n : Nat) (h : n < 256) : (UInt8.ofNat n).toNat = n := by rw [UInt8.toNat_ofNat']; omega
theorem be2 (x : Nat) : be x 2 = [UInt8.ofNat (x / 256), UInt8.ofNat x] := by simp [be, bAt, List.range_succ]
/-- a step's bytes, with more behind, are the step, and that -/
theorem step1_out {s : Sp} (h : s.may = true) (rest : List UInt8) : step1 (s.out ++ rest) = .ok s rest := by
  obtain ⟨op, shard, b⟩ := s
  simp only [Sp.may, Bool.and_eq_true, decide_eq_true_eq, Bool.or_eq_true] at h
  obtain ⟨h0, h9, hb, hs, hl, hs0, hs1⟩ := h
  obtain ⟨o, rfl⟩ := Int.eq_ofNat_of_zero_le h0
  obtain ⟨t, rfl⟩ := Int.eq_ofNat_of_zero_le hs0
  have e1 : (UInt8.ofNat o).toNat = o := u8_of o (by omega)
  have e2 : (UInt8.ofNat t).toNat = t := u8_of t (by omega)
  simp only [Sp.out, step1, List.cons_append, Int.toNat_natCast, e1]
  rw [if_neg (by omega)]
  by_cases ho : o < 2
  · have hb1 : bOp (o : Int) = true := by simp [bOp]; omega
    have hs2 : sOp (o : Int) = false := by simp [sOp]; omega
    have ht : (t : Int) = 0 := by
      rcases hs with hs | hs
      · rw [hs2] at hs; cases hs
      · exact hs
    rw [if_pos ho, hb1, hs2]
    simp only [if_true, Bool.false_eq_true, if_false, be2, List.append_nil, List.cons_append, List.nil_append]
    have e3 : (UInt8.ofNat (b.length / 256)).toNat = b.length / 256 := u8_of _ (by omega)
    have e4 : (UInt8.ofNat b.length).toNat = b.length % 256 := UInt8.toNat_ofNat'
    have e5 : 256 * (b.length / 256) + b.length % 256 = b.length := by omega
    rw [e3, e4, e5, if_neg (by simp), List.take_left, List.drop_left, ht]
  · have hb2 : bOp (o : Int) = false := by simp [bOp]; omega
    have hbn : b = [] := by
      rcases hb with hb | hb
      · rw [hb2] at hb; cases hb
      · exact hb
    rw [if_neg ho, hb2, hbn]
    by_cases h4 : o < 4
    · have hs2 : sOp (o : Int) = true := by simp [sOp]; omega
      rw [if_pos h4, hs2]
      simp only [Bool.false_eq_true, if_false, if_true, List.nil_append, List.cons_append, e2]
    · have hs2 : sOp (o : Int) = false := by simp [sOp]; omega
      have ht : (t : Int) = 0 := by
        rcases hs with hs | hs
        · rw [hs2] at hs; cases hs
        · exact hs
      rw [if_neg h4, hs2]
      simp only [Bool.false_eq_true, if_false, List.nil_append, ht]
theorem out_ne (s : Sp) (rest : List UInt8) : s.out ++ rest ≠ [] := by simp [Sp.out]
/-- what is put is parsed as it was -/
theorem parseS_put : ∀ (l : List Sp) (rest : List UInt8) (out : List Sp), l.all Sp.may = true → parseS (l.flatMap Sp.out ++ rest) out = parseS rest (out ++ l)
  | [], rest, out, _ => by simp
  | s :: l, rest, out, h => by
    simp only [List.all_cons, Bool.and_eq_true] at h
    rw [List.flatMap_cons, List.append_assoc, parseS_ok (out_ne s _) (step1_out h.1 _), parseS_put l rest _ h.2]
    simp
theorem take_ne {l : List UInt8} {k : Nat} (hk : 0 < k) (hl : 0 < l.length) : l.take k ≠ [] := by
  rcases l with _ | ⟨x, t⟩
  · exact absurd hl (by simp)
  · obtain ⟨m, rfl⟩ : ∃ m, k = m + 1 := ⟨k - 1, by omega⟩
    simp
/-- a step's bytes that are cut are short -/
theorem step1_cut {s : Sp} (h : s.may = true) {k : Nat} (hk : 0 < k) (hl : k < s.out.length) : step1 (s.out.take k) = .bad 10 := by
  obtain ⟨op, shard, b⟩ := s
  simp only [Sp.may, Bool.and_eq_true, decide_eq_true_eq, Bool.or_eq_true] at h
  obtain ⟨h0, h9, hb, hs, hbl, hs0, hs1⟩ := h
  obtain ⟨o, rfl⟩ := Int.eq_ofNat_of_zero_le h0
  have e1 : (UInt8.ofNat o).toNat = o := u8_of o (by omega)
  obtain ⟨m, rfl⟩ : ∃ m, k = m + 1 := ⟨k - 1, by omega⟩
  simp only [Sp.out, List.length_cons] at hl
  simp only [Sp.out, List.take_succ_cons, step1, Int.toNat_natCast, e1]
  rw [if_neg (by omega)]
  by_cases ho : o < 2
  · have hb1 : bOp (o : Int) = true := by simp [bOp]; omega
    have hs2 : sOp (o : Int) = false := by simp [sOp]; omega
    rw [hb1, hs2] at hl
    simp only [if_true, Bool.false_eq_true, if_false, be2, List.append_nil, List.cons_append, List.nil_append, List.length_cons] at hl
    rw [if_pos ho, hb1, hs2]
    simp only [if_true, Bool.false_eq_true, if_false, be2, List.append_nil, List.cons_append, List.nil_append]
    have e3 : (UInt8.ofNat (b.length / 256)).toNat = b.length / 256 := u8_of _ (by omega)
    have e4 : (UInt8.ofNat b.length).toNat = b.length % 256 := UInt8.toNat_ofNat'
    have e5 : 256 * (b.length / 256) + b.length % 256 = b.length := by omega
    rcases m with _ | _ | m
    · rfl
    · rfl
    · simp only [List.take_succ_cons]
      rw [e3, e4, e5, if_pos (by simp; omega)]
  · have hb2 : bOp (o : Int) = false := by simp [bOp]; omega
    rw [hb2] at hl
    rw [if_neg ho, hb2]
    by_cases h4 : o < 4
    · have hs2 : sOp (o : Int) = true := by simp [sOp]; omega
      rw [hs2] at hl
      simp at hl
      obtain rfl : m = 0 := by omega
      rw [if_pos h4, hs2]
      rfl
    · have hs2 : sOp (o : Int) = false := by simp [sOp]; omega
      rw [hs2] at hl
      simp at hl
theorem parse_cut : ∀ (l : List Sp) (k : Nat) (out : List Sp), l.all Sp.may = true → k ≤ (l.flatMap Sp.out).length →
    (parseS ((l.flatMap Sp.out).take k) out = ([], 10) ∧ k < (l.flatMap Sp.out).length) ∨ ∃ j, j ≤ l.length ∧ parseS ((l.flatMap Sp.out).take k) out = (out ++ l.take j, 0) ∧ (k < (l.flatMap Sp.out).length ∨ j = l.length)
  | [], k, out, _, hk => .inr ⟨0, Nat.le_refl _, by simp [parseS_nil], .inr rfl⟩
  | s :: l, k, out, h, hk => by
    simp only [List.all_cons, Bool.and_eq_true] at h
    rw [List.flatMap_cons] at hk ⊢
    rw [List.length_append] at hk ⊢
    rcases Nat.eq_zero_or_pos k with rfl | hk0
    · refine .inr ⟨0, Nat.zero_le _, by simp [parseS_nil], .inl ?_⟩
      have : 0 < s.out.length := by simp [Sp.out]
      omega
    · rcases Nat.lt_or_ge k s.out.length with hlt | hge
      · refine .inl ⟨?_, by omega⟩
        rw [List.take_append_of_le_length (by omega)]
        exact parseS_bad (take_ne hk0 (by omega)) (step1_cut h.1 hk0 hlt) _
      · obtain ⟨m, rfl⟩ : ∃ m, k = s.out.length + m := ⟨k - s.out.length, by omega⟩
        rw [List.take_length_add_append, parseS_ok (out_ne s _) (step1_out h.1 _)]
        rcases parse_cut l m (out ++ [s]) h.2 (by omega) with ⟨h1, h2⟩ | ⟨j, h1, h2, h3⟩
        · exact .inl ⟨h1, by omega⟩
        · refine .inr ⟨j + 1, by simp; omega, by rw [h2]; simp, ?_⟩
          rcases h3 with h3 | h3
          · exact .inl (by omega)
          · exact .inr (by simp [h3])
end Go.Proofs.YtkcpfhbfjpldhaaGreatDoor

/- script: steps in memory. -/
namespace Go.Proofs.YtkcpfhbfjpldhaaGreatDoor
open Go.RowKit
set_option linter.unusedVariables false

def Sp.cells (s : Sp) (v : Value) : List Value := [.int .i64 s.op, .int .i64 s.shard, v]
/-- what a step's cells can hold -/
structure Sp.Num (s : Sp) : Prop where
  op : -9223372036854775808 ≤ s.op ∧ s.op ≤ 9223372036854775807
  shard : -9223372036854775808 ≤ s.shard ∧ s.shard ≤ 9223372036854775807
  b : s.b.length ≤ 9223372036854775807
def RSp : Rd Sp := fun w s cs => ∃ v, cs = s.cells v ∧ RSl 1 RU8 w s.b v ∧ s.Num
theorem keeps_sp : Keeps RSp := fun w w' x cs ⟨v, h1, h2, h3⟩ hb => ⟨v, h1, h2.keep keeps_u8 hb, h3⟩
/-- the document's steps: their bytes are strings -/
def RSr : Rd Sp := fun w s cs => cs = [.int .i64 s.op, .int .i64 s.shard, .string (str s.b)]
theorem keeps_sr : Keeps RSr := fun w w' x cs h _ => h

def encS (out : List Sp) (vs : List Value) : List Value := (out.zip vs).flatMap fun p => p.1.cells p.2
theorem encS_snoc (out : List Sp) (vs : List Value) (x : Sp) (v : Value) (h : vs.length = out.length) : encS (out ++ [x]) (vs ++ [v]) = encS out vs ++ x.cells v := by
  rw [encS, List.zip_append h.symm, List.flatMap_append]
  simp [encS]
theorem encS_len (out : List Sp) (vs : List Value) (h : vs.length = out.length) : (encS out vs).length = out.length * 3 := by
  rw [encS]
  have : ∀ l : List (Sp × Value), (l.flatMap fun p => p.1.cells p.2).length = l.length * 3 := by
    intro l
    induction l with
    | nil => rfl
    | cons p l ih => rw [List.flatMap_cons, List.length_append, ih]; simp [Sp.cells]; omega
  rw [this, List.length_zip, h, Nat.min_self]
/-- their bytes lie where the slices say -/
def SDatas (w : World) (out : List Sp) (vs : List Value) : Prop := vs.length = out.length ∧ ∀ (i : Nat) (h : i < out.length) (h' : i < vs.length), D8 w out[i].b vs[i]
theorem SDatas.nil {w : World} : SDatas w [] [] := ⟨rfl, fun i h => by simp at h⟩
theorem SDatas.snoc {w : World} {out : List Sp} {vs : List Value} (h : SDatas w out vs) {x : Sp} {v : Value} (hx : D8 w x.b v) : SDatas w (out ++ [x]) (vs ++ [v]) := by
  refine ⟨by simp [h.1], fun i h1 h2 => ?_⟩
  by_cases hi : i < out.length
  · rw [List.getElem_append_left hi, List.getElem_append_left (by rw [h.1]; exact hi)]
    exact h.2 i hi _
  · have : i = out.length := by simp at h1; omega
    subst this
    rw [List.getElem_append_right (Nat.le_refl _), List.getElem_append_right (by rw [h.1]; exact Nat.le_refl _)]
    simpa [h.1] using hx
theorem SDatas.grown {w w' : World} {out : List Sp} {vs : List Value} (h : SDatas w out vs) {row : Option Nat} (hg : w.grownBy w' row) (hne : ∀ g cur fr, w.heap[g]? = some (.cells cur 5 fr) → row ≠ some g) : SDatas w' out vs :=
  ⟨h.1, fun i h1 h2 => (h.2 i h1 h2).grown hg hne⟩
theorem SDatas.keep {w w' : World} {out : List Sp} {vs : List Value} (h : SDatas w out vs) (hb : Below w.heap.size w w') : SDatas w' out vs :=
  ⟨h.1, fun i h1 h2 => (h.2 i h1 h2).keep hb⟩
theorem flatS {l : List (Sp × Value)} (i : Nat) (h : i < l.length) (j : Nat) (hj : j < 3) : (l.flatMap fun p => p.1.cells p.2)[i * 3 + j]? = ((l[i]).1.cells (l[i]).2)[j]? :=
  flat_get (fun p : Sp × Value => p.1.cells p.2) 3 l (fun _ _ => rfl) i h j hj
theorem rsl_steps {w : World} {base : Nat} {T : TypeId} {v : Value} {out : List Sp} {vs : List Value} (h : w.ownsRow base T 3 v out.length (encS out vs)) (hd : SDatas w out vs) (hn : ∀ s ∈ out, s.Num) : RSl 3 RSp w out v := by
  obtain ⟨A, cap, rfl, hc, hcl⟩ := own_slice h
  refine ⟨A, cap, rfl, hc, fun hne => ?_⟩
  have hlen : (out.zip vs).length = out.length := by rw [List.length_zip, hd.1, Nat.min_self]
  have hne' : encS out vs ≠ [] := by
    intro e
    have h2 := encS_len out vs hd.1
    rw [e, List.length_nil] at h2
    exact hne (List.eq_nil_of_length_eq_zero (by omega))
  obtain ⟨b, off, hA, hg⟩ := hcl hne'
  refine ⟨b, off, hA, fun i hi => ⟨out[i].cells (vs[i]'(by rw [hd.1]; exact hi)), rfl, fun j hj => ?_, vs[i]'(by rw [hd.1]; exact hi), rfl, (hd.2 i hi _).rsl, hn _ (List.getElem_mem hi)⟩⟩
  have h1 := flatS (l := out.zip vs) i (by omega) j hj
  rw [List.getElem_zip] at h1
  simp only at h1
  have h2 : (out[i].cells (vs[i]'(by rw [hd.1]; exact hi)))[j]? = some ((out[i].cells (vs[i]'(by rw [hd.1]; exact hi)))[j]'(by simpa [Sp.cells] using hj)) := List.getElem?_eq_getElem _
  rw [h2] at h1 ⊢
  rw [Nat.add_assoc]
  exact hg _ _ h1
/-- the document's steps as cells -/
def encR (out : List Sp) : List Value := out.flatMap fun s => [.int .i64 s.op, .int .i64 s.shard, .string (str s.b)]
theorem encR_snoc (out : List Sp) (x : Sp) : encR (out ++ [x]) = encR out ++ [.int .i64 x.op, .int .i64 x.shard, .string (str x.b)] := by simp [encR]
theorem encR_len (out : List Sp) : (encR out).length = out.length * 3 := by
  induction out with
  | nil => rfl
  | cons p l ih =>
    simp only [encR, List.flatMap_cons, List.length_append, List.length_cons, List.length_nil] at ih ⊢
    omega
theorem rsl_refs {w : World} {base : Nat} {T : TypeId} {v : Value} {out : List Sp} (h : w.ownsRow base T 3 v out.length (encR out)) : RSl 3 RSr w out v := by
  obtain ⟨A, cap, rfl, hc, hcl⟩ := own_slice h
  refine ⟨A, cap, rfl, hc, fun hne => ?_⟩
  have hne' : encR out ≠ [] := by
    intro e
    have h2 := encR_len out
    rw [e, List.length_nil] at h2
    exact hne (List.eq_nil_of_length_eq_zero (by omega))
  obtain ⟨b, off, hA, hg⟩ := hcl hne'
  refine ⟨b, off, hA, fun i hi => ⟨[.int .i64 out[i].op, .int .i64 out[i].shard, .string (str out[i].b)], rfl, fun j hj => ?_, rfl⟩⟩
  have h1 := flat_get (fun s : Sp => [Value.int .i64 s.op, .int .i64 s.shard, .string (str s.b)]) 3 out (fun _ _ => rfl) i hi j hj
  have h2 : ([Value.int .i64 out[i].op, .int .i64 out[i].shard, .string (str out[i].b)] : List Value)[j]? = some (([Value.int .i64 out[i].op, .int .i64 out[i].shard, .string (str out[i].b)] : List Value)[j]'(by simpa using hj)) := List.getElem?_eq_getElem _
  rw [h2] at h1 ⊢
  rw [Nat.add_assoc]
  exact hg _ _ h1
end Go.Proofs.YtkcpfhbfjpldhaaGreatDoor

/- script: may, Put. -/
namespace Go.Proofs.YtkcpfhbfjpldhaaGreatDoor
open Go.RowKit
set_option linter.unusedVariables false

theorem bOp_any (op : Int) (w : World) : Calls Tryz.prog 36 #[.int .i64 op] w fun e w' => e = .returned (.bool (bOp op)) ∧ w = w' := by
  by_cases h1 : op = 0
  · have h1I : (op == 0) = true := by rw [beq_iff_eq]; exact h1
    have e : bOp op = true := by simp [bOp, h1]
    rw [e]; clear e h1
    go_enter Tryz.func36, Tryz.ntmps36
    go_wp2_with fail
    go_ret
    exact ⟨rfl, rfl⟩
  · have h1I : (op == 0) = false := by rw [beq_eq_false_iff_ne]; exact h1
    have e : bOp op = (op == 1) := by simp only [bOp, h1, decide_false, Bool.false_or]; rfl
    rw [e]; clear e h1
    go_enter Tryz.func36, Tryz.ntmps36
    go_wp2_with fail
    go_ret
    exact ⟨rfl, rfl⟩
theorem sOp_any (op : Int) (w : World) : Calls Tryz.prog 38 #[.int .i64 op] w fun e w' => e = .returned (.bool (sOp op)) ∧ w = w' := by
  by_cases h1 : op = 2
  · have h1I : (op == 2) = true := by rw [beq_iff_eq]; exact h1
    have e : sOp op = true := by simp [sOp, h1]
    rw [e]; clear e h1
    go_enter Tryz.func38, Tryz.ntmps38
    go_wp2_with fail
    go_ret
    exact ⟨rfl, rfl⟩
  · have h1I : (op == 2) = false := by rw [beq_eq_false_iff_ne]; exact h1
    have e : sOp op = (op == 3) := by simp only [sOp, h1, decide_false, Bool.false_or]; rfl
    rw [e]; clear e h1
    go_enter Tryz.func38, Tryz.ntmps38
    go_wp2_with fail
    go_ret
    exact ⟨rfl, rfl⟩

theorem may_no {s : Sp} (h : ¬ (0 ≤ s.op ∧ s.op < 9 ∧ (bOp s.op = true ∨ s.b.length = 0) ∧ (sOp s.op = true ∨ s.shard = 0) ∧ s.b.length ≤ 65535 ∧ 0 ≤ s.shard ∧ s.shard ≤ 255)) : s.may = false := by
  rw [Bool.eq_false_iff]
  intro e
  apply h
  simp only [Sp.may, Bool.and_eq_true, decide_eq_true_eq, Bool.or_eq_true, ← List.length_eq_zero_iff] at e
  exact e
theorem may_yes {s : Sp} (h : 0 ≤ s.op ∧ s.op < 9 ∧ (bOp s.op = true ∨ s.b.length = 0) ∧ (sOp s.op = true ∨ s.shard = 0) ∧ s.b.length ≤ 65535 ∧ 0 ≤ s.shard ∧ s.shard ≤ 255) : s.may = true := by
  simp only [Sp.may, Bool.and_eq_true, decide_eq_true_eq, Bool.or_eq_true, ← List.length_eq_zero_iff]
  exact h
theorem may_parts {s : Sp} (e : s.may = true) : 0 ≤ s.op ∧ s.op < 9 ∧ (bOp s.op = true ∨ s.b.length = 0) ∧ (sOp s.op = true ∨ s.shard = 0) ∧ s.b.length ≤ 65535 ∧ 0 ≤ s.shard ∧ s.shard ≤ 255 := by
  simp only [Sp.may, Bool.and_eq_true, decide_eq_true_eq, Bool.or_eq_true, ← List.length_eq_zero_iff] at e
  exact e

set_option maxRecDepth 100000 in
set_option maxHeartbeats 2000000 in
theorem spMay_any (s : Sp) (A : Option Addr) (cap : Nat) (w : World) : Calls Tryz.prog 35 #[.agg #[.int .i64 s.op, .int .i64 s.shard, .slice A s.b.length cap]] w (Gives w (.bool s.may)) := by
  obtain ⟨m, hm⟩ : ∃ m, s.may = m := ⟨_, rfl⟩
  rw [hm]
  have HN := hide (fun h => hm.symm.trans (may_no (s := s) h))
  have HY := hide (fun h => hm.symm.trans (may_yes (s := s) h))
  clear hm
  obtain ⟨op, shard, b⟩ := s
  simp only at HN HY ⊢
  obtain ⟨n, hn⟩ : ∃ n, b.length = n := ⟨_, rfl⟩
  rw [hn] at HN HY ⊢
  clear hn
  go_enter Tryz.func35, Tryz.ntmps35
  go_wp2_with (first
    | (go_at_call 36; refine (bOp_any _ _).mono ?_; rintro e w' ⟨rfl, rfl⟩)
    | (go_at_call 38; refine (sOp_any _ _).mono ?_; rintro e w' ⟨rfl, rfl⟩))
  all_goals go_ret
  all_goals
    refine ⟨congrArg (fun b => Ending.returned (Value.bool b)) ?_, ((Le.refl w).alloc _).out⟩
    have hN := HN.out
    have hY := HY.out
    clear HN HY
    cases m
    all_goals (first | rfl | (simp_all; done) | (simp_all; omega) | (simp at hN hY; simp_all; omega))
end Go.Proofs.YtkcpfhbfjpldhaaGreatDoor
