/- What vp8.Parse reads, in plain lists. -/
import Derived.Test.YtkbdbandeioibaaVp8P
namespace Go.Proofs.Ytkbdbandeioibaa
open Go.RowKit
set_option linter.unusedVariables false

theorem tk_keep (l : List UInt8) (e : Int) (h : e ≠ 0) : tk (l, e) = (l, e) := by simp [tk, cut, h]
theorem tk_stays (s : List UInt8 × Int) (h : s.2 ≠ 0) : (tk s).2 ≠ 0 := by
  obtain ⟨l, e⟩ := s
  rw [tk_keep l e h]
  exact h
theorem one_stays (n : Nat) (r : Rd8) (h : r.s.2 ≠ 0) : (r.one n).s.2 ≠ 0 := by
  unfold Rd8.one firstS
  split
  · split
    · exact tk_stays _ (tk_stays _ h)
    · exact tk_stays _ h
  · exact h
theorem two_stays (n : Nat) (r : Rd8) (h : r.s.2 ≠ 0) : (r.two n).s.2 ≠ 0 := by
  unfold Rd8.two
  split
  · exact tk_stays _ h
  · exact h
theorem three_stays (r : Rd8) (h : r.s.2 ≠ 0) : r.three.s.2 ≠ 0 := by
  unfold Rd8.three
  split
  · exact tk_stays _ h
  · exact h

/-- the bytes of a picture's number, of a layer, of the rest -/
def OkP (p : Bool) (P : List UInt8) : Prop := (p = false ∧ P = []) ∨ (p = true ∧ ∃ y, P = [y] ∧ bt y.toNat 128 = false) ∨ (p = true ∧ ∃ y z, P = [y, z] ∧ bt y.toNat 128 = true)
def Ok1 (p : Bool) (P : List UInt8) : Prop := (p = false ∧ P = []) ∨ (p = true ∧ ∃ y, P = [y])
def setP (d : Dsc) : List UInt8 → Dsc
  | [y] => { d with wide := false, pic := y.toNat }
  | [y, z] => { d with wide := true, pic := (y.toNat % 128) * 256 + z.toNat }
  | _ => d
def setT (d : Dsc) : List UInt8 → Dsc
  | [t] => d.second t.toNat
  | _ => d
def setK (d : Dsc) : List UInt8 → Dsc
  | [k] => d.third k.toNat
  | _ => d
def place (i : Int) (P : List UInt8) (x : Int) : Int := if P = [] then x else i

theorem one_form (n : Nat) (r : Rd8) (P l : List UInt8) (hs : r.s = (P ++ l, 0)) (h : OkP r.d.hasPic P) : r.one n = ⟨setP r.d P, place ((n : Int) - r.s.1.length) P r.pp, r.tp, (l, 0)⟩ := by
  obtain ⟨d, pp, tp, s⟩ := r
  simp only at hs h
  subst hs
  rcases h with ⟨hp, rfl⟩ | ⟨hp, y, rfl, hy⟩ | ⟨hp, y, z, rfl, hy⟩
  · simp [Rd8.one, hp, setP, place]
  · simp [Rd8.one, hp, setP, place, firstS, Dsc.first, by1_cons, tk_cons, hy]
  · simp [Rd8.one, hp, setP, place, firstS, Dsc.first, by1_cons, tk_cons, hy]
theorem two_form (n : Nat) (r : Rd8) (P l : List UInt8) (hs : r.s = (P ++ l, 0)) (h : Ok1 r.d.hasTl0 P) : r.two n = ⟨setT r.d P, r.pp, place ((n : Int) - r.s.1.length) P r.tp, (l, 0)⟩ := by
  obtain ⟨d, pp, tp, s⟩ := r
  simp only at hs h
  subst hs
  rcases h with ⟨hp, rfl⟩ | ⟨hp, y, rfl⟩
  · simp [Rd8.two, hp, setT, place]
  · simp [Rd8.two, hp, setT, place, by1_cons, tk_cons]
theorem three_form (r : Rd8) (P l : List UInt8) (hs : r.s = (P ++ l, 0)) (h : Ok1 (r.d.hasTid || r.d.hasKey) P) : r.three = ⟨setK r.d P, r.pp, r.tp, (l, 0)⟩ := by
  obtain ⟨d, pp, tp, s⟩ := r
  simp only at hs h
  subst hs
  rcases h with ⟨hp, rfl⟩ | ⟨hp, y, rfl⟩
  · simp only [Rd8.three, hp, setK]
    simp
  · simp [Rd8.three, hp, setK, by1_cons, tk_cons]
theorem one_split (n : Nat) (r : Rd8) (l : List UInt8) (hs : r.s = (l, 0)) (h : (r.one n).s.2 = 0) : ∃ P l', l = P ++ l' ∧ OkP r.d.hasPic P := by
  obtain ⟨d, pp, tp, s⟩ := r
  simp only at hs
  subst hs
  cases hp : d.hasPic
  · exact ⟨[], l, rfl, .inl ⟨rfl, rfl⟩⟩
  · cases l with
    | nil => simp [Rd8.one, hp, firstS, by1_nil, tk_nil, bt] at h
    | cons y l =>
      cases hy : bt y.toNat 128
      · exact ⟨[y], l, rfl, .inr (.inl ⟨rfl, y, rfl, hy⟩)⟩
      · cases l with
        | nil => simp [Rd8.one, hp, firstS, by1_cons, tk_cons, hy, tk_nil] at h
        | cons z l => exact ⟨[y, z], l, rfl, .inr (.inr ⟨rfl, y, z, rfl, hy⟩)⟩
theorem two_split (n : Nat) (r : Rd8) (l : List UInt8) (hs : r.s = (l, 0)) (h : (r.two n).s.2 = 0) : ∃ P l', l = P ++ l' ∧ Ok1 r.d.hasTl0 P := by
  obtain ⟨d, pp, tp, s⟩ := r
  simp only at hs
  subst hs
  cases hp : d.hasTl0
  · exact ⟨[], l, rfl, .inl ⟨rfl, rfl⟩⟩
  · cases l with
    | nil => simp [Rd8.two, hp, tk_nil] at h
    | cons y l => exact ⟨[y], l, rfl, .inr ⟨rfl, y, rfl⟩⟩
theorem three_split (r : Rd8) (l : List UInt8) (hs : r.s = (l, 0)) (h : r.three.s.2 = 0) : ∃ P l', l = P ++ l' ∧ Ok1 (r.d.hasTid || r.d.hasKey) P := by
  obtain ⟨d, pp, tp, s⟩ := r
  simp only at hs
  subst hs
  cases hp : (d.hasTid || d.hasKey)
  · exact ⟨[], l, by rfl, .inl ⟨rfl, rfl⟩⟩
  · cases l with
    | nil => simp [Rd8.three, hp, tk_nil] at h
    | cons y l => exact ⟨[y], l, rfl, .inr ⟨rfl, y, rfl⟩⟩

/-- bytes that begin with a descriptor of more than one byte -/
structure Form (x0 x1 : UInt8) (P T K : List UInt8) : Prop where
  more : bt x0.toNat 128 = true
  p : OkP (bt x1.toNat 128) P
  t : Ok1 (bt x1.toNat 64) T
  k : Ok1 (bt x1.toNat 32 || bt x1.toNat 16) K
def formD (x0 x1 : UInt8) (P T K : List UInt8) : Dsc := setK (setT (setP ((Dsc.head x0.toNat).has x1.toNat) P) T) K
def formB (x0 x1 : UInt8) (P T K rest : List UInt8) : List UInt8 := x0 :: x1 :: (P ++ (T ++ (K ++ rest)))

theorem setP_tl0 (d : Dsc) (P : List UInt8) : (setP d P).hasTl0 = d.hasTl0 := by unfold setP; split <;> rfl
theorem setP_tid (d : Dsc) (P : List UInt8) : (setP d P).hasTid = d.hasTid := by unfold setP; split <;> rfl
theorem setP_key (d : Dsc) (P : List UInt8) : (setP d P).hasKey = d.hasKey := by unfold setP; split <;> rfl
theorem setT_tid (d : Dsc) (P : List UInt8) : (setT d P).hasTid = d.hasTid := by unfold setT; split <;> rfl
theorem setT_key (d : Dsc) (P : List UInt8) : (setT d P).hasKey = d.hasKey := by unfold setT; split <;> rfl

theorem form_parse {x0 x1 : UInt8} {P T K : List UInt8} (rest : List UInt8) (h : Form x0 x1 P T K) : vpParse (formB x0 x1 P T K rest) = ⟨formD x0 x1 P T K, place 2 P 0, place (2 + P.length) T 0, (rest, 0)⟩ := by
  have hm : bt (by1 (formB x0 x1 P T K rest, 0)) 128 = true := by rw [formB, by1_cons]; exact h.more
  rw [vpParse, if_pos hm]
  have h1 : rd1 (formB x0 x1 P T K rest) = ⟨(Dsc.head x0.toNat).has x1.toNat, 0, 0, (P ++ (T ++ (K ++ rest)), 0)⟩ := by simp [rd1, rd0, formB, by1_cons, tk_cons]
  rw [h1, one_form (P := P) (l := T ++ (K ++ rest)) _ _ rfl h.p]
  rw [two_form (P := T) (l := K ++ rest) _ _ rfl (by rw [setP_tl0]; exact h.t)]
  rw [three_form (P := K) (l := rest) _ rfl (by simp only; rw [setT_tid, setT_key, setP_tid, setP_key]; exact h.k)]
  have e1 : ((formB x0 x1 P T K rest).length : Int) - (P ++ (T ++ (K ++ rest))).length = 2 := by simp [formB]; omega
  have e2 : ((formB x0 x1 P T K rest).length : Int) - (T ++ (K ++ rest)).length = 2 + P.length := by simp [formB]; omega
  simp only [e1, e2]
  rfl
theorem lone_parse (x0 : UInt8) (rest : List UInt8) (h : bt x0.toNat 128 = false) : vpParse (x0 :: rest) = ⟨Dsc.head x0.toNat, 0, 0, (rest, 0)⟩ := by
  rw [vpParse, by1_cons, h]
  simp [rd0, by1_cons, tk_cons]
theorem form_of (b : List UInt8) (h : vpE b = 0) : (∃ x0 rest, b = x0 :: rest ∧ bt x0.toNat 128 = false) ∨ ∃ x0 x1 P T K rest, b = formB x0 x1 P T K rest ∧ Form x0 x1 P T K := by
  unfold vpE vpParse at h
  cases b with
  | nil => simp [by1_nil, rd0, tk_nil, bt] at h
  | cons x0 t =>
    cases hm : bt x0.toNat 128
    · exact .inl ⟨x0, t, rfl, hm⟩
    · right
      rw [by1_cons, hm, if_pos rfl] at h
      have h3 : ((rd1 (x0 :: t)).one (x0 :: t).length).two (x0 :: t).length |>.s.2 = 0 := Decidable.byContradiction fun hc => three_stays _ hc h
      have h2 : ((rd1 (x0 :: t)).one (x0 :: t).length).s.2 = 0 := Decidable.byContradiction fun hc => two_stays _ _ hc h3
      have h1 : (rd1 (x0 :: t)).s.2 = 0 := Decidable.byContradiction fun hc => one_stays _ _ hc h2
      cases t with
      | nil => simp [rd1, rd0, tk_cons, tk_nil] at h1
      | cons x1 t =>
        have e1 : rd1 (x0 :: x1 :: t) = ⟨(Dsc.head x0.toNat).has x1.toNat, 0, 0, (t, 0)⟩ := by simp [rd1, rd0, by1_cons, tk_cons]
        rw [e1] at h h2 h3
        obtain ⟨P, l, rfl, hP⟩ := one_split _ _ t rfl h2
        rw [one_form (P := P) (l := l) _ _ rfl hP] at h h3
        obtain ⟨T, l, rfl, hT⟩ := two_split _ _ l rfl h3
        rw [two_form (P := T) (l := l) _ _ rfl hT] at h
        obtain ⟨K, l, rfl, hK⟩ := three_split _ l rfl h
        simp only at hT hK
        rw [setP_tl0] at hT
        rw [setT_tid, setT_key, setP_tid, setP_key] at hK
        exact ⟨x0, x1, P, T, K, l, rfl, hm, hP, hT, hK⟩
end Go.Proofs.Ytkbdbandeioibaa
