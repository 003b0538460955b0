/- What is put is parsed as it was. -/
import Derived.Test.YtkbdbandeioibaaLaw07
import Derived.Test.YtkbdbandeioibaaVp8Sizes
namespace Go.Proofs.Ytkbdbandeioibaa
open Go.RowKit
set_option linter.unusedVariables false

theorem parse_more (b m : List UInt8) (h : vpE b = 0) : vpParse (b ++ m) = ⟨(vpParse b).d, (vpParse b).pp, (vpParse b).tp, ((vpParse b).s.1 ++ m, 0)⟩ := by
  rcases form_of b h with ⟨x0, rest, rfl, h0⟩ | ⟨x0, x1, P, T, K, rest, rfl, hF⟩
  · rw [List.cons_append, lone_parse x0 _ h0, lone_parse x0 _ h0]
  · have e : formB x0 x1 P T K rest ++ m = formB x0 x1 P T K (rest ++ m) := by simp [formB]
    rw [e, form_parse _ hF, form_parse _ hF]
theorem nat_u8 (n : Nat) (h : n < 256) : (UInt8.ofNat n).toNat = n := by rw [UInt8.toNat_ofNat']; omega

set_option maxRecDepth 100000 in
theorem p0_bits (more lone start : Bool) (part : Nat) (hp : part ≤ 7) : Dsc.head (bitN more 128 ||| bitN lone 32 ||| bitN start 16 ||| part) = { Dsc.zero with more := more, lone := lone, start := start, part := part } ∧ (bitN more 128 ||| bitN lone 32 ||| bitN start 16 ||| part) < 256 ∧ bt (bitN more 128 ||| bitN lone 32 ||| bitN start 16 ||| part) 128 = more := by
  have h : ∀ more lone start : Bool, ∀ part, part < 8 → Dsc.head (bitN more 128 ||| bitN lone 32 ||| bitN start 16 ||| part) = { Dsc.zero with more := more, lone := lone, start := start, part := part } ∧ (bitN more 128 ||| bitN lone 32 ||| bitN start 16 ||| part) < 256 ∧ bt (bitN more 128 ||| bitN lone 32 ||| bitN start 16 ||| part) 128 = more := by decide
  exact h more lone start part (by omega)
theorem p1_bits (a b c e : Bool) : (bitN a 128 ||| bitN b 64 ||| bitN c 32 ||| bitN e 16) < 256 ∧ bt (bitN a 128 ||| bitN b 64 ||| bitN c 32 ||| bitN e 16) 128 = a ∧ bt (bitN a 128 ||| bitN b 64 ||| bitN c 32 ||| bitN e 16) 64 = b ∧ bt (bitN a 128 ||| bitN b 64 ||| bitN c 32 ||| bitN e 16) 32 = c ∧ bt (bitN a 128 ||| bitN b 64 ||| bitN c 32 ||| bitN e 16) 16 = e := by
  cases a <;> cases b <;> cases c <;> cases e <;> decide
set_option maxRecDepth 100000 in
theorem p4_bits (t : Nat) (s : Bool) (k : Nat) (ht : t ≤ 3) (hk : k ≤ 31) : (t * 64 ||| bitN s 32 ||| k) < 256 ∧ (t * 64 ||| bitN s 32 ||| k) / 64 = t ∧ bt (t * 64 ||| bitN s 32 ||| k) 32 = s ∧ (t * 64 ||| bitN s 32 ||| k) % 32 = k := by
  have h : ∀ t, t < 4 → ∀ s : Bool, ∀ k, k < 32 → (t * 64 ||| bitN s 32 ||| k) < 256 ∧ (t * 64 ||| bitN s 32 ||| k) / 64 = t ∧ bt (t * 64 ||| bitN s 32 ||| k) 32 = s ∧ (t * 64 ||| bitN s 32 ||| k) % 32 = k := by decide
  exact h t (by omega) s k (by omega)
theorem or_wide (p : Nat) (h : p < 32768) : 32768 ||| p = 32768 + p := by
  have := Nat.two_pow_add_eq_or_of_lt (i := 15) h 1
  simpa using this.symm
theorem be_one (x : Nat) : putOne (x, 1) = [UInt8.ofNat x] := by simp [putOne, mayB, be, bAt, List.range_succ]
theorem be_two (x : Nat) : putOne (x, 2) = [UInt8.ofNat (x / 256), UInt8.ofNat x] := by simp [putOne, mayB, be, bAt, List.range_succ]

/-- the bytes of a descriptor that may be, and what is read in them -/
theorem put_parse (d : Dsc) (h : d.right = true) (hd : d.Ok) (rest : List UInt8) : ∃ pp tp, vpParse (puts d.ps4 ++ rest) = ⟨d, pp, tp, (rest, 0)⟩ := by
  have hc := right_clean d h
  simp only [Dsc.right, Bool.and_eq_true, decide_eq_true_eq] at h
  obtain ⟨_, hpart, hpic, htid, hkey⟩ := h
  obtain ⟨more, lone, start, part, hasPic, wide, pic, hasTl0, tl0, hasTid, tid, sync, hasKey, key⟩ := d
  obtain ⟨_, _, ht0, _, _⟩ := hd
  simp only at hpart hpic htid hkey ht0
  obtain ⟨q1, q2, q3⟩ := p0_bits more lone start part hpart
  obtain ⟨r1, r2, r3, r4, r5⟩ := p1_bits hasPic hasTl0 hasTid hasKey
  obtain ⟨s1, s2, s3, s4⟩ := p4_bits tid sync key htid hkey
  cases more
  · simp only [Dsc.clean, Dsc.zero, if_true] at hc
    injection hc with _ _ _ _ e1 e2 e3 e4 e5 e6 e7 e8 e9 e10
    subst e1 e2 e3 e4 e5 e6 e7 e8 e9 e10
    refine ⟨0, 0, ?_⟩
    have e : puts (Dsc.ps4 ⟨false, lone, start, part, false, false, 0, false, 0, false, 0, false, false, 0⟩) ++ rest = UInt8.ofNat (bitN false 128 ||| bitN lone 32 ||| bitN start 16 ||| part) :: rest := by
      simp [Dsc.ps4, Dsc.ps3, Dsc.ps2, Dsc.ps1, puts, be_one, Dsc.p0]
    rw [e, lone_parse _ _ (by rw [nat_u8 _ q2]; exact q3), nat_u8 _ q2, q1]
    rfl
  · have hP : ∃ P, OkP hasPic P ∧ (puts (if wide then [(32768 ||| pic, 2)] else if hasPic then [(pic, 1)] else [])) = P ∧ (∀ d : Dsc, d.hasPic = hasPic → d.wide = false → d.pic = 0 → setP d P = { d with wide := wide, pic := pic }) := by
      cases hasPic
      · have e : wide = false ∧ pic = 0 := by
          simp only [Dsc.clean] at hc
          cases hasTl0 <;> cases hasTid <;> cases hasKey <;> simp at hc <;> simp_all
        obtain ⟨rfl, rfl⟩ := e
        refine ⟨[], .inl ⟨rfl, rfl⟩, by simp [puts], fun d _ h2 h3 => ?_⟩
        obtain ⟨_, _, _, _, _, _, _, _, _, _, _, _, _, _⟩ := d
        simp only at h2 h3
        subst h2 h3
        rfl
      · cases wide
        · simp only [Bool.false_eq_true, if_false] at hpic
          have hy : (UInt8.ofNat pic).toNat = pic := nat_u8 _ (by omega)
          have hb : bt pic 128 = false := by simp [bt]; omega
          refine ⟨[UInt8.ofNat pic], .inr (.inl ⟨rfl, _, rfl, by rw [hy]; exact hb⟩), by simp [puts, be_one], fun d _ _ _ => ?_⟩
          simp [setP, hy]
        · simp only [if_true] at hpic
          have ho := or_wide pic (by omega)
          have h1 : (UInt8.ofNat ((32768 ||| pic) / 256)).toNat = 128 + pic / 256 := by rw [ho, nat_u8 _ (by omega)]; omega
          have h2 : (UInt8.ofNat (32768 ||| pic)).toNat = pic % 256 := by rw [ho, UInt8.toNat_ofNat']; omega
          refine ⟨[UInt8.ofNat ((32768 ||| pic) / 256), UInt8.ofNat (32768 ||| pic)], .inr (.inr ⟨rfl, _, _, rfl, by rw [h1]; simp [bt]; omega⟩), by simp [puts, be_two], fun d _ _ _ => ?_⟩
          simp only [setP, h1, h2]
          rw [show (128 + pic / 256) % 128 * 256 + pic % 256 = pic by omega]
    have hT : ∃ T, Ok1 hasTl0 T ∧ (puts (if hasTl0 then [(tl0, 1)] else [])) = T ∧ (∀ d : Dsc, d.tl0 = 0 → setT d T = { d with tl0 := tl0 }) := by
      cases hasTl0
      · have e : tl0 = 0 := by
          simp only [Dsc.clean] at hc
          cases hasPic <;> cases hasTid <;> cases hasKey <;> simp at hc <;> simp_all
        subst e
        refine ⟨[], .inl ⟨rfl, rfl⟩, by simp [puts], fun d h2 => ?_⟩
        obtain ⟨_, _, _, _, _, _, _, _, _, _, _, _, _, _⟩ := d
        simp only at h2
        subst h2
        rfl
      · refine ⟨[UInt8.ofNat tl0], .inr ⟨rfl, _, rfl⟩, by simp [puts, be_one], fun d _ => ?_⟩
        simp [setT, Dsc.second, nat_u8 _ ht0]
    have hK : ∃ K, Ok1 (hasTid || hasKey) K ∧ (puts (if hasTid || hasKey then [(tid * 64 ||| bitN sync 32 ||| key, 1)] else [])) = K ∧ (∀ d : Dsc, d.hasTid = hasTid → d.hasKey = hasKey → d.tid = 0 → d.sync = false → d.key = 0 → setK d K = { d with tid := tid, sync := sync, key := key }) := by
      have e1 : hasTid = false → tid = 0 ∧ sync = false := by
        rintro rfl
        simp only [Dsc.clean] at hc
        cases hasPic <;> cases hasTl0 <;> cases hasKey <;> simp at hc <;> simp_all
      have e2 : hasKey = false → key = 0 := by
        rintro rfl
        simp only [Dsc.clean] at hc
        cases hasPic <;> cases hasTl0 <;> cases hasTid <;> simp at hc <;> simp_all
      cases hk : (hasTid || hasKey)
      · have hh : hasTid = false ∧ hasKey = false := by simpa using hk
        obtain ⟨rfl, rfl⟩ := hh
        obtain ⟨rfl, rfl⟩ := e1 rfl
        obtain rfl := e2 rfl
        refine ⟨[], .inl ⟨rfl, rfl⟩, by simp [puts], fun d _ _ h3 h4 h5 => ?_⟩
        obtain ⟨_, _, _, _, _, _, _, _, _, _, _, _, _, _⟩ := d
        simp only at h3 h4 h5
        subst h3 h4 h5
        rfl
      · refine ⟨[UInt8.ofNat (tid * 64 ||| bitN sync 32 ||| key)], .inr ⟨rfl, _, rfl⟩, by simp [puts, be_one], fun d h1 h2 h3 h4 h5 => ?_⟩
        have f1 : (if hasTid = true then tid else 0) = tid := by
          cases hasTid
          · rw [(e1 rfl).1]; rfl
          · rfl
        have f2 : (if hasTid = true then sync else false) = sync := by
          cases hasTid
          · rw [(e1 rfl).2]; rfl
          · rfl
        have f3 : (if hasKey = true then key else 0) = key := by
          cases hasKey
          · rw [e2 rfl]; rfl
          · rfl
        rw [setK, nat_u8 _ s1, third_eq, s2, s3, s4, h1, h2, h3, h4, h5, f1, f2, f3]
    obtain ⟨P, okP, eP, sP⟩ := hP
    obtain ⟨T, okT, eT, sT⟩ := hT
    obtain ⟨K, okK, eK, sK⟩ := hK
    have e : puts (Dsc.ps4 ⟨true, lone, start, part, hasPic, wide, pic, hasTl0, tl0, hasTid, tid, sync, hasKey, key⟩) ++ rest =
        formB (UInt8.ofNat (bitN true 128 ||| bitN lone 32 ||| bitN start 16 ||| part)) (UInt8.ofNat (bitN hasPic 128 ||| bitN hasTl0 64 ||| bitN hasTid 32 ||| bitN hasKey 16)) P T K rest := by
      simp only [Dsc.ps4, Dsc.ps3, Dsc.ps2, Dsc.ps1, puts_append, Dsc.p0, Dsc.p1, Dsc.p4, if_true, eP, eT, eK]
      simp [puts, be_one, formB]
    have hF : Form (UInt8.ofNat (bitN true 128 ||| bitN lone 32 ||| bitN start 16 ||| part)) (UInt8.ofNat (bitN hasPic 128 ||| bitN hasTl0 64 ||| bitN hasTid 32 ||| bitN hasKey 16)) P T K :=
      ⟨by rw [nat_u8 _ q2]; exact q3, by rw [nat_u8 _ r1, r2]; exact okP, by rw [nat_u8 _ r1, r3]; exact okT, by rw [nat_u8 _ r1, r4, r5]; exact okK⟩
    have hD : formD (UInt8.ofNat (bitN true 128 ||| bitN lone 32 ||| bitN start 16 ||| part)) (UInt8.ofNat (bitN hasPic 128 ||| bitN hasTl0 64 ||| bitN hasTid 32 ||| bitN hasKey 16)) P T K = ⟨true, lone, start, part, hasPic, wide, pic, hasTl0, tl0, hasTid, tid, sync, hasKey, key⟩ := by
      rw [formD, nat_u8 _ q2, nat_u8 _ r1, q1]
      have eh : Dsc.has { Dsc.zero with more := true, lone := lone, start := start, part := part } (bitN hasPic 128 ||| bitN hasTl0 64 ||| bitN hasTid 32 ||| bitN hasKey 16) = ⟨true, lone, start, part, hasPic, false, 0, hasTl0, 0, hasTid, 0, false, hasKey, 0⟩ := by
        simp only [Dsc.has, r2, r3, r4, r5, Dsc.zero]
      rw [eh, sP _ rfl rfl rfl, sT _ rfl, sK _ rfl rfl rfl rfl rfl]
    exact ⟨place 2 P 0, place (2 + P.length) T 0, by rw [e, form_parse rest hF, hD]⟩
/-- cut anywhere it is short -/
theorem put_short (d : Dsc) (h : d.right = true) (hd : d.Ok) (k : Nat) (hk : k < (puts d.ps4).length) : vpE ((puts d.ps4).take k) = 10 := by
  rcases vpE_two ((puts d.ps4).take k) with h0 | h0
  · exfalso
    have h1 := parse_more _ ((puts d.ps4).drop k) h0
    rw [List.take_append_drop] at h1
    obtain ⟨pp, tp, h2⟩ := put_parse d h hd []
    rw [List.append_nil] at h2
    rw [h2] at h1
    injection h1 with _ _ _ e
    injection e with e _
    have := congrArg List.length e
    simp at this
    omega
  · exact h0
end Go.Proofs.Ytkbdbandeioibaa
