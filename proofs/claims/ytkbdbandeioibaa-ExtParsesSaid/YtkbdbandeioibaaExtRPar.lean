/- louverref05.Parse. -/
import Derived.Test.YtkbdbandeioibaaExtPar
import Derived.Test.YtkbdbandeioibaaExt2
namespace Go.Proofs.Ytkbdbandeioibaa
open Go.RowKit
set_option linter.unusedVariables false

theorem str_tail (a b : List UInt8) (h : a = b) : Value.string (str a) = Value.string (str b) := by rw [h]
structure RInv (s : Bool) (R : List It × Int) (w wr : World) (sv v : Value) : Prop where
  ex : ∃ (f : Nat) (L : List UInt8) (out : List It), L.length ≤ f ∧ L.length ≤ 100000 ∧ sv = .string (str L) ∧ Hd (parseF s f out L = R) ∧ out.length ≤ 14 ∧ Hd (wr.ownsRow w.heap.size 42 2 v out.length (out.flatMap encR)) ∧ Le w wr

def RParP (w : World) (out : List It) (err : Int) (e : Ending) (w' : World) : Prop :=
  ∃ A cap, e = .returned (.tuple #[.slice A out.length cap, .int .i64 err]) ∧ RSl 2 RI w' out (.slice A out.length cap) ∧ Below w.heap.size w w'
theorem rparP_mk {w w' : World} {R : List It × Int} {out : List It} {err : Int} {A : Option Addr} {n cap : Nat} (hR : R = (out, err)) (hn : n = out.length) (hr : RSl 2 RI w' out (.slice A n cap)) (hb : Below w.heap.size w w') :
    RParP w R.1 R.2 (.returned (.tuple #[.slice A n cap, .int .i64 err])) w' := by
  subst hR hn
  exact ⟨A, cap, rfl, hr, hb⟩

set_option maxRecDepth 100000 in
set_option maxHeartbeats 4000000 in
theorem rextParse_any (pr : Nat) (l : List UInt8) (w : World) (hp : pr < 65536) (hl : l.length ≤ 100000) :
    Calls Try.prog 22 #[.int .u16 pr, .string (str l)] w (RParP w (extParse pr l).1 (extParse pr l).2) := by
  have hk : profK pr = 0 ∨ profK pr = 1 ∨ profK pr = 2 := by unfold profK; split <;> (try split) <;> simp
  rcases hk with hk | hk | hk
  · have HE := hide (show extParse pr l = ([], 0) by rw [extParse, if_pos hk])
    have hne : ((pr : Int) != 48862) = true := by
      rw [bne_iff_ne]; unfold profK at hk; intro h
      rw [if_neg (by omega), if_pos (by omega)] at hk
      omega
    have hlg : pr < 4096 ∨ 4111 < pr := by
      unfold profK at hk
      by_cases h : 4096 ≤ pr ∧ pr < 4112
      · rw [if_pos h] at hk; omega
      · omega
    have HK := hide hk
    clear hk
    rcases hlg with h | h
    · have hI : (pr : Int) < 4096 := by omega
      clear h
      go_enter Try.func22, Try.ntmps22
      go_wp2_with fail
      go_ret2
      exact rparP_mk HE.out rfl RSl.nil (Below.refl _ _)
    · have hI : ¬ (pr : Int) < 4096 := by omega
      have hI2 : (4111 : Int) < (pr : Int) := by omega
      clear h
      go_enter Try.func22, Try.ntmps22
      go_wp2_with fail
      go_ret2
      exact rparP_mk HE.out rfl RSl.nil (Below.refl _ _)
  · have hR := (show extParse pr l = parseF true l.length [] l by rw [extParse, if_neg (by omega), hk]; rfl)
    have hpe : pr = 48862 := by
      unfold profK at hk
      by_cases h : 4096 ≤ pr ∧ pr < 4112
      · rw [if_pos h] at hk; omega
      · rw [if_neg h] at hk
        by_cases h2 : pr = 48862
        · exact h2
        · rw [if_neg h2] at hk; omega
    subst hpe
    obtain ⟨R, hRR⟩ : ∃ R, extParse 48862 l = R := ⟨_, rfl⟩
    rw [hRR] at hR
    have HRR := hide hRR
    have HR0 := hide hR.symm
    clear hk hR hRR
    go_enter Try.func22, Try.ntmps22
    go_wp2_with fail
    go_loopw [1, 6] (fun sv v wr => RInv true R w wr sv v) (fun sv _ _ => match sv with | .string s => s.size | _ => 0)
    case atStart => exact ⟨l.length, l, [], Nat.le_refl _, hl, rfl, HR0, by simp, hide (World.ownsRow_nil _ _ _ _), Le.refl _⟩
    case round =>
      clear HR0
      obtain ⟨f, L, out, hf, hL, rfl, HF, ho, HO, hle⟩ := hrel
      obtain ⟨A, cap, rfl, _, _⟩ := own_slice HO.out
      rcases L with _ | ⟨a, L⟩
      · have HE := hide (show R = (out, 0) by rw [← HF.out, parseF_nil])
        have hem : (([] : List UInt8) == []) = true := rfl
        go_wp2_with fail
        go_ret2
        exact rparP_mk (HRR.out.trans HE.out) rfl (rsl_ri HO.out) hle.out
      obtain ⟨f, rfl⟩ : ∃ f', f = f' + 1 := ⟨f - 1, by simp at hf; omega⟩
      have hf' : L.length ≤ f := by simpa using hf
      have hL' : L.length + 1 ≤ 100000 := by simpa using hL
      clear hf hL
      have ha := a.toNat_lt
      have hpos : (0 : Int) < (((a :: L).length : Nat) : Int) := by rw [List.length_cons]; omega
      have hne : ((a :: L) == ([] : List UInt8)) = false := rfl
      by_cases ha0 : a.toNat = 0
      · have HF2 := hide (show parseF true f out L = R by rw [← HF.out, parseF_zero ha0])
        have ha0I : ((a.toNat : Int) == 0) = true := by rw [beq_iff_eq]; omega
        have h1l : (1 : Int) ≤ (((a :: L).length : Nat) : Int) := by rw [List.length_cons]; omega
        have hx2 : (str (a :: L)).extract 1 (a :: L).length = str L := by rw [str_extract_end]; rfl
        have hx3 : (str (a :: L)).extract 1 (str (a :: L)).size = str L := by rw [str_size]; exact hx2
        clear ha0
        go_wp2_with fail
        go_roundw
        case rel => first | exact ⟨f, L, out, hf', by omega, rfl, HF2, ho, HO, hle⟩ | exact ⟨_, _, _, _, ⟨f, L, out, hf', by omega, rfl, HF2, ho, HO, hle⟩, rfl, rfl, rfl, rfl⟩
        case measure => first | (simp only [str_size, List.length_cons]; omega) | (simp [str_size]; omega)
      have ha0I : ((a.toNat : Int) == 0) = false := by rw [beq_eq_false_iff_ne]; omega
      have HFS := hide (HF.out.symm.trans (parseF_short ha0))
      clear ha0
      by_cases h15 : a.toNat / 16 = 15
      · have HF2 := hide (show R = (out, 0) by rw [HFS.out, if_pos h15])
        have h15I : (((a.toNat : Int) / 16) == 15) = true := by rw [beq_iff_eq]; omega
        clear h15
        go_wp2_with fail
        go_ret2
        exact rparP_mk (HRR.out.trans HF2.out) rfl (rsl_ri HO.out) hle.out
      have h15I : (((a.toNat : Int) / 16) == 15) = false := by rw [beq_eq_false_iff_ne]; omega
      by_cases hid : a.toNat / 16 = 0
      · have HF2 := hide (show R = ([], 11) by rw [HFS.out, if_neg h15, if_pos hid])
        have hidI : (((a.toNat : Int) / 16) == 0) = true := by rw [beq_iff_eq]; omega
        clear h15 hid
        go_wp2_with fail
        go_ret2
        exact rparP_mk (HRR.out.trans HF2.out) rfl RSl.nil hle.out
      have hidI : (((a.toNat : Int) / 16) == 0) = false := by rw [beq_eq_false_iff_ne]; omega
      have HFB := hide (show bodyX out (UInt8.ofNat (a.toNat / 16)) (a.toNat % 16 + 1) L (parseF true f) = R by rw [HFS.out, if_neg h15, if_neg hid])
      obtain ⟨y, hy⟩ : ∃ y, UInt8.ofNat (a.toNat / 16) = y := ⟨_, rfl⟩
      have hyI : (a.toNat : Int) / 16 = (y.toNat : Int) := by rw [← hy, UInt8.toNat_ofNat']; omega
      obtain ⟨m, hm⟩ : ∃ m, a.toNat % 16 + 1 = m := ⟨_, rfl⟩
      have hmI : (a.toNat : Int) % 16 + 1 = (m : Int) := by omega
      have hm16 : m ≤ 16 := by omega
      rw [hy, hm] at HFB
      rw [hyI] at h15I hidI
      go_upto_region 21 with fail
      clear h15 hid hy hyI hm hmI
      by_cases hsh : L.length < m
      · have HF3 := hide (show R = ([], 10) by rw [← HFB.out, bodyX_short hsh])
        have hshI : (((a :: L).length : Nat) : Int) < 1 + (m : Int) := by simp only [List.length_cons]; omega
        go_wp2_with fail
        go_ret2
        exact rparP_mk (HRR.out.trans HF3.out) rfl RSl.nil hle.out
      have hshI : ¬ (((a :: L).length : Nat) : Int) < 1 + (m : Int) := by simp only [List.length_cons]; omega
      by_cases h14 : out.length = 14
      · have HF3 := hide (show R = ([], 13) by rw [← HFB.out, bodyX_big hsh h14])
        have h14I : ((out.length : Int) == 14) = true := by rw [beq_iff_eq]; omega
        clear h14
        go_wp2_with fail
        go_ret2
        exact rparP_mk (HRR.out.trans HF3.out) rfl RSl.nil hle.out
      have h14I : ((out.length : Int) == 14) = false := by rw [beq_eq_false_iff_ne]; omega
      have HF3 := hide (show parseF true f (out ++ [(y, L.take m)]) (L.drop m) = R by rw [← HFB.out, bodyX_on hsh h14])
      have hol : out.length + 1 ≤ 14 := by omega
      have hb1 : (1 : Int) + (m : Int) ≤ (((a :: L).length : Nat) : Int) := by omega
      have hx1 : (str (a :: L)).extract 1 (1 + m) = str (L.take m) := by rw [str_extract]; congr 1; simp
      have hx2 : (str (a :: L)).extract (1 + m) (a :: L).length = str (L.drop m) := by rw [str_extract_end]; congr 1; rw [show 1 + m = m + 1 by omega]; simp
      have hx3 : (str (a :: L)).extract (1 + m) (str (a :: L)).size = str (L.drop m) := by rw [str_size]; exact hx2
      have HNE := hide h14
      clear h14
      go_wp2_with (at_builtin; go_must (refine wpl_app rfl slRI (.tmp 59) (.tmp 68) rfl (HO.out.alloc _) rfl rfl (news := [.int .u8 (y.toNat : Int), .string (str (L.take m))]) (cells_new _ _ _) rfl (by simp [Value.oneCell']) (by omega) (by omega) (le_alloc hle.size) ?_); intro v5 w5 ho5 hg5 hat5; have HG5 := hide hg5; have HO5 := hide ho5; clear hg5 ho5 hat5)
      go_roundw
      case rel =>
        have hld : (L.drop m).length ≤ L.length := by simp
        have hst : Value.string (str (List.take (L.length + 1 - (1 + m)) (List.drop (1 + m) (a :: L)))) = .string (str (L.drop m)) := str_tail _ _ (by rw [show 1 + m = m + 1 by omega, List.drop_succ_cons, List.take_of_length_le (by rw [List.length_drop]; omega)])
        have hq : Hd (w5.ownsRow w.heap.size 42 2 v5 (out ++ [(y, L.take m)]).length ((out ++ [(y, L.take m)]).flatMap encR)) := hide (by rw [List.flatMap_append, List.length_append]; exact HO5.out)
        first
        | exact ⟨f, L.drop m, out ++ [(y, L.take m)], by omega, by omega, hst, HF3, by simp; omega, hq, ⟨below_grown (hle.out.alloc hle.size _) (HO.out.alloc _) HG5.out (Nat.le_refl _) (le_alloc hle.size)⟩⟩
        | exact ⟨_, _, _, _, ⟨f, L.drop m, out ++ [(y, L.take m)], by omega, by omega, hst, HF3, by simp; omega, hq, ⟨below_grown (hle.out.alloc hle.size _) (HO.out.alloc _) HG5.out (Nat.le_refl _) (le_alloc hle.size)⟩⟩, rfl, rfl, rfl, rfl⟩
      case measure => first | omega | (simp only [str_size, List.length_cons]; omega) | (simp only [str_size, List.length_take, List.length_drop, List.length_cons]; omega) | (simp [str_size]; omega)

  · have hR := (show extParse pr l = parseF false l.length [] l by rw [extParse, if_neg (by omega), hk]; rfl)
    have hlg : 4096 ≤ pr ∧ pr < 4112 := by
      unfold profK at hk
      by_cases h : 4096 ≤ pr ∧ pr < 4112
      · exact h
      · rw [if_neg h] at hk
        by_cases h2 : pr = 48862
        · rw [if_pos h2] at hk; omega
        · rw [if_neg h2] at hk; omega
    have hI : ¬ (pr : Int) < 4096 := by omega
    have hI2 : ¬ (4111 : Int) < (pr : Int) := by omega
    have hne : ((pr : Int) == 48862) = false := by rw [beq_eq_false_iff_ne]; omega
    have hne2 : ((pr : Int) != 48862) = true := by rw [bne_iff_ne]; omega
    obtain ⟨R, hRR⟩ : ∃ R, extParse pr l = R := ⟨_, rfl⟩
    rw [hRR] at hR
    have HRR := hide hRR
    have HR0 := hide hR.symm
    clear hk hR hRR hlg
    go_enter Try.func22, Try.ntmps22
    go_wp2_with fail
    go_loopw [1, 6] (fun sv v wr => RInv false R w wr sv v) (fun sv _ _ => match sv with | .string s => s.size | _ => 0)
    case atStart => exact ⟨l.length, l, [], Nat.le_refl _, hl, rfl, HR0, by simp, hide (World.ownsRow_nil _ _ _ _), Le.refl _⟩
    case round =>
      clear HR0
      obtain ⟨f, L, out, hf, hL, rfl, HF, ho, HO, hle⟩ := hrel
      obtain ⟨A, cap, rfl, _, _⟩ := own_slice HO.out
      rcases L with _ | ⟨a, L⟩
      · have HE := hide (show R = (out, 0) by rw [← HF.out, parseF_nil])
        have hem : (([] : List UInt8) == []) = true := rfl
        go_wp2_with fail
        go_ret2
        exact rparP_mk (HRR.out.trans HE.out) rfl (rsl_ri HO.out) hle.out
      obtain ⟨f, rfl⟩ : ∃ f', f = f' + 1 := ⟨f - 1, by simp at hf; omega⟩
      have hf' : L.length ≤ f := by simpa using hf
      have hL' : L.length + 1 ≤ 100000 := by simpa using hL
      clear hf hL
      have ha := a.toNat_lt
      have hpos : (0 : Int) < (((a :: L).length : Nat) : Int) := by rw [List.length_cons]; omega
      have hne : ((a :: L) == ([] : List UInt8)) = false := rfl
      by_cases ha0 : a.toNat = 0
      · have HF2 := hide (show parseF false f out L = R by rw [← HF.out, parseF_zero ha0])
        have ha0I : ((a.toNat : Int) == 0) = true := by rw [beq_iff_eq]; omega
        have h1l : (1 : Int) ≤ (((a :: L).length : Nat) : Int) := by rw [List.length_cons]; omega
        have hx2 : (str (a :: L)).extract 1 (a :: L).length = str L := by rw [str_extract_end]; rfl
        have hx3 : (str (a :: L)).extract 1 (str (a :: L)).size = str L := by rw [str_size]; exact hx2
        clear ha0
        go_wp2_with fail
        go_roundw
        case rel => first | exact ⟨f, L, out, hf', by omega, rfl, HF2, ho, HO, hle⟩ | exact ⟨_, _, _, _, ⟨f, L, out, hf', by omega, rfl, HF2, ho, HO, hle⟩, rfl, rfl, rfl, rfl⟩
        case measure => first | (simp only [str_size, List.length_cons]; omega) | (simp [str_size]; omega)
      have ha0I : ((a.toNat : Int) == 0) = false := by rw [beq_eq_false_iff_ne]; omega
      rcases L with _ | ⟨b, L⟩
      · have HF2 := hide (show R = ([], 10) by rw [← HF.out, parseF_long1 ha0])
        have h2l : (([a] : List UInt8).length : Int) < 2 := by simp
        clear ha0
        go_wp2_with fail
        go_ret2
        exact rparP_mk (HRR.out.trans HF2.out) rfl RSl.nil hle.out
      have HFB := hide (show bodyX out a b.toNat L (parseF false f) = R by rw [← HF.out, parseF_long ha0])
      have hbl := b.toNat_lt
      have h2l : ¬ (((a :: b :: L).length : Nat) : Int) < 2 := by simp only [List.length_cons]; omega
      have h1l : (1 : Int) < (((a :: b :: L).length : Nat) : Int) := by simp only [List.length_cons]; omega
      have hLb : L.length + 1 ≤ f := by simpa using hf'
      have hLc : L.length + 2 ≤ 100000 := by simpa using hL'
      obtain ⟨m, hm⟩ : ∃ m, b.toNat = m := ⟨_, rfl⟩
      rw [hm] at HFB hbl
      clear ha0 hf' hL'
      go_upto_region 21 with fail
      clear hm
      by_cases hsh : L.length < m
      · have HF3 := hide (show R = ([], 10) by rw [← HFB.out, bodyX_short hsh])
        have hshI : (((a :: b :: L).length : Nat) : Int) < 2 + (m : Int) := by simp only [List.length_cons]; omega
        go_wp2_with fail
        go_ret2
        exact rparP_mk (HRR.out.trans HF3.out) rfl RSl.nil hle.out
      have hshI : ¬ (((a :: b :: L).length : Nat) : Int) < 2 + (m : Int) := by simp only [List.length_cons]; omega
      by_cases h14 : out.length = 14
      · have HF3 := hide (show R = ([], 13) by rw [← HFB.out, bodyX_big hsh h14])
        have h14I : ((out.length : Int) == 14) = true := by rw [beq_iff_eq]; omega
        clear h14
        go_wp2_with fail
        go_ret2
        exact rparP_mk (HRR.out.trans HF3.out) rfl RSl.nil hle.out
      have h14I : ((out.length : Int) == 14) = false := by rw [beq_eq_false_iff_ne]; omega
      have HF3 := hide (show parseF false f (out ++ [(a, L.take m)]) (L.drop m) = R by rw [← HFB.out, bodyX_on hsh h14])
      have hol : out.length + 1 ≤ 14 := by omega
      have hb1 : (2 : Int) + (m : Int) ≤ (((a :: b :: L).length : Nat) : Int) := by omega
      have hx1 : (str (a :: b :: L)).extract 2 (2 + m) = str (L.take m) := by rw [str_extract]; congr 1; simp
      have hx2 : (str (a :: b :: L)).extract (2 + m) (a :: b :: L).length = str (L.drop m) := by rw [str_extract_end]; congr 1; rw [show 2 + m = m + 2 by omega]; simp
      have hx3 : (str (a :: b :: L)).extract (2 + m) (str (a :: b :: L)).size = str (L.drop m) := by rw [str_size]; exact hx2
      have HNE := hide h14
      clear h14
      go_wp2_with (at_builtin; go_must (refine wpl_app rfl slRI (.tmp 59) (.tmp 68) rfl (HO.out.alloc _) rfl rfl (news := [.int .u8 (a.toNat : Int), .string (str (L.take m))]) (cells_new _ _ _) rfl (by simp [Value.oneCell']) (by omega) (by omega) (le_alloc hle.size) ?_); intro v5 w5 ho5 hg5 hat5; have HG5 := hide hg5; have HO5 := hide ho5; clear hg5 ho5 hat5)
      go_roundw
      case rel =>
        have hld : (L.drop m).length ≤ L.length := by simp
        have hst : Value.string (str (List.take (L.length + 1 + 1 - (2 + m)) (List.drop (2 + m) (a :: b :: L)))) = .string (str (L.drop m)) := str_tail _ _ (by rw [show 2 + m = m + 1 + 1 by omega, List.drop_succ_cons, List.drop_succ_cons, List.take_of_length_le (by rw [List.length_drop]; omega)])
        have hq : Hd (w5.ownsRow w.heap.size 42 2 v5 (out ++ [(a, L.take m)]).length ((out ++ [(a, L.take m)]).flatMap encR)) := hide (by rw [List.flatMap_append, List.length_append]; exact HO5.out)
        first
        | exact ⟨f, L.drop m, out ++ [(a, L.take m)], by omega, by omega, hst, HF3, by simp; omega, hq, ⟨below_grown (hle.out.alloc hle.size _) (HO.out.alloc _) HG5.out (Nat.le_refl _) (le_alloc hle.size)⟩⟩
        | exact ⟨_, _, _, _, ⟨f, L.drop m, out ++ [(a, L.take m)], by omega, by omega, hst, HF3, by simp; omega, hq, ⟨below_grown (hle.out.alloc hle.size _) (HO.out.alloc _) HG5.out (Nat.le_refl _) (le_alloc hle.size)⟩⟩, rfl, rfl, rfl, rfl⟩
      case measure => first | omega | (simp only [str_size, List.length_cons]; omega) | (simp only [str_size, List.length_take, List.length_drop, List.length_cons]; omega) | (simp [str_size]; omega)

end Go.Proofs.Ytkbdbandeioibaa
