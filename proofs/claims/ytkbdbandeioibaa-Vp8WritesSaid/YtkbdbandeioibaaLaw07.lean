/- louverlaw07.awake. -/
import Derived.Test.YtkbdbandeioibaaVp8W
import Derived.Laws.OwnMore
namespace Go.Proofs.Ytkbdbandeioibaa
open Go.RowKit
set_option linter.unusedVariables false

theorem own_prefix {w : World} {base : Nat} {e : TypeId} {size g n m cap : Nat} {xs ys : List Value} (h : w.ownsRow base e size (.slice (some ⟨g, 0, none⟩) (n + m) cap) (n + m) (xs ++ ys)) (hx : xs.length = n * size) : w.ownsRow base e size (.slice (some ⟨g, 0, none⟩) n cap) n xs := by
  refine ⟨hx, .inr ?_⟩
  rcases h.2 with ⟨hv, _⟩ | ⟨g', cap', cur, hv, h1, h2, h3, h4, h5, h6⟩
  · cases hv
  · injection hv with e1 e2 e3
    injection e1 with e1
    injection e1 with e1 _ _
    subst e1 e3
    refine ⟨g, cap, cur, rfl, h1, h2, by omega, h4, h5, ?_⟩
    have h7 := congrArg (List.take (n * size)) h6
    rw [List.take_take, Nat.min_eq_left (Nat.mul_le_mul_right _ (by omega)), ← hx, List.take_left] at h7
    rw [← hx]
    exact h7
/-- append, and the old slice still reads as it did -/
theorem run_app_keep {P : Program} {w : World} {base : Nat} {t ty e : TypeId} {z : Value} {size bytes : Nat} (T : SlT P t e z size bytes)
    {g n cap : Nat} {xs : List Value} (hown : w.ownsRow base e size (.slice (some ⟨g, 0, none⟩) n cap) n xs) {b off m c : Nat} {news : List Value} (hl : news.length = m * size) (hc : Cells w (some ⟨b, off, none⟩) news) (hm : 0 < m)
    (h1 : ∀ u ∈ news, u.oneCell' = true) (hbytes : (n + m) * bytes ≤ 140737488355328) (h63 : n + m ≤ 9223372036854775807) (hbase : base ≤ w.heap.size) :
    ∃ v' w', (Builtin.append_ #[t, t] ty #[.slice (some ⟨g, 0, none⟩) n cap, .slice (some ⟨b, off, none⟩) m c]).run P w = .ok v' w' ∧ w'.ownsRow base e size v' (n + m) (xs ++ news) ∧ w.grownBy w' (some g) ∧ w'.ownsRow base e size (.slice (some ⟨g, 0, none⟩) n cap) n xs := by
  obtain ⟨i, hi, hz, hsz, hby⟩ := info_parts T.info
  have hne : news ≠ [] := by
    intro e; rw [e] at hl
    have := Nat.mul_pos hm T.pos
    simp at hl; omega
  obtain ⟨b', off', hA, hcell⟩ := hc hne
  injection hA with hA
  injection hA with e1 e2 _
  subst e1 e2
  have hnews : ∀ j u, news[j]? = some u → w.cell? ((⟨b, off, none⟩ : Addr).add j) = some u := fun j u hu => by rw [addr_add]; exact hcell j u hu
  by_cases hroom : n + m ≤ cap
  · obtain ⟨w', hr, h2, h3⟩ := run_append_fits (P := P) w base t ty e i size T.under hi hsz g n cap xs hown ⟨b, off, none⟩ m c news hl hnews h1 hroom
    exact ⟨_, w', hr, h2, h3, own_prefix h2 hown.1⟩
  · have hr := run_append_grow (P := P) w t ty e i z T.under hi hz ⟨g, 0, none⟩ n cap xs (by rw [hsz]; exact hown.1) (hown.cells (g := g) rfl) ⟨b, off, none⟩ m c news (by rw [hsz]; exact hl) hnews (by omega) (by omega) (growslice_fits (by omega) (by rw [hby]; exact hbytes))
    obtain ⟨v', w', hr', h2, h3, _⟩ := run_append_own_at (P := P) w base t ty e i z size bytes T.under hi hz hsz hby T.zs T.pos _ n xs hown ⟨b, off, none⟩ m c news hl hnews h1 (by simp only [maxLen]; omega) hbytes hbase
    rw [hr] at hr'
    injection hr' with e1 e2
    subst e1 e2
    exact ⟨_, _, hr, h2, h3, (show w.drew.ownsRow base e size _ n xs from hown).alloc _⟩
theorem wp_app_keep {P : Program} {o : Oper} {a : Act} {w : World} {K : Act → World → Prop} {Q : Exit → Act → World → Prop} {base : Nat} {t e : TypeId} {z : Value} {size bytes : Nat} (T : SlT P t e z size bytes)
    (s x : Operand) (ho : o.op = .call { callee := .builtin .append, args := #[s, x], argTypes := #[t, t] })
    {g n cap : Nat} {xs : List Value} (hown : w.ownsRow base e size (.slice (some ⟨g, 0, none⟩) n cap) n xs) (hs : a.eval s = .slice (some ⟨g, 0, none⟩) n cap) {b off m c : Nat} (hx : a.eval x = .slice (some ⟨b, off, none⟩) m c) {news : List Value} (hc : Cells w (some ⟨b, off, none⟩) news) (hl : news.length = m * size) (hm : 0 < m)
    (h1 : ∀ u ∈ news, u.oneCell' = true) (hbytes : (n + m) * bytes ≤ 140737488355328) (h63 : n + m ≤ 9223372036854775807) (hbase : base ≤ w.heap.size)
    (h : ∀ v' w', w'.ownsRow base e size v' (n + m) (xs ++ news) → w.grownBy w' (some g) → w'.ownsRow base e size (.slice (some ⟨g, 0, none⟩) n cap) n xs → K (a.put o.dst v') w') : o.wp P a w K Q := by
  obtain ⟨v', w', hr, h2, h3, h4⟩ := run_app_keep (P := P) (ty := o.type) T hown hl hc hm h1 hbytes h63 hbase
  unfold Oper.wp execOp
  simp only [ho, resolve, invoke, builtin, Sem.run_bind, Sem.run_pure, Result.andThen_ok, List.map_toArray, List.map_cons, List.map_nil, hs, hx]
  have hr' : Sem.run P (Builtin.append_ #[t, t] o.type #[.slice (some ⟨g, 0, none⟩) n cap, Value.slice (some ⟨b, off, none⟩) m c]) w = .ok v' w' := hr
  rw [hr']
  exact h v' w' h2 h3 h4

theorem wpl_app_keep {P : Program} {ops : Array Oper} {rest : List Oper} {o : Oper} {a : Act} {w : World} {Q : Exit → Act → World → Prop} (hwt : Region.wanted o (yielded ops a.tmps) = true) {base : Nat} {t e : TypeId} {z : Value} {size bytes : Nat} (T : SlT P t e z size bytes)
    (s x : Operand) (ho : o.op = .call { callee := .builtin .append, args := #[s, x], argTypes := #[t, t] })
    {g n cap : Nat} {xs : List Value} (hown : w.ownsRow base e size (.slice (some ⟨g, 0, none⟩) n cap) n xs) (hs : a.eval s = .slice (some ⟨g, 0, none⟩) n cap) {b off m c : Nat} (hx : a.eval x = .slice (some ⟨b, off, none⟩) m c) {news : List Value} (hc : Cells w (some ⟨b, off, none⟩) news) (hl : news.length = m * size) (hm : 0 < m)
    (h1 : ∀ u ∈ news, u.oneCell' = true) (hbytes : (n + m) * bytes ≤ 140737488355328) (h63 : n + m ≤ 9223372036854775807) (hbase : base ≤ w.heap.size)
    (h : ∀ v' w', w'.ownsRow base e size v' (n + m) (xs ++ news) → w.grownBy w' (some g) → w'.ownsRow base e size (.slice (some ⟨g, 0, none⟩) n cap) n xs → wpList P ops Q rest (a.put o.dst v') w') : wpList P ops Q (o :: rest) a w :=
  wpList_step fun K hK => by
    rw [if_pos hwt]
    exact wp_app_keep T s x ho hown hs hx hc hl hm h1 hbytes h63 hbase fun v' w' h2 h3 h4 => hK _ _ (h v' w' h2 h3 h4)

def dA : Dsc := ⟨true, false, true, 0, true, false, 5, false, 0, false, 0, false, false, 0⟩
theorem dA_B : vpB dA = [144, 128, 5] := by decide
theorem dA_F : vpF dA = 0 := by decide
theorem dA_P : vpV [144, 128, 5] = .tuple #[dA.val, .int .i64 3, .int .i64 0] := by
  have h1 : vpE [144, 128, 5] = 0 := by decide
  have h2 : vpN [144, 128, 5] = 3 := by decide
  have h3 : vpD [144, 128, 5] = dA := by decide
  rw [vpV, h1, h2, h3]
theorem dA_W : vpWr [144, 128, 5] 300 1 = [144, 128, 44] := by decide
theorem dA_E : vpE [144, 128, 5] = 0 := by decide
theorem dA_1 : vpW [144, 128, 5, 2] = true := by decide
theorem dA_2 : vpW [144, 128, 5] = false := by decide
theorem dA_ok : dA.Ok := ⟨by decide, by decide, by decide, by decide, by decide⟩

set_option maxRecDepth 100000 in
set_option maxHeartbeats 4000000 in
theorem awake07 (w : World) : Calls Try.prog 25 #[] w (Gives w (.bool true)) := by
  have hput := hide (fun w => put_any8 dA w dA_ok)
  rw [dA_B, dA_F] at hput
  go_enter Try.func25, Try.ntmps25
  go_wp2_with fail
  refine (hput.out _).mono ?_
  rintro e w1 ⟨v1, rfl, ho1, hb1⟩
  have HO1 := hide ho1
  have HL1 := hide (Le.mk hb1)
  obtain ⟨A1, cap1, rfl, hcap1, _⟩ := own_slice ho1
  obtain ⟨g, rfl⟩ : ∃ g, A1 = some ⟨g, 0, none⟩ := by
    rcases HO1.out.2 with ⟨hv, h0⟩ | ⟨g, c', cur, hv, _⟩
    · exact absurd h0 (by decide)
    · injection hv with e1 e2 e3
      exact ⟨g, e1⟩
  have HR1 := hide (rsl_of_own HO1.out)
  clear ho1 hb1 hput
  go_wp2_with fail
  have hpa := parseX_any (some ⟨g, 0, none⟩) cap1 [144, 128, 5] w1 HR1.out (by decide)
  rw [dA_P] at hpa
  refine hpa.mono ?_
  rintro e w2 ⟨rfl, hb2⟩
  have HL2 := hide (HL1.out.trans (Le.mk hb2))
  have HL12 := hide (Le.mk hb2)
  clear hb2 hpa
  simp only [dA, Dsc.val]
  go_wp2_with fail
  have hz := heap_alloc_new w2 (.cells (#[.bool true, .bool false, .bool true, .int .u8 0, .bool true, .bool false, .int .u16 5, .bool false, .int .u8 0, .bool false, .int .u8 0, .bool false, .bool false, .int .u8 0] : Array Value) 49)
  have HL3 := hide (HL2.out.alloc (.cells (#[.bool true, .bool false, .bool true, .int .u8 0, .bool true, .bool false, .int .u16 5, .bool false, .int .u8 0, .bool false, .int .u8 0, .bool false, .bool false, .int .u8 0] : Array Value) 49))
  have HL13 := hide (HL12.out.alloc (.cells (#[.bool true, .bool false, .bool true, .int .u8 0, .bool true, .bool false, .int .u16 5, .bool false, .int .u8 0, .bool false, .int .u8 0, .bool false, .bool false, .int .u8 0] : Array Value) 49))
  generalize w2.alloc (.cells (#[.bool true, .bool false, .bool true, .int .u8 0, .bool true, .bool false, .int .u16 5, .bool false, .int .u8 0, .bool false, .int .u8 0, .bool false, .bool false, .int .u8 0] : Array Value) 49) = w3 at *
  generalize w2.heap.size = p3 at *
  have HZ := hide hz
  clear hz HL2 HL12
  have hwr := write_any (some ⟨g, 0, none⟩) cap1 [144, 128, 5] 300 1 w3 (HL13.out.rsl keeps_u8 HR1.out) (by decide) (by decide) (by decide)
  rw [dA_W, dA_E] at hwr
  refine hwr.mono ?_
  clear hwr
  rintro e w4 ⟨v4, rfl, ho4, hb4⟩
  obtain ⟨A4, cap4, rfl, hcap4, _⟩ := own_slice ho4
  have HR4 := hide (rsl_of_own ho4)
  have HL34 := hide (Le.mk hb4)
  clear ho4 hb4
  have f1 := conv_le HR1.out w4 (HL13.out.trans HL34.out)
  have c0 : w4.cell? ⟨p3, 0, none⟩ = some (.bool true) := box_cell HZ.out 0 _ rfl _ HL34.out
  have c1 : w4.cell? ⟨p3, 1, none⟩ = some (.bool false) := box_cell HZ.out 1 _ rfl _ HL34.out
  have c2 : w4.cell? ⟨p3, 2, none⟩ = some (.bool true) := box_cell HZ.out 2 _ rfl _ HL34.out
  have c3 : w4.cell? ⟨p3, 3, none⟩ = some (.int .u8 0) := box_cell HZ.out 3 _ rfl _ HL34.out
  have c4 : w4.cell? ⟨p3, 4, none⟩ = some (.bool true) := box_cell HZ.out 4 _ rfl _ HL34.out
  have c5 : w4.cell? ⟨p3, 5, none⟩ = some (.bool false) := box_cell HZ.out 5 _ rfl _ HL34.out
  have c6 : w4.cell? ⟨p3, 6, none⟩ = some (.int .u16 5) := box_cell HZ.out 6 _ rfl _ HL34.out
  have c7 : w4.cell? ⟨p3, 7, none⟩ = some (.bool false) := box_cell HZ.out 7 _ rfl _ HL34.out
  have c8 : w4.cell? ⟨p3, 8, none⟩ = some (.int .u8 0) := box_cell HZ.out 8 _ rfl _ HL34.out
  have c9 : w4.cell? ⟨p3, 9, none⟩ = some (.bool false) := box_cell HZ.out 9 _ rfl _ HL34.out
  have c10 : w4.cell? ⟨p3, 10, none⟩ = some (.int .u8 0) := box_cell HZ.out 10 _ rfl _ HL34.out
  have c11 : w4.cell? ⟨p3, 11, none⟩ = some (.bool false) := box_cell HZ.out 11 _ rfl _ HL34.out
  have c12 : w4.cell? ⟨p3, 12, none⟩ = some (.bool false) := box_cell HZ.out 12 _ rfl _ HL34.out
  have c13 : w4.cell? ⟨p3, 13, none⟩ = some (.int .u8 0) := box_cell HZ.out 13 _ rfl _ HL34.out
  simp only [List.length_cons, List.length_nil, Nat.reduceAdd] at f1
  go_wp2_with fail
  have hbg := begins_any dA (by decide) w4
  rw [show dA.begins = true from by decide] at hbg
  refine hbg.mono ?_
  clear hbg
  rintro e w5 ⟨rfl, hb5⟩
  have HL45 := hide (Le.mk hb5)
  have f2 := conv_le HR4.out w5 HL45.out
  simp only [List.length_cons, List.length_nil, Nat.reduceAdd] at f2
  clear hb5 f1 c0 c1 c2 c3 c4 c5 c6 c7 c8 c9 c10 c11 c12 c13
  have HL15 := hide (HL13.out.trans (HL34.out.trans HL45.out))
  have ho5 := hide (own_base (HL15.out.own HO1.out) (Nat.zero_le _))
  have HLw := hide (HL3.out.trans (HL34.out.trans HL45.out))
  have HO5 := hide (show w5.ownsRow w.heap.size 5 1 (.slice (some ⟨g, 0, none⟩) 3 cap1) 3 (u8s [144, 128, 5]) from HL15.out.own HO1.out)
  clear ho5
  go_wp2_with (at_builtin; go_must (refine wpl_app_keep rfl sl8 (.tmp 58) (.tmp 59) rfl (HO5.out.alloc _) rfl rfl (news := [.int .u8 2]) (cells_new _ _ _) rfl (by omega) (by simp [Value.oneCell']) (by omega) (by omega) (le_alloc (Nat.le_trans HL1.out.size HL15.out.size)) ?_); intro v6 w6 ho6 hg6 hk6; obtain ⟨A6, cap6, rfl, hcap6, _⟩ := own_slice ho6; have HO6 := hide ho6; have HK6 := hide hk6; have HG6 := hide hg6; clear ho6 hk6 hg6)
  have HB6 := hide (below_row (HLw.out.out.alloc (HLw.out.size) (.cells #[.int .u8 2] 5)) HG6.out ((HO5.out.lt g rfl).1) (le_alloc HLw.out.size))
  have HR6 := hide (rsl_of_own (l := [144, 128, 5, 2]) HO6.out)
  have hw6 := whole_any A6 cap6 [144, 128, 5, 2] w6 HR6.out (by decide) (by decide)
  rw [dA_1] at hw6
  refine hw6.mono ?_
  clear hw6
  rintro e w7 ⟨rfl, hb7⟩
  have HL67 := hide (Le.mk hb7)
  have HR7 := hide (HL67.out.rsl keeps_u8 (rsl_of_own (l := [144, 128, 5]) HK6.out))
  clear hb7
  go_wp2_with fail
  have hw7 := whole_any (some ⟨g, 0, none⟩) cap1 [144, 128, 5] w7 HR7.out (by decide) (by decide)
  rw [dA_2] at hw7
  refine hw7.mono ?_
  clear hw7
  rintro e w8 ⟨rfl, hb8⟩
  have HL8 := hide ((Le.mk HB6.out).trans (HL67.out.trans (Le.mk hb8)))
  clear hb8
  go_wp2_with fail
  go_ret
  exact ⟨rfl, HL8.out.out⟩
end Go.Proofs.Ytkbdbandeioibaa
