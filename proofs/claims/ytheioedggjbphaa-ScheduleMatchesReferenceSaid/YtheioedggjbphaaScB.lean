/-
  Walks of the layer 'schedule': Len, First, Less.
-/
import Derived.Test.YtheioedggjbphaaScA
import Derived.Test.YtheioedggjbphaaLie
import Derived.Test.YtheioedggjbphaaRow
set_option linter.unusedVariables false
namespace Sc
def cmpI (a b : Int) : Int := if a < b then -1 else if b < a then 1 else 0
theorem less_cmp (J : List Jb) (a b : Nat) : less J a b = decide ((if cmpI (jat J a).due (jat J b).due ≠ 0 then cmpI (jat J a).due (jat J b).due else if cmpI (jat J b).prio (jat J a).prio ≠ 0 then cmpI (jat J b).prio (jat J a).prio else cmpI (a : Int) (b : Int)) < 0) := by
  unfold less
  congr 1
  unfold cmpI
  apply propext
  repeat' split
  all_goals omega
def orR (a b c : Int) : Int := if a ≠ 0 then a else if b ≠ 0 then b else c
def orL (l : List Int) : Int := (l.find? (fun x => decide (x ≠ 0))).getD 0
theorem orL_hit {l : List Int} {k : Nat} (h : k < l.length) (hn : ∀ j (h : j < l.length), j < k → l[j] = 0) (hk : l[k] ≠ 0) : orL l = l[k] := by
  unfold orL
  rw [(List.find?_eq_some_iff_getElem).2 ⟨by simpa using hk, k, h, rfl, fun j hj => by simpa using hn j (by omega) hj⟩]
  rfl
theorem orL_miss {l : List Int} (hn : ∀ j (h : j < l.length), l[j] = 0) : orL l = 0 := by
  unfold orL
  rw [List.find?_eq_none.2 (fun x hx => by obtain ⟨j, hj, rfl⟩ := List.getElem_of_mem hx; simpa using hn j hj)]
  rfl
theorem orL_three (a b c : Int) : orL [a, b, c] = orR a b c := by
  unfold orL orR
  by_cases h1 : a = 0 <;> by_cases h2 : b = 0 <;> by_cases h3 : c = 0 <;> simp [h1, h2, h3]
end Sc
namespace Go.Proofs.Ytheioedggjbphaa
open Go Go.RowKit Sc Sk Go.Sort
theorem isNaN_any (a : Int) (w : World) : Calls Try.prog 70 #[.int .i64 a] w (Ret w (.bool false)) := by
  go_enter Try.func70, Try.ntmps70
  go_wp2
  all_goals
    go_ret
    exact ⟨ret_bool (by simp), Below.refl _ _⟩
theorem compare_any (a b : Int) (w : World) : Calls Try.prog 61 #[.int .i64 a, .int .i64 b] w (Ret w (.int .i64 (cmpI a b))) := by
  have HB_w : Below w.heap.size w w := Below.refl _ _
  have HC := Lib.hid (show cmpI a b = if a < b then -1 else if b < a then 1 else 0 from rfl)
  generalize cmpI a b = c at *
  go_enter Try.func61, Try.ntmps61
  go_wp2_with fail
  refine (isNaN_any _ _).mono ?_
  rintro e wa ⟨rfl, hb_wa⟩
  have HB_wa : Below w.heap.size w wa := by first | exact after0 HB_w hb_wa | exact after1 HB_w hb_wa | exact after2 HB_w hb_wa | exact after3 HB_w hb_wa | exact after4 HB_w hb_wa | exact after5 HB_w hb_wa
  go_wp2_with fail
  refine (isNaN_any _ _).mono ?_
  rintro e wb ⟨rfl, hb_wb⟩
  have HB_wb : Below w.heap.size w wb := by first | exact after0 HB_wa hb_wb | exact after1 HB_wa hb_wb | exact after2 HB_wa hb_wb | exact after3 HB_wa hb_wb | exact after4 HB_wa hb_wb | exact after5 HB_wa hb_wb
  by_cases h1 : a < b
  · have HP := Lib.hid (HC.out.trans (if_pos h1))
    go_wp2_with fail
    go_ret
    exact ⟨ret_int HP.out.symm, HB_wb⟩
  have HP := Lib.hid (HC.out.trans (if_neg h1))
  replace h1 := Int.not_lt.1 h1
  by_cases h2 : b < a
  · have HP2 := Lib.hid (HP.out.trans (if_pos h2))
    go_wp2_with fail
    go_ret
    exact ⟨ret_int HP2.out.symm, HB_wb⟩
  · have HP2 := Lib.hid (HP.out.trans (if_neg h2))
    replace h2 := Int.not_lt.1 h2
    go_wp2_with fail
    go_ret
    exact ⟨ret_int HP2.out.symm, HB_wb⟩
theorem len_any (B : Nat) (a : Value) (o : Option Addr) (m c : Nat) (w : World) (h : Box w B 79 [a, .slice o m c]) : Calls Try.prog 111 #[.pointer (some ⟨B, 0, none⟩)] w (Ret w (.int .i64 m)) := by
  obtain ⟨h0, h1⟩ := h.c2
  go_enter Try.func111, Try.ntmps111
  go_wp2_with fail
  go_ret
  exact ⟨rfl, Below.refl _ _⟩
theorem first_any (B : Nat) (a : Value) (o : Option Addr) (m c : Nat) (q : List Nat) (w : World) (h : Box w B 79 [a, .slice o m c]) (hs : Sl w 1 cN o m c q) (hq : 0 < q.length) : Calls Try.prog 110 #[.pointer (some ⟨B, 0, none⟩)] w (Ret w (.int .i64 (at_ q 0))) := by
  obtain ⟨h0, h1⟩ := h.c2
  obtain rfl := hs.len
  obtain ⟨b', off, rfl, hb, hrow⟩ := hs.get hq
  have e_0 := (hrow 0 hq).c1
  rw [at_get hq]
  simp only [Nat.zero_mul, Nat.add_zero] at e_0
  have hqi : 0 < (q.length : Int) := by omega
  clear hrow
  go_enter Try.func110, Try.ntmps110
  go_wp2_with fail
  all_goals try (exfalso; omega)
  go_ret
  exact ⟨rfl, Below.refl _ _⟩
abbrev cI (n : Int) : List Value := [.int .i64 n]
theorem cI_len : ∀ x, (cI x).length = 1 := fun _ => rfl
theorem cI_one : ∀ x, ∀ u ∈ cI x, u.oneCell' = true := by intro x u hu; simp [cI] at hu; rcases hu with rfl; rfl
theorem or_any (o : Option Addr) (n cap : Nat) (l : List Int) (w : World) (hs : Sl w 1 cI o n cap l) : Calls Try.prog 116 #[.slice o n cap] w (Ret w (.int .i64 (orL l))) := by
  obtain rfl := hs.len
  have hcap := hs.max
  have hle := hs.le
  unfold maxLen at hcap
  have HS := Lib.hid hs
  have HB_w : Below w.heap.size w w := Below.refl _ _
  have HH := Lib.hid (fun k => @orL_hit l k)
  have HM := Lib.hid (@orL_miss l)
  clear hs
  obtain ⟨v, hv⟩ : ∃ v, orL l = v := ⟨_, rfl⟩
  rw [hv] at HH HM ⊢
  clear hv
  go_enter Try.func116, Try.ntmps116
  go_wp2_with fail
  go_loopw [8] (fun i wr => ∃ k : Nat, k ≤ l.length ∧ i = .int .i64 k ∧ wr = w ∧ Hid (∀ j (h : j < l.length), j < k → l[j] = 0)) (fun i _ => l.length - (intOf i).toNat)
  case atStart => exact ⟨0, Nat.zero_le _, rfl, rfl, fun j _ h => absurd h (Nat.not_lt_zero _)⟩
  case round =>
    obtain ⟨k, hk, rfl, rfl, HN⟩ := hrel
    by_cases hlt : k < l.length
    · obtain ⟨b, off, rfl, hb, hrow⟩ := HS.out.get hlt
      have e_0 := (hrow k hlt).c1
      simp only [Nat.mul_one] at e_0
      have HK := Lib.hid (HH.out k hlt HN.out)
      have HNN := Lib.hid (show l[k] = 0 → ∀ j (h : j < l.length), j < k + 1 → l[j] = 0 from fun h0 j h hj => by
        by_cases hjk : j = k
        · subst hjk; exact h0
        · exact HN.out j h (by omega))
      clear hrow
      generalize l[k] = x at *
      by_cases hx : x = 0
      · have HNX := Lib.hid (HNN.out hx)
        have hx2 : (x != 0) = false := by simp [hx]
        clear HK HNN HN hx
        go_wp2_with fail
        all_goals try (exfalso; omega)
        go_roundw
        case rel => exact ⟨k + 1, hlt, by go_num, by first | rfl | trivial, HNX⟩
        case measure => simp [intOf] <;> omega
      · have HP := Lib.hid (HK.out hx)
        have hx2 : (x != 0) = true := bne_iff_ne.2 hx
        clear HK HNN HN hx
        go_wp2_with fail
        all_goals try (exfalso; omega)
        go_ret
        exact ⟨ret_int HP.out.symm, HB_w⟩
    · have HP := Lib.hid (HM.out (fun j h => HN.out j h (by omega)))
      go_wp2_with fail
      all_goals try (exfalso; omega)
      go_ret
      exact ⟨ret_int HP.out.symm, HB_w⟩

theorem size_job : (Try.prog.info? 44).map (·.size) = some 4 := by kernel_rfl
set_option maxRecDepth 100000 in
set_option maxHeartbeats 4000000 in
theorem less_any (B : Nat) (jo : Option Addr) (n cap : Nat) (J : List Jb) (o : Option Addr) (m c : Nat) (q : List Nat) (i k : Nat) (w : World) (h : Box w B 79 [.slice jo n cap, .slice o m c]) (hj : Sl w 4 cJ jo n cap J) (hs : Sl w 1 cN o m c q) (hi : i < q.length) (hk : k < q.length) (hq : ∀ x ∈ q, x < J.length) :
    Calls Try.prog 112 #[.pointer (some ⟨B, 0, none⟩), .int .i64 i, .int .i64 k] w (Ret w (.bool (less J (at_ q i) (at_ q k)))) := by
  obtain ⟨h_0, h_1⟩ := h.c2
  obtain rfl := hs.len
  obtain rfl := hj.len
  have hia := hq _ (List.getElem_mem hi)
  have hka := hq _ (List.getElem_mem hk)
  obtain ⟨b', off, rfl, hb, hrow⟩ := hs.get hi
  have e_0 := (hrow i hi).c1
  have f_0 := (hrow k hk).c1
  simp only [Nat.mul_one] at e_0 f_0
  rw [at_get hi, at_get hk]
  obtain ⟨bj, offj, rfl, hbj, hrowj⟩ := hj.get hia
  have HRI := Lib.hid (hrowj q[i] hia)
  have HRK := Lib.hid (hrowj q[k] hka)
  have HL := Lib.hid (less_cmp J q[i] q[k])
  rw [jat_get hia, jat_get hka] at HL
  have hq1 := hs.max
  have hq2 := hs.le
  have hj1 := hj.max
  have hj2 := hj.le
  unfold maxLen at hq1 hj1
  clear hrow hrowj hs hj hq
  generalize less J q[i] q[k] = p at *
  generalize J[q[i]] = x at *
  generalize J[q[k]] = y at *
  generalize q[i] = a at *
  generalize q[k] = b at *
  obtain ⟨x0, x1, x2, x3⟩ := x
  obtain ⟨y0, y1, y2, y3⟩ := y
  obtain ⟨g_0, g_1, g_2, g_3⟩ := HRI.out.c4
  obtain ⟨l_0, l_1, l_2, l_3⟩ := HRK.out.c4
  dsimp only at HL g_0 g_1 g_2 g_3 l_0 l_1 l_2 l_3
  have HB_w : Below w.heap.size w w := Below.refl _ _
  go_enter Try.func112, Try.ntmps112
  go_wp2_with fail
  have y_h_0 := cell_regrown h_0
  have y_h_1 := cell_regrown h_1
  clear h_0 h_1
  have y_e_0 := cell_regrown e_0
  have y_f_0 := cell_regrown f_0
  have y_g_0 := cell_regrown g_0
  have y_g_1 := cell_regrown g_1
  have y_g_2 := cell_regrown g_2
  have y_g_3 := cell_regrown g_3
  clear g_0 g_1 g_2 g_3
  have y_l_0 := cell_regrown l_0
  have y_l_1 := cell_regrown l_1
  have y_l_2 := cell_regrown l_2
  have y_l_3 := cell_regrown l_3
  clear l_0 l_1 l_2 l_3
  refine wp_region_plan (C := fun w' => ∃ p : Regrown, w' = grow (redrawn w p.d) p.os) (.q 0 (.q 1 (.q 2 (.q 3 (.q 4 (.q 5 (.q 6 (.q 7 (.q 8 (.q 9 (.q 10 (.q 11 (.q 12 (.q 13 (.q 14 (.q 15 (.done))))))))))))))))) 16 (by kernel_rfl) (by kernel_rfl) (grew_drew _) ?_
  repeat (any_goals (first | (go_big_quiet_skip; refine wpQuiet_nil ?_) | (go_big_quiet_want; go_big_quiet_op; go_big_quiet_on; refine wpQuiet_nil ?_) | ((with_reducible apply q_split); exact rfl; intro q hq; cases q <;> (rw [hq]; (try first | replace hq := bnot_t hq | replace hq := bnot_f hq); (try first | replace hq := of_decide_eq_true hq | replace hq := of_decide_eq_false hq | replace hq := eq_of_beq hq); (try first | replace hq := Int.not_lt.1 hq | replace hq := Int.not_le.1 hq | replace hq := Nat.not_lt.1 hq | replace hq := Nat.not_le.1 hq); try (exfalso; omega))) | (refine plan_q rfl rfl ?_)))
  all_goals refine plan_done ?_
  all_goals (try simp only [List.drop_succ_cons, List.drop_zero])
  all_goals (try go_wp2_with fail)
  all_goals refine NoPanic.normal ?_
  all_goals (try go_wp2_with fail)
  obtain ⟨V, hV⟩ : ∃ V, w.drew = V := ⟨_, rfl⟩
  rw [show ({ heap := w.heap, tape := w.tape, drawn := w.drawn + 1, os := w.os, output := w.output } : World) = V from hV]
  have HB_V : Below w.heap.size w V := hV ▸ below_drew
  clear y_h_0 y_h_1 y_e_0 y_f_0 y_g_0 y_g_1 y_g_2 y_g_3 y_l_0 y_l_1 y_l_2 y_l_3 hV
  obtain ⟨h_0, h_1⟩ := (h.below HB_V).c2
  obtain ⟨g_0, g_1, g_2, g_3⟩ := (HRI.out.below HB_V hbj).c4
  obtain ⟨l_0, l_1, l_2, l_3⟩ := (HRK.out.below HB_V hbj).c4
  dsimp only at g_0 g_1 g_2 g_3 l_0 l_1 l_2 l_3
  have y_h_0 := cell_regrown h_0
  have y_h_1 := cell_regrown h_1
  clear h_0 h_1
  have y_g_0 := cell_regrown g_0
  have y_g_1 := cell_regrown g_1
  have y_g_2 := cell_regrown g_2
  have y_g_3 := cell_regrown g_3
  clear g_0 g_1 g_2 g_3
  have y_l_0 := cell_regrown l_0
  have y_l_1 := cell_regrown l_1
  have y_l_2 := cell_regrown l_2
  have y_l_3 := cell_regrown l_3
  clear l_0 l_1 l_2 l_3
  refine wp_region_plan (C := fun w' => ∃ p : Regrown, w' = grow (redrawn V p.d) p.os) (.q 0 (.q 1 (.q 2 (.q 3 (.q 4 (.q 5 (.q 6 (.q 7 (.q 8 (.q 9 (.q 10 (.q 11 (.q 12 (.q 13 (.two 14 (.e 15 (.e 16 (.e 17 (.done)))) 15 (.e 14 (.e 16 (.e 17 (.done))))))))))))))))))) 18 (by kernel_rfl) (by kernel_rfl) (grew_drew _) ?_
  repeat (any_goals (first | (go_big_quiet_skip; refine wpQuiet_nil ?_) | (go_big_quiet_want; go_big_quiet_op; go_big_quiet_on; refine wpQuiet_nil ?_) | ((with_reducible apply q_split); exact rfl; intro q hq; cases q <;> (rw [hq]; (try first | replace hq := bnot_t hq | replace hq := bnot_f hq); (try first | replace hq := of_decide_eq_true hq | replace hq := of_decide_eq_false hq | replace hq := eq_of_beq hq); (try first | replace hq := Int.not_lt.1 hq | replace hq := Int.not_le.1 hq | replace hq := Nat.not_lt.1 hq | replace hq := Nat.not_le.1 hq); try (exfalso; omega))) | (refine plan_q rfl rfl ?_)))
  clear y_h_0 y_h_1
  clear y_g_0 y_g_1 y_g_2 y_g_3
  clear y_l_0 y_l_1 y_l_2 y_l_3
  obtain ⟨U, hU⟩ : ∃ U, V.drew = U := ⟨_, rfl⟩
  rw [show ({ heap := V.heap, tape := V.tape, drawn := V.drawn + 1, os := V.os, output := V.output } : World) = U from hU]
  have HW_U : Below V.heap.size V U := hU ▸ below_drew
  clear hU
  obtain ⟨R, hR⟩ : ∃ R, U.heap.size = R := ⟨_, rfl⟩
  have hRV : V.heap.size ≤ R := hR ▸ HW_U.size
  obtain ⟨U1, hU1, hB1, hZ1, hb1⟩ := boxes1 U [.int .i64 0, .int .i64 0, .int .i64 0, .int .i64 0] 44
  rw [hR] at hb1 hZ1
  have HW_1 := HW_U.trans (hB1.mono HW_U.size)
  obtain ⟨U2, hU2, hB2, hZ2, hb2⟩ := boxes1 U1 [.int .i64 0, .int .i64 0, .int .i64 0, .int .i64 0] 44
  rw [hZ1] at hb2
  have HW_2 := HW_1.trans (hB2.mono HW_1.size)
  have HX0 := Lib.hid (hb1.below hB2)
  have HY0 := Lib.hid hb2
  clear hb1 hb2 hB1 hB2 hZ2
  refine plan_two rfl rfl ?_ ?_
  ·
    go_wp2_with fail
    refine MixPost.intro (grew_of_below HW_1) ?_
    repeat (any_goals (first | (go_big_quiet_skip; refine wpQuiet_nil ?_) | (go_big_quiet_want; go_big_quiet_op; go_big_quiet_on; refine wpQuiet_nil ?_) | ((with_reducible apply q_split); exact rfl; intro q hq; cases q <;> (rw [hq]; (try first | replace hq := bnot_t hq | replace hq := bnot_f hq); (try first | replace hq := of_decide_eq_true hq | replace hq := of_decide_eq_false hq | replace hq := eq_of_beq hq); (try first | replace hq := Int.not_lt.1 hq | replace hq := Int.not_le.1 hq | replace hq := Nat.not_lt.1 hq | replace hq := Nat.not_le.1 hq); try (exfalso; omega))) | (refine plan_q rfl rfl ?_)))
    refine plan_e rfl ?_
    go_wp2_with fail
    clear hU1 hU2
    refine MixPost.intro (grew_of_below HW_2) ?_
    repeat (any_goals (first | (go_big_quiet_skip; refine wpQuiet_nil ?_) | (go_big_quiet_want; go_big_quiet_op; go_big_quiet_on; refine wpQuiet_nil ?_) | ((with_reducible apply q_split); exact rfl; intro q hq; cases q <;> (rw [hq]; (try first | replace hq := bnot_t hq | replace hq := bnot_f hq); (try first | replace hq := of_decide_eq_true hq | replace hq := of_decide_eq_false hq | replace hq := eq_of_beq hq); (try first | replace hq := Int.not_lt.1 hq | replace hq := Int.not_le.1 hq | replace hq := Nat.not_lt.1 hq | replace hq := Nat.not_le.1 hq); try (exfalso; omega))) | (refine plan_q rfl rfl ?_)))
    have hRle : V.heap.size ≤ R := by omega
    have hRle2 : V.heap.size ≤ R + 1 := by omega
    refine plan_e rfl ?_
    refine wpList_store_box rfl 44 _ _ rfl (R) 44 [.int .i64 0, .int .i64 0, .int .i64 0, .int .i64 0] [.int .i64 x0, .int .i64 x1, .int .i64 x2, .int .i64 x3] rfl rfl (by first | exact HX0.out | exact HY0.out) size_job rfl rfl ?_
    intro U3 hb3 hl3 ho3 hz3
    have HW_3 := HW_2.trans (hl3 _ hRle)
    have HY3 := Lib.hid (ho3 (R + 1) 44 [.int .i64 0, .int .i64 0, .int .i64 0, .int .i64 0] (by omega) (by first | exact HX0.out | exact HY0.out))
    go_wp2_with fail
    refine MixPost.intro (grew_of_below HW_3) ?_
    repeat (any_goals (first | (go_big_quiet_skip; refine wpQuiet_nil ?_) | (go_big_quiet_want; go_big_quiet_op; go_big_quiet_on; refine wpQuiet_nil ?_) | ((with_reducible apply q_split); exact rfl; intro q hq; cases q <;> (rw [hq]; (try first | replace hq := bnot_t hq | replace hq := bnot_f hq); (try first | replace hq := of_decide_eq_true hq | replace hq := of_decide_eq_false hq | replace hq := eq_of_beq hq); (try first | replace hq := Int.not_lt.1 hq | replace hq := Int.not_le.1 hq | replace hq := Nat.not_lt.1 hq | replace hq := Nat.not_le.1 hq); try (exfalso; omega))) | (refine plan_q rfl rfl ?_)))
    refine plan_e rfl ?_
    refine wpList_store_box rfl 44 _ _ rfl (R + 1) 44 [.int .i64 0, .int .i64 0, .int .i64 0, .int .i64 0] [.int .i64 y0, .int .i64 y1, .int .i64 y2, .int .i64 y3] rfl rfl HY3.out size_job rfl rfl ?_
    intro U4 hb4 hl4 ho4 hz4
    have HW_4 := HW_3.trans (hl4 _ hRle2)
    have HX4 := Lib.hid (ho4 (R) _ _ (by omega) hb3)
    have HY4 := Lib.hid hb4
    clear hb3 hl3 ho3 hz3 hb4 hl4 ho4 hz4 HY3 HX0 HY0
    go_wp2_with fail
    refine MixPost.intro (grew_of_below HW_4) ?_
    repeat (any_goals (first | (go_big_quiet_skip; refine wpQuiet_nil ?_) | (go_big_quiet_want; go_big_quiet_op; go_big_quiet_on; refine wpQuiet_nil ?_) | ((with_reducible apply q_split); exact rfl; intro q hq; cases q <;> (rw [hq]; (try first | replace hq := bnot_t hq | replace hq := bnot_f hq); (try first | replace hq := of_decide_eq_true hq | replace hq := of_decide_eq_false hq | replace hq := eq_of_beq hq); (try first | replace hq := Int.not_lt.1 hq | replace hq := Int.not_le.1 hq | replace hq := Nat.not_lt.1 hq | replace hq := Nat.not_le.1 hq); try (exfalso; omega))) | (refine plan_q rfl rfl ?_)))
    refine plan_done ?_
    try simp only [List.drop_succ_cons, List.drop_zero]
    go_wp2_with fail
    refine NoPanic.normal ?_
    go_wp2_with fail
    have HB_4 : Below w.heap.size w U4 := after0 HB_V HW_4
    obtain ⟨g_0, g_1, g_2, g_3⟩ := HX4.out.c4
    obtain ⟨l_0, l_1, l_2, l_3⟩ := HY4.out.c4
    clear HW_1 HW_2 HW_3 HW_4 HW_U HB_V
    have y_g_0 := cell_regrown g_0
    have y_g_1 := cell_regrown g_1
    have y_g_2 := cell_regrown g_2
    have y_g_3 := cell_regrown g_3
    clear g_0 g_1 g_2 g_3
    have y_l_0 := cell_regrown l_0
    have y_l_1 := cell_regrown l_1
    have y_l_2 := cell_regrown l_2
    have y_l_3 := cell_regrown l_3
    clear l_0 l_1 l_2 l_3
    refine wp_region_plan (C := fun w' => ∃ p : Regrown, w' = grow (redrawn U4 p.d) p.os) (.q 0 (.q 1 (.q 2 (.q 3 (.q 5 (.q 6 (.q 7 (.q 8 (.q 10 (.q 11 (.e 4 (.e 9 (.e 12 (.e 13 (.e 14 (.q 15 (.q 16 (.done)))))))))))))))))) 17 (by kernel_rfl) (by kernel_rfl) (grew_drew _) ?_
    repeat (any_goals (first | (go_big_quiet_skip; refine wpQuiet_nil ?_) | (go_big_quiet_want; go_big_quiet_op; go_big_quiet_on; refine wpQuiet_nil ?_) | ((with_reducible apply q_split); exact rfl; intro q hq; cases q <;> (rw [hq]; (try first | replace hq := bnot_t hq | replace hq := bnot_f hq); (try first | replace hq := of_decide_eq_true hq | replace hq := of_decide_eq_false hq | replace hq := eq_of_beq hq); (try first | replace hq := Int.not_lt.1 hq | replace hq := Int.not_le.1 hq | replace hq := Nat.not_lt.1 hq | replace hq := Nat.not_le.1 hq); try (exfalso; omega))) | (refine plan_q rfl rfl ?_)))
    have HC1 := Lib.hid (fun W => compare_any x1 y1 W)
    have HC2 := Lib.hid (fun W => compare_any y3 x3 W)
    have HC3 := Lib.hid (fun W => compare_any (a : Int) (b : Int) W)
    generalize cmpI x1 y1 = k1 at *
    generalize cmpI y3 x3 = k2 at *
    generalize cmpI (a : Int) (b : Int) = k3 at *
    refine plan_e rfl ?_
    go_wp2_with fail
    refine (HC1.out _).mono ?_
    rintro e w1 ⟨rfl, hb_w1⟩
    have HW_w1 : Below U4.heap.size U4 w1 := below_undrew hb_w1
    clear hb_w1
    go_wp2_with fail
    refine MixPost.intro (grew_of_below HW_w1) ?_
    repeat (any_goals (first | (go_big_quiet_skip; refine wpQuiet_nil ?_) | (go_big_quiet_want; go_big_quiet_op; go_big_quiet_on; refine wpQuiet_nil ?_) | ((with_reducible apply q_split); exact rfl; intro q hq; cases q <;> (rw [hq]; (try first | replace hq := bnot_t hq | replace hq := bnot_f hq); (try first | replace hq := of_decide_eq_true hq | replace hq := of_decide_eq_false hq | replace hq := eq_of_beq hq); (try first | replace hq := Int.not_lt.1 hq | replace hq := Int.not_le.1 hq | replace hq := Nat.not_lt.1 hq | replace hq := Nat.not_le.1 hq); try (exfalso; omega))) | (refine plan_q rfl rfl ?_)))
    refine plan_e rfl ?_
    go_wp2_with fail
    refine (HC2.out _).mono ?_
    rintro e w2 ⟨rfl, hb_w2⟩
    have HW_w2 : Below U4.heap.size U4 w2 := after0 HW_w1 hb_w2
    clear hb_w2
    go_wp2_with fail
    refine MixPost.intro (grew_of_below HW_w2) ?_
    repeat (any_goals (first | (go_big_quiet_skip; refine wpQuiet_nil ?_) | (go_big_quiet_want; go_big_quiet_op; go_big_quiet_on; refine wpQuiet_nil ?_) | ((with_reducible apply q_split); exact rfl; intro q hq; cases q <;> (rw [hq]; (try first | replace hq := bnot_t hq | replace hq := bnot_f hq); (try first | replace hq := of_decide_eq_true hq | replace hq := of_decide_eq_false hq | replace hq := eq_of_beq hq); (try first | replace hq := Int.not_lt.1 hq | replace hq := Int.not_le.1 hq | replace hq := Nat.not_lt.1 hq | replace hq := Nat.not_le.1 hq); try (exfalso; omega))) | (refine plan_q rfl rfl ?_)))
    refine plan_e rfl ?_
    go_wp2_with fail
    refine (HC3.out _).mono ?_
    rintro e w3 ⟨rfl, hb_w3⟩
    have HW_w3 : Below U4.heap.size U4 w3 := after0 HW_w2 hb_w3
    clear hb_w3
    go_wp2_with fail
    refine MixPost.intro (grew_of_below HW_w3) ?_
    repeat (any_goals (first | (go_big_quiet_skip; refine wpQuiet_nil ?_) | (go_big_quiet_want; go_big_quiet_op; go_big_quiet_on; refine wpQuiet_nil ?_) | ((with_reducible apply q_split); exact rfl; intro q hq; cases q <;> (rw [hq]; (try first | replace hq := bnot_t hq | replace hq := bnot_f hq); (try first | replace hq := of_decide_eq_true hq | replace hq := of_decide_eq_false hq | replace hq := eq_of_beq hq); (try first | replace hq := Int.not_lt.1 hq | replace hq := Int.not_le.1 hq | replace hq := Nat.not_lt.1 hq | replace hq := Nat.not_le.1 hq); try (exfalso; omega))) | (refine plan_q rfl rfl ?_)))
    refine plan_e rfl ?_
    obtain ⟨w4, hw4, hB4, hZ4, hb4⟩ := boxes1 w3 [.int .i64 k1, .int .i64 k2, .int .i64 k3] 3
    have HW_w4 := HW_w3.trans (hB4.mono HW_w3.size)
    have HS4 := Lib.hid (show Sl w4 1 cI (some ⟨w3.heap.size, 0, none⟩) 3 3 [k1, k2, k3] from Sl.lit (l := [k1, k2, k3]) cI_len hb4 (by simp [maxLen]))
    clear hB4 hZ4 hb4
    go_wp2_with fail
    clear hw4
    refine MixPost.intro (grew_of_below HW_w4) ?_
    repeat (any_goals (first | (go_big_quiet_skip; refine wpQuiet_nil ?_) | (go_big_quiet_want; go_big_quiet_op; go_big_quiet_on; refine wpQuiet_nil ?_) | ((with_reducible apply q_split); exact rfl; intro q hq; cases q <;> (rw [hq]; (try first | replace hq := bnot_t hq | replace hq := bnot_f hq); (try first | replace hq := of_decide_eq_true hq | replace hq := of_decide_eq_false hq | replace hq := eq_of_beq hq); (try first | replace hq := Int.not_lt.1 hq | replace hq := Int.not_le.1 hq | replace hq := Nat.not_lt.1 hq | replace hq := Nat.not_le.1 hq); try (exfalso; omega))) | (refine plan_q rfl rfl ?_)))
    have HOR := Lib.hid (or_any _ _ _ [k1, k2, k3] w4 HS4.out)
    rw [orL_three] at HOR
    have HP := Lib.hid (show decide (orR k1 k2 k3 < 0) = p from HL.out.symm)
    generalize orR k1 k2 k3 = k5 at *
    refine plan_e rfl ?_
    go_wp2_with fail
    refine (HOR.out).mono ?_
    rintro e w5 ⟨rfl, hb_w5⟩
    have HW_w5 : Below U4.heap.size U4 w5 := after0 HW_w4 hb_w5
    clear hb_w5
    go_wp2_with fail
    refine MixPost.intro (grew_of_below HW_w5) ?_
    repeat (any_goals (first | (go_big_quiet_skip; refine wpQuiet_nil ?_) | (go_big_quiet_want; go_big_quiet_op; go_big_quiet_on; refine wpQuiet_nil ?_) | ((with_reducible apply q_split); exact rfl; intro q hq; cases q <;> (rw [hq]; (try first | replace hq := bnot_t hq | replace hq := bnot_f hq); (try first | replace hq := of_decide_eq_true hq | replace hq := of_decide_eq_false hq | replace hq := eq_of_beq hq); (try first | replace hq := Int.not_lt.1 hq | replace hq := Int.not_le.1 hq | replace hq := Nat.not_lt.1 hq | replace hq := Nat.not_le.1 hq); try (exfalso; omega))) | (refine plan_q rfl rfl ?_)))
    clear y_g_0 y_g_1 y_g_2 y_g_3
    clear y_l_0 y_l_1 y_l_2 y_l_3
    all_goals refine plan_done ?_
    all_goals (try simp only [List.drop_succ_cons, List.drop_zero])
    all_goals (try go_wp2_with fail)
    all_goals refine NoPanic.normal ?_
    all_goals (try go_wp2_with fail)
    have HB_w5 := after0 HB_4 HW_w5
    go_ret
    exact ⟨ret_bool' HP.out, HB_w5⟩
  ·
    go_wp2_with fail
    refine MixPost.intro (grew_of_below HW_1) ?_
    repeat (any_goals (first | (go_big_quiet_skip; refine wpQuiet_nil ?_) | (go_big_quiet_want; go_big_quiet_op; go_big_quiet_on; refine wpQuiet_nil ?_) | ((with_reducible apply q_split); exact rfl; intro q hq; cases q <;> (rw [hq]; (try first | replace hq := bnot_t hq | replace hq := bnot_f hq); (try first | replace hq := of_decide_eq_true hq | replace hq := of_decide_eq_false hq | replace hq := eq_of_beq hq); (try first | replace hq := Int.not_lt.1 hq | replace hq := Int.not_le.1 hq | replace hq := Nat.not_lt.1 hq | replace hq := Nat.not_le.1 hq); try (exfalso; omega))) | (refine plan_q rfl rfl ?_)))
    refine plan_e rfl ?_
    go_wp2_with fail
    clear hU1 hU2
    refine MixPost.intro (grew_of_below HW_2) ?_
    repeat (any_goals (first | (go_big_quiet_skip; refine wpQuiet_nil ?_) | (go_big_quiet_want; go_big_quiet_op; go_big_quiet_on; refine wpQuiet_nil ?_) | ((with_reducible apply q_split); exact rfl; intro q hq; cases q <;> (rw [hq]; (try first | replace hq := bnot_t hq | replace hq := bnot_f hq); (try first | replace hq := of_decide_eq_true hq | replace hq := of_decide_eq_false hq | replace hq := eq_of_beq hq); (try first | replace hq := Int.not_lt.1 hq | replace hq := Int.not_le.1 hq | replace hq := Nat.not_lt.1 hq | replace hq := Nat.not_le.1 hq); try (exfalso; omega))) | (refine plan_q rfl rfl ?_)))
    have hRle : V.heap.size ≤ R + 1 := by omega
    have hRle2 : V.heap.size ≤ R := by omega
    refine plan_e rfl ?_
    refine wpList_store_box rfl 44 _ _ rfl (R + 1) 44 [.int .i64 0, .int .i64 0, .int .i64 0, .int .i64 0] [.int .i64 x0, .int .i64 x1, .int .i64 x2, .int .i64 x3] rfl rfl (by first | exact HX0.out | exact HY0.out) size_job rfl rfl ?_
    intro U3 hb3 hl3 ho3 hz3
    have HW_3 := HW_2.trans (hl3 _ hRle)
    have HY3 := Lib.hid (ho3 (R) 44 [.int .i64 0, .int .i64 0, .int .i64 0, .int .i64 0] (by omega) (by first | exact HX0.out | exact HY0.out))
    go_wp2_with fail
    refine MixPost.intro (grew_of_below HW_3) ?_
    repeat (any_goals (first | (go_big_quiet_skip; refine wpQuiet_nil ?_) | (go_big_quiet_want; go_big_quiet_op; go_big_quiet_on; refine wpQuiet_nil ?_) | ((with_reducible apply q_split); exact rfl; intro q hq; cases q <;> (rw [hq]; (try first | replace hq := bnot_t hq | replace hq := bnot_f hq); (try first | replace hq := of_decide_eq_true hq | replace hq := of_decide_eq_false hq | replace hq := eq_of_beq hq); (try first | replace hq := Int.not_lt.1 hq | replace hq := Int.not_le.1 hq | replace hq := Nat.not_lt.1 hq | replace hq := Nat.not_le.1 hq); try (exfalso; omega))) | (refine plan_q rfl rfl ?_)))
    refine plan_e rfl ?_
    refine wpList_store_box rfl 44 _ _ rfl (R) 44 [.int .i64 0, .int .i64 0, .int .i64 0, .int .i64 0] [.int .i64 y0, .int .i64 y1, .int .i64 y2, .int .i64 y3] rfl rfl HY3.out size_job rfl rfl ?_
    intro U4 hb4 hl4 ho4 hz4
    have HW_4 := HW_3.trans (hl4 _ hRle2)
    have HX4 := Lib.hid (ho4 (R + 1) _ _ (by omega) hb3)
    have HY4 := Lib.hid hb4
    clear hb3 hl3 ho3 hz3 hb4 hl4 ho4 hz4 HY3 HX0 HY0
    go_wp2_with fail
    refine MixPost.intro (grew_of_below HW_4) ?_
    repeat (any_goals (first | (go_big_quiet_skip; refine wpQuiet_nil ?_) | (go_big_quiet_want; go_big_quiet_op; go_big_quiet_on; refine wpQuiet_nil ?_) | ((with_reducible apply q_split); exact rfl; intro q hq; cases q <;> (rw [hq]; (try first | replace hq := bnot_t hq | replace hq := bnot_f hq); (try first | replace hq := of_decide_eq_true hq | replace hq := of_decide_eq_false hq | replace hq := eq_of_beq hq); (try first | replace hq := Int.not_lt.1 hq | replace hq := Int.not_le.1 hq | replace hq := Nat.not_lt.1 hq | replace hq := Nat.not_le.1 hq); try (exfalso; omega))) | (refine plan_q rfl rfl ?_)))
    refine plan_done ?_
    try simp only [List.drop_succ_cons, List.drop_zero]
    go_wp2_with fail
    refine NoPanic.normal ?_
    go_wp2_with fail
    have HB_4 : Below w.heap.size w U4 := after0 HB_V HW_4
    obtain ⟨g_0, g_1, g_2, g_3⟩ := HX4.out.c4
    obtain ⟨l_0, l_1, l_2, l_3⟩ := HY4.out.c4
    clear HW_1 HW_2 HW_3 HW_4 HW_U HB_V
    have y_g_0 := cell_regrown g_0
    have y_g_1 := cell_regrown g_1
    have y_g_2 := cell_regrown g_2
    have y_g_3 := cell_regrown g_3
    clear g_0 g_1 g_2 g_3
    have y_l_0 := cell_regrown l_0
    have y_l_1 := cell_regrown l_1
    have y_l_2 := cell_regrown l_2
    have y_l_3 := cell_regrown l_3
    clear l_0 l_1 l_2 l_3
    refine wp_region_plan (C := fun w' => ∃ p : Regrown, w' = grow (redrawn U4 p.d) p.os) (.q 0 (.q 1 (.q 2 (.q 3 (.q 5 (.q 6 (.q 7 (.q 8 (.q 10 (.q 11 (.e 4 (.e 9 (.e 12 (.e 13 (.e 14 (.q 15 (.q 16 (.done)))))))))))))))))) 17 (by kernel_rfl) (by kernel_rfl) (grew_drew _) ?_
    repeat (any_goals (first | (go_big_quiet_skip; refine wpQuiet_nil ?_) | (go_big_quiet_want; go_big_quiet_op; go_big_quiet_on; refine wpQuiet_nil ?_) | ((with_reducible apply q_split); exact rfl; intro q hq; cases q <;> (rw [hq]; (try first | replace hq := bnot_t hq | replace hq := bnot_f hq); (try first | replace hq := of_decide_eq_true hq | replace hq := of_decide_eq_false hq | replace hq := eq_of_beq hq); (try first | replace hq := Int.not_lt.1 hq | replace hq := Int.not_le.1 hq | replace hq := Nat.not_lt.1 hq | replace hq := Nat.not_le.1 hq); try (exfalso; omega))) | (refine plan_q rfl rfl ?_)))
    have HC1 := Lib.hid (fun W => compare_any x1 y1 W)
    have HC2 := Lib.hid (fun W => compare_any y3 x3 W)
    have HC3 := Lib.hid (fun W => compare_any (a : Int) (b : Int) W)
    generalize cmpI x1 y1 = k1 at *
    generalize cmpI y3 x3 = k2 at *
    generalize cmpI (a : Int) (b : Int) = k3 at *
    refine plan_e rfl ?_
    go_wp2_with fail
    refine (HC1.out _).mono ?_
    rintro e w1 ⟨rfl, hb_w1⟩
    have HW_w1 : Below U4.heap.size U4 w1 := below_undrew hb_w1
    clear hb_w1
    go_wp2_with fail
    refine MixPost.intro (grew_of_below HW_w1) ?_
    repeat (any_goals (first | (go_big_quiet_skip; refine wpQuiet_nil ?_) | (go_big_quiet_want; go_big_quiet_op; go_big_quiet_on; refine wpQuiet_nil ?_) | ((with_reducible apply q_split); exact rfl; intro q hq; cases q <;> (rw [hq]; (try first | replace hq := bnot_t hq | replace hq := bnot_f hq); (try first | replace hq := of_decide_eq_true hq | replace hq := of_decide_eq_false hq | replace hq := eq_of_beq hq); (try first | replace hq := Int.not_lt.1 hq | replace hq := Int.not_le.1 hq | replace hq := Nat.not_lt.1 hq | replace hq := Nat.not_le.1 hq); try (exfalso; omega))) | (refine plan_q rfl rfl ?_)))
    refine plan_e rfl ?_
    go_wp2_with fail
    refine (HC2.out _).mono ?_
    rintro e w2 ⟨rfl, hb_w2⟩
    have HW_w2 : Below U4.heap.size U4 w2 := after0 HW_w1 hb_w2
    clear hb_w2
    go_wp2_with fail
    refine MixPost.intro (grew_of_below HW_w2) ?_
    repeat (any_goals (first | (go_big_quiet_skip; refine wpQuiet_nil ?_) | (go_big_quiet_want; go_big_quiet_op; go_big_quiet_on; refine wpQuiet_nil ?_) | ((with_reducible apply q_split); exact rfl; intro q hq; cases q <;> (rw [hq]; (try first | replace hq := bnot_t hq | replace hq := bnot_f hq); (try first | replace hq := of_decide_eq_true hq | replace hq := of_decide_eq_false hq | replace hq := eq_of_beq hq); (try first | replace hq := Int.not_lt.1 hq | replace hq := Int.not_le.1 hq | replace hq := Nat.not_lt.1 hq | replace hq := Nat.not_le.1 hq); try (exfalso; omega))) | (refine plan_q rfl rfl ?_)))
    refine plan_e rfl ?_
    go_wp2_with fail
    refine (HC3.out _).mono ?_
    rintro e w3 ⟨rfl, hb_w3⟩
    have HW_w3 : Below U4.heap.size U4 w3 := after0 HW_w2 hb_w3
    clear hb_w3
    go_wp2_with fail
    refine MixPost.intro (grew_of_below HW_w3) ?_
    repeat (any_goals (first | (go_big_quiet_skip; refine wpQuiet_nil ?_) | (go_big_quiet_want; go_big_quiet_op; go_big_quiet_on; refine wpQuiet_nil ?_) | ((with_reducible apply q_split); exact rfl; intro q hq; cases q <;> (rw [hq]; (try first | replace hq := bnot_t hq | replace hq := bnot_f hq); (try first | replace hq := of_decide_eq_true hq | replace hq := of_decide_eq_false hq | replace hq := eq_of_beq hq); (try first | replace hq := Int.not_lt.1 hq | replace hq := Int.not_le.1 hq | replace hq := Nat.not_lt.1 hq | replace hq := Nat.not_le.1 hq); try (exfalso; omega))) | (refine plan_q rfl rfl ?_)))
    refine plan_e rfl ?_
    obtain ⟨w4, hw4, hB4, hZ4, hb4⟩ := boxes1 w3 [.int .i64 k1, .int .i64 k2, .int .i64 k3] 3
    have HW_w4 := HW_w3.trans (hB4.mono HW_w3.size)
    have HS4 := Lib.hid (show Sl w4 1 cI (some ⟨w3.heap.size, 0, none⟩) 3 3 [k1, k2, k3] from Sl.lit (l := [k1, k2, k3]) cI_len hb4 (by simp [maxLen]))
    clear hB4 hZ4 hb4
    go_wp2_with fail
    clear hw4
    refine MixPost.intro (grew_of_below HW_w4) ?_
    repeat (any_goals (first | (go_big_quiet_skip; refine wpQuiet_nil ?_) | (go_big_quiet_want; go_big_quiet_op; go_big_quiet_on; refine wpQuiet_nil ?_) | ((with_reducible apply q_split); exact rfl; intro q hq; cases q <;> (rw [hq]; (try first | replace hq := bnot_t hq | replace hq := bnot_f hq); (try first | replace hq := of_decide_eq_true hq | replace hq := of_decide_eq_false hq | replace hq := eq_of_beq hq); (try first | replace hq := Int.not_lt.1 hq | replace hq := Int.not_le.1 hq | replace hq := Nat.not_lt.1 hq | replace hq := Nat.not_le.1 hq); try (exfalso; omega))) | (refine plan_q rfl rfl ?_)))
    have HOR := Lib.hid (or_any _ _ _ [k1, k2, k3] w4 HS4.out)
    rw [orL_three] at HOR
    have HP := Lib.hid (show decide (orR k1 k2 k3 < 0) = p from HL.out.symm)
    generalize orR k1 k2 k3 = k5 at *
    refine plan_e rfl ?_
    go_wp2_with fail
    refine (HOR.out).mono ?_
    rintro e w5 ⟨rfl, hb_w5⟩
    have HW_w5 : Below U4.heap.size U4 w5 := after0 HW_w4 hb_w5
    clear hb_w5
    go_wp2_with fail
    refine MixPost.intro (grew_of_below HW_w5) ?_
    repeat (any_goals (first | (go_big_quiet_skip; refine wpQuiet_nil ?_) | (go_big_quiet_want; go_big_quiet_op; go_big_quiet_on; refine wpQuiet_nil ?_) | ((with_reducible apply q_split); exact rfl; intro q hq; cases q <;> (rw [hq]; (try first | replace hq := bnot_t hq | replace hq := bnot_f hq); (try first | replace hq := of_decide_eq_true hq | replace hq := of_decide_eq_false hq | replace hq := eq_of_beq hq); (try first | replace hq := Int.not_lt.1 hq | replace hq := Int.not_le.1 hq | replace hq := Nat.not_lt.1 hq | replace hq := Nat.not_le.1 hq); try (exfalso; omega))) | (refine plan_q rfl rfl ?_)))
    clear y_g_0 y_g_1 y_g_2 y_g_3
    clear y_l_0 y_l_1 y_l_2 y_l_3
    all_goals refine plan_done ?_
    all_goals (try simp only [List.drop_succ_cons, List.drop_zero])
    all_goals (try go_wp2_with fail)
    all_goals refine NoPanic.normal ?_
    all_goals (try go_wp2_with fail)
    have HB_w5 := after0 HB_4 HW_w5
    go_ret
    exact ⟨ret_bool' HP.out, HB_w5⟩
end Go.Proofs.Ytheioedggjbphaa
