/-
  Walks of the layer 'clock': what a clock shows, which times are possible; the meeting of spans.
-/
import Derived.Test.YtpdecgbfnhaojaaGreatClkA
import Derived.Test.YtpdecgbfnhaojaaGreatStore
set_option linter.unusedVariables false
namespace Go.Proofs.YtpdecgbfnhaojaaGreat
open Go.RowKit Nb Sk Ck Go.Sort

theorem end_high {c : Clk} (h : okC c = true) : IsEnd 60 #[eC c] (high c) c.at_ := fun W r h1 h2 => high_any c r W h h1 (by omega)
theorem end_low {c : Clk} (h : okC c = true) : IsEnd 61 #[eC c] (low c) c.at_ := fun W r h1 h2 => low_any c r W h h1 (by omega)
theorem firstH_any {c : Clk} {t : Int} {w : World} (h : okC c = true) : Calls Tryz.prog 59 #[eC c, .func (.func 60) #[eC c] #[], .int .i64 t] w (Ret w (.int .i64 (fstH c t))) :=
  first_any c 60 #[eC c] (high c) t (fstH c t) w h (end_high h) (by intro args w; kernel_rfl) (fstH_spec h t).1 (fstH_spec h t).2.1 (fstH_spec h t).2.2
theorem firstL_any {c : Clk} {t : Int} {w : World} (h : okC c = true) : Calls Tryz.prog 59 #[eC c, .func (.func 61) #[eC c] #[], .int .i64 t] w (Ret w (.int .i64 (fstL c t))) :=
  first_any c 61 #[eC c] (low c) t (fstL c t) w h (end_low h) (by intro args w; kernel_rfl) (fstL_spec h t).1 (fstL_spec h t).2.1 (fstL_spec h t).2.2

abbrev eP (p : (Int × Int) × Int) : Value := .tuple #[.agg #[.int .i64 p.1.1, .int .i64 p.1.2], .int .i64 p.2]
theorem shows_bad {c : Clk} {t : Int} (h : okC c = false ∨ tm t = false) : shows c t = ((0, 0), 1) := by
  unfold shows; rw [if_neg]
  rcases h with h | h <;> simp [h]
theorem shows_none {c : Clk} {t : Int} (h : okC c = true) (h2 : tm t = true) (h3 : fstL c (t + 1) - 1 < fstH c t) : shows c t = ((0, 0), 4) := by
  unfold shows; rw [if_pos (by rw [h, h2]; rfl), if_pos h3]
theorem shows_ok {c : Clk} {t : Int} (h : okC c = true) (h2 : tm t = true) (h3 : ¬ (fstL c (t + 1) - 1 < fstH c t)) : shows c t = ((fstH c t, fstL c (t + 1) - 1), 0) := by
  unfold shows; rw [if_pos (by rw [h, h2]; rfl), if_neg h3]



set_option maxRecDepth 100000 in
set_option maxHeartbeats 4000000 in
theorem shows_any (c : Clk) (t : Int) (w : World) : Calls Tryz.prog 28 #[eC c, .int .i64 t] w (Ret w (eP (shows c t))) := by
  have HBAD := Lib.hid (@shows_bad c t)
  have HNONE := Lib.hid (@shows_none c t)
  have HOK := Lib.hid (@shows_ok c t)
  have HCV := Lib.hid (fun W => cvalid_any c W)
  have HFH := Lib.hid (fun W => @firstH_any c t W)
  have HFL := Lib.hid (fun W => @firstL_any c (t + 1) W)
  have HSP := Lib.hid (fun h => fstL_spec (c := c) h (t + 1))
  have HAT := Lib.hid (@okC_iff c).1
  have HFB := Lib.hid (fun h => fstH_spec (c := c) h t)
  generalize shows c t = p at *
  obtain ⟨a, b, d, e⟩ := c
  dsimp only at *
  generalize hv : okC ⟨a, b, d, e⟩ = v at *
  generalize fstH ⟨a, b, d, e⟩ t = x at *
  generalize fstL ⟨a, b, d, e⟩ (t + 1) = y at *
  clear hv
  obtain ⟨W0, hW0, HB_W0, hZ, hn, hr⟩ := boxes2 w [.int .i64 a, .int .i64 b, .int .i64 d, .int .i64 e] [.int .i64 0, .int .i64 0] 27 25
  have H_c := Lib.hid hn
  have H_r := Lib.hid hr
  clear hn hr hZ
  obtain ⟨q_c_0, q_c_1, q_c_2, q_c_3⟩ := H_c.out.c4
  obtain ⟨q_r_0, q_r_1⟩ := H_r.out.c2
  go_enter Tryz.func28, Tryz.ntmps28
  go_wp2_with fail
  refine (HCV.out _).mono ?_
  rintro e wa ⟨rfl, hb_wa⟩
  have HB_wa : Below w.heap.size w wa := by first | exact after0 HB_W0 hb_wa | exact after1 HB_W0 hb_wa | exact after2 HB_W0 hb_wa | exact after3 HB_W0 hb_wa | exact after4 HB_W0 hb_wa | exact after5 HB_W0 hb_wa
  try clear q_c_0 q_c_1 q_c_2 q_c_3
  have H_c := Lib.hid (Box.below (by first | exact H_c.out | exact H_c.out.alloc _ | exact (H_c.out.alloc _).alloc _ | exact ((H_c.out.alloc _).alloc _).alloc _) hb_wa)
  obtain ⟨q_c_0, q_c_1, q_c_2, q_c_3⟩ := H_c.out.c4
  try clear q_r_0 q_r_1
  have H_r := Lib.hid (Box.below (by first | exact H_r.out | exact H_r.out.alloc _ | exact (H_r.out.alloc _).alloc _ | exact ((H_r.out.alloc _).alloc _).alloc _) hb_wa)
  obtain ⟨q_r_0, q_r_1⟩ := H_r.out.c2
  clear hW0
  cases v
  · have HP := Lib.hid (HBAD.out (.inl rfl))
    have f1 := H_r.out.frozen
    obtain ⟨q_r_0, q_r_1⟩ := H_r.out.c2
    go_wp2_with fail
    obtain ⟨s0, s1⟩ := ((H_r.out.set 0 (.int .i64 (0))).set 1 (.int .i64 (0))).c2
    refine bodyPost_ret (v := .tuple #[.agg #[.int .i64 (0), .int .i64 (0)], .int .i64 (1)]) (by simp [results, Tryz.results28, go_sem, s0, s1]) rfl ?_
    exact ⟨by rw [HP.out]; try rfl, (HB_wa.setCell (p := ⟨w.heap.size + 1, 0, none⟩) (by simp) _).setCell (p := ⟨w.heap.size + 1, 1, none⟩) (by simp) _⟩
  go_wp2_with fail
  refine (cmoment_any _ _).mono ?_
  rintro e wb ⟨rfl, hb_wb⟩
  have HB_wb : Below w.heap.size w wb := by first | exact after0 HB_wa hb_wb | exact after1 HB_wa hb_wb | exact after2 HB_wa hb_wb | exact after3 HB_wa hb_wb | exact after4 HB_wa hb_wb | exact after5 HB_wa hb_wb
  try clear q_c_0 q_c_1 q_c_2 q_c_3
  have H_c := Lib.hid (Box.below (by first | exact H_c.out | exact H_c.out.alloc _ | exact (H_c.out.alloc _).alloc _ | exact ((H_c.out.alloc _).alloc _).alloc _) hb_wb)
  obtain ⟨q_c_0, q_c_1, q_c_2, q_c_3⟩ := H_c.out.c4
  try clear q_r_0 q_r_1
  have H_r := Lib.hid (Box.below (by first | exact H_r.out | exact H_r.out.alloc _ | exact (H_r.out.alloc _).alloc _ | exact ((H_r.out.alloc _).alloc _).alloc _) hb_wb)
  obtain ⟨q_r_0, q_r_1⟩ := H_r.out.c2
  cases h2 : tm t
  · have HP := Lib.hid (HBAD.out (.inr h2))
    have f1 := H_r.out.frozen
    obtain ⟨q_r_0, q_r_1⟩ := H_r.out.c2
    go_wp2_with fail
    obtain ⟨s0, s1⟩ := ((H_r.out.set 0 (.int .i64 (0))).set 1 (.int .i64 (0))).c2
    refine bodyPost_ret (v := .tuple #[.agg #[.int .i64 (0), .int .i64 (0)], .int .i64 (1)]) (by simp [results, Tryz.results28, go_sem, s0, s1]) rfl ?_
    exact ⟨by rw [HP.out]; try rfl, (HB_wb.setCell (p := ⟨w.heap.size + 1, 0, none⟩) (by simp) _).setCell (p := ⟨w.heap.size + 1, 1, none⟩) (by simp) _⟩
  have HN := Lib.hid (HNONE.out (by trivial) h2)
  have HO := Lib.hid (HOK.out (by trivial) h2)
  have hb1 := HAT.out (by trivial)
  have hb2 := HFB.out (by trivial)
  have hb3 := HSP.out (by trivial)
  have ht := tm_iff.1 h2
  have hbx : 0 ≤ x ∧ x ≤ 10000001 ∧ 0 ≤ y ∧ y ≤ 10000001 := by omega
  obtain ⟨hx0, hx1, hy0, hy1⟩ := hbx
  have HFH1 := Lib.hid (fun W => HFH.out W (by trivial))
  have HFL1 := Lib.hid (fun W => HFL.out W (by trivial))
  clear hb1 hb2 hb3 h2 HBAD HNONE HOK HFH HFL HSP HAT HFB HCV
  obtain ⟨W1, hW1, hB1, hZ1, hb1⟩ := boxes1 wb [.int .i64 a, .int .i64 b, .int .i64 d, .int .i64 e] 66
  have H_f := Lib.hid hb1
  have HB_W1 : Below w.heap.size w W1 := after0 HB_wb hB1
  replace H_r := Lib.hid (H_r.out.below hB1)
  clear hb1 hZ1 hB1 q_r_0 q_r_1
  obtain ⟨q_f_0, q_f_1, q_f_2, q_f_3⟩ := H_f.out.c4
  go_wp2_with fail
  clear q_c_0 q_c_1 q_c_2 q_c_3
  have y_q_f_0 := cell_regrown q_f_0
  have y_q_f_1 := cell_regrown q_f_1
  have y_q_f_2 := cell_regrown q_f_2
  have y_q_f_3 := cell_regrown q_f_3
  clear q_f_0 q_f_1 q_f_2 q_f_3
  clear hW1
  refine wp_region_plan (C := fun w' => ∃ p : Regrown, w' = grow (redrawn W1 p.d) p.os) (.q 0 (.q 1 (.q 2 (.q 3 (.q 5 (.q 6 (.q 7 (.q 8 (.q 9 (.two 4 (.two 10 (.q 11 (.q 12 (.e 13 (.done)))) 13 (.e 10 (.q 11 (.q 12 (.done))))) 13 (.e 4 (.e 10 (.q 11 (.q 12 (.done))))))))))))))) 14 (by kernel_rfl) (by kernel_rfl) (grew_drew _) ?_
  repeat (any_goals (first | (go_big_quiet_skip; refine wpQuiet_nil ?_) | (go_big_quiet_want; go_big_quiet_op; go_big_quiet_on; refine wpQuiet_nil ?_) | ((with_reducible apply q_split); exact rfl; intro q hq; cases q <;> (rw [hq]; (try first | replace hq := bnot_t hq | replace hq := bnot_f hq); (try first | replace hq := of_decide_eq_true hq | replace hq := of_decide_eq_false hq | replace hq := eq_of_beq hq); (try first | replace hq := Int.not_lt.1 hq | replace hq := Int.not_le.1 hq | replace hq := Nat.not_lt.1 hq | replace hq := Nat.not_le.1 hq); try (exfalso; omega))) | (refine plan_q rfl rfl ?_)))
  refine plan_two rfl rfl ?_ ?_
  · go_wp2_with fail
    refine (HFH1.out _).mono ?_
    rintro e w2 ⟨rfl, hb2⟩
    have HW2 : Below W1.heap.size W1 w2 := below_undrew hb2
    clear hb2
    go_wp2_with fail
    refine MixPost.intro (grew_of_below HW2) ?_
    repeat (any_goals (first | (go_big_quiet_skip; refine wpQuiet_nil ?_) | (go_big_quiet_want; go_big_quiet_op; go_big_quiet_on; refine wpQuiet_nil ?_) | ((with_reducible apply q_split); exact rfl; intro q hq; cases q <;> (rw [hq]; (try first | replace hq := bnot_t hq | replace hq := bnot_f hq); (try first | replace hq := of_decide_eq_true hq | replace hq := of_decide_eq_false hq | replace hq := eq_of_beq hq); (try first | replace hq := Int.not_lt.1 hq | replace hq := Int.not_le.1 hq | replace hq := Nat.not_lt.1 hq | replace hq := Nat.not_le.1 hq); try (exfalso; omega))) | (refine plan_q rfl rfl ?_)))
    refine plan_two rfl rfl ?_ ?_
    · go_wp2_with fail
      refine (HFL1.out _).mono ?_
      rintro e w3 ⟨rfl, hb3⟩
      have HW3 : Below W1.heap.size W1 w3 := after0 HW2 hb3
      clear hb3
      go_wp2_with fail
      refine MixPost.intro (grew_of_below HW3) ?_
      repeat (any_goals (first | (go_big_quiet_skip; refine wpQuiet_nil ?_) | (go_big_quiet_want; go_big_quiet_op; go_big_quiet_on; refine wpQuiet_nil ?_) | ((with_reducible apply q_split); exact rfl; intro q hq; cases q <;> (rw [hq]; (try first | replace hq := bnot_t hq | replace hq := bnot_f hq); (try first | replace hq := of_decide_eq_true hq | replace hq := of_decide_eq_false hq | replace hq := eq_of_beq hq); (try first | replace hq := Int.not_lt.1 hq | replace hq := Int.not_le.1 hq | replace hq := Nat.not_lt.1 hq | replace hq := Nat.not_le.1 hq); try (exfalso; omega))) | (refine plan_q rfl rfl ?_)))
      refine plan_e rfl ?_
      go_wp2_with fail
      refine MixPost.intro (grew_of_below (grew1 HW3)) ?_
      repeat (any_goals (first | (go_big_quiet_skip; refine wpQuiet_nil ?_) | (go_big_quiet_want; go_big_quiet_op; go_big_quiet_on; refine wpQuiet_nil ?_) | ((with_reducible apply q_split); exact rfl; intro q hq; cases q <;> (rw [hq]; (try first | replace hq := bnot_t hq | replace hq := bnot_f hq); (try first | replace hq := of_decide_eq_true hq | replace hq := of_decide_eq_false hq | replace hq := eq_of_beq hq); (try first | replace hq := Int.not_lt.1 hq | replace hq := Int.not_le.1 hq | replace hq := Nat.not_lt.1 hq | replace hq := Nat.not_le.1 hq); try (exfalso; omega))) | (refine plan_q rfl rfl ?_)))
      clear y_q_f_0 y_q_f_1 y_q_f_2 y_q_f_3
      obtain ⟨WF, hWF, hBF, hZF, hbF⟩ := boxes1 w3 [.int .i64 x, .int .i64 (y - 1)] 25
      have HB_WF : Below w.heap.size w WF := after0 HB_W1 (after0 HW3 hBF)
      have H_s := Lib.hid hbF
      replace H_r := Lib.hid ((H_r.out.below HW3).below hBF)
      clear hbF hBF hZF
      obtain ⟨q_s_0, q_s_1⟩ := H_s.out.c2
      obtain ⟨q_r_0, q_r_1⟩ := H_r.out.c2
      have f1 := H_r.out.frozen
      by_cases hlt : y - 1 < x
      · have HP := Lib.hid (HN.out hlt)
        all_goals refine plan_done ?_
        all_goals (try simp only [List.drop_succ_cons, List.drop_zero])
        all_goals (try go_wp2_with fail)
        all_goals refine NoPanic.normal ?_
        all_goals (try go_wp2_with fail)
        obtain ⟨s0, s1⟩ := ((H_r.out.set 0 (.int .i64 0)).set 1 (.int .i64 0)).c2
        refine bodyPost_ret (v := .tuple #[.agg #[.int .i64 0, .int .i64 0], .int .i64 4]) (by simp [results, Tryz.results28, go_sem, s0, s1]) rfl ?_
        exact ⟨by rw [HP.out], (HB_WF.setCell (p := ⟨w.heap.size + 1, 0, none⟩) (by simp) _).setCell (p := ⟨w.heap.size + 1, 1, none⟩) (by simp) _⟩
      · have HP := Lib.hid (HO.out (by omega))
        replace hlt := Int.not_lt.1 hlt
        all_goals refine plan_done ?_
        all_goals (try simp only [List.drop_succ_cons, List.drop_zero])
        all_goals (try go_wp2_with fail)
        all_goals refine NoPanic.normal ?_
        all_goals (try go_wp2_with fail)
        obtain ⟨s0, s1⟩ := ((H_r.out.set 0 (.int .i64 x)).set 1 (.int .i64 (y - 1))).c2
        refine bodyPost_ret (v := .tuple #[.agg #[.int .i64 x, .int .i64 (y - 1)], .int .i64 0]) (by simp [results, Tryz.results28, go_sem, s0, s1]) rfl ?_
        exact ⟨by rw [HP.out], (HB_WF.setCell (p := ⟨w.heap.size + 1, 0, none⟩) (by simp) _).setCell (p := ⟨w.heap.size + 1, 1, none⟩) (by simp) _⟩
    · go_wp2_with fail
      refine MixPost.intro (grew_of_below (grew1 HW2)) ?_
      repeat (any_goals (first | (go_big_quiet_skip; refine wpQuiet_nil ?_) | (go_big_quiet_want; go_big_quiet_op; go_big_quiet_on; refine wpQuiet_nil ?_) | ((with_reducible apply q_split); exact rfl; intro q hq; cases q <;> (rw [hq]; (try first | replace hq := bnot_t hq | replace hq := bnot_f hq); (try first | replace hq := of_decide_eq_true hq | replace hq := of_decide_eq_false hq | replace hq := eq_of_beq hq); (try first | replace hq := Int.not_lt.1 hq | replace hq := Int.not_le.1 hq | replace hq := Nat.not_lt.1 hq | replace hq := Nat.not_le.1 hq); try (exfalso; omega))) | (refine plan_q rfl rfl ?_)))
      refine plan_e rfl ?_
      go_wp2_with fail
      refine (HFL1.out _).mono ?_
      rintro e w3 ⟨rfl, hb3⟩
      have HW3 : Below W1.heap.size W1 w3 := after1 HW2 hb3
      obtain ⟨NS, hNS⟩ : ∃ N, w2.heap.size = N := ⟨_, rfl⟩
      have hs3 := (Box.new w2 [.int .i64 0, .int .i64 0] 25).below hb3
      rw [hNS] at hs3
      have HNS : w.heap.size + 1 < NS := by rw [← hNS]; exact Nat.lt_of_lt_of_le H_r.out.lt HW2.size
      clear hb3
      go_wp2_with fail
      refine MixPost.intro (grew_of_below HW3) ?_
      repeat (any_goals (first | (go_big_quiet_skip; refine wpQuiet_nil ?_) | (go_big_quiet_want; go_big_quiet_op; go_big_quiet_on; refine wpQuiet_nil ?_) | ((with_reducible apply q_split); exact rfl; intro q hq; cases q <;> (rw [hq]; (try first | replace hq := bnot_t hq | replace hq := bnot_f hq); (try first | replace hq := of_decide_eq_true hq | replace hq := of_decide_eq_false hq | replace hq := eq_of_beq hq); (try first | replace hq := Int.not_lt.1 hq | replace hq := Int.not_le.1 hq | replace hq := Nat.not_lt.1 hq | replace hq := Nat.not_le.1 hq); try (exfalso; omega))) | (refine plan_q rfl rfl ?_)))
      clear y_q_f_0 y_q_f_1 y_q_f_2 y_q_f_3
      try rw [hNS]
      clear hNS
      obtain ⟨WF, hWF, hBF, hsF, hoF⟩ := store2 w3 NS (.int .i64 x) (.int .i64 (y - 1))
      have HB_WF : Below w.heap.size w WF := (after0 HB_W1 HW3).trans (hBF _ (by omega))
      have f3 := hs3.frozen
      obtain ⟨q_3_0, q_3_1⟩ := hs3.c2
      have H_s := Lib.hid (hsF _ _ _ hs3)
      replace H_r := Lib.hid (hoF _ _ _ (by omega) (H_r.out.below HW3))
      clear hBF hsF hoF hs3
      obtain ⟨q_s_0, q_s_1⟩ := H_s.out.c2
      obtain ⟨q_r_0, q_r_1⟩ := H_r.out.c2
      have f1 := H_r.out.frozen
      by_cases hlt : y - 1 < x
      · have HP := Lib.hid (HN.out hlt)
        all_goals refine plan_done ?_
        all_goals (try simp only [List.drop_succ_cons, List.drop_zero])
        all_goals (try go_wp2_with fail)
        all_goals refine NoPanic.normal ?_
        all_goals (try go_wp2_with fail)
        obtain ⟨s0, s1⟩ := ((H_r.out.set 0 (.int .i64 0)).set 1 (.int .i64 0)).c2
        refine bodyPost_ret (v := .tuple #[.agg #[.int .i64 0, .int .i64 0], .int .i64 4]) (by simp [results, Tryz.results28, go_sem, s0, s1]) rfl ?_
        exact ⟨by rw [HP.out], (HB_WF.setCell (p := ⟨w.heap.size + 1, 0, none⟩) (by simp) _).setCell (p := ⟨w.heap.size + 1, 1, none⟩) (by simp) _⟩
      · have HP := Lib.hid (HO.out (by omega))
        replace hlt := Int.not_lt.1 hlt
        all_goals refine plan_done ?_
        all_goals (try simp only [List.drop_succ_cons, List.drop_zero])
        all_goals (try go_wp2_with fail)
        all_goals refine NoPanic.normal ?_
        all_goals (try go_wp2_with fail)
        obtain ⟨s0, s1⟩ := ((H_r.out.set 0 (.int .i64 x)).set 1 (.int .i64 (y - 1))).c2
        refine bodyPost_ret (v := .tuple #[.agg #[.int .i64 x, .int .i64 (y - 1)], .int .i64 0]) (by simp [results, Tryz.results28, go_sem, s0, s1]) rfl ?_
        exact ⟨by rw [HP.out], (HB_WF.setCell (p := ⟨w.heap.size + 1, 0, none⟩) (by simp) _).setCell (p := ⟨w.heap.size + 1, 1, none⟩) (by simp) _⟩
  · go_wp2_with fail
    refine MixPost.intro (grew_of_below ((grew1 (Below.refl _ _)).drew)) ?_
    repeat (any_goals (first | (go_big_quiet_skip; refine wpQuiet_nil ?_) | (go_big_quiet_want; go_big_quiet_op; go_big_quiet_on; refine wpQuiet_nil ?_) | ((with_reducible apply q_split); exact rfl; intro q hq; cases q <;> (rw [hq]; (try first | replace hq := bnot_t hq | replace hq := bnot_f hq); (try first | replace hq := of_decide_eq_true hq | replace hq := of_decide_eq_false hq | replace hq := eq_of_beq hq); (try first | replace hq := Int.not_lt.1 hq | replace hq := Int.not_le.1 hq | replace hq := Nat.not_lt.1 hq | replace hq := Nat.not_le.1 hq); try (exfalso; omega))) | (refine plan_q rfl rfl ?_)))
    refine plan_e rfl ?_
    go_wp2_with fail
    refine (HFH1.out _).mono ?_
    rintro e w2 ⟨rfl, hb2⟩
    have HW2 : Below W1.heap.size W1 w2 := after0 ((grew1 (Below.refl _ _)).drew) hb2
    obtain ⟨NS, hNS⟩ : ∃ N, W1.heap.size = N := ⟨_, rfl⟩
    have hs2 := (Box.drew (Box.new W1 [.int .i64 0, .int .i64 0] 25)).below hb2
    rw [hNS] at hs2
    have HNS : w.heap.size + 1 < NS := by rw [← hNS]; exact H_r.out.lt
    clear hb2
    go_wp2_with fail
    refine MixPost.intro (grew_of_below HW2) ?_
    repeat (any_goals (first | (go_big_quiet_skip; refine wpQuiet_nil ?_) | (go_big_quiet_want; go_big_quiet_op; go_big_quiet_on; refine wpQuiet_nil ?_) | ((with_reducible apply q_split); exact rfl; intro q hq; cases q <;> (rw [hq]; (try first | replace hq := bnot_t hq | replace hq := bnot_f hq); (try first | replace hq := of_decide_eq_true hq | replace hq := of_decide_eq_false hq | replace hq := eq_of_beq hq); (try first | replace hq := Int.not_lt.1 hq | replace hq := Int.not_le.1 hq | replace hq := Nat.not_lt.1 hq | replace hq := Nat.not_le.1 hq); try (exfalso; omega))) | (refine plan_q rfl rfl ?_)))
    refine plan_e rfl ?_
    go_wp2_with fail
    refine (HFL1.out _).mono ?_
    rintro e w3 ⟨rfl, hb3⟩
    have HW3 : Below W1.heap.size W1 w3 := after0 HW2 hb3
    have hs3 := hs2.below hb3
    clear hb3 hs2
    go_wp2_with fail
    refine MixPost.intro (grew_of_below HW3) ?_
    repeat (any_goals (first | (go_big_quiet_skip; refine wpQuiet_nil ?_) | (go_big_quiet_want; go_big_quiet_op; go_big_quiet_on; refine wpQuiet_nil ?_) | ((with_reducible apply q_split); exact rfl; intro q hq; cases q <;> (rw [hq]; (try first | replace hq := bnot_t hq | replace hq := bnot_f hq); (try first | replace hq := of_decide_eq_true hq | replace hq := of_decide_eq_false hq | replace hq := eq_of_beq hq); (try first | replace hq := Int.not_lt.1 hq | replace hq := Int.not_le.1 hq | replace hq := Nat.not_lt.1 hq | replace hq := Nat.not_le.1 hq); try (exfalso; omega))) | (refine plan_q rfl rfl ?_)))
    clear y_q_f_0 y_q_f_1 y_q_f_2 y_q_f_3
    try rw [hNS]
    clear hNS
    obtain ⟨WF, hWF, hBF, hsF, hoF⟩ := store2 w3 NS (.int .i64 x) (.int .i64 (y - 1))
    have HB_WF : Below w.heap.size w WF := (after0 HB_W1 HW3).trans (hBF _ (by omega))
    have f3 := hs3.frozen
    obtain ⟨q_3_0, q_3_1⟩ := hs3.c2
    have H_s := Lib.hid (hsF _ _ _ hs3)
    replace H_r := Lib.hid (hoF _ _ _ (by omega) (H_r.out.below HW3))
    clear hBF hsF hoF hs3
    obtain ⟨q_s_0, q_s_1⟩ := H_s.out.c2
    obtain ⟨q_r_0, q_r_1⟩ := H_r.out.c2
    have f1 := H_r.out.frozen
    by_cases hlt : y - 1 < x
    · have HP := Lib.hid (HN.out hlt)
      all_goals refine plan_done ?_
      all_goals (try simp only [List.drop_succ_cons, List.drop_zero])
      all_goals (try go_wp2_with fail)
      all_goals refine NoPanic.normal ?_
      all_goals (try go_wp2_with fail)
      obtain ⟨s0, s1⟩ := ((H_r.out.set 0 (.int .i64 0)).set 1 (.int .i64 0)).c2
      refine bodyPost_ret (v := .tuple #[.agg #[.int .i64 0, .int .i64 0], .int .i64 4]) (by simp [results, Tryz.results28, go_sem, s0, s1]) rfl ?_
      exact ⟨by rw [HP.out], (HB_WF.setCell (p := ⟨w.heap.size + 1, 0, none⟩) (by simp) _).setCell (p := ⟨w.heap.size + 1, 1, none⟩) (by simp) _⟩
    · have HP := Lib.hid (HO.out (by omega))
      replace hlt := Int.not_lt.1 hlt
      all_goals refine plan_done ?_
      all_goals (try simp only [List.drop_succ_cons, List.drop_zero])
      all_goals (try go_wp2_with fail)
      all_goals refine NoPanic.normal ?_
      all_goals (try go_wp2_with fail)
      obtain ⟨s0, s1⟩ := ((H_r.out.set 0 (.int .i64 x)).set 1 (.int .i64 (y - 1))).c2
      refine bodyPost_ret (v := .tuple #[.agg #[.int .i64 x, .int .i64 (y - 1)], .int .i64 0]) (by simp [results, Tryz.results28, go_sem, s0, s1]) rfl ?_
      exact ⟨by rw [HP.out], (HB_WF.setCell (p := ⟨w.heap.size + 1, 0, none⟩) (by simp) _).setCell (p := ⟨w.heap.size + 1, 1, none⟩) (by simp) _⟩
end Go.Proofs.YtpdecgbfnhaojaaGreat
