/-
  The reference function For of chapter 10.
-/
import Derived.Test.YtmnlkndbdcdngaaSymRB
namespace Go.Proofs.Ytmnlkndbdcdngaa
open Go.RowKit Sb Sk Go.Sort
set_option linter.unusedVariables false

theorem forF_next {ms : List Mk} {m x : Mk} {j : Nat} (hj : ms[j]? = some x) : forF ms m (j + 1) = if fitB m x && (decide (forF ms m j < 0) || decide (x.cl < (ms.getD (forF ms m j).toNat zeroM).cl)) then (j : Int) else forF ms m j := by
  simp only [forF, hj]


set_option maxRecDepth 100000 in
set_option maxHeartbeats 8000000 in
theorem rfor_any (of : Int) (ao : Option Addr) (n cap : Nat) (ms : List Mk) (m0 m1 m2 : Int) (w : World) (hs : Sl w 3 cM ao n cap ms) (hv : VOk ms) :
    Calls Try.prog 35 #[.agg #[.int .i64 of, .slice ao n cap], .agg #[.int .i64 m0, .int .i64 m1, .int .i64 m2]] w (Ret w (.int .i64 (forI ms ⟨m0, m1, m2⟩))) := by
  obtain rfl := hs.len
  have hcap := hs.max
  have hle := hs.le
  unfold maxLen at hcap
  have HVO := Lib.hid hv
  clear hv
  obtain ⟨W0, hW0, HB_W0, hZ, hn, hm⟩ := boxes2 w [.int .i64 of, .slice ao ms.length cap] [.int .i64 m0, .int .i64 m1, .int .i64 m2] 24 29
  have H_n := Lib.hid hn
  have H_m := Lib.hid hm
  have HS := Lib.hid (hs.below HB_W0)
  clear hn hm hs hZ
  go_enter Try.func35, Try.ntmps35
  go_wp2_with fail
  go_loopw [5, 6] (fun v i wr => ∃ j : Nat, j ≤ ms.length ∧ v = .int .i64 (forF ms ⟨m0, m1, m2⟩ j) ∧ i = .int .i64 j ∧ Below W0.heap.size W0 wr) (fun _ i _ => ms.length - (intOf i).toNat)
  case atStart => exact ⟨0, by omega, rfl, rfl, Below.refl _ _⟩
  case round =>
    obtain ⟨j, hj, rfl, rfl, HB_wr⟩ := hrel
    have H_nr := Lib.hid (H_n.out.below HB_wr)
    have H_mr := Lib.hid (H_m.out.below HB_wr)
    by_cases hjl : j < ms.length
    case neg =>
      obtain rfl : j = ms.length := by omega
      obtain ⟨q_n_0, q_n_1⟩ := H_nr.out.c2
      go_wp2_with fail
      go_ret
      exact ⟨rfl, after0 HB_W0 HB_wr⟩
    obtain ⟨bb, off, rfl, hbb, hrow⟩ := HS.out.get hjl
    have HROW := Lib.hid hrow
    obtain ⟨e_0, e_1, e_2⟩ := ((hrow j hjl).below HB_wr hbb).c3
    have HF := Lib.hid (forF_next (m := ⟨m0, m1, m2⟩) (List.getElem?_eq_getElem hjl))
    have HSP := Lib.hid (forF_spec HVO.out ⟨m0, m1, m2⟩ j hj)
    obtain ⟨x, hx⟩ : ∃ x, ms[j] = x := ⟨_, rfl⟩
    rw [hx] at e_0 e_1 e_2 HF
    clear hx hrow
    obtain ⟨a, b, c⟩ := x
    dsimp only at e_0 e_1 e_2 HF
    obtain ⟨q_n_0, q_n_1⟩ := H_nr.out.c2
    obtain ⟨W1, hW1, HB1, hZ1, hp⟩ := boxes1 wr [.int .i64 a, .int .i64 b, .int .i64 c] 29
    have H_p := Lib.hid hp
    have HB_W1 : Below W0.heap.size W0 W1 := after0 HB_wr HB1
    have H_n1 := Lib.hid (H_nr.out.below HB1)
    have H_m1 := Lib.hid (H_mr.out.below HB1)
    have HX : Hid (W1.cell? ⟨w.heap.size, 0, none⟩ = some (.int .i64 of) ∧ True) := ⟨H_n1.out.c2.1, trivial⟩
    clear hp hZ1 HX
    go_wp2_with fail
    clear q_n_0 q_n_1 e_0 e_1 e_2 hW1
    obtain ⟨q_n_0, q_n_1⟩ := H_n1.out.c2
    obtain ⟨q_m_0, q_m_1, q_m_2⟩ := H_m1.out.c3
    obtain ⟨p_0, p_1, p_2⟩ := H_p.out.c3
    generalize hf : forF ms ⟨m0, m1, m2⟩ j = f at *
    generalize hg : forF ms ⟨m0, m1, m2⟩ (j + 1) = g at *
    replace hf := Lib.hid hf
    have HG := Lib.hid hg
    clear hg hf
    rcases HSP.out with ⟨hs1, _⟩ | ⟨i, hi, hs1, hs2, _⟩
    · subst hs1
      clear HSP
      have HF2 : Hid (g = if b = m1 ∧ m2 ≤ c then (j : Int) else -1) := by
        show _ = _
        rw [HF.out]
        by_cases h : b = m1 ∧ m2 ≤ c <;> simp [fitB, h]
      clear HF
      by_cases hb : b = m1 ∧ m2 ≤ c
      · have HN : Hid (g = (j : Int)) := by show _ = _; rw [HF2.out, if_pos hb]
        obtain ⟨hb1, hb2⟩ := hb
        clear HF2
        have y_p_0 := cell_regrown p_0
        have y_p_1 := cell_regrown p_1
        have y_p_2 := cell_regrown p_2
        clear p_0 p_1 p_2
        have y_q_n_0 := cell_regrown q_n_0
        have y_q_n_1 := cell_regrown q_n_1
        clear q_n_0 q_n_1
        have y_q_m_0 := cell_regrown q_m_0
        have y_q_m_1 := cell_regrown q_m_1
        have y_q_m_2 := cell_regrown q_m_2
        clear q_m_0 q_m_1 q_m_2
        refine wp_region_plan (C := fun w' => ∃ p : Regrown, w' = grow (redrawn W1 p.d) p.os) (.q 0 (.q 1 (.q 2 (.q 3 (.q 4 (.q 5 (.q 6 (.q 7 (.q 8 (.q 9 (.q 10 (.q 11 (.q 12 (.q 13 (.q 14 (.q 15 (.q 16 (.q 17 (.q 18 (.q 19 (.q 20 (.q 21 (.q 22 (.q 23 (.q 24 (.q 25 (.q 26 (.done)))))))))))))))))))))))))))) 27 (by kernel_rfl) (by kernel_rfl) (grew_drew _) ?_
        repeat (any_goals (first | (go_big_quiet_skip; refine wpQuiet_nil ?_) | (go_big_quiet_want; go_big_quiet_op; go_big_quiet_on; refine wpQuiet_nil ?_) | ((with_reducible apply q_split); exact rfl; intro q hq; cases q <;> (rw [hq]; (try first | replace hq := bnot_t hq | replace hq := bnot_f hq); (try first | replace hq := of_decide_eq_true hq | replace hq := of_decide_eq_false hq | replace hq := eq_of_beq hq); (try first | replace hq := Int.not_lt.1 hq | replace hq := Int.not_le.1 hq | replace hq := Nat.not_lt.1 hq | replace hq := Nat.not_le.1 hq); try (exfalso; omega))) | (refine plan_q rfl rfl ?_)))
        clear y_p_0 y_p_1 y_p_2
        clear y_q_n_0 y_q_n_1
        clear y_q_m_0 y_q_m_1 y_q_m_2
        all_goals refine plan_done ?_
        all_goals (try simp only [List.drop_succ_cons, List.drop_zero])
        all_goals (try go_wp2_with fail)
        all_goals refine NoPanic.normal ?_
        all_goals (try go_wp2_with fail)
        all_goals try (exfalso; omega)
        all_goals
          go_roundw
          case rel => exact ⟨j + 1, by omega, by rw [HG.out, HN.out], by go_num, HB_W1.drew⟩
          case measure => simp [intOf]; omega
      · have HN : Hid (g = -1) := by show _ = _; rw [HF2.out, if_neg hb]
        clear HF2
        have y_p_0 := cell_regrown p_0
        have y_p_1 := cell_regrown p_1
        have y_p_2 := cell_regrown p_2
        clear p_0 p_1 p_2
        have y_q_n_0 := cell_regrown q_n_0
        have y_q_n_1 := cell_regrown q_n_1
        clear q_n_0 q_n_1
        have y_q_m_0 := cell_regrown q_m_0
        have y_q_m_1 := cell_regrown q_m_1
        have y_q_m_2 := cell_regrown q_m_2
        clear q_m_0 q_m_1 q_m_2
        refine wp_region_plan (C := fun w' => ∃ p : Regrown, w' = grow (redrawn W1 p.d) p.os) (.q 0 (.q 1 (.q 2 (.q 3 (.q 4 (.q 5 (.q 6 (.q 7 (.q 8 (.q 9 (.q 10 (.q 11 (.q 12 (.q 13 (.q 14 (.q 15 (.q 16 (.q 17 (.q 18 (.q 19 (.q 20 (.q 21 (.q 22 (.q 23 (.q 24 (.q 25 (.q 26 (.done)))))))))))))))))))))))))))) 27 (by kernel_rfl) (by kernel_rfl) (grew_drew _) ?_
        repeat (any_goals (first | (go_big_quiet_skip; refine wpQuiet_nil ?_) | (go_big_quiet_want; go_big_quiet_op; go_big_quiet_on; refine wpQuiet_nil ?_) | ((with_reducible apply q_split); exact rfl; intro q hq; cases q <;> (rw [hq]; (try first | replace hq := bnot_t hq | replace hq := bnot_f hq); (try first | replace hq := of_decide_eq_true hq | replace hq := of_decide_eq_false hq | replace hq := eq_of_beq hq); (try first | replace hq := Int.not_lt.1 hq | replace hq := Int.not_le.1 hq | replace hq := Nat.not_lt.1 hq | replace hq := Nat.not_le.1 hq); try (exfalso; omega))) | (refine plan_q rfl rfl ?_)))
        clear y_p_0 y_p_1 y_p_2
        clear y_q_n_0 y_q_n_1
        clear y_q_m_0 y_q_m_1 y_q_m_2
        all_goals refine plan_done ?_
        all_goals (try simp only [List.drop_succ_cons, List.drop_zero])
        all_goals (try go_wp2_with fail)
        all_goals refine NoPanic.normal ?_
        all_goals (try go_wp2_with fail)
        all_goals try (exfalso; omega)
        all_goals
          go_roundw
          case rel => exact ⟨j + 1, by omega, by rw [HG.out, HN.out], by go_num, HB_W1.drew⟩
          case measure => simp [intOf]; omega
    · subst hs1
      clear HSP
      obtain ⟨r_0, r_1, r_2⟩ := ((HROW.out i hi).below HB_W1 hbb).c3
      have hd : (ms.getD i zeroM) = ms[i] := by simp [List.getD, hi]
      have HF2 : Hid (g = if (b = m1 ∧ m2 ≤ c) ∧ c < ms[i].cl then (j : Int) else (i : Int)) := by
        show _ = _
        rw [HF.out]
        rw [Int.toNat_natCast, hd]
        by_cases h : b = m1 ∧ m2 ≤ c <;> by_cases h2 : c < ms[i].cl <;> simp [fitB, h, h2] <;> omega
      clear HF hd
      generalize ms[i].sy = d0 at *
      generalize ms[i].kd = d1 at *
      generalize ms[i].cl = d2 at *
      by_cases hb : (b = m1 ∧ m2 ≤ c) ∧ c < d2
      · have HN : Hid (g = (j : Int)) := by show _ = _; rw [HF2.out, if_pos hb]
        obtain ⟨⟨hb1, hb2⟩, hb3⟩ := hb
        clear HF2
        have y_p_0 := cell_regrown p_0
        have y_p_1 := cell_regrown p_1
        have y_p_2 := cell_regrown p_2
        clear p_0 p_1 p_2
        have y_q_n_0 := cell_regrown q_n_0
        have y_q_n_1 := cell_regrown q_n_1
        clear q_n_0 q_n_1
        have y_q_m_0 := cell_regrown q_m_0
        have y_q_m_1 := cell_regrown q_m_1
        have y_q_m_2 := cell_regrown q_m_2
        clear q_m_0 q_m_1 q_m_2
        have y_r_0 := cell_regrown r_0
        have y_r_1 := cell_regrown r_1
        have y_r_2 := cell_regrown r_2
        clear r_0 r_1 r_2
        refine wp_region_plan (C := fun w' => ∃ p : Regrown, w' = grow (redrawn W1 p.d) p.os) (.q 0 (.q 1 (.q 2 (.q 3 (.q 4 (.q 5 (.q 6 (.q 7 (.q 8 (.q 9 (.q 10 (.q 11 (.q 12 (.q 13 (.q 14 (.q 15 (.q 16 (.q 17 (.q 18 (.q 19 (.q 20 (.q 21 (.q 22 (.q 23 (.q 24 (.q 25 (.q 26 (.done)))))))))))))))))))))))))))) 27 (by kernel_rfl) (by kernel_rfl) (grew_drew _) ?_
        repeat (any_goals (first | (go_big_quiet_skip; refine wpQuiet_nil ?_) | (go_big_quiet_want; go_big_quiet_op; go_big_quiet_on; refine wpQuiet_nil ?_) | ((with_reducible apply q_split); exact rfl; intro q hq; cases q <;> (rw [hq]; (try first | replace hq := bnot_t hq | replace hq := bnot_f hq); (try first | replace hq := of_decide_eq_true hq | replace hq := of_decide_eq_false hq | replace hq := eq_of_beq hq); (try first | replace hq := Int.not_lt.1 hq | replace hq := Int.not_le.1 hq | replace hq := Nat.not_lt.1 hq | replace hq := Nat.not_le.1 hq); try (exfalso; omega))) | (refine plan_q rfl rfl ?_)))
        clear y_p_0 y_p_1 y_p_2
        clear y_q_n_0 y_q_n_1
        clear y_q_m_0 y_q_m_1 y_q_m_2
        clear y_r_0 y_r_1 y_r_2
        all_goals refine plan_done ?_
        all_goals (try simp only [List.drop_succ_cons, List.drop_zero])
        all_goals (try go_wp2_with fail)
        all_goals refine NoPanic.normal ?_
        all_goals (try go_wp2_with fail)
        all_goals try (exfalso; omega)
        all_goals
          go_roundw
          case rel => exact ⟨j + 1, by omega, by rw [HG.out, HN.out], by go_num, HB_W1.drew⟩
          case measure => simp [intOf]; omega
      · have HN : Hid (g = (i : Int)) := by show _ = _; rw [HF2.out, if_neg hb]
        clear HF2
        have y_p_0 := cell_regrown p_0
        have y_p_1 := cell_regrown p_1
        have y_p_2 := cell_regrown p_2
        clear p_0 p_1 p_2
        have y_q_n_0 := cell_regrown q_n_0
        have y_q_n_1 := cell_regrown q_n_1
        clear q_n_0 q_n_1
        have y_q_m_0 := cell_regrown q_m_0
        have y_q_m_1 := cell_regrown q_m_1
        have y_q_m_2 := cell_regrown q_m_2
        clear q_m_0 q_m_1 q_m_2
        have y_r_0 := cell_regrown r_0
        have y_r_1 := cell_regrown r_1
        have y_r_2 := cell_regrown r_2
        clear r_0 r_1 r_2
        refine wp_region_plan (C := fun w' => ∃ p : Regrown, w' = grow (redrawn W1 p.d) p.os) (.q 0 (.q 1 (.q 2 (.q 3 (.q 4 (.q 5 (.q 6 (.q 7 (.q 8 (.q 9 (.q 10 (.q 11 (.q 12 (.q 13 (.q 14 (.q 15 (.q 16 (.q 17 (.q 18 (.q 19 (.q 20 (.q 21 (.q 22 (.q 23 (.q 24 (.q 25 (.q 26 (.done)))))))))))))))))))))))))))) 27 (by kernel_rfl) (by kernel_rfl) (grew_drew _) ?_
        repeat (any_goals (first | (go_big_quiet_skip; refine wpQuiet_nil ?_) | (go_big_quiet_want; go_big_quiet_op; go_big_quiet_on; refine wpQuiet_nil ?_) | ((with_reducible apply q_split); exact rfl; intro q hq; cases q <;> (rw [hq]; (try first | replace hq := bnot_t hq | replace hq := bnot_f hq); (try first | replace hq := of_decide_eq_true hq | replace hq := of_decide_eq_false hq | replace hq := eq_of_beq hq); (try first | replace hq := Int.not_lt.1 hq | replace hq := Int.not_le.1 hq | replace hq := Nat.not_lt.1 hq | replace hq := Nat.not_le.1 hq); try (exfalso; omega))) | (refine plan_q rfl rfl ?_)))
        clear y_p_0 y_p_1 y_p_2
        clear y_q_n_0 y_q_n_1
        clear y_q_m_0 y_q_m_1 y_q_m_2
        clear y_r_0 y_r_1 y_r_2
        all_goals refine plan_done ?_
        all_goals (try simp only [List.drop_succ_cons, List.drop_zero])
        all_goals (try go_wp2_with fail)
        all_goals refine NoPanic.normal ?_
        all_goals (try go_wp2_with fail)
        all_goals try (exfalso; omega)
        all_goals
          go_roundw
          case rel => exact ⟨j + 1, by omega, by rw [HG.out, HN.out], by go_num, HB_W1.drew⟩
          case measure => simp [intOf]; omega
end Go.Proofs.Ytmnlkndbdcdngaa
