/-
  The reference functions of chapter 10: Mark, Symbol, Valid, Place.
-/
import Derived.Test.YtmnlkndbdcdngaaSymN
namespace Go.Proofs.Ytmnlkndbdcdngaa
open Go.RowKit Sb Sk Go.Sort
set_option linter.unusedVariables false

theorem rsymbol_any (n : Int) (w : World) : Calls Try.prog 32 #[.int .i64 n] w (Ret w (.bool (okS n))) := by
  go_enter Try.func32, Try.ntmps32
  go_wp2
  all_goals
    go_ret
    refine ⟨ret_bool ?_, Below.refl _ _⟩
    simp [okS]; omega

theorem rmark_any (a b c : Int) (w : World) : Calls Try.prog 29 #[.agg #[.int .i64 a, .int .i64 b, .int .i64 c]] w (Ret w (.bool (okM ⟨a, b, c⟩))) := by
  obtain ⟨W0, hW0, HB_W0, hZ, hn⟩ := boxes1 w [.int .i64 a, .int .i64 b, .int .i64 c] 29
  have H_n := Lib.hid hn
  clear hn
  obtain ⟨q_n_0, q_n_1, q_n_2⟩ := H_n.out.c3
  go_enter Try.func29, Try.ntmps29
  go_wp2_with fail
  all_goals
    go_ret
    refine ⟨ret_bool ?_, HB_W0⟩
    simp [okM]; omega

theorem vgo_step {last : Int} {l : List Mk} {j : Nat} (hj : j < l.length) : vgo last (l.drop j) = (okM l[j] && decide (last < l[j].sy) && vgo l[j].sy (l.drop (j + 1))) := by
  rw [List.drop_eq_getElem_cons hj, vgo]

set_option maxRecDepth 100000 in
set_option maxHeartbeats 4000000 in
theorem rvalid_any (of : Int) (ao : Option Addr) (n cap : Nat) (ms : List Mk) (w : World) (hs : Sl w 3 cM ao n cap ms) :
    Calls Try.prog 13 #[.agg #[.int .i64 of, .slice ao n cap]] w (Ret w (.bool (okB of ms))) := by
  obtain rfl := hs.len
  have hcap := hs.max
  have hle := hs.le
  unfold maxLen at hcap
  obtain ⟨W0, hW0, HB_W0, hZ, hn⟩ := boxes1 w [.int .i64 of, .slice ao ms.length cap] 24
  have H_n := Lib.hid hn
  have HS := Lib.hid (hs.below HB_W0)
  clear hn hs hZ
  by_cases hg : 1 ≤ of ∧ of ≤ 20 ∧ ms.length ≤ 100
  case neg =>
    have HF : Hid (okB of ms = false) := by
      show _ = _
      cases h : okB of ms with
      | false => rfl
      | true => obtain ⟨h1, h2⟩ := okB_iff.1 h; have := h2.len; exact absurd ⟨h1.1, h1.2, this⟩ hg
    obtain ⟨q_n_0, q_n_1⟩ := H_n.out.c2
    go_enter Try.func13, Try.ntmps13
    go_wp2_with fail
    all_goals try (exfalso; omega)
    all_goals
      go_ret
      exact ⟨ret_bool' HF.out.symm, HB_W0⟩
  obtain ⟨g1, g2, g3⟩ := hg
  have HR : Hid (okB of ms = vgo (-1) ms) := by
    show _ = _
    simp [okB, g1, g2, g3]
  obtain ⟨q_n_0, q_n_1⟩ := H_n.out.c2
  go_enter Try.func13, Try.ntmps13
  go_wp2_with fail
  all_goals try (exfalso; omega)
  go_loopw [3] (fun i wr => ∃ j : Nat, ∃ last : Int, j ≤ ms.length ∧ i = .int .i64 j ∧ Below W0.heap.size W0 wr ∧ Hid (vgo (-1) ms = vgo last (ms.drop j)) ∧ Hid ((j = 0 ∧ last = -1) ∨ ∃ h : j - 1 < ms.length, 0 < j ∧ last = ms[j - 1].sy)) (fun i _ => ms.length - (intOf i).toNat)
  case atStart => exact ⟨0, -1, by omega, rfl, Below.refl _ _, rfl, .inl ⟨rfl, rfl⟩⟩
  case round =>
    obtain ⟨j, last, hj, rfl, HB_wr, HV, HLAST⟩ := hrel
    have H_nr := Lib.hid (H_n.out.below HB_wr)
    clear q_n_0 q_n_1
    obtain ⟨q_n_0, q_n_1⟩ := H_nr.out.c2
    by_cases hjl : j < ms.length
    case neg =>
      have HT : Hid (okB of ms = true) := by
        show _ = _
        rw [HR.out, HV.out, List.drop_eq_nil_of_le (by omega), vgo]
      clear HV HLAST
      go_wp2_with fail
      go_ret
      exact ⟨ret_bool' HT.out.symm, after0 HB_W0 HB_wr⟩
    obtain ⟨bb, off, rfl, hbb, hrow⟩ := HS.out.get hjl
    obtain ⟨e_0, e_1, e_2⟩ := ((hrow j hjl).below HB_wr hbb).c3
    have HROW := Lib.hid hrow
    have HSTEP := Lib.hid (show okB of ms = (okM ms[j] && decide (last < ms[j].sy) && vgo ms[j].sy (ms.drop (j + 1))) by rw [HR.out, HV.out, vgo_step hjl])
    obtain ⟨m, hm⟩ : ∃ m, ms[j] = m := ⟨_, rfl⟩
    have HM := Lib.hid hm
    rw [hm] at e_0 e_1 e_2 HSTEP
    clear hm hrow
    obtain ⟨a, b, c⟩ := m
    dsimp only at e_0 e_1 e_2 HSTEP
    cases hok : okM ⟨a, b, c⟩
    · have HC := Lib.hid (show ∀ W, Calls Try.prog 29 #[.agg #[.int .i64 a, .int .i64 b, .int .i64 c]] W (Ret W (.bool false)) from fun W => by have := rmark_any a b c W; rwa [hok] at this)
      have HF : Hid (okB of ms = false) := by show _ = _; rw [HSTEP.out, hok]; rfl
      clear hok HSTEP
      go_wp2_with fail
      have y_e_0 := cell_regrown e_0
      have y_e_1 := cell_regrown e_1
      have y_e_2 := cell_regrown e_2
      clear e_0 e_1 e_2
      have y_q_n_0 := cell_regrown q_n_0
      have y_q_n_1 := cell_regrown q_n_1
      clear q_n_0 q_n_1
      refine wp_region_plan (C := fun w' => ∃ p : Regrown, w' = grow (redrawn wr p.d) p.os) (.q 0 (.q 1 (.q 2 (.q 3 (.q 4 (.e 5 (.q 6 (.q 7 (.q 8 (.q 9 (.q 10 (.q 11 (.q 12 (.q 13 (.q 14 (.q 15 (.q 16 (.q 17 (.q 18 (.q 19 (.q 20 (.q 21 (.q 22 (.q 23 (.q 24 (.q 25 (.q 26 (.done)))))))))))))))))))))))))))) 27 (by kernel_rfl) (by kernel_rfl) (grew_drew _) ?_
      repeat (any_goals (first | (go_big_quiet_skip; refine wpQuiet_nil ?_) | (go_big_quiet_want; go_big_quiet_op; go_big_quiet_on; refine wpQuiet_nil ?_) | ((with_reducible apply q_split); exact rfl; intro q hq; cases q <;> (rw [hq]; (try first | replace hq := bnot_t hq | replace hq := bnot_f hq); (try first | replace hq := of_decide_eq_true hq | replace hq := of_decide_eq_false hq | replace hq := eq_of_beq hq); (try first | replace hq := Int.not_lt.1 hq | replace hq := Int.not_le.1 hq | replace hq := Nat.not_lt.1 hq | replace hq := Nat.not_le.1 hq); try (exfalso; omega))) | (refine plan_q rfl rfl ?_)))
      refine plan_e rfl ?_
      go_wp2_with fail
      refine (HC.out _).mono ?_
      rintro e w3 ⟨rfl, hb_w3⟩
      have HW_w3 : Below wr.heap.size wr w3 := below_undrew hb_w3
      clear hb_w3
      go_wp2_with fail
      refine MixPost.intro (grew_of_below HW_w3) ?_
      repeat (any_goals (first | (go_big_quiet_skip; refine wpQuiet_nil ?_) | (go_big_quiet_want; go_big_quiet_op; go_big_quiet_on; refine wpQuiet_nil ?_) | ((with_reducible apply q_split); exact rfl; intro q hq; cases q <;> (rw [hq]; (try first | replace hq := bnot_t hq | replace hq := bnot_f hq); (try first | replace hq := of_decide_eq_true hq | replace hq := of_decide_eq_false hq | replace hq := eq_of_beq hq); (try first | replace hq := Int.not_lt.1 hq | replace hq := Int.not_le.1 hq | replace hq := Nat.not_lt.1 hq | replace hq := Nat.not_le.1 hq); try (exfalso; omega))) | (refine plan_q rfl rfl ?_)))
      clear y_e_0 y_e_1 y_e_2
      clear y_q_n_0 y_q_n_1
      all_goals refine plan_done ?_
      all_goals (try simp only [List.drop_succ_cons, List.drop_zero])
      all_goals (try go_wp2_with fail)
      all_goals refine NoPanic.normal ?_
      all_goals (try go_wp2_with fail)
      go_ret
      exact ⟨ret_bool' HF.out.symm, after0 HB_W0 (after0 HB_wr HW_w3)⟩
    · have HC := Lib.hid (show ∀ W, Calls Try.prog 29 #[.agg #[.int .i64 a, .int .i64 b, .int .i64 c]] W (Ret W (.bool true)) from fun W => by have := rmark_any a b c W; rwa [hok] at this)
      have ha := okM_iff.1 hok
      dsimp only at ha
      have HST2 : Hid (okB of ms = (decide (last < a) && vgo a (ms.drop (j + 1)))) := by show _ = _; rw [HSTEP.out, hok, Bool.true_and]
      have ha0 := ha.1
      clear hok HSTEP ha
      rcases HLAST.out with ⟨h0, hl⟩ | ⟨h1, h0, hl⟩
      · have hz : (j : Int) ≤ 0 := by omega
        have HNEXT : Hid (vgo (-1) ms = vgo a (ms.drop (j + 1))) := by show _ = _; rw [← HR.out, HST2.out, decide_eq_true (by omega), Bool.true_and]
        clear HLAST HST2 h0 hl
        go_wp2_with fail
        have y_e_0 := cell_regrown e_0
        have y_e_1 := cell_regrown e_1
        have y_e_2 := cell_regrown e_2
        clear e_0 e_1 e_2
        have y_q_n_0 := cell_regrown q_n_0
        have y_q_n_1 := cell_regrown q_n_1
        clear q_n_0 q_n_1
        refine wp_region_plan (C := fun w' => ∃ p : Regrown, w' = grow (redrawn wr p.d) p.os) (.q 0 (.q 1 (.q 2 (.q 3 (.q 4 (.e 5 (.q 6 (.q 7 (.q 8 (.q 9 (.q 10 (.q 11 (.q 12 (.q 13 (.q 14 (.q 15 (.q 16 (.q 17 (.q 18 (.q 19 (.q 20 (.q 21 (.q 22 (.q 23 (.q 24 (.q 25 (.q 26 (.done)))))))))))))))))))))))))))) 27 (by kernel_rfl) (by kernel_rfl) (grew_drew _) ?_
        repeat (any_goals (first | (go_big_quiet_skip; refine wpQuiet_nil ?_) | (go_big_quiet_want; go_big_quiet_op; go_big_quiet_on; refine wpQuiet_nil ?_) | ((with_reducible apply q_split); exact rfl; intro q hq; cases q <;> (rw [hq]; (try first | replace hq := bnot_t hq | replace hq := bnot_f hq); (try first | replace hq := of_decide_eq_true hq | replace hq := of_decide_eq_false hq | replace hq := eq_of_beq hq); (try first | replace hq := Int.not_lt.1 hq | replace hq := Int.not_le.1 hq | replace hq := Nat.not_lt.1 hq | replace hq := Nat.not_le.1 hq); try (exfalso; omega))) | (refine plan_q rfl rfl ?_)))
        refine plan_e rfl ?_
        go_wp2_with fail
        refine (HC.out _).mono ?_
        rintro e w3 ⟨rfl, hb_w3⟩
        have HW_w3 : Below wr.heap.size wr w3 := below_undrew hb_w3
        clear hb_w3
        go_wp2_with fail
        refine MixPost.intro (grew_of_below HW_w3) ?_
        repeat (any_goals (first | (go_big_quiet_skip; refine wpQuiet_nil ?_) | (go_big_quiet_want; go_big_quiet_op; go_big_quiet_on; refine wpQuiet_nil ?_) | ((with_reducible apply q_split); exact rfl; intro q hq; cases q <;> (rw [hq]; (try first | replace hq := bnot_t hq | replace hq := bnot_f hq); (try first | replace hq := of_decide_eq_true hq | replace hq := of_decide_eq_false hq | replace hq := eq_of_beq hq); (try first | replace hq := Int.not_lt.1 hq | replace hq := Int.not_le.1 hq | replace hq := Nat.not_lt.1 hq | replace hq := Nat.not_le.1 hq); try (exfalso; omega))) | (refine plan_q rfl rfl ?_)))
        clear y_e_0 y_e_1 y_e_2
        clear y_q_n_0 y_q_n_1
        all_goals refine plan_done ?_
        all_goals (try simp only [List.drop_succ_cons, List.drop_zero])
        all_goals (try go_wp2_with fail)
        all_goals refine NoPanic.normal ?_
        all_goals (try go_wp2_with fail)
        have HB_w3 := after0 HB_wr HW_w3
        go_roundw
        case rel => exact ⟨j + 1, a, by omega, by go_num, HB_w3, HNEXT, .inr ⟨by omega, by omega, by have := HM.out; simp [this]⟩⟩
        case measure => simp [intOf]; omega
      · obtain ⟨p_0, p_1, p_2⟩ := ((HROW.out (j - 1) h1).below HB_wr hbb).c3
        rw [← hl] at p_0
        clear hl
        have HLAST' := HLAST
        clear HLAST
        by_cases hla : last < a
        · have HNEXT : Hid (vgo (-1) ms = vgo a (ms.drop (j + 1))) := by show _ = _; rw [← HR.out, HST2.out, decide_eq_true hla, Bool.true_and]
          clear HST2 HLAST'
          generalize ms[j - 1].kd = pk at *
          generalize ms[j - 1].cl = pc at *
          go_wp2_with fail
          have y_e_0 := cell_regrown e_0
          have y_e_1 := cell_regrown e_1
          have y_e_2 := cell_regrown e_2
          clear e_0 e_1 e_2
          have y_p_0 := cell_regrown p_0
          have y_p_1 := cell_regrown p_1
          have y_p_2 := cell_regrown p_2
          clear p_0 p_1 p_2
          have y_q_n_0 := cell_regrown q_n_0
          have y_q_n_1 := cell_regrown q_n_1
          clear q_n_0 q_n_1
          refine wp_region_plan (C := fun w' => ∃ p : Regrown, w' = grow (redrawn wr p.d) p.os) (.q 0 (.q 1 (.q 2 (.q 3 (.q 4 (.e 5 (.q 6 (.q 7 (.q 8 (.q 9 (.q 10 (.q 11 (.q 12 (.q 13 (.q 14 (.q 15 (.q 16 (.q 17 (.q 18 (.q 19 (.q 20 (.q 21 (.q 22 (.q 23 (.q 24 (.q 25 (.q 26 (.done)))))))))))))))))))))))))))) 27 (by kernel_rfl) (by kernel_rfl) (grew_drew _) ?_
          repeat (any_goals (first | (go_big_quiet_skip; refine wpQuiet_nil ?_) | (go_big_quiet_want; go_big_quiet_op; go_big_quiet_on; refine wpQuiet_nil ?_) | ((with_reducible apply q_split); exact rfl; intro q hq; cases q <;> (rw [hq]; (try first | replace hq := bnot_t hq | replace hq := bnot_f hq); (try first | replace hq := of_decide_eq_true hq | replace hq := of_decide_eq_false hq | replace hq := eq_of_beq hq); (try first | replace hq := Int.not_lt.1 hq | replace hq := Int.not_le.1 hq | replace hq := Nat.not_lt.1 hq | replace hq := Nat.not_le.1 hq); try (exfalso; omega))) | (refine plan_q rfl rfl ?_)))
          refine plan_e rfl ?_
          go_wp2_with fail
          refine (HC.out _).mono ?_
          rintro e w3 ⟨rfl, hb_w3⟩
          have HW_w3 : Below wr.heap.size wr w3 := below_undrew hb_w3
          clear hb_w3
          go_wp2_with fail
          refine MixPost.intro (grew_of_below HW_w3) ?_
          repeat (any_goals (first | (go_big_quiet_skip; refine wpQuiet_nil ?_) | (go_big_quiet_want; go_big_quiet_op; go_big_quiet_on; refine wpQuiet_nil ?_) | ((with_reducible apply q_split); exact rfl; intro q hq; cases q <;> (rw [hq]; (try first | replace hq := bnot_t hq | replace hq := bnot_f hq); (try first | replace hq := of_decide_eq_true hq | replace hq := of_decide_eq_false hq | replace hq := eq_of_beq hq); (try first | replace hq := Int.not_lt.1 hq | replace hq := Int.not_le.1 hq | replace hq := Nat.not_lt.1 hq | replace hq := Nat.not_le.1 hq); try (exfalso; omega))) | (refine plan_q rfl rfl ?_)))
          clear y_e_0 y_e_1 y_e_2
          clear y_p_0 y_p_1 y_p_2
          clear y_q_n_0 y_q_n_1
          all_goals refine plan_done ?_
          all_goals (try simp only [List.drop_succ_cons, List.drop_zero])
          all_goals (try go_wp2_with fail)
          all_goals refine NoPanic.normal ?_
          all_goals (try go_wp2_with fail)
          have HB_w3 := after0 HB_wr HW_w3
          go_roundw
          case rel => exact ⟨j + 1, a, by omega, by go_num, HB_w3, HNEXT, .inr ⟨by omega, by omega, by have := HM.out; simp [this]⟩⟩
          case measure => simp [intOf]; omega
        · have HF : Hid (okB of ms = false) := by show _ = _; rw [HST2.out, decide_eq_false hla]; rfl
          clear HST2 HLAST'
          generalize ms[j - 1].kd = pk at *
          generalize ms[j - 1].cl = pc at *
          go_wp2_with fail
          have y_e_0 := cell_regrown e_0
          have y_e_1 := cell_regrown e_1
          have y_e_2 := cell_regrown e_2
          clear e_0 e_1 e_2
          have y_p_0 := cell_regrown p_0
          have y_p_1 := cell_regrown p_1
          have y_p_2 := cell_regrown p_2
          clear p_0 p_1 p_2
          have y_q_n_0 := cell_regrown q_n_0
          have y_q_n_1 := cell_regrown q_n_1
          clear q_n_0 q_n_1
          refine wp_region_plan (C := fun w' => ∃ p : Regrown, w' = grow (redrawn wr p.d) p.os) (.q 0 (.q 1 (.q 2 (.q 3 (.q 4 (.e 5 (.q 6 (.q 7 (.q 8 (.q 9 (.q 10 (.q 11 (.q 12 (.q 13 (.q 14 (.q 15 (.q 16 (.q 17 (.q 18 (.q 19 (.q 20 (.q 21 (.q 22 (.q 23 (.q 24 (.q 25 (.q 26 (.done)))))))))))))))))))))))))))) 27 (by kernel_rfl) (by kernel_rfl) (grew_drew _) ?_
          repeat (any_goals (first | (go_big_quiet_skip; refine wpQuiet_nil ?_) | (go_big_quiet_want; go_big_quiet_op; go_big_quiet_on; refine wpQuiet_nil ?_) | ((with_reducible apply q_split); exact rfl; intro q hq; cases q <;> (rw [hq]; (try first | replace hq := bnot_t hq | replace hq := bnot_f hq); (try first | replace hq := of_decide_eq_true hq | replace hq := of_decide_eq_false hq | replace hq := eq_of_beq hq); (try first | replace hq := Int.not_lt.1 hq | replace hq := Int.not_le.1 hq | replace hq := Nat.not_lt.1 hq | replace hq := Nat.not_le.1 hq); try (exfalso; omega))) | (refine plan_q rfl rfl ?_)))
          refine plan_e rfl ?_
          go_wp2_with fail
          refine (HC.out _).mono ?_
          rintro e w3 ⟨rfl, hb_w3⟩
          have HW_w3 : Below wr.heap.size wr w3 := below_undrew hb_w3
          clear hb_w3
          go_wp2_with fail
          refine MixPost.intro (grew_of_below HW_w3) ?_
          repeat (any_goals (first | (go_big_quiet_skip; refine wpQuiet_nil ?_) | (go_big_quiet_want; go_big_quiet_op; go_big_quiet_on; refine wpQuiet_nil ?_) | ((with_reducible apply q_split); exact rfl; intro q hq; cases q <;> (rw [hq]; (try first | replace hq := bnot_t hq | replace hq := bnot_f hq); (try first | replace hq := of_decide_eq_true hq | replace hq := of_decide_eq_false hq | replace hq := eq_of_beq hq); (try first | replace hq := Int.not_lt.1 hq | replace hq := Int.not_le.1 hq | replace hq := Nat.not_lt.1 hq | replace hq := Nat.not_le.1 hq); try (exfalso; omega))) | (refine plan_q rfl rfl ?_)))
          clear y_e_0 y_e_1 y_e_2
          clear y_p_0 y_p_1 y_p_2
          clear y_q_n_0 y_q_n_1
          all_goals refine plan_done ?_
          all_goals (try simp only [List.drop_succ_cons, List.drop_zero])
          all_goals (try go_wp2_with fail)
          all_goals refine NoPanic.normal ?_
          all_goals (try go_wp2_with fail)
          go_ret
          exact ⟨ret_bool' HF.out.symm, after0 HB_W0 (after0 HB_wr HW_w3)⟩
end Go.Proofs.Ytmnlkndbdcdngaa
