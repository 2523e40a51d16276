/-
  Walks of the reference implementation of 'schedule': IsPlan, Late.
  Walks of the reference implementation of 'schedule': Late, Check, Done.
  Walks of the reference implementation of 'schedule': Check, Done.
  Walks of the reference implementation of 'schedule': Core.
  Walks of the reference implementation of 'schedule': InAll, Admit.
-/
import Derived.Test.YtheioedggjbphaaSeQ
import Derived.Test.YtheioedggjbphaaSdL
set_option linter.unusedVariables false
namespace Go.Proofs.Ytheioedggjbphaa
open Go Go.RowKit Sc Sk Go.Sort
theorem cell_drew2 {w : World} {a : Addr} {v : Value} (h : w.cell? a = some v) : w.drew.cell? a = some v := h
set_option maxRecDepth 100000 in
set_option maxHeartbeats 16000000 in
theorem risplan_any (jo : Option Addr) (n cap : Nat) (J : List Jb) (ao : Option Addr) (m capa : Nat) (l : List Sn) (w : World) (hj : Sl w 4 cJ jo n cap J) (hs : Sl w 3 cS ao m capa l) :
    Calls Try.prog 42 #[.slice jo n cap, .slice ao m capa] w (Ret w (.bool (namesB J l))) := by
  obtain rfl := hj.len
  obtain rfl := hs.len
  have hcap := hj.max
  have hle := hj.le
  have hcapa := hs.max
  have hlea := hs.le
  unfold maxLen at hcap hcapa
  have HJ := Lib.hid hj
  have HS := Lib.hid hs
  have HB_w : Below w.heap.size w w := Below.refl _ _
  have HNOT := Lib.hid (fun k hk h => @names_not J l k hk h)
  have HRS := Lib.hid (fun k hk h => @names_rise J l (@rise_no l k hk h))
  have HALL := Lib.hid (fun h1 h2 => @names_all J l (@rise_at l h1) h2)
  generalize namesB J l = v at *
  clear hj hs
  go_enter Try.func42, Try.ntmps42
  go_wp2_with fail
  go_loopw [5] (fun i wr => ∃ k : Nat, k ≤ l.length ∧ i = .int .i64 k ∧ Below w.heap.size w wr ∧ Hid (∀ j (h : j < l.length), j < k → ((0 ≤ l[j].slot ∧ l[j].slot < 400) ∧ (0 < j → l[j - 1].slot < l[j].slot)) ∧ nameB J l[j] = true)) (fun i _ => l.length - (intOf i).toNat)
  case atStart => exact ⟨0, Nat.zero_le _, rfl, HB_w, fun j _ h => absurd h (Nat.not_lt_zero _)⟩
  case round =>
    obtain ⟨k, hk, rfl, HB_wr, HN⟩ := hrel
    by_cases hlt : k < l.length
    · obtain ⟨b, off, rfl, hb, hrow⟩ := HS.out.get hlt
      obtain ⟨p_0, p_1, p_2⟩ := ((hrow k hlt).below HB_wr hb).c3
      have HROW := Lib.hid hrow
      have hkm : k - 1 < l.length := by omega
      have HNK := Lib.hid (HNOT.out k hlt)
      have HRK := Lib.hid (HRS.out k hlt)
      have HNX := Lib.hid (show (0 ≤ l[k].slot ∧ l[k].slot < 400) → (0 < k → l[k - 1].slot < l[k].slot) → nameB J l[k] = true → ∀ j (h : j < l.length), j < k + 1 → ((0 ≤ l[j].slot ∧ l[j].slot < 400) ∧ (0 < j → l[j - 1].slot < l[j].slot)) ∧ nameB J l[j] = true from fun h1 h2 h3 j h hjk => by
        by_cases e : j = k
        · subst e; exact ⟨⟨h1, h2⟩, h3⟩
        · exact HN.out j h (by omega))
      have HPV := Lib.hid (show ∀ j, k = j + 1 → ∃ h : j < l.length, (l[k - 1]'hkm).slot = l[j].slot from fun j e => by subst e; exact ⟨by omega, rfl⟩)
      clear hrow HN
      generalize (l[k - 1]'hkm).slot = pv at *
      clear hkm
      have HNB := Lib.hid (show nameB J l[k] = decide (0 ≤ l[k].job ∧ l[k].job < J.length ∧ 0 ≤ l[k].piece ∧ l[k].piece < (jat J l[k].job.toNat).pieces) from rfl)
      generalize nameB J l[k] = nb at *
      generalize l[k] = s at *
      obtain ⟨s0, s1, s2⟩ := s
      dsimp only at p_0 p_1 p_2 HNB HNX HNK HRK
      obtain ⟨R, hR⟩ : ∃ R, wr.heap.size = R := ⟨_, rfl⟩
      obtain ⟨W1, hW1, hB1, hZ1, hb1⟩ := boxes1 wr [.int .i64 s0, .int .i64 s1, .int .i64 s2] 46
      rw [hR] at hb1
      have H_s := Lib.hid hb1
      have HB_W1 : Below w.heap.size w W1 := after0 HB_wr hB1
      obtain ⟨q_s_0, q_s_1, q_s_2⟩ := hb1.c3
      clear hb1 hB1 hZ1
      go_wp2_with fail
      clear hW1 p_0 p_1 p_2 hR
      cases hsl : slotB s0 with
      | false =>
        have HF := Lib.hid (HRK.out (.inl (by
          by_cases h : 0 ≤ s0 ∧ s0 < 400
          · rw [slotB_iff.2 h] at hsl; cases hsl
          · omega)))
        have HC := Lib.hid (rslot_any s0 W1)
        rw [hsl] at HC
        clear hsl HNK HRK HNX HPV HNB
        refine (HC.out).mono ?_
        rintro e w2 ⟨rfl, hb_w2⟩
        have HB_w2 : Below w.heap.size w w2 := by first | exact after0 HB_W1 hb_w2 | exact after1 HB_W1 hb_w2 | exact after2 HB_W1 hb_w2 | exact after3 HB_W1 hb_w2 | exact after4 HB_W1 hb_w2 | exact after5 HB_W1 hb_w2
        try clear q_s_0 q_s_1 q_s_2
        have H_s := Lib.hid (Box.below (by first | exact H_s.out | exact H_s.out.alloc _ | exact (H_s.out.alloc _).alloc _ | exact ((H_s.out.alloc _).alloc _).alloc _) hb_w2)
        obtain ⟨q_s_0, q_s_1, q_s_2⟩ := H_s.out.c3
        go_wp2_with fail
        have y_q_s_0 := cell_regrown q_s_0
        have y_q_s_1 := cell_regrown q_s_1
        have y_q_s_2 := cell_regrown q_s_2
        clear q_s_0 q_s_1 q_s_2
        refine wp_region_plan (C := fun w' => ∃ p : Regrown, w' = grow (redrawn w2 p.d) p.os) (.q 0 (.q 1 (.q 2 (.q 3 (.q 4 (.q 5 (.q 6 (.q 7 (.q 8 (.q 9 (.q 10 (.q 11 (.q 12 (.q 13 (.q 14 (.q 15 (.q 16 (.q 17 (.q 18 (.q 19 (.q 20 (.q 21 (.q 22 (.q 23 (.q 24 (.q 25 (.q 26 (.q 27 (.q 28 (.q 29 (.done))))))))))))))))))))))))))))))) 30 (by kernel_rfl) (by kernel_rfl) (grew_drew _) ?_
        repeat (any_goals (first | (go_big_quiet_skip; refine wpQuiet_nil ?_) | (go_big_quiet_want; go_big_quiet_op; go_big_quiet_on; refine wpQuiet_nil ?_) | ((with_reducible apply q_split); exact rfl; intro q hq; cases q <;> (rw [hq]; (try first | replace hq := bnot_t hq | replace hq := bnot_f hq); (try first | replace hq := of_decide_eq_true hq | replace hq := of_decide_eq_false hq | replace hq := eq_of_beq hq); (try first | replace hq := Int.not_lt.1 hq | replace hq := Int.not_le.1 hq | replace hq := Nat.not_lt.1 hq | replace hq := Nat.not_le.1 hq); try (exfalso; omega))) | (refine plan_q rfl rfl ?_)))
        clear y_q_s_0 y_q_s_1 y_q_s_2
        all_goals refine plan_done ?_
        all_goals (try simp only [List.drop_succ_cons, List.drop_zero])
        all_goals (try go_wp2_with fail)
        all_goals refine NoPanic.normal ?_
        all_goals (try go_wp2_with fail)
        go_ret
        exact ⟨ret_bool' HF.out.symm, HB_w2.drew⟩
      | true =>
      have hsr := slotB_iff.1 hsl
      have HC := Lib.hid (rslot_any s0 W1)
      rw [hsl] at HC
      clear hsl
      refine (HC.out).mono ?_
      rintro e w2 ⟨rfl, hb_w2⟩
      have HB_w2 : Below w.heap.size w w2 := by first | exact after0 HB_W1 hb_w2 | exact after1 HB_W1 hb_w2 | exact after2 HB_W1 hb_w2 | exact after3 HB_W1 hb_w2 | exact after4 HB_W1 hb_w2 | exact after5 HB_W1 hb_w2
      try clear q_s_0 q_s_1 q_s_2
      have H_s := Lib.hid (Box.below (by first | exact H_s.out | exact H_s.out.alloc _ | exact (H_s.out.alloc _).alloc _ | exact ((H_s.out.alloc _).alloc _).alloc _) hb_w2)
      obtain ⟨q_s_0, q_s_1, q_s_2⟩ := H_s.out.c3
      clear HC
      by_cases c1 : s1 < 0
      · have HF := Lib.hid (HNK.out (by rw [HNB.out]; exact decide_eq_false (by omega)))
        clear HNK HRK HNX HPV HNB
        go_wp2_with fail
        have y_q_s_0 := cell_regrown q_s_0
        have y_q_s_1 := cell_regrown q_s_1
        have y_q_s_2 := cell_regrown q_s_2
        clear q_s_0 q_s_1 q_s_2
        refine wp_region_plan (C := fun w' => ∃ p : Regrown, w' = grow (redrawn w2 p.d) p.os) (.q 0 (.q 1 (.q 2 (.q 3 (.q 4 (.q 5 (.q 6 (.q 7 (.q 8 (.q 9 (.q 10 (.q 11 (.q 12 (.q 13 (.q 14 (.q 15 (.q 16 (.q 17 (.q 18 (.q 19 (.q 20 (.q 21 (.q 22 (.q 23 (.q 24 (.q 25 (.q 26 (.q 27 (.q 28 (.q 29 (.done))))))))))))))))))))))))))))))) 30 (by kernel_rfl) (by kernel_rfl) (grew_drew _) ?_
        repeat (any_goals (first | (go_big_quiet_skip; refine wpQuiet_nil ?_) | (go_big_quiet_want; go_big_quiet_op; go_big_quiet_on; refine wpQuiet_nil ?_) | ((with_reducible apply q_split); exact rfl; intro q hq; cases q <;> (rw [hq]; (try first | replace hq := bnot_t hq | replace hq := bnot_f hq); (try first | replace hq := of_decide_eq_true hq | replace hq := of_decide_eq_false hq | replace hq := eq_of_beq hq); (try first | replace hq := Int.not_lt.1 hq | replace hq := Int.not_le.1 hq | replace hq := Nat.not_lt.1 hq | replace hq := Nat.not_le.1 hq); try (exfalso; omega))) | (refine plan_q rfl rfl ?_)))
        clear y_q_s_0 y_q_s_1 y_q_s_2
        all_goals refine plan_done ?_
        all_goals (try simp only [List.drop_succ_cons, List.drop_zero])
        all_goals (try go_wp2_with fail)
        all_goals refine NoPanic.normal ?_
        all_goals (try go_wp2_with fail)
        go_ret
        exact ⟨ret_bool' HF.out.symm, HB_w2.drew⟩
      replace c1 := Int.not_lt.1 c1
      by_cases c2 : (J.length : Int) ≤ s1
      · have HF := Lib.hid (HNK.out (by rw [HNB.out]; exact decide_eq_false (by omega)))
        clear HNK HRK HNX HPV HNB
        go_wp2_with fail
        have y_q_s_0 := cell_regrown q_s_0
        have y_q_s_1 := cell_regrown q_s_1
        have y_q_s_2 := cell_regrown q_s_2
        clear q_s_0 q_s_1 q_s_2
        refine wp_region_plan (C := fun w' => ∃ p : Regrown, w' = grow (redrawn w2 p.d) p.os) (.q 0 (.q 1 (.q 2 (.q 3 (.q 4 (.q 5 (.q 6 (.q 7 (.q 8 (.q 9 (.q 10 (.q 11 (.q 12 (.q 13 (.q 14 (.q 15 (.q 16 (.q 17 (.q 18 (.q 19 (.q 20 (.q 21 (.q 22 (.q 23 (.q 24 (.q 25 (.q 26 (.q 27 (.q 28 (.q 29 (.done))))))))))))))))))))))))))))))) 30 (by kernel_rfl) (by kernel_rfl) (grew_drew _) ?_
        repeat (any_goals (first | (go_big_quiet_skip; refine wpQuiet_nil ?_) | (go_big_quiet_want; go_big_quiet_op; go_big_quiet_on; refine wpQuiet_nil ?_) | ((with_reducible apply q_split); exact rfl; intro q hq; cases q <;> (rw [hq]; (try first | replace hq := bnot_t hq | replace hq := bnot_f hq); (try first | replace hq := of_decide_eq_true hq | replace hq := of_decide_eq_false hq | replace hq := eq_of_beq hq); (try first | replace hq := Int.not_lt.1 hq | replace hq := Int.not_le.1 hq | replace hq := Nat.not_lt.1 hq | replace hq := Nat.not_le.1 hq); try (exfalso; omega))) | (refine plan_q rfl rfl ?_)))
        clear y_q_s_0 y_q_s_1 y_q_s_2
        all_goals refine plan_done ?_
        all_goals (try simp only [List.drop_succ_cons, List.drop_zero])
        all_goals (try go_wp2_with fail)
        all_goals refine NoPanic.normal ?_
        all_goals (try go_wp2_with fail)
        go_ret
        exact ⟨ret_bool' HF.out.symm, HB_w2.drew⟩
      replace c2 := Int.not_le.1 c2
      by_cases c3 : s2 < 0
      · have HF := Lib.hid (HNK.out (by rw [HNB.out]; exact decide_eq_false (by omega)))
        clear HNK HRK HNX HPV HNB
        go_wp2_with fail
        have y_q_s_0 := cell_regrown q_s_0
        have y_q_s_1 := cell_regrown q_s_1
        have y_q_s_2 := cell_regrown q_s_2
        clear q_s_0 q_s_1 q_s_2
        refine wp_region_plan (C := fun w' => ∃ p : Regrown, w' = grow (redrawn w2 p.d) p.os) (.q 0 (.q 1 (.q 2 (.q 3 (.q 4 (.q 5 (.q 6 (.q 7 (.q 8 (.q 9 (.q 10 (.q 11 (.q 12 (.q 13 (.q 14 (.q 15 (.q 16 (.q 17 (.q 18 (.q 19 (.q 20 (.q 21 (.q 22 (.q 23 (.q 24 (.q 25 (.q 26 (.q 27 (.q 28 (.q 29 (.done))))))))))))))))))))))))))))))) 30 (by kernel_rfl) (by kernel_rfl) (grew_drew _) ?_
        repeat (any_goals (first | (go_big_quiet_skip; refine wpQuiet_nil ?_) | (go_big_quiet_want; go_big_quiet_op; go_big_quiet_on; refine wpQuiet_nil ?_) | ((with_reducible apply q_split); exact rfl; intro q hq; cases q <;> (rw [hq]; (try first | replace hq := bnot_t hq | replace hq := bnot_f hq); (try first | replace hq := of_decide_eq_true hq | replace hq := of_decide_eq_false hq | replace hq := eq_of_beq hq); (try first | replace hq := Int.not_lt.1 hq | replace hq := Int.not_le.1 hq | replace hq := Nat.not_lt.1 hq | replace hq := Nat.not_le.1 hq); try (exfalso; omega))) | (refine plan_q rfl rfl ?_)))
        clear y_q_s_0 y_q_s_1 y_q_s_2
        all_goals refine plan_done ?_
        all_goals (try simp only [List.drop_succ_cons, List.drop_zero])
        all_goals (try go_wp2_with fail)
        all_goals refine NoPanic.normal ?_
        all_goals (try go_wp2_with fail)
        go_ret
        exact ⟨ret_bool' HF.out.symm, HB_w2.drew⟩
      replace c3 := Int.not_lt.1 c3
      obtain ⟨i, rfl⟩ : ∃ i : Nat, s1 = i := ⟨s1.toNat, by omega⟩
      have hij : i < J.length := by omega
      obtain ⟨bj, offj, rfl, hbj, hrowj⟩ := (HJ.out.below HB_w2).get hij
      obtain ⟨e_0, e_1, e_2, e_3⟩ := (hrowj i hij).c4
      rw [Int.toNat_natCast, jat_get hij] at HNB
      clear hrowj
      generalize J[i] = x at *
      obtain ⟨x0, x1, x2, x3⟩ := x
      dsimp only at e_0 e_1 e_2 e_3 HNB
      have y_e2 := cell_regrown e_2
      clear e_0 e_1 e_2 e_3
      by_cases c4 : x2 ≤ s2
      · have HF := Lib.hid (HNK.out (by rw [HNB.out]; exact decide_eq_false (by omega)))
        clear HNK HRK HNX HPV HNB
        go_wp2_with fail
        have y_q_s_0 := cell_regrown q_s_0
        have y_q_s_1 := cell_regrown q_s_1
        have y_q_s_2 := cell_regrown q_s_2
        clear q_s_0 q_s_1 q_s_2
        refine wp_region_plan (C := fun w' => ∃ p : Regrown, w' = grow (redrawn w2 p.d) p.os) (.q 0 (.q 1 (.q 2 (.q 3 (.q 4 (.q 5 (.q 6 (.q 7 (.q 8 (.q 9 (.q 10 (.q 11 (.q 12 (.q 13 (.q 14 (.q 15 (.q 16 (.q 17 (.q 18 (.q 19 (.q 20 (.q 21 (.q 22 (.q 23 (.q 24 (.q 25 (.q 26 (.q 27 (.q 28 (.q 29 (.done))))))))))))))))))))))))))))))) 30 (by kernel_rfl) (by kernel_rfl) (grew_drew _) ?_
        repeat (any_goals (first | (go_big_quiet_skip; refine wpQuiet_nil ?_) | (go_big_quiet_want; go_big_quiet_op; go_big_quiet_on; refine wpQuiet_nil ?_) | ((with_reducible apply q_split); exact rfl; intro q hq; cases q <;> (rw [hq]; (try first | replace hq := bnot_t hq | replace hq := bnot_f hq); (try first | replace hq := of_decide_eq_true hq | replace hq := of_decide_eq_false hq | replace hq := eq_of_beq hq); (try first | replace hq := Int.not_lt.1 hq | replace hq := Int.not_le.1 hq | replace hq := Nat.not_lt.1 hq | replace hq := Nat.not_le.1 hq); try (exfalso; omega))) | (refine plan_q rfl rfl ?_)))
        clear y_q_s_0 y_q_s_1 y_q_s_2
        all_goals refine plan_done ?_
        all_goals (try simp only [List.drop_succ_cons, List.drop_zero])
        all_goals (try go_wp2_with fail)
        all_goals refine NoPanic.normal ?_
        all_goals (try go_wp2_with fail)
        go_ret
        exact ⟨ret_bool' HF.out.symm, HB_w2.drew⟩
      replace c4 := Int.not_le.1 c4
      have HX2 := Lib.hid (fun h => HNX.out hsr h (by rw [HNB.out]; exact decide_eq_true (by omega)))
      clear HNK HNX HNB
      rcases Nat.eq_zero_or_pos k with h0 | h0
      · subst h0
        have HX3 := Lib.hid (HX2.out (fun h => absurd h (Nat.lt_irrefl _)))
        clear HX2 HPV HRK
        go_wp2_with fail
        have y_q_s_0 := cell_regrown q_s_0
        have y_q_s_1 := cell_regrown q_s_1
        have y_q_s_2 := cell_regrown q_s_2
        clear q_s_0 q_s_1 q_s_2
        refine wp_region_plan (C := fun w' => ∃ p : Regrown, w' = grow (redrawn w2 p.d) p.os) (.q 0 (.q 1 (.q 2 (.q 3 (.q 4 (.q 5 (.q 6 (.q 7 (.q 8 (.q 9 (.q 10 (.q 11 (.q 12 (.q 13 (.q 14 (.q 15 (.q 16 (.q 17 (.q 18 (.q 19 (.q 20 (.q 21 (.q 22 (.q 23 (.q 24 (.q 25 (.q 26 (.q 27 (.q 28 (.q 29 (.done))))))))))))))))))))))))))))))) 30 (by kernel_rfl) (by kernel_rfl) (grew_drew _) ?_
        repeat (any_goals (first | (go_big_quiet_skip; refine wpQuiet_nil ?_) | (go_big_quiet_want; go_big_quiet_op; go_big_quiet_on; refine wpQuiet_nil ?_) | ((with_reducible apply q_split); exact rfl; intro q hq; cases q <;> (rw [hq]; (try first | replace hq := bnot_t hq | replace hq := bnot_f hq); (try first | replace hq := of_decide_eq_true hq | replace hq := of_decide_eq_false hq | replace hq := eq_of_beq hq); (try first | replace hq := Int.not_lt.1 hq | replace hq := Int.not_le.1 hq | replace hq := Nat.not_lt.1 hq | replace hq := Nat.not_le.1 hq); try (exfalso; omega))) | (refine plan_q rfl rfl ?_)))
        clear y_q_s_0 y_q_s_1 y_q_s_2
        clear y_e2
        have HB_w3 : Below w.heap.size w w2.drew := HB_w2.drew
        have q_s_0 := cell_drew2 H_s.out.c3.1
        all_goals refine plan_done ?_
        all_goals (try simp only [List.drop_succ_cons, List.drop_zero])
        all_goals (try go_wp2_with fail)
        all_goals refine NoPanic.normal ?_
        obtain ⟨w3, hW_w3⟩ : ∃ W, w2.drew = W := ⟨_, rfl⟩
        first | rw [hW_w3] | rw [show ({ heap := w2.heap, tape := w2.tape, drawn := w2.drawn + 1, os := w2.os, output := w2.output } : World) = w3 from hW_w3]
        rw [hW_w3] at HB_w3 q_s_0
        clear hW_w3
        go_wp2_with fail
        refine wp_region_plan (C := fun w' => ∃ p : Regrown, w' = grow (redrawn w3 p.d) p.os) (.q 0 (.q 1 (.q 2 (.q 3 (.q 4 (.q 5 (.q 6 (.q 7 (.q 8 (.q 9 (.q 10 (.q 11 (.q 12 (.done)))))))))))))) 13 (by kernel_rfl) (by kernel_rfl) (grew_drew _) ?_
        repeat (any_goals (first | (go_big_quiet_skip; refine wpQuiet_nil ?_) | (go_big_quiet_want; go_big_quiet_op; go_big_quiet_on; refine wpQuiet_nil ?_) | ((with_reducible apply q_split); exact rfl; intro q hq; cases q <;> (rw [hq]; (try first | replace hq := bnot_t hq | replace hq := bnot_f hq); (try first | replace hq := of_decide_eq_true hq | replace hq := of_decide_eq_false hq | replace hq := eq_of_beq hq); (try first | replace hq := Int.not_lt.1 hq | replace hq := Int.not_le.1 hq | replace hq := Nat.not_lt.1 hq | replace hq := Nat.not_le.1 hq); try (exfalso; omega))) | (refine plan_q rfl rfl ?_)))
        all_goals refine plan_done ?_
        all_goals (try simp only [List.drop_succ_cons, List.drop_zero])
        all_goals (try go_wp2_with fail)
        all_goals refine NoPanic.normal ?_
        all_goals (try go_wp2_with fail)
        go_roundw
        case rel => exact ⟨1, hlt, by go_num, HB_w3.drew, HX3⟩
        case measure => simp [intOf] <;> omega
      · obtain ⟨j, rfl⟩ : ∃ j, k = j + 1 := ⟨k - 1, by omega⟩
        obtain ⟨hjl, hpv⟩ := HPV.out j rfl
        have hjj : ((j + 1 : Nat) : Int) = (j : Int) + 1 := by omega
        rw [hjj]
        have HJJ := Lib.hid hjj
        clear hjj HPV
        go_wp2_with fail
        have y_q_s_0 := cell_regrown q_s_0
        have y_q_s_1 := cell_regrown q_s_1
        have y_q_s_2 := cell_regrown q_s_2
        clear q_s_0 q_s_1 q_s_2
        refine wp_region_plan (C := fun w' => ∃ p : Regrown, w' = grow (redrawn w2 p.d) p.os) (.q 0 (.q 1 (.q 2 (.q 3 (.q 4 (.q 5 (.q 6 (.q 7 (.q 8 (.q 9 (.q 10 (.q 11 (.q 12 (.q 13 (.q 14 (.q 15 (.q 16 (.q 17 (.q 18 (.q 19 (.q 20 (.q 21 (.q 22 (.q 23 (.q 24 (.q 25 (.q 26 (.q 27 (.q 28 (.q 29 (.done))))))))))))))))))))))))))))))) 30 (by kernel_rfl) (by kernel_rfl) (grew_drew _) ?_
        repeat (any_goals (first | (go_big_quiet_skip; refine wpQuiet_nil ?_) | (go_big_quiet_want; go_big_quiet_op; go_big_quiet_on; refine wpQuiet_nil ?_) | ((with_reducible apply q_split); exact rfl; intro q hq; cases q <;> (rw [hq]; (try first | replace hq := bnot_t hq | replace hq := bnot_f hq); (try first | replace hq := of_decide_eq_true hq | replace hq := of_decide_eq_false hq | replace hq := eq_of_beq hq); (try first | replace hq := Int.not_lt.1 hq | replace hq := Int.not_le.1 hq | replace hq := Nat.not_lt.1 hq | replace hq := Nat.not_le.1 hq); try (exfalso; omega))) | (refine plan_q rfl rfl ?_)))
        clear y_q_s_0 y_q_s_1 y_q_s_2
        clear y_e2
        have HB_w3 : Below w.heap.size w w2.drew := HB_w2.drew
        have q_s_0 := cell_drew2 H_s.out.c3.1
        all_goals refine plan_done ?_
        all_goals (try simp only [List.drop_succ_cons, List.drop_zero])
        all_goals (try go_wp2_with fail)
        all_goals refine NoPanic.normal ?_
        obtain ⟨w3, hW_w3⟩ : ∃ W, w2.drew = W := ⟨_, rfl⟩
        first | rw [hW_w3] | rw [show ({ heap := w2.heap, tape := w2.tape, drawn := w2.drawn + 1, os := w2.os, output := w2.output } : World) = w3 from hW_w3]
        rw [hW_w3] at HB_w3 q_s_0
        clear hW_w3
        go_wp2_with fail
        have f_0 := ((HROW.out j hjl).below HB_w3 hb).c3.1
        rw [← hpv] at f_0
        have y_f := cell_regrown f_0
        have y_s := cell_regrown q_s_0
        clear f_0 q_s_0 hpv
        by_cases c5 : s0 ≤ pv
        · have HF := Lib.hid (HRK.out (.inr ⟨j, rfl, c5⟩))
          clear HRK HX2
          refine wp_region_plan (C := fun w' => ∃ p : Regrown, w' = grow (redrawn w3 p.d) p.os) (.q 0 (.q 1 (.q 2 (.q 3 (.q 4 (.q 5 (.q 6 (.q 7 (.q 8 (.q 9 (.q 10 (.q 11 (.q 12 (.done)))))))))))))) 13 (by kernel_rfl) (by kernel_rfl) (grew_drew _) ?_
          repeat (any_goals (first | (go_big_quiet_skip; refine wpQuiet_nil ?_) | (go_big_quiet_want; go_big_quiet_op; go_big_quiet_on; refine wpQuiet_nil ?_) | ((with_reducible apply q_split); exact rfl; intro q hq; cases q <;> (rw [hq]; (try first | replace hq := bnot_t hq | replace hq := bnot_f hq); (try first | replace hq := of_decide_eq_true hq | replace hq := of_decide_eq_false hq | replace hq := eq_of_beq hq); (try first | replace hq := Int.not_lt.1 hq | replace hq := Int.not_le.1 hq | replace hq := Nat.not_lt.1 hq | replace hq := Nat.not_le.1 hq); try (exfalso; omega))) | (refine plan_q rfl rfl ?_)))
          all_goals refine plan_done ?_
          all_goals (try simp only [List.drop_succ_cons, List.drop_zero])
          all_goals (try go_wp2_with fail)
          all_goals refine NoPanic.normal ?_
          all_goals (try go_wp2_with fail)
          go_ret
          exact ⟨ret_bool' HF.out.symm, HB_w3.drew⟩
        · replace c5 := Int.not_le.1 c5
          have HX3 := Lib.hid (HX2.out (fun _ => c5))
          clear HRK HX2
          refine wp_region_plan (C := fun w' => ∃ p : Regrown, w' = grow (redrawn w3 p.d) p.os) (.q 0 (.q 1 (.q 2 (.q 3 (.q 4 (.q 5 (.q 6 (.q 7 (.q 8 (.q 9 (.q 10 (.q 11 (.q 12 (.done)))))))))))))) 13 (by kernel_rfl) (by kernel_rfl) (grew_drew _) ?_
          repeat (any_goals (first | (go_big_quiet_skip; refine wpQuiet_nil ?_) | (go_big_quiet_want; go_big_quiet_op; go_big_quiet_on; refine wpQuiet_nil ?_) | ((with_reducible apply q_split); exact rfl; intro q hq; cases q <;> (rw [hq]; (try first | replace hq := bnot_t hq | replace hq := bnot_f hq); (try first | replace hq := of_decide_eq_true hq | replace hq := of_decide_eq_false hq | replace hq := eq_of_beq hq); (try first | replace hq := Int.not_lt.1 hq | replace hq := Int.not_le.1 hq | replace hq := Nat.not_lt.1 hq | replace hq := Nat.not_le.1 hq); try (exfalso; omega))) | (refine plan_q rfl rfl ?_)))
          all_goals refine plan_done ?_
          all_goals (try simp only [List.drop_succ_cons, List.drop_zero])
          all_goals (try go_wp2_with fail)
          all_goals refine NoPanic.normal ?_
          all_goals (try go_wp2_with fail)
          go_roundw
          case rel => exact ⟨j + 1 + 1, hlt, by go_num, HB_w3.drew, HX3⟩
          case measure => simp [intOf] <;> omega
    · have HF := Lib.hid (HALL.out (fun j h => (HN.out j h (by omega)).1) (fun j h _ => (HN.out j h (by omega)).2))
      clear HN
      go_wp2_with fail
      all_goals try (exfalso; omega)
      go_ret
      exact ⟨ret_bool' HF.out.symm, HB_wr⟩
end Go.Proofs.Ytheioedggjbphaa

set_option linter.unusedVariables false
namespace Go.Proofs.Ytheioedggjbphaa
open Go Go.RowKit Sc Sk Go.Sort
set_option maxRecDepth 100000 in
set_option maxHeartbeats 16000000 in
theorem rlate_any (jo : Option Addr) (n cap : Nat) (J : List Jb) (ao : Option Addr) (m capa : Nat) (l : List Sn) (w : World) (hj : Sl w 4 cJ jo n cap J) (hs : Sl w 3 cS ao m capa l) :
    Calls Try.prog 19 #[.slice jo n cap, .slice ao m capa] w (IsE w (lateR J l)) := by
  obtain rfl := hj.len
  obtain rfl := hs.len
  have hcap := hj.max
  have hle := hj.le
  have hcapa := hs.max
  have hlea := hs.le
  unfold maxLen at hcap hcapa
  have HJ := Lib.hid hj
  have HS := Lib.hid hs
  have HB_w : Below w.heap.size w w := Below.refl _ _
  have HRV := Lib.hid (rvalid_any jo J.length cap J w hj)
  have HRP := Lib.hid (fun W (hW : Below w.heap.size w W) => risplan_any jo J.length cap J ao l.length capa l W (hj.below hW) (hs.below hW))
  have HR := Lib.hid (show lateR J l = if (validJ J && namesB J l) = true then (lateF J l, 0) else ([], 1) from rfl)
  obtain ⟨i0, hi, hz0, hz1, hz2⟩ := info_parts info_int
  have HI := Lib.hid hi
  have HZ0 := Lib.hid hz0
  have HZ1 := Lib.hid hz1
  have HZ2 := Lib.hid hz2
  clear hi hz0 hz1 hz2 hj hs
  generalize lateR J l = r at *
  go_enter Try.func19, Try.ntmps19
  cases h1 : validJ J with
  | false =>
    rw [h1] at HRV HR
    have HP := Lib.hid (show r = ([], 1) from HR.out)
    clear h1 HR HRP
    go_wp2_with fail
    refine (HRV.out).mono ?_
    rintro e wa ⟨rfl, hb_wa⟩
    have HB_wa : Below w.heap.size w wa := by first | exact after0 HB_w hb_wa | exact after1 HB_w hb_wa | exact after2 HB_w hb_wa | exact after3 HB_w hb_wa | exact after4 HB_w hb_wa | exact after5 HB_w hb_wa
    go_wp2_with fail
    all_goals try (exfalso; omega)
    go_ret2
    exact ⟨.slice none 0 0, by rw [HP.out]; rfl, by rw [HP.out]; exact OwnL.nil, HB_wa⟩
  | true =>
  rw [h1] at HRV HR
  have HV := Lib.hid (validJ_iff.1 h1).2
  have hl100 := (validJ_iff.1 h1).1
  clear h1
  go_wp2_with fail
  refine (HRV.out).mono ?_
  rintro e wa ⟨rfl, hb_wa⟩
  have HB_wa : Below w.heap.size w wa := by first | exact after0 HB_w hb_wa | exact after1 HB_w hb_wa | exact after2 HB_w hb_wa | exact after3 HB_w hb_wa | exact after4 HB_w hb_wa | exact after5 HB_w hb_wa
  go_wp2_with fail
  cases h2 : namesB J l with
  | false =>
    rw [h2] at HRP HR
    have HP := Lib.hid (show r = ([], 1) from HR.out)
    clear h2 HR
    refine (HRP.out _ HB_wa).mono ?_
    rintro e wb ⟨rfl, hb_wb⟩
    have HB_wb : Below w.heap.size w wb := by first | exact after0 HB_wa hb_wb | exact after1 HB_wa hb_wb | exact after2 HB_wa hb_wb | exact after3 HB_wa hb_wb | exact after4 HB_wa hb_wb | exact after5 HB_wa hb_wb
    go_wp2_with fail
    all_goals try (exfalso; omega)
    go_ret2
    exact ⟨.slice none 0 0, by rw [HP.out]; rfl, by rw [HP.out]; exact OwnL.nil, HB_wb⟩
  | true =>
  rw [h2] at HRP HR
  have HP := Lib.hid (show r = (lateF J l, 0) from HR.out)
  clear h2 HR
  refine (HRP.out _ HB_wa).mono ?_
  rintro e wb ⟨rfl, hb_wb⟩
  have HB_wb : Below w.heap.size w wb := by first | exact after0 HB_wa hb_wb | exact after1 HB_wa hb_wb | exact after2 HB_wa hb_wb | exact after3 HB_wa hb_wb | exact after4 HB_wa hb_wb | exact after5 HB_wa hb_wb
  clear HRP HRV
  go_wp2_with fail
  go_loopw [7, 8] (fun o i wr => ∃ i' : Nat, i' ≤ J.length ∧ i = .int .i64 i' ∧ Below w.heap.size w wr ∧ Hid (OwnL wr w.heap.size 3 1 cI o (((List.range i').filter (lateB J l)).map Int.ofNat))) (fun _ i _ => J.length - (intOf i).toNat)
  case atStart => exact ⟨0, Nat.zero_le _, rfl, HB_wb, OwnL.nil⟩
  case round =>
    obtain ⟨i, hi, rfl, HB_wr, HO⟩ := hrel
    by_cases hil : i < J.length
    case neg =>
      obtain rfl : i = J.length := by omega
      have HO2 := Lib.hid (show OwnL wr w.heap.size 3 1 cI u7 (lateF J l) from HO.out)
      clear HO
      go_wp2_with fail
      all_goals try (exfalso; omega)
      go_ret2
      exact ⟨_, by rw [HP.out]; rfl, by rw [HP.out]; exact HO2.out, HB_wr⟩
    obtain ⟨V, rfl⟩ : ∃ V, V = wr := ⟨_, rfl⟩
    have hyl := lateF_len J l i
    have HYE := Lib.hid (fun h => @lateF_yes J l i h)
    have HNE := Lib.hid (fun h => @lateF_no J l i h)
    have hjp := jobB_iff.1 (HV.out _ (List.getElem_mem hil))
    obtain ⟨pc, hpc⟩ : ∃ pc : Nat, J[i].pieces = pc := ⟨J[i].pieces.toNat, by omega⟩
    have hpc32 : pc ≤ 32 := by omega
    have HLC := Lib.hid (show lateB J l i = decide (cntG J l i pc < pc) from late_cnt (by rw [jat_get hil]; exact hpc.symm))
    have HPC := Lib.hid hpc
    clear hpc hjp
    generalize ((List.range i).filter (lateB J l)).map Int.ofNat = us at *
    go_wp2_with fail
    go_loopw [9, 10] (fun nn p wr => ∃ p' : Nat, p' ≤ pc ∧ p = .int .i64 p' ∧ nn = .int .i64 (cntG J l i p' : Nat) ∧ Hid (Below V.heap.size V wr)) (fun _ p _ => pc - (intOf p).toNat)
    case atStart => exact ⟨0, Nat.zero_le _, rfl, rfl, Below.refl _ _⟩
    case round =>
      obtain ⟨p, hp, rfl, rfl, HBV⟩ := hrel
      obtain ⟨U, rfl⟩ : ∃ U, U = wr := ⟨_, rfl⟩
      have HB_U : Below w.heap.size w U := HB_wr.trans (HBV.out.mono HB_wr.size)
      obtain ⟨bj, offj, rfl, hbj, hrowj⟩ := HJ.out.get hil
      obtain ⟨e_0, e_1, e_2, e_3⟩ := ((hrowj i hil).below HB_U hbj).c4
      rw [HPC.out] at e_2
      have hcl := cntG_le J l i p
      by_cases hpl : p < pc
      · have HROW := Lib.hid (fun W (hW : Below w.heap.size w W) => ((hrowj i hil).below hW hbj).c4)
        have hpi : (p : Int) < (pc : Int) := by omega
        go_wp2_with fail
        clear e_0 e_1 e_2 e_3 hrowj
        go_loopw [11, 12] (fun is k wr => ∃ k' : Nat, k' ≤ l.length ∧ is = .bool (gotF J (l.take k') i p) ∧ k = .int .i64 k' ∧ Hid (Below U.heap.size U wr)) (fun _ k _ => l.length - (intOf k).toNat)
        case atStart => exact ⟨0, Nat.zero_le _, rfl, rfl, Below.refl _ _⟩
        case round =>
          obtain ⟨k, hk, rfl, rfl, HBU⟩ := hrel
          have HB_k : Below w.heap.size w wr := HB_U.trans (HBU.out.mono HB_U.size)
          by_cases hlt : k < l.length
          · obtain ⟨b, off, rfl, hb, hrow⟩ := HS.out.get hlt
            obtain ⟨p_0, p_1, p_2⟩ := ((hrow k hlt).below HB_k hb).c3
            obtain ⟨e_0, e_1, e_2, e_3⟩ := HROW.out wr HB_k
            have HSTP := Lib.hid (got_step (J := J) hlt i p)
            have HIT := Lib.hid (show l[k].job = i → inT J l[k] = decide (J[i].ready ≤ l[k].slot ∧ l[k].slot ≤ J[i].due) from fun h => by unfold inT; rw [h, Int.toNat_natCast, jat_get hil])
            clear hrow
            generalize gotF J (l.take k) i p = g at *
            generalize inT J l[k] = it at *
            generalize l[k] = s at *
            generalize J[i] = x at *
            obtain ⟨x0, x1, x2, x3⟩ := x
            obtain ⟨s0, s1, s2⟩ := s
            dsimp only at e_0 e_1 e_2 e_3 p_0 p_1 p_2 HSTP HIT
            cases g with
            | true =>
              have HNX := Lib.hid (show gotF J (l.take (k + 1)) i p = true by rw [HSTP.out]; rfl)
              clear HSTP HIT
              go_wp2_with fail
              have y_e_0 := cell_regrown e_0
              have y_e_1 := cell_regrown e_1
              have y_e_2 := cell_regrown e_2
              have y_e_3 := cell_regrown e_3
              clear e_0 e_1 e_2 e_3
              have y_p_0 := cell_regrown p_0
              have y_p_1 := cell_regrown p_1
              have y_p_2 := cell_regrown p_2
              clear p_0 p_1 p_2
              refine wp_region_plan (C := fun w' => ∃ p : Regrown, w' = grow (redrawn wr p.d) p.os) (.q 0 (.q 1 (.q 2 (.q 3 (.q 4 (.q 5 (.q 6 (.q 7 (.q 8 (.q 9 (.q 10 (.q 11 (.q 12 (.q 13 (.q 14 (.q 15 (.q 16 (.q 17 (.q 18 (.q 19 (.q 20 (.q 21 (.q 22 (.q 23 (.q 24 (.q 25 (.q 26 (.e 27 (.q 28 (.q 29 (.q 30 (.done)))))))))))))))))))))))))))))))) 31 (by kernel_rfl) (by kernel_rfl) (grew_drew _) ?_
              repeat (any_goals (first | (go_big_quiet_skip; refine wpQuiet_nil ?_) | (go_big_quiet_want; go_big_quiet_op; go_big_quiet_on; refine wpQuiet_nil ?_) | ((with_reducible apply q_split); exact rfl; intro q hq; cases q <;> (rw [hq]; (try first | replace hq := bnot_t hq | replace hq := bnot_f hq); (try first | replace hq := of_decide_eq_true hq | replace hq := of_decide_eq_false hq | replace hq := eq_of_beq hq); (try first | replace hq := Int.not_lt.1 hq | replace hq := Int.not_le.1 hq | replace hq := Nat.not_lt.1 hq | replace hq := Nat.not_le.1 hq); try (exfalso; omega))) | (refine plan_q rfl rfl ?_)))
              refine plan_e rfl ?_
              go_wp2_with fail
              refine MixPost.intro (by first | exact grew_drew _ | exact grew_of_below (by assumption)) ?_
              repeat (any_goals (first | (go_big_quiet_skip; refine wpQuiet_nil ?_) | (go_big_quiet_want; go_big_quiet_op; go_big_quiet_on; refine wpQuiet_nil ?_) | ((with_reducible apply q_split); exact rfl; intro q hq; cases q <;> (rw [hq]; (try first | replace hq := bnot_t hq | replace hq := bnot_f hq); (try first | replace hq := of_decide_eq_true hq | replace hq := of_decide_eq_false hq | replace hq := eq_of_beq hq); (try first | replace hq := Int.not_lt.1 hq | replace hq := Int.not_le.1 hq | replace hq := Nat.not_lt.1 hq | replace hq := Nat.not_le.1 hq); try (exfalso; omega))) | (refine plan_q rfl rfl ?_)))
              clear y_e_0 y_e_1 y_e_2 y_e_3
              clear y_p_0 y_p_1 y_p_2
              all_goals refine plan_done ?_
              all_goals (try simp only [List.drop_succ_cons, List.drop_zero])
              all_goals (try go_wp2_with fail)
              all_goals refine NoPanic.normal ?_
              all_goals (try go_wp2_with fail)
              go_roundw
              case rel => exact ⟨k + 1, hlt, by rw [HNX.out], by go_num, HBU.out.drew⟩
              case measure => simp [intOf] <;> omega
            | false =>
            rw [Bool.false_or] at HSTP
            by_cases c1 : s1 = i
            case neg =>
              have HNX := Lib.hid (show gotF J (l.take (k + 1)) i p = false by rw [HSTP.out, decide_eq_false (fun h => c1 h.1), Bool.and_false])
              have c1b : (s1 == (i : Int)) = false := beq_eq_false_iff_ne.2 c1
              clear HSTP HIT c1
              go_wp2_with fail
              have y_e_0 := cell_regrown e_0
              have y_e_1 := cell_regrown e_1
              have y_e_2 := cell_regrown e_2
              have y_e_3 := cell_regrown e_3
              clear e_0 e_1 e_2 e_3
              have y_p_0 := cell_regrown p_0
              have y_p_1 := cell_regrown p_1
              have y_p_2 := cell_regrown p_2
              clear p_0 p_1 p_2
              refine wp_region_plan (C := fun w' => ∃ p : Regrown, w' = grow (redrawn wr p.d) p.os) (.q 0 (.q 1 (.q 2 (.q 3 (.q 4 (.q 5 (.q 6 (.q 7 (.q 8 (.q 9 (.q 10 (.q 11 (.q 12 (.q 13 (.q 14 (.q 15 (.q 16 (.q 17 (.q 18 (.q 19 (.q 20 (.q 21 (.q 22 (.q 23 (.q 24 (.q 25 (.q 26 (.e 27 (.q 28 (.q 29 (.q 30 (.done)))))))))))))))))))))))))))))))) 31 (by kernel_rfl) (by kernel_rfl) (grew_drew _) ?_
              repeat (any_goals (first | (go_big_quiet_skip; refine wpQuiet_nil ?_) | (go_big_quiet_want; go_big_quiet_op; go_big_quiet_on; refine wpQuiet_nil ?_) | ((with_reducible apply q_split); exact rfl; intro q hq; cases q <;> (rw [hq]; (try first | replace hq := bnot_t hq | replace hq := bnot_f hq); (try first | replace hq := of_decide_eq_true hq | replace hq := of_decide_eq_false hq | replace hq := eq_of_beq hq); (try first | replace hq := Int.not_lt.1 hq | replace hq := Int.not_le.1 hq | replace hq := Nat.not_lt.1 hq | replace hq := Nat.not_le.1 hq); try (exfalso; omega))) | (refine plan_q rfl rfl ?_)))
              refine plan_e rfl ?_
              go_wp2_with fail
              refine MixPost.intro (by first | exact grew_drew _ | exact grew_of_below (by assumption)) ?_
              repeat (any_goals (first | (go_big_quiet_skip; refine wpQuiet_nil ?_) | (go_big_quiet_want; go_big_quiet_op; go_big_quiet_on; refine wpQuiet_nil ?_) | ((with_reducible apply q_split); exact rfl; intro q hq; cases q <;> (rw [hq]; (try first | replace hq := bnot_t hq | replace hq := bnot_f hq); (try first | replace hq := of_decide_eq_true hq | replace hq := of_decide_eq_false hq | replace hq := eq_of_beq hq); (try first | replace hq := Int.not_lt.1 hq | replace hq := Int.not_le.1 hq | replace hq := Nat.not_lt.1 hq | replace hq := Nat.not_le.1 hq); try (exfalso; omega))) | (refine plan_q rfl rfl ?_)))
              clear y_e_0 y_e_1 y_e_2 y_e_3
              clear y_p_0 y_p_1 y_p_2
              all_goals refine plan_done ?_
              all_goals (try simp only [List.drop_succ_cons, List.drop_zero])
              all_goals (try go_wp2_with fail)
              all_goals refine NoPanic.normal ?_
              all_goals (try go_wp2_with fail)
              go_roundw
              case rel => exact ⟨k + 1, hlt, by rw [HNX.out], by go_num, HBU.out.drew⟩
              case measure => simp [intOf] <;> omega
            subst c1
            by_cases c2 : s2 = p
            case neg =>
              have HNX := Lib.hid (show gotF J (l.take (k + 1)) i p = false by rw [HSTP.out, decide_eq_false (fun h => c2 h.2), Bool.and_false])
              have c2b : (s2 == (p : Int)) = false := beq_eq_false_iff_ne.2 c2
              clear HSTP HIT c2
              go_wp2_with fail
              have y_e_0 := cell_regrown e_0
              have y_e_1 := cell_regrown e_1
              have y_e_2 := cell_regrown e_2
              have y_e_3 := cell_regrown e_3
              clear e_0 e_1 e_2 e_3
              have y_p_0 := cell_regrown p_0
              have y_p_1 := cell_regrown p_1
              have y_p_2 := cell_regrown p_2
              clear p_0 p_1 p_2
              refine wp_region_plan (C := fun w' => ∃ p : Regrown, w' = grow (redrawn wr p.d) p.os) (.q 0 (.q 1 (.q 2 (.q 3 (.q 4 (.q 5 (.q 6 (.q 7 (.q 8 (.q 9 (.q 10 (.q 11 (.q 12 (.q 13 (.q 14 (.q 15 (.q 16 (.q 17 (.q 18 (.q 19 (.q 20 (.q 21 (.q 22 (.q 23 (.q 24 (.q 25 (.q 26 (.e 27 (.q 28 (.q 29 (.q 30 (.done)))))))))))))))))))))))))))))))) 31 (by kernel_rfl) (by kernel_rfl) (grew_drew _) ?_
              repeat (any_goals (first | (go_big_quiet_skip; refine wpQuiet_nil ?_) | (go_big_quiet_want; go_big_quiet_op; go_big_quiet_on; refine wpQuiet_nil ?_) | ((with_reducible apply q_split); exact rfl; intro q hq; cases q <;> (rw [hq]; (try first | replace hq := bnot_t hq | replace hq := bnot_f hq); (try first | replace hq := of_decide_eq_true hq | replace hq := of_decide_eq_false hq | replace hq := eq_of_beq hq); (try first | replace hq := Int.not_lt.1 hq | replace hq := Int.not_le.1 hq | replace hq := Nat.not_lt.1 hq | replace hq := Nat.not_le.1 hq); try (exfalso; omega))) | (refine plan_q rfl rfl ?_)))
              refine plan_e rfl ?_
              go_wp2_with fail
              refine MixPost.intro (by first | exact grew_drew _ | exact grew_of_below (by assumption)) ?_
              repeat (any_goals (first | (go_big_quiet_skip; refine wpQuiet_nil ?_) | (go_big_quiet_want; go_big_quiet_op; go_big_quiet_on; refine wpQuiet_nil ?_) | ((with_reducible apply q_split); exact rfl; intro q hq; cases q <;> (rw [hq]; (try first | replace hq := bnot_t hq | replace hq := bnot_f hq); (try first | replace hq := of_decide_eq_true hq | replace hq := of_decide_eq_false hq | replace hq := eq_of_beq hq); (try first | replace hq := Int.not_lt.1 hq | replace hq := Int.not_le.1 hq | replace hq := Nat.not_lt.1 hq | replace hq := Nat.not_le.1 hq); try (exfalso; omega))) | (refine plan_q rfl rfl ?_)))
              clear y_e_0 y_e_1 y_e_2 y_e_3
              clear y_p_0 y_p_1 y_p_2
              all_goals refine plan_done ?_
              all_goals (try simp only [List.drop_succ_cons, List.drop_zero])
              all_goals (try go_wp2_with fail)
              all_goals refine NoPanic.normal ?_
              all_goals (try go_wp2_with fail)
              go_roundw
              case rel => exact ⟨k + 1, hlt, by rw [HNX.out], by go_num, HBU.out.drew⟩
              case measure => simp [intOf] <;> omega
            subst c2
            have HNX := Lib.hid (show gotF J (l.take (k + 1)) i p = decide (x0 ≤ s0 ∧ s0 ≤ x1) by rw [HSTP.out, decide_eq_true (⟨rfl, rfl⟩ : (i : Int) = i ∧ (p : Int) = p), Bool.and_true, HIT.out rfl])
            have HC := Lib.hid (fun W => rintime_any ⟨x0, x1, x2, x3⟩ ⟨s0, i, p⟩ W)
            dsimp only [eJ, eS] at HC
            clear HSTP HIT
            generalize decide (x0 ≤ s0 ∧ s0 ≤ x1) = q at *
            go_wp2_with fail
            have y_e_0 := cell_regrown e_0
            have y_e_1 := cell_regrown e_1
            have y_e_2 := cell_regrown e_2
            have y_e_3 := cell_regrown e_3
            clear e_0 e_1 e_2 e_3
            have y_p_0 := cell_regrown p_0
            have y_p_1 := cell_regrown p_1
            have y_p_2 := cell_regrown p_2
            clear p_0 p_1 p_2
            refine wp_region_plan (C := fun w' => ∃ p : Regrown, w' = grow (redrawn wr p.d) p.os) (.q 0 (.q 1 (.q 2 (.q 3 (.q 4 (.q 5 (.q 6 (.q 7 (.q 8 (.q 9 (.q 10 (.q 11 (.q 12 (.q 13 (.q 14 (.q 15 (.q 16 (.q 17 (.q 18 (.q 19 (.q 20 (.q 21 (.q 22 (.q 23 (.q 24 (.q 25 (.q 26 (.e 27 (.q 28 (.q 29 (.q 30 (.done)))))))))))))))))))))))))))))))) 31 (by kernel_rfl) (by kernel_rfl) (grew_drew _) ?_
            repeat (any_goals (first | (go_big_quiet_skip; refine wpQuiet_nil ?_) | (go_big_quiet_want; go_big_quiet_op; go_big_quiet_on; refine wpQuiet_nil ?_) | ((with_reducible apply q_split); exact rfl; intro q hq; cases q <;> (rw [hq]; (try first | replace hq := bnot_t hq | replace hq := bnot_f hq); (try first | replace hq := of_decide_eq_true hq | replace hq := of_decide_eq_false hq | replace hq := eq_of_beq hq); (try first | replace hq := Int.not_lt.1 hq | replace hq := Int.not_le.1 hq | replace hq := Nat.not_lt.1 hq | replace hq := Nat.not_le.1 hq); try (exfalso; omega))) | (refine plan_q rfl rfl ?_)))
            refine plan_e rfl ?_
            go_wp2_with fail
            refine (HC.out _).mono ?_
            rintro e w3 ⟨rfl, hb_w3⟩
            have HW_w3 : Below wr.heap.size wr w3 := below_undrew hb_w3
            clear hb_w3
            go_wp2_with fail
            refine MixPost.intro (grew_of_below HW_w3) ?_
            repeat (any_goals (first | (go_big_quiet_skip; refine wpQuiet_nil ?_) | (go_big_quiet_want; go_big_quiet_op; go_big_quiet_on; refine wpQuiet_nil ?_) | ((with_reducible apply q_split); exact rfl; intro q hq; cases q <;> (rw [hq]; (try first | replace hq := bnot_t hq | replace hq := bnot_f hq); (try first | replace hq := of_decide_eq_true hq | replace hq := of_decide_eq_false hq | replace hq := eq_of_beq hq); (try first | replace hq := Int.not_lt.1 hq | replace hq := Int.not_le.1 hq | replace hq := Nat.not_lt.1 hq | replace hq := Nat.not_le.1 hq); try (exfalso; omega))) | (refine plan_q rfl rfl ?_)))
            clear y_e_0 y_e_1 y_e_2 y_e_3
            clear y_p_0 y_p_1 y_p_2
            all_goals refine plan_done ?_
            all_goals (try simp only [List.drop_succ_cons, List.drop_zero])
            all_goals (try go_wp2_with fail)
            all_goals refine NoPanic.normal ?_
            all_goals (try go_wp2_with fail)
            go_roundw
            case rel => exact ⟨k + 1, hlt, by rw [HNX.out], by go_num, HBU.out.trans (HW_w3.mono HBU.out.size)⟩
            case measure => simp [intOf] <;> omega
          · obtain rfl : k = l.length := by omega
            rw [got_all]
            have HB3 := Lib.hid (HBV.out.trans (HBU.out.mono HBV.out.size))
            cases hg : gotF J l i p with
            | true =>
              have HNX := Lib.hid (cntG_yes hg)
              clear hg
              generalize cntG J l i p = cn at *
              go_wp2_with fail
              go_roundw
              case rel => exact ⟨p + 1, hpl, by go_num, by rw [HNX.out]; go_num, HB3⟩
              case measure => simp [intOf] <;> omega
            | false =>
              have HNX := Lib.hid (cntG_no hg)
              clear hg
              generalize cntG J l i p = cn at *
              go_wp2_with fail
              go_roundw
              case rel => exact ⟨p + 1, hpl, by go_num, by rw [HNX.out], HB3⟩
              case measure => simp [intOf] <;> omega
      · obtain rfl : p = pc := by omega
        have HOU := Lib.hid (HO.out.below HBV.out)
        clear hrowj HO
        generalize cntG J l i p = cn at *
        by_cases hcp : cn < p
        · have HNX := Lib.hid (HYE.out (by rw [HLC.out]; exact decide_eq_true hcp))
          have hci : (cn : Int) < (p : Int) := by omega
          have hus : us.length ≤ 100 := by omega
          clear HYE HNE HLC hcp
          have HOX := Lib.hid (HOU.out.alloc (.cells #[.int .i64 (i : Int)] 3))
          have HSX : Hid (Sl (U.alloc (.cells #[.int .i64 (i : Int)] 3)) 1 cI (some ⟨U.heap.size, 0, none⟩) 1 1 [(i : Int)]) := Sl.one (x := (i : Int)) cI_len (Box.new U (cI (i : Int)) 3)
          have hsz : w.heap.size ≤ (U.alloc (.cells #[.int .i64 (i : Int)] 3)).heap.size := by have := HB_U.size; simp; omega
          go_wp2_with (at_builtin; refine wpList_append_sl rfl _ _ 30 rfl w.heap.size 3 i0 _ 1 8 Try.underlying30 HI.out HZ0.out HZ1.out HZ2.out rfl (by decide) cI_len cI_one _ us rfl HOX.out (some ⟨U.heap.size, 0, none⟩) 1 1 [(i : Int)] rfl HSX.out (by unfold maxLen; omega) (by omega) hsz ?_)
          rintro v' w6 ho6 hg6 hgr6
          have HB_6 : Below w.heap.size w w6 := (grew1 HB_U).trans (hg6 _ (Nat.le_refl _))
          have HO6 := Lib.hid ho6
          clear hg6 hgr6 ho6 HOX HSX hsz HOU
          go_wp2_with fail
          go_roundw
          case rel => exact ⟨i + 1, hil, by go_num, HB_6, by rw [HNX.out]; exact HO6.out⟩
          case measure => simp [intOf] <;> omega
        · have HNX := Lib.hid (HNE.out (by rw [HLC.out]; exact decide_eq_false hcp))
          have hci : (p : Int) ≤ (cn : Int) := by omega
          clear HYE HNE HLC hcp
          go_wp2_with fail
          go_roundw
          case rel => exact ⟨i + 1, hil, by go_num, HB_U, by rw [HNX.out]; exact HOU.out⟩
          case measure => simp [intOf] <;> omega
end Go.Proofs.Ytheioedggjbphaa

set_option linter.unusedVariables false
namespace Sc
theorem names_allB {J : List Jb} {l : List Sn} (h : namesB J l = true) : l.all (nameB J) = true := by
  unfold namesB at h
  rw [Bool.and_eq_true] at h
  exact h.2
theorem inT_at {J : List Jb} {s : Sn} {i : Nat} (h : s.job = i) (hi : i < J.length) : inT J s = decide (J[i].ready ≤ s.slot ∧ s.slot ≤ J[i].due) := by
  unfold inT
  rw [h, Int.toNat_natCast, jat_get hi]
end Sc
namespace Go.Proofs.Ytheioedggjbphaa
open Go Go.RowKit Sc Sk Go.Sort
set_option maxRecDepth 100000 in
set_option maxHeartbeats 16000000 in
theorem rcheck_any (jo : Option Addr) (n cap : Nat) (J : List Jb) (ao : Option Addr) (m capa : Nat) (l : List Sn) (w : World) (hj : Sl w 4 cJ jo n cap J) (hs : Sl w 3 cS ao m capa l) :
    Calls Try.prog 22 #[.slice jo n cap, .slice ao m capa] w (Ret w (.tuple #[.bool (checkR J l).1, .int .i64 (checkR J l).2])) := by
  obtain rfl := hj.len
  obtain rfl := hs.len
  have hcap := hj.max
  have hle := hj.le
  have hcapa := hs.max
  have hlea := hs.le
  unfold maxLen at hcap hcapa
  have HJ := Lib.hid hj
  have HS := Lib.hid hs
  have HB_w : Below w.heap.size w w := Below.refl _ _
  have HRV := Lib.hid (rvalid_any jo J.length cap J w hj)
  have HRP := Lib.hid (fun W (hW : Below w.heap.size w W) => risplan_any jo J.length cap J ao l.length capa l W (hj.below hW) (hs.below hW))
  have HR := Lib.hid (show checkR J l = if (validJ J && namesB J l) = true then (checkB J l, 0) else (false, 1) from rfl)
  clear hj hs
  generalize checkR J l = r at *
  go_enter Try.func22, Try.ntmps22
  cases h1 : validJ J with
  | false =>
    rw [h1] at HRV HR
    obtain rfl := (show r = (false, 1) from HR.out)
    clear h1 HR HRP
    go_wp2_with fail
    refine (HRV.out).mono ?_
    rintro e wa ⟨rfl, hb_wa⟩
    have HB_wa : Below w.heap.size w wa := by first | exact after0 HB_w hb_wa | exact after1 HB_w hb_wa | exact after2 HB_w hb_wa | exact after3 HB_w hb_wa | exact after4 HB_w hb_wa | exact after5 HB_w hb_wa
    go_wp2_with fail
    all_goals try (exfalso; omega)
    go_ret2
    exact ⟨rfl, HB_wa⟩
  | true =>
  rw [h1] at HRV HR
  clear h1
  go_wp2_with fail
  refine (HRV.out).mono ?_
  rintro e wa ⟨rfl, hb_wa⟩
  have HB_wa : Below w.heap.size w wa := by first | exact after0 HB_w hb_wa | exact after1 HB_w hb_wa | exact after2 HB_w hb_wa | exact after3 HB_w hb_wa | exact after4 HB_w hb_wa | exact after5 HB_w hb_wa
  go_wp2_with fail
  cases h2 : namesB J l with
  | false =>
    rw [h2] at HRP HR
    obtain rfl := (show r = (false, 1) from HR.out)
    clear h2 HR
    refine (HRP.out _ HB_wa).mono ?_
    rintro e wb ⟨rfl, hb_wb⟩
    have HB_wb : Below w.heap.size w wb := by first | exact after0 HB_wa hb_wb | exact after1 HB_wa hb_wb | exact after2 HB_wa hb_wb | exact after3 HB_wa hb_wb | exact after4 HB_wa hb_wb | exact after5 HB_wa hb_wb
    go_wp2_with fail
    all_goals try (exfalso; omega)
    go_ret2
    exact ⟨rfl, HB_wb⟩
  | true =>
  rw [h2] at HRP HR
  have HP := Lib.hid (show r = (checkB J l, 0) from HR.out)
  have HNN := Lib.hid (fun k h => @nn_of l J (names_allB h2) k h)
  have HNO := Lib.hid (fun k h e => @check_ref_no J l (names_allB h2) k h e)
  have HYE := Lib.hid (fun e => @check_ref_yes J l (names_allB h2) e)
  generalize checkB J l = cb at *
  clear h2 HR
  refine (HRP.out _ HB_wa).mono ?_
  rintro e wb ⟨rfl, hb_wb⟩
  have HB_wb : Below w.heap.size w wb := by first | exact after0 HB_wa hb_wb | exact after1 HB_wa hb_wb | exact after2 HB_wa hb_wb | exact after3 HB_wa hb_wb | exact after4 HB_wa hb_wb | exact after5 HB_wa hb_wb
  clear HRP HRV
  go_wp2_with fail
  go_loopw [7] (fun i wr => ∃ k : Nat, k ≤ l.length ∧ i = .int .i64 k ∧ Below w.heap.size w wr ∧ Hid (∀ j (h : j < l.length), j < k → refAt J l j h j = true)) (fun i _ => l.length - (intOf i).toNat)
  case atStart => exact ⟨0, Nat.zero_le _, rfl, HB_wb, fun j _ h => absurd h (Nat.not_lt_zero _)⟩
  case round =>
    obtain ⟨k, hk, rfl, HB_wr, HN⟩ := hrel
    by_cases hlt : k < l.length
    case neg =>
      obtain rfl := HYE.out (fun j h => HN.out j h (by omega))
      obtain rfl := HP.out
      clear HN HNO HYE
      go_wp2_with fail
      all_goals try (exfalso; omega)
      go_ret2
      exact ⟨rfl, HB_wr⟩
    have HNX := Lib.hid (show refAt J l k hlt k = true → ∀ j (h : j < l.length), j < k + 1 → refAt J l j h j = true from fun e j h hj => by
      by_cases hjk : j = k
      · subst hjk; exact e
      · exact HN.out j h (by omega))
    have HNK := Lib.hid (HNO.out k hlt)
    obtain ⟨n1, n2, n3, n4⟩ := HNN.out k hlt
    obtain ⟨i, hi⟩ : ∃ i : Nat, l[k].job = i := ⟨l[k].job.toNat, by omega⟩
    have hij : i < J.length := by omega
    have HIN := Lib.hid (inT_at hi hij)
    have HR0 := Lib.hid (refAt_zero (J := J) hlt)
    have HRS := Lib.hid (fun mm h => @refAt_step J l k mm hlt h)
    obtain ⟨b, off, rfl, hb, hrow⟩ := HS.out.get hlt
    have HROW := Lib.hid hrow
    have HLK := Lib.hid (fun W (hW : Below w.heap.size w W) => ((hrow k hlt).below hW hb).c3)
    obtain ⟨p_0, p_1, p_2⟩ := ((hrow k hlt).below HB_wr hb).c3
    obtain ⟨bj, offj, rfl, hbj, hrowj⟩ := HJ.out.get hij
    obtain ⟨e_0, e_1, e_2, e_3⟩ := ((hrowj i hij).below HB_wr hbj).c4
    have hii : (i : Int) < (J.length : Int) := by omega
    clear hrow hrowj HN n1 n2 n3 n4
    generalize inT J l[k] = it at *
    generalize refAt J l k hlt = ra at *
    generalize hsv : l[k] = s at *
    have HSV := Lib.hid hsv
    clear hsv
    generalize J[i] = x at *
    obtain ⟨x0, x1, x2, x3⟩ := x
    obtain ⟨s0, s1, s2⟩ := s
    dsimp only at e_0 e_1 e_2 e_3 p_0 p_1 p_2 HIN HLK hi HRS
    subst hi
    have HC := Lib.hid (fun W => rintime_any ⟨x0, x1, x2, x3⟩ ⟨s0, i, s2⟩ W)
    dsimp only [eJ, eS] at HC
    rw [← HIN.out] at HC
    rw [← HR0.out] at HC
    clear HIN HR0
    go_wp2_with fail
    have y_e_0 := cell_regrown e_0
    have y_e_1 := cell_regrown e_1
    have y_e_2 := cell_regrown e_2
    have y_e_3 := cell_regrown e_3
    clear e_0 e_1 e_2 e_3
    have y_p_0 := cell_regrown p_0
    have y_p_1 := cell_regrown p_1
    have y_p_2 := cell_regrown p_2
    clear p_0 p_1 p_2
    refine wp_region_plan (C := fun w' => ∃ p : Regrown, w' = grow (redrawn wr p.d) p.os) (.q 0 (.q 1 (.q 2 (.q 3 (.q 4 (.q 5 (.q 6 (.q 7 (.q 8 (.q 9 (.q 10 (.q 11 (.e 12 (.q 13 (.done))))))))))))))) 14 (by kernel_rfl) (by kernel_rfl) (grew_drew _) ?_
    repeat (any_goals (first | (go_big_quiet_skip; refine wpQuiet_nil ?_) | (go_big_quiet_want; go_big_quiet_op; go_big_quiet_on; refine wpQuiet_nil ?_) | ((with_reducible apply q_split); exact rfl; intro q hq; cases q <;> (rw [hq]; (try first | replace hq := bnot_t hq | replace hq := bnot_f hq); (try first | replace hq := of_decide_eq_true hq | replace hq := of_decide_eq_false hq | replace hq := eq_of_beq hq); (try first | replace hq := Int.not_lt.1 hq | replace hq := Int.not_le.1 hq | replace hq := Nat.not_lt.1 hq | replace hq := Nat.not_le.1 hq); try (exfalso; omega))) | (refine plan_q rfl rfl ?_)))
    refine plan_e rfl ?_
    go_wp2_with fail
    refine (HC.out _).mono ?_
    rintro e w3 ⟨rfl, hb_w3⟩
    have HW_w3 : Below wr.heap.size wr w3 := below_undrew hb_w3
    clear hb_w3
    go_wp2_with fail
    refine MixPost.intro (grew_of_below HW_w3) ?_
    repeat (any_goals (first | (go_big_quiet_skip; refine wpQuiet_nil ?_) | (go_big_quiet_want; go_big_quiet_op; go_big_quiet_on; refine wpQuiet_nil ?_) | ((with_reducible apply q_split); exact rfl; intro q hq; cases q <;> (rw [hq]; (try first | replace hq := bnot_t hq | replace hq := bnot_f hq); (try first | replace hq := of_decide_eq_true hq | replace hq := of_decide_eq_false hq | replace hq := eq_of_beq hq); (try first | replace hq := Int.not_lt.1 hq | replace hq := Int.not_le.1 hq | replace hq := Nat.not_lt.1 hq | replace hq := Nat.not_le.1 hq); try (exfalso; omega))) | (refine plan_q rfl rfl ?_)))
    clear y_e_0 y_e_1 y_e_2 y_e_3
    clear y_p_0 y_p_1 y_p_2
    all_goals refine plan_done ?_
    all_goals (try simp only [List.drop_succ_cons, List.drop_zero])
    all_goals (try go_wp2_with fail)
    all_goals refine NoPanic.normal ?_
    all_goals (try go_wp2_with fail)
    have HB_w3 : Below w.heap.size w w3 := HB_wr.trans (HW_w3.mono HB_wr.size)
    clear HC HW_w3
    go_loopw [8, 9] (fun ok i2 wr => ∃ m : Nat, m ≤ k ∧ ok = .bool (ra m) ∧ i2 = .int .i64 m ∧ Hid (Below w3.heap.size w3 wr)) (fun _ i2 _ => k - (intOf i2).toNat)
    case atStart => exact ⟨0, Nat.zero_le _, rfl, rfl, Below.refl _ _⟩
    case round =>
      obtain ⟨m, hm, rfl, rfl, HBU⟩ := hrel
      have HB_u : Below w.heap.size w wr := HB_w3.trans (HBU.out.mono HB_w3.size)
      by_cases hmk : m < k
      · have hml : m < l.length := by omega
        obtain ⟨p_0, p_1, p_2⟩ := HLK.out wr HB_u
        obtain ⟨f_0, f_1, f_2⟩ := ((HROW.out m hml).below HB_u hb).c3
        have HST := Lib.hid (HRS.out m hml)
        generalize l[m] = y at *
        obtain ⟨y0, y1, y2⟩ := y
        dsimp only at f_0 f_1 f_2
        unfold sameP at HST
        dsimp only at HST
        generalize ra m = g at *
        cases g with
        | false =>
          have HNX2 := Lib.hid (show ra (m + 1) = false by rw [HST.out]; rfl)
          clear HST
          go_wp2_with fail
          have y_p_0 := cell_regrown p_0
          have y_p_1 := cell_regrown p_1
          have y_p_2 := cell_regrown p_2
          clear p_0 p_1 p_2
          have y_f_0 := cell_regrown f_0
          have y_f_1 := cell_regrown f_1
          have y_f_2 := cell_regrown f_2
          clear f_0 f_1 f_2
          refine wp_region_plan (C := fun w' => ∃ p : Regrown, w' = grow (redrawn wr p.d) p.os) (.q 0 (.q 1 (.q 2 (.q 3 (.q 4 (.q 5 (.q 6 (.q 7 (.q 8 (.q 9 (.q 10 (.q 11 (.q 12 (.q 13 (.q 14 (.q 15 (.q 16 (.q 17 (.q 18 (.q 19 (.q 20 (.q 21 (.q 22 (.q 23 (.q 24 (.q 25 (.q 26 (.q 27 (.done))))))))))))))))))))))))))))) 28 (by kernel_rfl) (by kernel_rfl) (grew_drew _) ?_
          repeat (any_goals (first | (go_big_quiet_skip; refine wpQuiet_nil ?_) | (go_big_quiet_want; go_big_quiet_op; go_big_quiet_on; refine wpQuiet_nil ?_) | ((with_reducible apply q_split); exact rfl; intro q hq; cases q <;> (rw [hq]; (try first | replace hq := bnot_t hq | replace hq := bnot_f hq); (try first | replace hq := of_decide_eq_true hq | replace hq := of_decide_eq_false hq | replace hq := eq_of_beq hq); (try first | replace hq := Int.not_lt.1 hq | replace hq := Int.not_le.1 hq | replace hq := Nat.not_lt.1 hq | replace hq := Nat.not_le.1 hq); try (exfalso; omega))) | (refine plan_q rfl rfl ?_)))
          clear y_p_0 y_p_1 y_p_2
          clear y_f_0 y_f_1 y_f_2
          all_goals refine plan_done ?_
          all_goals (try simp only [List.drop_succ_cons, List.drop_zero])
          all_goals (try go_wp2_with fail)
          all_goals refine NoPanic.normal ?_
          all_goals (try go_wp2_with fail)
          go_roundw
          case rel => exact ⟨m + 1, hmk, by rw [HNX2.out], by go_num, HBU.out.drew⟩
          case measure => simp [intOf] <;> omega
        | true =>
        rw [Bool.true_and] at HST
        by_cases c1 : y1 = i
        case neg =>
          have HNX2 := Lib.hid (show ra (m + 1) = true by rw [HST.out, decide_eq_false (fun h => c1 h.1)]; rfl)
          have c1b : (y1 != (i : Int)) = true := bne_iff_ne.2 c1
          clear HST c1
          go_wp2_with fail
          have y_p_0 := cell_regrown p_0
          have y_p_1 := cell_regrown p_1
          have y_p_2 := cell_regrown p_2
          clear p_0 p_1 p_2
          have y_f_0 := cell_regrown f_0
          have y_f_1 := cell_regrown f_1
          have y_f_2 := cell_regrown f_2
          clear f_0 f_1 f_2
          refine wp_region_plan (C := fun w' => ∃ p : Regrown, w' = grow (redrawn wr p.d) p.os) (.q 0 (.q 1 (.q 2 (.q 3 (.q 4 (.q 5 (.q 6 (.q 7 (.q 8 (.q 9 (.q 10 (.q 11 (.q 12 (.q 13 (.q 14 (.q 15 (.q 16 (.q 17 (.q 18 (.q 19 (.q 20 (.q 21 (.q 22 (.q 23 (.q 24 (.q 25 (.q 26 (.q 27 (.done))))))))))))))))))))))))))))) 28 (by kernel_rfl) (by kernel_rfl) (grew_drew _) ?_
          repeat (any_goals (first | (go_big_quiet_skip; refine wpQuiet_nil ?_) | (go_big_quiet_want; go_big_quiet_op; go_big_quiet_on; refine wpQuiet_nil ?_) | ((with_reducible apply q_split); exact rfl; intro q hq; cases q <;> (rw [hq]; (try first | replace hq := bnot_t hq | replace hq := bnot_f hq); (try first | replace hq := of_decide_eq_true hq | replace hq := of_decide_eq_false hq | replace hq := eq_of_beq hq); (try first | replace hq := Int.not_lt.1 hq | replace hq := Int.not_le.1 hq | replace hq := Nat.not_lt.1 hq | replace hq := Nat.not_le.1 hq); try (exfalso; omega))) | (refine plan_q rfl rfl ?_)))
          clear y_p_0 y_p_1 y_p_2
          clear y_f_0 y_f_1 y_f_2
          all_goals refine plan_done ?_
          all_goals (try simp only [List.drop_succ_cons, List.drop_zero])
          all_goals (try go_wp2_with fail)
          all_goals refine NoPanic.normal ?_
          all_goals (try go_wp2_with fail)
          go_roundw
          case rel => exact ⟨m + 1, hmk, by rw [HNX2.out], by go_num, HBU.out.drew⟩
          case measure => simp [intOf] <;> omega
        subst c1
        by_cases c2 : y2 = s2
        · subst c2
          have HNX2 := Lib.hid (show ra (m + 1) = false by rw [HST.out, decide_eq_true (⟨rfl, rfl⟩ : (i : Int) = i ∧ y2 = y2)]; rfl)
          clear HST
          go_wp2_with fail
          have y_p_0 := cell_regrown p_0
          have y_p_1 := cell_regrown p_1
          have y_p_2 := cell_regrown p_2
          clear p_0 p_1 p_2
          have y_f_0 := cell_regrown f_0
          have y_f_1 := cell_regrown f_1
          have y_f_2 := cell_regrown f_2
          clear f_0 f_1 f_2
          refine wp_region_plan (C := fun w' => ∃ p : Regrown, w' = grow (redrawn wr p.d) p.os) (.q 0 (.q 1 (.q 2 (.q 3 (.q 4 (.q 5 (.q 6 (.q 7 (.q 8 (.q 9 (.q 10 (.q 11 (.q 12 (.q 13 (.q 14 (.q 15 (.q 16 (.q 17 (.q 18 (.q 19 (.q 20 (.q 21 (.q 22 (.q 23 (.q 24 (.q 25 (.q 26 (.q 27 (.done))))))))))))))))))))))))))))) 28 (by kernel_rfl) (by kernel_rfl) (grew_drew _) ?_
          repeat (any_goals (first | (go_big_quiet_skip; refine wpQuiet_nil ?_) | (go_big_quiet_want; go_big_quiet_op; go_big_quiet_on; refine wpQuiet_nil ?_) | ((with_reducible apply q_split); exact rfl; intro q hq; cases q <;> (rw [hq]; (try first | replace hq := bnot_t hq | replace hq := bnot_f hq); (try first | replace hq := of_decide_eq_true hq | replace hq := of_decide_eq_false hq | replace hq := eq_of_beq hq); (try first | replace hq := Int.not_lt.1 hq | replace hq := Int.not_le.1 hq | replace hq := Nat.not_lt.1 hq | replace hq := Nat.not_le.1 hq); try (exfalso; omega))) | (refine plan_q rfl rfl ?_)))
          clear y_p_0 y_p_1 y_p_2
          clear y_f_0 y_f_1 y_f_2
          all_goals refine plan_done ?_
          all_goals (try simp only [List.drop_succ_cons, List.drop_zero])
          all_goals (try go_wp2_with fail)
          all_goals refine NoPanic.normal ?_
          all_goals (try go_wp2_with fail)
          go_roundw
          case rel => exact ⟨m + 1, hmk, by rw [HNX2.out], by go_num, HBU.out.drew⟩
          case measure => simp [intOf] <;> omega
        · have HNX2 := Lib.hid (show ra (m + 1) = true by rw [HST.out, decide_eq_false (fun h => c2 h.2)]; rfl)
          have c2b : (y2 != s2) = true := bne_iff_ne.2 c2
          clear HST c2
          go_wp2_with fail
          have y_p_0 := cell_regrown p_0
          have y_p_1 := cell_regrown p_1
          have y_p_2 := cell_regrown p_2
          clear p_0 p_1 p_2
          have y_f_0 := cell_regrown f_0
          have y_f_1 := cell_regrown f_1
          have y_f_2 := cell_regrown f_2
          clear f_0 f_1 f_2
          refine wp_region_plan (C := fun w' => ∃ p : Regrown, w' = grow (redrawn wr p.d) p.os) (.q 0 (.q 1 (.q 2 (.q 3 (.q 4 (.q 5 (.q 6 (.q 7 (.q 8 (.q 9 (.q 10 (.q 11 (.q 12 (.q 13 (.q 14 (.q 15 (.q 16 (.q 17 (.q 18 (.q 19 (.q 20 (.q 21 (.q 22 (.q 23 (.q 24 (.q 25 (.q 26 (.q 27 (.done))))))))))))))))))))))))))))) 28 (by kernel_rfl) (by kernel_rfl) (grew_drew _) ?_
          repeat (any_goals (first | (go_big_quiet_skip; refine wpQuiet_nil ?_) | (go_big_quiet_want; go_big_quiet_op; go_big_quiet_on; refine wpQuiet_nil ?_) | ((with_reducible apply q_split); exact rfl; intro q hq; cases q <;> (rw [hq]; (try first | replace hq := bnot_t hq | replace hq := bnot_f hq); (try first | replace hq := of_decide_eq_true hq | replace hq := of_decide_eq_false hq | replace hq := eq_of_beq hq); (try first | replace hq := Int.not_lt.1 hq | replace hq := Int.not_le.1 hq | replace hq := Nat.not_lt.1 hq | replace hq := Nat.not_le.1 hq); try (exfalso; omega))) | (refine plan_q rfl rfl ?_)))
          clear y_p_0 y_p_1 y_p_2
          clear y_f_0 y_f_1 y_f_2
          all_goals refine plan_done ?_
          all_goals (try simp only [List.drop_succ_cons, List.drop_zero])
          all_goals (try go_wp2_with fail)
          all_goals refine NoPanic.normal ?_
          all_goals (try go_wp2_with fail)
          go_roundw
          case rel => exact ⟨m + 1, hmk, by rw [HNX2.out], by go_num, HBU.out.drew⟩
          case measure => simp [intOf] <;> omega
      · obtain rfl : m = k := by omega
        generalize ra m = g at *
        cases g with
        | false =>
          obtain rfl := HNK.out rfl
          obtain rfl := HP.out
          clear HNK HNX HNO HYE
          go_wp2_with fail
          all_goals try (exfalso; omega)
          go_ret2
          exact ⟨rfl, HB_u⟩
        | true =>
          have HN2 := Lib.hid (HNX.out rfl)
          clear HNK HNX
          go_wp2_with fail
          go_roundw
          case rel => exact ⟨m + 1, hlt, by go_num, HB_u, HN2⟩
          case measure => simp [intOf] <;> omega
set_option maxRecDepth 100000 in
set_option maxHeartbeats 16000000 in
theorem rdone_any (ao : Option Addr) (n cap : Nat) (l : List Sn) (x : Int) (w : World) (hs : Sl w 3 cS ao n cap l) (hl : l.length ≤ 100000) : Calls Try.prog 28 #[.slice ao n cap, .int .i64 x] w (IsE w (doneR l x)) := by
  obtain rfl := hs.len
  have hcap := hs.max
  have hle := hs.le
  unfold maxLen at hcap
  have HS := Lib.hid hs
  have HB_w : Below w.heap.size w w := Below.refl _ _
  obtain ⟨i0, hi, hz0, hz1, hz2⟩ := info_parts info_int
  have HI := Lib.hid hi
  have HZ0 := Lib.hid hz0
  have HZ1 := Lib.hid hz1
  have HZ2 := Lib.hid hz2
  have HE := Lib.hid (show doneR l x = if (decide (0 ≤ x) && riseB l) = true then (doneF l x, 0) else ([], 1) from rfl)
  have HRS := Lib.hid (fun k hk h => @rise_no l k hk h)
  have HALL := Lib.hid (fun h => @rise_at l h)
  generalize doneR l x = r at *
  generalize riseB l = rb at *
  clear hi hz0 hz1 hz2 hs
  go_enter Try.func28, Try.ntmps28
  by_cases hx : 0 ≤ x
  case neg =>
    have HP := Lib.hid (show r = ([], 1) by rw [HE.out, decide_eq_false hx]; rfl)
    replace hx := Int.not_le.1 hx
    go_wp2_with fail
    all_goals try (exfalso; omega)
    go_ret2
    exact ⟨.slice none 0 0, by rw [HP.out]; rfl, by rw [HP.out]; exact OwnL.nil, HB_w⟩
  rw [decide_eq_true hx, Bool.true_and] at HE
  go_wp2_with fail
  all_goals try (exfalso; omega)
  go_loopw [6] (fun i wr => ∃ k : Nat, k ≤ l.length ∧ i = .int .i64 k ∧ Below w.heap.size w wr ∧ Hid (∀ j (h : j < l.length), j < k → (0 ≤ l[j].slot ∧ l[j].slot < 400) ∧ (0 < j → l[j - 1].slot < l[j].slot))) (fun i _ => l.length - (intOf i).toNat)
  case atStart => exact ⟨0, Nat.zero_le _, rfl, HB_w, fun j _ h => absurd h (Nat.not_lt_zero _)⟩
  case round =>
    obtain ⟨k, hk, rfl, HB_wr, HN⟩ := hrel
    by_cases hlt : k < l.length
    · obtain ⟨b, off, rfl, hb, hrow⟩ := HS.out.get hlt
      obtain ⟨p_0, p_1, p_2⟩ := ((hrow k hlt).below HB_wr hb).c3
      have HROW := Lib.hid hrow
      have hkm : k - 1 < l.length := by omega
      have HRK := Lib.hid (HRS.out k hlt)
      have HNX := Lib.hid (show (0 ≤ l[k].slot ∧ l[k].slot < 400) → (0 < k → (l[k - 1]'hkm).slot < l[k].slot) → ∀ j (h : j < l.length), j < k + 1 → (0 ≤ l[j].slot ∧ l[j].slot < 400) ∧ (0 < j → l[j - 1].slot < l[j].slot) from fun h1 h2 j h hjk => by
        by_cases e : j = k
        · subst e; exact ⟨h1, h2⟩
        · exact HN.out j h (by omega))
      have HPV := Lib.hid (show ∀ j, k = j + 1 → ∃ h : j < l.length, (l[k - 1]'hkm).slot = l[j].slot from fun j e => by subst e; exact ⟨by omega, rfl⟩)
      clear hrow HN
      generalize (l[k - 1]'hkm).slot = pv at *
      have HCK := Lib.hid (fun W (hW : Below w.heap.size w W) => ((HROW.out k hlt).below hW hb).c3.1)
      generalize l[k].slot = s0 at *
      clear p_1 p_2
      go_wp2_with fail
      clear p_0
      cases hsl : slotB s0 with
      | false =>
        have HF := Lib.hid (HRK.out (.inl (by
          by_cases h : 0 ≤ s0 ∧ s0 < 400
          · rw [slotB_iff.2 h] at hsl; cases hsl
          · omega)))
        have HC := Lib.hid (rslot_any s0 wr)
        rw [hsl] at HC
        rw [HF.out] at HE
        have HP := Lib.hid (show r = ([], 1) from HE.out)
        clear hsl HRK HNX HPV HE HF
        refine (HC.out).mono ?_
        rintro e w2 ⟨rfl, hb_w2⟩
        have HB_w2 : Below w.heap.size w w2 := by first | exact after0 HB_wr hb_w2 | exact after1 HB_wr hb_w2 | exact after2 HB_wr hb_w2 | exact after3 HB_wr hb_w2 | exact after4 HB_wr hb_w2 | exact after5 HB_wr hb_w2
        go_wp2_with fail
        refine wp_region_plan (C := fun w' => ∃ p : Regrown, w' = grow (redrawn w2 p.d) p.os) (.q 0 (.q 1 (.q 2 (.q 3 (.q 4 (.q 5 (.q 6 (.q 7 (.q 8 (.q 9 (.q 10 (.q 11 (.q 12 (.q 13 (.q 14 (.q 15 (.q 16 (.q 17 (.q 18 (.q 19 (.done))))))))))))))))))))) 20 (by kernel_rfl) (by kernel_rfl) (grew_drew _) ?_
        repeat (any_goals (first | (go_big_quiet_skip; refine wpQuiet_nil ?_) | (go_big_quiet_want; go_big_quiet_op; go_big_quiet_on; refine wpQuiet_nil ?_) | ((with_reducible apply q_split); exact rfl; intro q hq; cases q <;> (rw [hq]; (try first | replace hq := bnot_t hq | replace hq := bnot_f hq); (try first | replace hq := of_decide_eq_true hq | replace hq := of_decide_eq_false hq | replace hq := eq_of_beq hq); (try first | replace hq := Int.not_lt.1 hq | replace hq := Int.not_le.1 hq | replace hq := Nat.not_lt.1 hq | replace hq := Nat.not_le.1 hq); try (exfalso; omega))) | (refine plan_q rfl rfl ?_)))
        all_goals refine plan_done ?_
        all_goals (try simp only [List.drop_succ_cons, List.drop_zero])
        all_goals (try go_wp2_with fail)
        all_goals refine NoPanic.normal ?_
        all_goals (try go_wp2_with fail)
        go_ret2
        exact ⟨.slice none 0 0, by rw [HP.out]; rfl, by rw [HP.out]; exact OwnL.nil, HB_w2.drew⟩
      | true =>
      have hsr := slotB_iff.1 hsl
      have HC := Lib.hid (rslot_any s0 wr)
      rw [hsl] at HC
      clear hsl
      refine (HC.out).mono ?_
      rintro e w2 ⟨rfl, hb_w2⟩
      have HB_w2 : Below w.heap.size w w2 := by first | exact after0 HB_wr hb_w2 | exact after1 HB_wr hb_w2 | exact after2 HB_wr hb_w2 | exact after3 HB_wr hb_w2 | exact after4 HB_wr hb_w2 | exact after5 HB_wr hb_w2
      clear HC
      have HX2 := Lib.hid (fun h => HNX.out hsr h)
      clear HNX
      rcases Nat.eq_zero_or_pos k with h0 | h0
      · subst h0
        have HX3 := Lib.hid (HX2.out (fun h => absurd h (Nat.lt_irrefl _)))
        clear HX2 HPV HRK
        go_wp2_with fail
        refine wp_region_plan (C := fun w' => ∃ p : Regrown, w' = grow (redrawn w2 p.d) p.os) (.q 0 (.q 1 (.q 2 (.q 3 (.q 4 (.q 5 (.q 6 (.q 7 (.q 8 (.q 9 (.q 10 (.q 11 (.q 12 (.q 13 (.q 14 (.q 15 (.q 16 (.q 17 (.q 18 (.q 19 (.done))))))))))))))))))))) 20 (by kernel_rfl) (by kernel_rfl) (grew_drew _) ?_
        repeat (any_goals (first | (go_big_quiet_skip; refine wpQuiet_nil ?_) | (go_big_quiet_want; go_big_quiet_op; go_big_quiet_on; refine wpQuiet_nil ?_) | ((with_reducible apply q_split); exact rfl; intro q hq; cases q <;> (rw [hq]; (try first | replace hq := bnot_t hq | replace hq := bnot_f hq); (try first | replace hq := of_decide_eq_true hq | replace hq := of_decide_eq_false hq | replace hq := eq_of_beq hq); (try first | replace hq := Int.not_lt.1 hq | replace hq := Int.not_le.1 hq | replace hq := Nat.not_lt.1 hq | replace hq := Nat.not_le.1 hq); try (exfalso; omega))) | (refine plan_q rfl rfl ?_)))
        all_goals refine plan_done ?_
        all_goals (try simp only [List.drop_succ_cons, List.drop_zero])
        all_goals (try go_wp2_with fail)
        all_goals refine NoPanic.normal ?_
        all_goals (try go_wp2_with fail)
        go_roundw
        case rel => exact ⟨1, hlt, by go_num, HB_w2.drew, HX3⟩
        case measure => simp [intOf] <;> omega
      · obtain ⟨j, rfl⟩ : ∃ j, k = j + 1 := ⟨k - 1, by omega⟩
        obtain ⟨hjl, hpv⟩ := HPV.out j rfl
        have hjj : ((j + 1 : Nat) : Int) = (j : Int) + 1 := by omega
        rw [hjj]
        have HJJ := Lib.hid hjj
        clear hjj HPV
        go_wp2_with fail
        have f_0 := ((HROW.out j hjl).below HB_w2 hb).c3.1
        rw [← hpv] at f_0
        have y_f := cell_regrown f_0
        have y_s := cell_regrown (HCK.out w2 HB_w2)
        clear f_0 hpv
        by_cases c5 : s0 ≤ pv
        · have HF := Lib.hid (HRK.out (.inr ⟨j, rfl, c5⟩))
          rw [HF.out] at HE
          have HP := Lib.hid (show r = ([], 1) from HE.out)
          clear HRK HX2 HE HF
          refine wp_region_plan (C := fun w' => ∃ p : Regrown, w' = grow (redrawn w2 p.d) p.os) (.q 0 (.q 1 (.q 2 (.q 3 (.q 4 (.q 5 (.q 6 (.q 7 (.q 8 (.q 9 (.q 10 (.q 11 (.q 12 (.q 13 (.q 14 (.q 15 (.q 16 (.q 17 (.q 18 (.q 19 (.done))))))))))))))))))))) 20 (by kernel_rfl) (by kernel_rfl) (grew_drew _) ?_
          repeat (any_goals (first | (go_big_quiet_skip; refine wpQuiet_nil ?_) | (go_big_quiet_want; go_big_quiet_op; go_big_quiet_on; refine wpQuiet_nil ?_) | ((with_reducible apply q_split); exact rfl; intro q hq; cases q <;> (rw [hq]; (try first | replace hq := bnot_t hq | replace hq := bnot_f hq); (try first | replace hq := of_decide_eq_true hq | replace hq := of_decide_eq_false hq | replace hq := eq_of_beq hq); (try first | replace hq := Int.not_lt.1 hq | replace hq := Int.not_le.1 hq | replace hq := Nat.not_lt.1 hq | replace hq := Nat.not_le.1 hq); try (exfalso; omega))) | (refine plan_q rfl rfl ?_)))
          all_goals refine plan_done ?_
          all_goals (try simp only [List.drop_succ_cons, List.drop_zero])
          all_goals (try go_wp2_with fail)
          all_goals refine NoPanic.normal ?_
          all_goals (try go_wp2_with fail)
          go_ret2
          exact ⟨.slice none 0 0, by rw [HP.out]; rfl, by rw [HP.out]; exact OwnL.nil, HB_w2.drew⟩
        · replace c5 := Int.not_le.1 c5
          have HX3 := Lib.hid (HX2.out (fun _ => c5))
          clear HRK HX2
          refine wp_region_plan (C := fun w' => ∃ p : Regrown, w' = grow (redrawn w2 p.d) p.os) (.q 0 (.q 1 (.q 2 (.q 3 (.q 4 (.q 5 (.q 6 (.q 7 (.q 8 (.q 9 (.q 10 (.q 11 (.q 12 (.q 13 (.q 14 (.q 15 (.q 16 (.q 17 (.q 18 (.q 19 (.done))))))))))))))))))))) 20 (by kernel_rfl) (by kernel_rfl) (grew_drew _) ?_
          repeat (any_goals (first | (go_big_quiet_skip; refine wpQuiet_nil ?_) | (go_big_quiet_want; go_big_quiet_op; go_big_quiet_on; refine wpQuiet_nil ?_) | ((with_reducible apply q_split); exact rfl; intro q hq; cases q <;> (rw [hq]; (try first | replace hq := bnot_t hq | replace hq := bnot_f hq); (try first | replace hq := of_decide_eq_true hq | replace hq := of_decide_eq_false hq | replace hq := eq_of_beq hq); (try first | replace hq := Int.not_lt.1 hq | replace hq := Int.not_le.1 hq | replace hq := Nat.not_lt.1 hq | replace hq := Nat.not_le.1 hq); try (exfalso; omega))) | (refine plan_q rfl rfl ?_)))
          all_goals refine plan_done ?_
          all_goals (try simp only [List.drop_succ_cons, List.drop_zero])
          all_goals (try go_wp2_with fail)
          all_goals refine NoPanic.normal ?_
          all_goals (try go_wp2_with fail)
          go_roundw
          case rel => exact ⟨j + 1 + 1, hlt, by go_num, HB_w2.drew, HX3⟩
          case measure => simp [intOf] <;> omega
    · obtain rfl : k = l.length := by omega
      have HF := Lib.hid (HALL.out (fun j h => HN.out j h (by omega)))
      rw [HF.out] at HE
      have HP := Lib.hid (show r = (doneF l x, 0) from HE.out)
      have HYE := Lib.hid (fun k h e => @doneF_yes l x k h e)
      have HNO := Lib.hid (fun k h e => @doneF_no l x k h e)
      have HLE := Lib.hid (doneF_len l x)
      clear HN HF HE HRS HALL hk hlt
      go_wp2_with fail
      go_loopw [8, 9] (fun o i wr => ∃ k : Nat, k ≤ l.length ∧ i = .int .i64 k ∧ Below w.heap.size w wr ∧ Hid (OwnL wr w.heap.size 3 1 cI o (doneF (l.take k) x))) (fun _ i _ => l.length - (intOf i).toNat)
      case atStart => exact ⟨0, Nat.zero_le _, rfl, HB_wr, OwnL.nil⟩
      case round =>
        clear HB_wr
        obtain ⟨k, hk, rfl, HB_wr, HO⟩ := hrel
        have hyl := HLE.out k
        by_cases hlt : k < l.length
        · obtain ⟨b, off, rfl, hb, hrow⟩ := HS.out.get hlt
          obtain ⟨e_0, e_1, e_2⟩ := ((hrow k hlt).below HB_wr hb).c3
          have HY1 := Lib.hid (HYE.out k hlt)
          have HN1 := Lib.hid (HNO.out k hlt)
          clear hrow
          generalize l[k] = y at *
          generalize doneF (l.take k) x = us at *
          obtain ⟨y0, y1, y2⟩ := y
          dsimp only at e_0 e_1 e_2 HY1 HN1
          by_cases hyx : y1 = x
          · have HNX := Lib.hid (HY1.out hyx)
            have hb : (y1 == x) = true := by simpa using hyx
            clear HN1 HY1 hyx
            have HOX := Lib.hid (HO.out.alloc (.cells #[.int .i64 y0] 3))
            have HSX : Hid (Sl (wr.alloc (.cells #[.int .i64 y0] 3)) 1 cI (some ⟨wr.heap.size, 0, none⟩) 1 1 [y0]) := Sl.one (x := y0) cI_len (Box.new wr (cI y0) 3)
            have hsz : w.heap.size ≤ (wr.alloc (.cells #[.int .i64 y0] 3)).heap.size := by have := HB_wr.size; simp; omega
            go_wp2_with (at_builtin; refine wpList_append_sl rfl _ _ 30 rfl w.heap.size 3 i0 _ 1 8 Try.underlying30 HI.out HZ0.out HZ1.out HZ2.out rfl (by decide) cI_len cI_one _ us rfl HOX.out (some ⟨wr.heap.size, 0, none⟩) 1 1 [y0] rfl HSX.out (by unfold maxLen; omega) (by omega) hsz ?_)
            rintro v' w6 ho6 hg6 hgr6
            have HB_6 : Below w.heap.size w w6 := (grew1 HB_wr).trans (hg6 _ (Nat.le_refl _))
            have HO6 := Lib.hid ho6
            clear hg6 hgr6 ho6 HOX HSX hsz HO
            go_wp2_with fail
            go_roundw
            case rel => exact ⟨k + 1, hlt, by go_num, HB_6, by rw [HNX.out]; exact HO6.out⟩
            case measure => simp [intOf] <;> omega
          · have HNX := Lib.hid (HN1.out hyx)
            have hb : (y1 == x) = false := by simpa using hyx
            clear HN1 HY1 hyx
            go_wp2_with fail
            all_goals try (exfalso; omega)
            go_roundw
            case rel => exact ⟨k + 1, hlt, by go_num, HB_wr, by rw [HNX.out]; exact HO.out⟩
            case measure => simp [intOf] <;> omega
        · obtain rfl : k = l.length := by omega
          rw [List.take_length] at HO
          go_wp2_with fail
          all_goals try (exfalso; omega)
          go_ret2
          exact ⟨_, by rw [HP.out]; rfl, by rw [HP.out]; exact HO.out, HB_wr⟩
end Go.Proofs.Ytheioedggjbphaa

set_option linter.unusedVariables false
namespace Go.Proofs.Ytheioedggjbphaa
open Go Go.RowKit Sc Sk Go.Sort
set_option maxRecDepth 100000 in
set_option maxHeartbeats 16000000 in
theorem rcore_any (jo : Option Addr) (n cap : Nat) (J : List Jb) (f : Int) (w : World) (hj : Sl w 4 cJ jo n cap J) :
    Calls Try.prog 24 #[.slice jo n cap, .int .i64 f] w (CoreE w J f) := by
  obtain rfl := hj.len
  have hcap := hj.max
  have hle := hj.le
  unfold maxLen at hcap
  have HJ := Lib.hid hj
  obtain ⟨W0, hW0, HB_W0, hZ, hr⟩ := boxes1 w [.int .i64 0, .int .i64 0] 37
  obtain ⟨R, hR⟩ : ∃ R, w.heap.size = R := ⟨_, rfl⟩
  have hwR : w.heap.size ≤ R := Nat.le_of_eq hR
  rw [hR] at hr
  have H_r0 := Lib.hid hr
  have HVA := Lib.hid (rvalid_any jo J.length cap J W0 (hj.below HB_W0))
  clear hr hZ hj
  go_enter Try.func24, Try.ntmps24
  go_wp2_with fail
  clear hR
  refine (HVA.out).mono ?_
  rintro e wa ⟨rfl, hb_wa⟩
  have HB_wa : Below w.heap.size w wa := by first | exact after0 HB_W0 hb_wa | exact after1 HB_W0 hb_wa | exact after2 HB_W0 hb_wa | exact after3 HB_W0 hb_wa | exact after4 HB_W0 hb_wa | exact after5 HB_W0 hb_wa
  clear hW0
  go_wp2_with fail
  refine (rslot_any f _).mono ?_
  rintro e wb ⟨rfl, hb_wb⟩
  have HB_wb : Below w.heap.size w wb := by first | exact after0 HB_wa hb_wb | exact after1 HB_wa hb_wb | exact after2 HB_wa hb_wb | exact after3 HB_wa hb_wb | exact after4 HB_wa hb_wb | exact after5 HB_wa hb_wb
  have H_r := Lib.hid ((H_r0.out.below hb_wa).below hb_wb)
  clear H_r0 hb_wa hb_wb HVA
  cases h1 : validJ J with
  | false =>
    have HSP := Lib.hid (show CoreSp J f 0 0 1 by unfold CoreSp; rw [if_neg (by simp [h1])]; exact ⟨rfl, rfl, rfl⟩)
    clear h1
    generalize slotB f = q at *
    cases q
    ·
      obtain ⟨r0, r1⟩ := H_r.out.c2
      have fr := H_r.out.frozen
      go_wp2_with fail
      all_goals try (exfalso; omega)
      obtain ⟨s0, s1⟩ := ((H_r.out.set 0 (.int .i64 0)).set 1 (.int .i64 0)).c2
      refine bodyPost_ret (v := .tuple #[.agg #[.int .i64 0, .int .i64 0], .int .i64 1]) (by simp [results, Try.results24, go_sem, s0, s1]) rfl ?_
      exact ⟨0, 0, 1, rfl, HSP.out, ((HB_wb).setCell (p := ⟨R, 0, none⟩) hwR _).setCell (p := ⟨R, 1, none⟩) hwR _⟩
    ·
      obtain ⟨r0, r1⟩ := H_r.out.c2
      have fr := H_r.out.frozen
      go_wp2_with fail
      all_goals try (exfalso; omega)
      obtain ⟨s0, s1⟩ := ((H_r.out.set 0 (.int .i64 0)).set 1 (.int .i64 0)).c2
      refine bodyPost_ret (v := .tuple #[.agg #[.int .i64 0, .int .i64 0], .int .i64 1]) (by simp [results, Try.results24, go_sem, s0, s1]) rfl ?_
      exact ⟨0, 0, 1, rfl, HSP.out, ((HB_wb).setCell (p := ⟨R, 0, none⟩) hwR _).setCell (p := ⟨R, 1, none⟩) hwR _⟩
  | true =>
  cases h2 : slotB f with
  | false =>
    have HSP := Lib.hid (show CoreSp J f 0 0 1 by unfold CoreSp; rw [if_neg (by simp [h2])]; exact ⟨rfl, rfl, rfl⟩)
    clear h1 h2
    obtain ⟨r0, r1⟩ := H_r.out.c2
    have fr := H_r.out.frozen
    go_wp2_with fail
    all_goals try (exfalso; omega)
    obtain ⟨s0, s1⟩ := ((H_r.out.set 0 (.int .i64 0)).set 1 (.int .i64 0)).c2
    refine bodyPost_ret (v := .tuple #[.agg #[.int .i64 0, .int .i64 0], .int .i64 1]) (by simp [results, Try.results24, go_sem, s0, s1]) rfl ?_
    exact ⟨0, 0, 1, rfl, HSP.out, ((HB_wb).setCell (p := ⟨R, 0, none⟩) hwR _).setCell (p := ⟨R, 1, none⟩) hwR _⟩
  | true =>
  obtain ⟨hf0, hf4⟩ := slotB_iff.1 h2
  have HV := Lib.hid (validJ_iff.1 h1).2
  have hl100 := (validJ_iff.1 h1).1
  have HDU := Lib.hid (fun k hk h => @core_due J f h1 h2 k hk h)
  have HREF := Lib.hid (fun lo hi hd h => @core_ref J f lo hi h1 h2 hd h)
  clear h1 h2
  go_wp2_with fail
  go_loopw [8] (fun i wr => ∃ k : Nat, k ≤ J.length ∧ i = .int .i64 k ∧ Below w.heap.size w wr ∧ Hid (Box wr R 37 [.int .i64 0, .int .i64 0]) ∧ Hid (∀ j (h : j < J.length), j < k → f ≤ J[j].due)) (fun i _ => J.length - (intOf i).toNat)
  case atStart => exact ⟨0, Nat.zero_le _, rfl, HB_wb, H_r, fun j _ h => absurd h (Nat.not_lt_zero _)⟩
  case round =>
    clear H_r HB_wb
    obtain ⟨k, hk, rfl, HB_wr, H_r, HN⟩ := hrel
    by_cases hlt : k < J.length
    · obtain ⟨bj, offj, rfl, hbj, hrow⟩ := (HJ.out.below HB_wr).get hlt
      obtain ⟨e_0, e_1, e_2, e_3⟩ := (hrow k hlt).c4
      have HDK := Lib.hid (HDU.out k hlt)
      rw [jat_get hlt] at HDK
      have HNX := Lib.hid (show f ≤ J[k].due → ∀ j (h : j < J.length), j < k + 1 → f ≤ J[j].due from fun h0 j h hj => by
        by_cases e : j = k
        · subst e; exact h0
        · exact HN.out j h (by omega))
      clear hrow HN
      generalize J[k] = y at *
      obtain ⟨y0, y1, y2, y3⟩ := y
      dsimp only at e_0 e_1 e_2 e_3 HDK HNX
      by_cases hd : y1 < f
      · have HSP := Lib.hid (HDK.out hd)
        clear HDK HNX HDU HREF
        obtain ⟨r0, r1⟩ := H_r.out.c2
        have fr := H_r.out.frozen
        go_wp2_with fail
        all_goals try (exfalso; omega)
        obtain ⟨s0, s1⟩ := ((H_r.out.set 0 (.int .i64 0)).set 1 (.int .i64 0)).c2
        refine bodyPost_ret (v := .tuple #[.agg #[.int .i64 0, .int .i64 0], .int .i64 6]) (by simp [results, Try.results24, go_sem, s0, s1]) rfl ?_
        exact ⟨0, 0, 6, rfl, HSP.out, ((HB_wr).setCell (p := ⟨R, 0, none⟩) hwR _).setCell (p := ⟨R, 1, none⟩) hwR _⟩
      · replace hd := Int.not_lt.1 hd
        have HN2 := Lib.hid (HNX.out hd)
        clear HDK HNX
        go_wp2_with fail
        all_goals try (exfalso; omega)
        go_roundw
        case rel => exact ⟨k + 1, hlt, by go_num, HB_wr, H_r, HN2⟩
        case measure => simp [intOf] <;> omega
    · obtain rfl : k = J.length := by omega
      have HDA := Lib.hid (show ∀ j ∈ J, f ≤ j.due from fun j hj => by
        obtain ⟨i, hi, rfl⟩ := List.mem_iff_getElem.1 hj
        exact HN.out i hi hi)
      have HRF := Lib.hid (fun lo hi h => HREF.out lo hi HDA.out h)
      clear HN HREF HDU
      obtain ⟨B, hB⟩ : ∃ B, wr.heap.size = B := ⟨_, rfl⟩
      obtain ⟨W1, hW1, hB1, hZ1, hb1⟩ := boxes1 wr [.int .i64 (-1), .int .i64 400] 37
      rw [hB] at hb1
      have H_b := Lib.hid hb1
      have HB_W1 : Below w.heap.size w W1 := after0 HB_wr hB1
      have hRB : R ≠ B := by have := H_r.out.lt; omega
      have hwB : w.heap.size ≤ B := by rw [← hB]; exact HB_wr.size
      replace H_r := Lib.hid (H_r.out.below hB1)
      clear hb1 hB1 hZ1
      go_wp2_with fail
      clear hW1 hB
      go_loopw [10] (fun i wr => ∃ (i' : Nat) (lo hi : Int), i' ≤ J.length ∧ i = .int .i64 i' ∧ Below w.heap.size w wr ∧ Hid (Box wr R 37 [.int .i64 0, .int .i64 0]) ∧ Hid (Box wr B 37 [.int .i64 lo, .int .i64 hi]) ∧ Hid (BestI J f i' 0 lo hi)) (fun i _ => J.length - (intOf i).toNat)
      case atStart => exact ⟨0, -1, 400, Nat.zero_le _, rfl, HB_W1, H_r, H_b, best_start J f⟩
      case round =>
        clear H_r H_b HB_W1 HB_wr
        obtain ⟨i, lo, hi, hi2, rfl, HB_wr, H_r, H_b, HBI⟩ := hrel
        by_cases hil : i < J.length
        · go_wp2_with fail
          go_loopw [11] (fun k wr => ∃ (k' : Nat) (lo hi : Int), k' ≤ J.length ∧ k = .int .i64 k' ∧ Below w.heap.size w wr ∧ Hid (Box wr R 37 [.int .i64 0, .int .i64 0]) ∧ Hid (Box wr B 37 [.int .i64 lo, .int .i64 hi]) ∧ Hid (BestI J f i k' lo hi)) (fun k _ => J.length - (intOf k).toNat)
          case atStart => exact ⟨0, lo, hi, Nat.zero_le _, rfl, HB_wr, H_r, H_b, HBI⟩
          case round =>
            clear H_r H_b HB_wr HBI
            obtain ⟨k, lo, hi, hk2, rfl, HB_wr, H_r, H_b, HBI⟩ := hrel
            by_cases hkl : k < J.length
            · obtain ⟨bj, offj, rfl, hbj, hrow⟩ := (HJ.out.below HB_wr).get hil
              obtain ⟨e_0, e_1, e_2, e_3⟩ := (hrow i hil).c4
              obtain ⟨f_0, f_1, f_2, f_3⟩ := (hrow k hkl).c4
              have hx4 := (jobB_iff.1 (HV.out _ (List.getElem_mem hil))).1
              have hy1 := (jobB_iff.1 (HV.out _ (List.getElem_mem hkl))).2.2.1
              have hx0 := (jobB_iff.1 (HV.out _ (List.getElem_mem hil))).2.2.1
              have hx1 := (jobB_iff.1 (HV.out _ (List.getElem_mem hil))).2.1
              clear hrow
              have HKP := Lib.hid (@best_keep J f i k lo hi HBI.out)
              have HTK := Lib.hid (@best_take J f i k lo hi HBI.out)
              rw [jat_get hil, jat_get hkl] at HKP HTK
              have hlo : -1 ≤ lo := by rcases HBI.out with ⟨h, _⟩ | ⟨h, _⟩ <;> omega
              clear HBI
              generalize J[i] = x at *
              generalize J[k] = y at *
              obtain ⟨x0, x1, x2, x3⟩ := x
              obtain ⟨y0, y1, y2, y3⟩ := y
              dsimp only at e_0 e_1 e_2 e_3 f_0 f_1 f_2 f_3 HKP HTK hx0 hx1 hy1 hx4
              rcases Int.lt_or_le x0 f with hmx | hmx
              · have hmv : max x0 f = f := by omega
                rw [hmv] at HKP HTK
                clear hmv
                by_cases c1 : f ≤ y1
                case neg =>
                  have HBN := Lib.hid (HKP.out (fun h => c1 h.1) hy1)
                  replace c1 := Int.not_le.1 c1
                  clear HKP HTK
                  go_wp2_with fail
                  all_goals try (exfalso; omega)
                  go_roundw
                  case rel => exact ⟨k + 1, lo, hi, hkl, by go_num, HB_wr, by first | exact H_r | exact Lib.hid (H_r.out.below hb_wr), by first | exact H_b | exact Lib.hid (H_b.out.below hb_wr), HBN⟩
                  case measure => simp [intOf] <;> omega
                have HLD := Lib.hid (rload_any _ J.length cap J f f y1 wr (HJ.out.below HB_wr) HV.out hl100)
                have hlb := load_bound (f := f) (a := f) (b := y1) (l := J) HV.out
                have HOV := Lib.hid (show over J f f y1 ↔ y1 - f + 1 < loadP f f y1 J from Iff.rfl)
                generalize loadP f f y1 J = ld at *
                go_wp2_with fail
                all_goals try (exfalso; omega)
                refine (HLD.out).mono ?_
                rintro e wa ⟨rfl, hb_wa⟩
                have HB_wa : Below w.heap.size w wa := by first | exact after0 HB_wr hb_wa | exact after1 HB_wr hb_wa | exact after2 HB_wr hb_wa | exact after3 HB_wr hb_wa | exact after4 HB_wr hb_wa | exact after5 HB_wr hb_wa
                clear HLD e_0 e_1 e_2 e_3 f_0 f_1 f_2 f_3
                obtain ⟨b_0, b_1⟩ := (H_b.out.below hb_wa).c2
                by_cases c2 : y1 - f + 1 < ld
                case neg =>
                  have HBN := Lib.hid (HKP.out (fun h => c2 (HOV.out.1 h.2.1)) hy1)
                  replace c2 := Int.not_lt.1 c2
                  clear HKP HTK HOV
                  go_wp2_with fail
                  all_goals try (exfalso; omega)
                  go_roundw
                  case rel => exact ⟨k + 1, lo, hi, hkl, by go_num, HB_wa, by first | exact H_r | exact Lib.hid (H_r.out.below hb_wa), by first | exact H_b | exact Lib.hid (H_b.out.below hb_wa), HBN⟩
                  case measure => simp [intOf] <;> omega
                have HO := HOV.out.2 c2
                rcases Int.lt_trichotomy y1 hi with c3 | c3 | c3
                · have HBN := Lib.hid (HTK.out c1 HO (.inl c3) hx4 hy1)
                  clear HKP HTK HOV HO
                  obtain ⟨W2, hW2, hB2, hX2, hO2⟩ := store2 wa B (.int .i64 f) (.int .i64 y1)
                  have hf := (H_b.out.below hb_wa).frozen
                  have H_b2 := Lib.hid (hX2 _ _ _ (H_b.out.below hb_wa))
                  have H_r2 := Lib.hid (hO2 _ _ _ hRB (H_r.out.below hb_wa))
                  have HB_W2 : Below w.heap.size w W2 := HB_wa.trans (hB2 _ hwB)
                  clear hB2 hX2 hO2
                  go_wp2_with fail
                  all_goals try (exfalso; omega)
                  go_roundw
                  case rel => exact ⟨k + 1, _, _, hkl, by go_num, HB_W2, H_r2, H_b2, HBN⟩
                  case measure => simp [intOf] <;> omega
                · subst c3
                  by_cases c4 : lo < f
                  · have HBN := Lib.hid (HTK.out c1 HO (.inr ⟨rfl, c4⟩) hx4 hy1)
                    clear HKP HTK HOV HO
                    obtain ⟨W2, hW2, hB2, hX2, hO2⟩ := store2 wa B (.int .i64 f) (.int .i64 y1)
                    have hf := (H_b.out.below hb_wa).frozen
                    have H_b2 := Lib.hid (hX2 _ _ _ (H_b.out.below hb_wa))
                    have H_r2 := Lib.hid (hO2 _ _ _ hRB (H_r.out.below hb_wa))
                    have HB_W2 : Below w.heap.size w W2 := HB_wa.trans (hB2 _ hwB)
                    clear hB2 hX2 hO2
                    go_wp2_with fail
                    all_goals try (exfalso; omega)
                    go_roundw
                    case rel => exact ⟨k + 1, _, _, hkl, by go_num, HB_W2, H_r2, H_b2, HBN⟩
                    case measure => simp [intOf] <;> omega
                  · have HBN := Lib.hid (HKP.out (fun h => by have := h.2.2; omega) hy1)
                    replace c4 := Int.not_lt.1 c4
                    clear HKP HTK HOV HO
                    go_wp2_with fail
                    go_roundw
                    case rel => exact ⟨k + 1, lo, y1, hkl, by go_num, HB_wa, Lib.hid (H_r.out.below hb_wa), Lib.hid (H_b.out.below hb_wa), HBN⟩
                    case measure => simp [intOf] <;> omega
                · have HBN := Lib.hid (HKP.out (fun h => by have := h.2.2; omega) hy1)
                  have c3b : (y1 == hi) = false := beq_eq_false_iff_ne.2 (by omega)
                  clear HKP HTK HOV HO
                  go_wp2_with fail
                  all_goals try (exfalso; omega)
                  go_roundw
                  case rel => exact ⟨k + 1, lo, hi, hkl, by go_num, HB_wa, by first | exact H_r | exact Lib.hid (H_r.out.below hb_wa), by first | exact H_b | exact Lib.hid (H_b.out.below hb_wa), HBN⟩
                  case measure => simp [intOf] <;> omega
              · have hmv : max x0 f = x0 := by omega
                rw [hmv] at HKP HTK
                clear hmv
                by_cases c1 : x0 ≤ y1
                case neg =>
                  have HBN := Lib.hid (HKP.out (fun h => c1 h.1) hy1)
                  replace c1 := Int.not_le.1 c1
                  clear HKP HTK
                  go_wp2_with fail
                  all_goals try (exfalso; omega)
                  go_roundw
                  case rel => exact ⟨k + 1, lo, hi, hkl, by go_num, HB_wr, by first | exact H_r | exact Lib.hid (H_r.out.below hb_wr), by first | exact H_b | exact Lib.hid (H_b.out.below hb_wr), HBN⟩
                  case measure => simp [intOf] <;> omega
                have HLD := Lib.hid (rload_any _ J.length cap J f x0 y1 wr (HJ.out.below HB_wr) HV.out hl100)
                have hlb := load_bound (f := f) (a := x0) (b := y1) (l := J) HV.out
                have HOV := Lib.hid (show over J f x0 y1 ↔ y1 - x0 + 1 < loadP f x0 y1 J from Iff.rfl)
                generalize loadP f x0 y1 J = ld at *
                go_wp2_with fail
                all_goals try (exfalso; omega)
                refine (HLD.out).mono ?_
                rintro e wa ⟨rfl, hb_wa⟩
                have HB_wa : Below w.heap.size w wa := by first | exact after0 HB_wr hb_wa | exact after1 HB_wr hb_wa | exact after2 HB_wr hb_wa | exact after3 HB_wr hb_wa | exact after4 HB_wr hb_wa | exact after5 HB_wr hb_wa
                clear HLD e_0 e_1 e_2 e_3 f_0 f_1 f_2 f_3
                obtain ⟨b_0, b_1⟩ := (H_b.out.below hb_wa).c2
                by_cases c2 : y1 - x0 + 1 < ld
                case neg =>
                  have HBN := Lib.hid (HKP.out (fun h => c2 (HOV.out.1 h.2.1)) hy1)
                  replace c2 := Int.not_lt.1 c2
                  clear HKP HTK HOV
                  go_wp2_with fail
                  all_goals try (exfalso; omega)
                  go_roundw
                  case rel => exact ⟨k + 1, lo, hi, hkl, by go_num, HB_wa, by first | exact H_r | exact Lib.hid (H_r.out.below hb_wa), by first | exact H_b | exact Lib.hid (H_b.out.below hb_wa), HBN⟩
                  case measure => simp [intOf] <;> omega
                have HO := HOV.out.2 c2
                rcases Int.lt_trichotomy y1 hi with c3 | c3 | c3
                · have HBN := Lib.hid (HTK.out c1 HO (.inl c3) hx4 hy1)
                  clear HKP HTK HOV HO
                  obtain ⟨W2, hW2, hB2, hX2, hO2⟩ := store2 wa B (.int .i64 x0) (.int .i64 y1)
                  have hf := (H_b.out.below hb_wa).frozen
                  have H_b2 := Lib.hid (hX2 _ _ _ (H_b.out.below hb_wa))
                  have H_r2 := Lib.hid (hO2 _ _ _ hRB (H_r.out.below hb_wa))
                  have HB_W2 : Below w.heap.size w W2 := HB_wa.trans (hB2 _ hwB)
                  clear hB2 hX2 hO2
                  go_wp2_with fail
                  all_goals try (exfalso; omega)
                  go_roundw
                  case rel => exact ⟨k + 1, _, _, hkl, by go_num, HB_W2, H_r2, H_b2, HBN⟩
                  case measure => simp [intOf] <;> omega
                · subst c3
                  by_cases c4 : lo < x0
                  · have HBN := Lib.hid (HTK.out c1 HO (.inr ⟨rfl, c4⟩) hx4 hy1)
                    clear HKP HTK HOV HO
                    obtain ⟨W2, hW2, hB2, hX2, hO2⟩ := store2 wa B (.int .i64 x0) (.int .i64 y1)
                    have hf := (H_b.out.below hb_wa).frozen
                    have H_b2 := Lib.hid (hX2 _ _ _ (H_b.out.below hb_wa))
                    have H_r2 := Lib.hid (hO2 _ _ _ hRB (H_r.out.below hb_wa))
                    have HB_W2 : Below w.heap.size w W2 := HB_wa.trans (hB2 _ hwB)
                    clear hB2 hX2 hO2
                    go_wp2_with fail
                    all_goals try (exfalso; omega)
                    go_roundw
                    case rel => exact ⟨k + 1, _, _, hkl, by go_num, HB_W2, H_r2, H_b2, HBN⟩
                    case measure => simp [intOf] <;> omega
                  · have HBN := Lib.hid (HKP.out (fun h => by have := h.2.2; omega) hy1)
                    replace c4 := Int.not_lt.1 c4
                    clear HKP HTK HOV HO
                    go_wp2_with fail
                    go_roundw
                    case rel => exact ⟨k + 1, lo, y1, hkl, by go_num, HB_wa, Lib.hid (H_r.out.below hb_wa), Lib.hid (H_b.out.below hb_wa), HBN⟩
                    case measure => simp [intOf] <;> omega
                · have HBN := Lib.hid (HKP.out (fun h => by have := h.2.2; omega) hy1)
                  have c3b : (y1 == hi) = false := beq_eq_false_iff_ne.2 (by omega)
                  clear HKP HTK HOV HO
                  go_wp2_with fail
                  all_goals try (exfalso; omega)
                  go_roundw
                  case rel => exact ⟨k + 1, lo, hi, hkl, by go_num, HB_wa, by first | exact H_r | exact Lib.hid (H_r.out.below hb_wa), by first | exact H_b | exact Lib.hid (H_b.out.below hb_wa), HBN⟩
                  case measure => simp [intOf] <;> omega
            · obtain rfl : k = J.length := by omega
              have HBN := Lib.hid (best_row HBI.out)
              clear HBI
              go_wp2_with fail
              go_roundw
              case rel => exact ⟨i + 1, lo, hi, hil, by go_num, HB_wr, H_r, H_b, HBN⟩
              case measure => simp [intOf] <;> omega
        · obtain rfl : i = J.length := by omega
          obtain ⟨b_0, b_1⟩ := H_b.out.c2
          rcases HRF.out lo hi HBI.out with ⟨c, hsp⟩ | ⟨c, hsp⟩
          · have HSP := Lib.hid hsp
            clear HBI HRF hsp
            obtain ⟨r0, r1⟩ := H_r.out.c2
            have fr := H_r.out.frozen
            go_wp2_with fail
            all_goals try (exfalso; omega)
            obtain ⟨s0, s1⟩ := ((H_r.out.set 0 (.int .i64 0)).set 1 (.int .i64 0)).c2
            refine bodyPost_ret (v := .tuple #[.agg #[.int .i64 0, .int .i64 0], .int .i64 4]) (by simp [results, Try.results24, go_sem, s0, s1]) rfl ?_
            exact ⟨0, 0, 4, rfl, HSP.out, ((HB_wr).setCell (p := ⟨R, 0, none⟩) hwR _).setCell (p := ⟨R, 1, none⟩) hwR _⟩
          · have HSP := Lib.hid hsp
            clear HBI HRF hsp
            obtain ⟨r0, r1⟩ := H_r.out.c2
            have fr := H_r.out.frozen
            go_wp2_with fail
            all_goals try (exfalso; omega)
            obtain ⟨s0, s1⟩ := ((H_r.out.set 0 (.int .i64 lo)).set 1 (.int .i64 hi)).c2
            refine bodyPost_ret (v := .tuple #[.agg #[.int .i64 lo, .int .i64 hi], .int .i64 0]) (by simp [results, Try.results24, go_sem, s0, s1]) rfl ?_
            exact ⟨lo, hi, 0, rfl, HSP.out, (HB_wr.setCell (p := ⟨R, 0, none⟩) hwR _).setCell (p := ⟨R, 1, none⟩) hwR _⟩
end Go.Proofs.Ytheioedggjbphaa

set_option linter.unusedVariables false
namespace Sc
theorem fits_len {J : List Jb} {f : Int} {q : List Nat} : fits J f q = ((lateF (pickJ J q) (planF (pickJ J q) f)).length == 0) := by
  unfold fits
  cases lateF (pickJ J q) (planF (pickJ J q) f) <;> rfl
theorem adm_len {J : List Jb} {f : Int} {d i : Nat} (hi : i ≤ J.length) : (admF J f (askI J d i)).length ≤ J.length :=
  nodup_len _ _ ((admF_rise (askI_nodup J d i)).imp (fun h => Nat.ne_of_lt h)) (fun x hx => askI_lt hi x (admF_mem x hx))
end Sc
namespace Go.Proofs.Ytheioedggjbphaa
open Go Go.RowKit Sc Sk Go.Sort
theorem RPlan_k {ao : Option Addr} {n cap : Nat} {J : List Jb} {f : Int} (w : World) (hs : Sl w 4 cJ ao n cap J) (hv : validJ J = true) (hf : slotB f = true) :
    Calls Try.prog 16 #[.slice ao n cap, .int .i64 f] w (SnsK w (planF J f) 0) := (rplan_any ao n cap J f w hs).mono fun _ _ h => by
  have := h.K
  unfold planR at this
  rwa [hv, hf] at this
theorem RLate_k {jo : Option Addr} {n cap : Nat} {J : List Jb} {ao : Option Addr} {m capa : Nat} {l : List Sn} (w : World) (hj : Sl w 4 cJ jo n cap J) (hs : Sl w 3 cS ao m capa l) (h1 : validJ J = true) (h2 : namesB J l = true) :
    Calls Try.prog 19 #[.slice jo n cap, .slice ao m capa] w (IntsK w (lateF J l) 0) := (rlate_any jo n cap J ao m capa l w hj hs).mono fun _ _ h => by have := h.K; rwa [lateR_ok h1 h2] at this
set_option maxRecDepth 100000 in
set_option maxHeartbeats 4000000 in
theorem rinall_any (ao : Option Addr) (n cap : Nat) (J : List Jb) (q : List Nat) (f : Int) (w : World) (hs : Sl w 4 cJ ao n cap (pickJ J q)) (hv : validJ (pickJ J q) = true) (hf : slotB f = true) :
    Calls Try.prog 50 #[.slice ao n cap, .int .i64 f] w (Ret w (.bool (fits J f q))) := by
  rw [fits_len]
  have HS := Lib.hid hs
  have HV := Lib.hid hv
  have HF := Lib.hid hf
  clear hs hv hf
  generalize pickJ J q = L at *
  have HB_w : Below w.heap.size w w := Below.refl _ _
  go_enter Try.func50, Try.ntmps50
  go_wp2_with fail
  refine (RPlan_k _ HS.out HV.out HF.out).mono ?_
  rintro e wa ⟨o1, n1, c1, rfl, hl, hb_wa⟩
  have HB_wa : Below w.heap.size w wa := by first | exact after0 HB_w hb_wa | exact after1 HB_w hb_wa | exact after2 HB_w hb_wa | exact after3 HB_w hb_wa | exact after4 HB_w hb_wa | exact after5 HB_w hb_wa
  have HL := Lib.hid hl
  clear hl
  go_wp2_with fail
  refine (RLate_k _ (HS.out.below HB_wa) HL.out HV.out (plan_names (slotB_iff.1 HF.out).1)).mono ?_
  rintro e wb ⟨o2, n2, c2, rfl, hl, hb_wb⟩
  have HB_wb : Below w.heap.size w wb := by first | exact after0 HB_wa hb_wb | exact after1 HB_wa hb_wb | exact after2 HB_wa hb_wb | exact after3 HB_wa hb_wb | exact after4 HB_wa hb_wb | exact after5 HB_wa hb_wb
  obtain rfl := hl.len
  clear hl
  generalize (lateF L (planF L f)).length = ll at *
  go_wp2_with fail
  go_ret
  exact ⟨ret_bool (by cases ll <;> simp <;> omega), HB_wb⟩
/-- what Admit of the reference returns -/
def AdmK (w : World) (l : List Nat) (x : Int) (e : Ending) (w' : World) : Prop := ∃ ao n cap, e = .returned (.tuple #[.slice ao n cap, .int .i64 x]) ∧ Sl w' 1 cN ao n cap l ∧ Below w.heap.size w w'
set_option maxRecDepth 100000 in
set_option maxHeartbeats 16000000 in
theorem radmit_any (jo : Option Addr) (n cap : Nat) (J : List Jb) (f : Int) (w : World) (hj : Sl w 4 cJ jo n cap J) (hl : J.length ≤ 12) :
    Calls Try.prog 26 #[.slice jo n cap, .int .i64 f] w (fun e w' => ∃ L er, AdmSp J f (L.map Int.ofNat) er ∧ AdmK w L er e w') := by
  obtain rfl := hj.len
  have hcap := hj.max
  have hle := hj.le
  unfold maxLen at hcap
  have HJ := Lib.hid hj
  have HB_w : Below w.heap.size w w := Below.refl _ _
  have HVA := Lib.hid (rvalid_any jo J.length cap J w hj)
  obtain ⟨on, cn, hnil, hnn⟩ := (OwnL.nil (w := w) (base := w.heap.size) (e := 3) (size := 1) (enc := cN)).sl cN_len
  have HNIL := Lib.hid hnn
  simp only [List.length_nil, Value.slice.injEq] at hnil
  obtain ⟨rfl, -, rfl⟩ := hnil
  clear hnn hj
  go_enter Try.func26, Try.ntmps26
  go_wp2_with fail
  refine (HVA.out).mono ?_
  rintro e wa ⟨rfl, hb_wa⟩
  have HB_wa : Below w.heap.size w wa := by first | exact after0 HB_w hb_wa | exact after1 HB_w hb_wa | exact after2 HB_w hb_wa | exact after3 HB_w hb_wa | exact after4 HB_w hb_wa | exact after5 HB_w hb_wa
  go_wp2_with fail
  refine (rslot_any f _).mono ?_
  rintro e wb ⟨rfl, hb_wb⟩
  have HB_wb : Below w.heap.size w wb := by first | exact after0 HB_wa hb_wb | exact after1 HB_wa hb_wb | exact after2 HB_wa hb_wb | exact after3 HB_wa hb_wb | exact after4 HB_wa hb_wb | exact after5 HB_wa hb_wb
  have HN2 := Lib.hid ((HNIL.out.below hb_wa).below hb_wb)
  clear HVA HNIL hb_wa hb_wb
  cases h1 : validJ J with
  | false =>
    have HSP := Lib.hid (show AdmSp J f (([] : List Nat).map Int.ofNat) 1 from adm_bad (.inl h1))
    clear h1
    generalize slotB f = q at *
    cases q
    all_goals
      go_wp2_with fail
      all_goals try (exfalso; omega)
      go_ret2
      exact ⟨[], 1, HSP.out, _, _, _, rfl, HN2.out, HB_wb⟩
  | true =>
  cases h2 : slotB f with
  | false =>
    have HSP := Lib.hid (show AdmSp J f (([] : List Nat).map Int.ofNat) 1 from adm_bad (.inr h2))
    clear h1 h2
    go_wp2_with fail
    all_goals try (exfalso; omega)
    go_ret2
    exact ⟨[], 1, HSP.out, _, _, _, rfl, HN2.out, HB_wb⟩
  | true =>
  have HV := Lib.hid (validJ_iff.1 h1).2
  have HF := Lib.hid h2
  have HSP := Lib.hid (show AdmSp J f ((admF J f (askD J 10)).map Int.ofNat) 0 from adm_ok h1 h2 (askD_ask (validJ_iff.1 h1).2))
  clear h1 h2
  go_wp2_with fail
  go_loopw [8, 9] (fun o p wr => ∃ (d : Nat) (oo : Option Addr) (nn cc : Nat), d ≤ 10 ∧ o = .slice oo nn cc ∧ p = .int .i64 (9 - d) ∧ Below w.heap.size w wr ∧ Hid (Sl wr 1 cN oo nn cc (admF J f (askI J d 0)))) (fun _ p _ => (intOf p + 1).toNat)
  case atStart => exact ⟨0, _, _, _, by omega, rfl, by go_num, HB_wb, by rw [askI_zero]; exact HN2⟩
  case round =>
    clear HN2 HB_wb
    obtain ⟨d, oo, nn, cc, hd, rfl, rfl, HB_wr, HO⟩ := hrel
    by_cases hd9 : d < 10
    · have hp0 : 0 ≤ 9 - (d : Int) := by omega
      have hp9 : 9 - (d : Int) ≤ 9 := by omega
      generalize hP : 9 - (d : Int) = P at *
      have HPD := Lib.hid hP
      clear hP
      go_wp2_with fail
      go_loopw [8, 10] (fun o i wr => ∃ (i' : Nat) (oo : Option Addr) (nn cc : Nat), i' ≤ J.length ∧ o = .slice oo nn cc ∧ i = .int .i64 i' ∧ Below w.heap.size w wr ∧ Hid (Sl wr 1 cN oo nn cc (admF J f (askI J d i')))) (fun _ i _ => J.length - (intOf i).toNat)
      case atStart => exact ⟨0, _, _, _, Nat.zero_le _, rfl, rfl, HB_wr, HO⟩
      case round =>
        clear HO HB_wr
        obtain ⟨i, oo, nn, cc, hi, rfl, rfl, HB_wr, HO⟩ := hrel
        by_cases hil : i < J.length
        · obtain ⟨bj, offj, rfl, hbj, hrow⟩ := HJ.out.get hil
          obtain ⟨e_0, e_1, e_2, e_3⟩ := ((hrow i hil).below HB_wr hbj).c4
          have HYES := Lib.hid (fun h => @askI_yes J d i h)
          have HNO := Lib.hid (fun h => @askI_no J d i h)
          have HRI := Lib.hid (admF_rise (J := J) (f := f) (askI_nodup J d i))
          have hal := adm_len (J := J) (f := f) (d := d) hi
          have HLO := Lib.hid (show ∀ x ∈ srtN (admF J f (askI J d i) ++ [i]), x < J.length from fun x hx => by
            rw [srtN_mem, List.mem_append, List.mem_singleton] at hx
            rcases hx with hx | rfl
            · exact askI_lt hi x (admF_mem x hx)
            · exact hil)
          have HSN := Lib.hid (fun q => admF_snoc J f q i)
          rw [jat_get hil] at HYES HNO
          rw [HPD.out] at HYES HNO
          clear hrow
          generalize J[i] = x at *
          obtain ⟨x0, x1, x2, x3⟩ := x
          dsimp only at e_0 e_1 e_2 e_3 HYES HNO
          obtain rfl := HO.out.len
          by_cases hp : x3 = P
          case neg =>
            have HNX := Lib.hid (HNO.out hp)
            have hb : (x3 != P) = true := bne_iff_ne.2 hp
            clear HYES HNO hp HRI HLO HSN
            generalize (admF J f (askI J d i)).length = al at *
            go_wp2_with fail
            all_goals try (exfalso; omega)
            go_roundw
            case rel => exact ⟨i + 1, _, _, _, hil, rfl, by go_num, HB_wr, by rw [HNX.out]; exact HO⟩
            case measure => simp [intOf] <;> omega
          subst hp
          have HNX := Lib.hid (show admF J f (askI J d (i + 1)) = if fits J f (srtN (admF J f (askI J d i) ++ [i])) then srtN (admF J f (askI J d i) ++ [i]) else admF J f (askI J d i) by rw [HYES.out rfl, HSN.out]; rfl)
          clear HYES HNO HSN
          generalize admF J f (askI J d i) = A at *
          have hgl : (srtN (A ++ [i])).length = A.length + 1 := by rw [srtN_len]; simp
          have HGL := Lib.hid hgl
          have HPV := Lib.hid (show validJ (pickJ J (srtN (A ++ [i]))) = true from pickJ_valid HV.out HLO.out (by omega))
          clear hgl
          go_wp2_with fail
          refine (rwith_any oo A.length cc A i wr HO.out (by omega) HRI.out (by omega)).mono ?_
          rintro e w2 ⟨v2, rfl, ho, hb_w2⟩
          obtain ⟨o2, c2, rfl, hs2⟩ := ho.sl cN_len
          have HG := Lib.hid hs2
          have HB_w2 : Below w.heap.size w w2 := HB_wr.trans (hb_w2.mono HB_wr.size)
          have HO2 := Lib.hid (HO.out.below hb_w2)
          have hg13 : (srtN (A ++ [i])).length ≤ 13 := by have := HGL.out; omega
          clear ho hs2 HO HRI HGL e_0 e_1 e_2 e_3
          generalize srtN (A ++ [i]) = G at *
          go_wp2_with fail
          refine (rsome_any _ J.length cap J o2 G.length c2 G w2 (HJ.out.below HB_w2) HG.out HLO.out (by omega)).mono ?_
          rintro e w3 ⟨v3, rfl, ho, hb_w3⟩
          obtain ⟨o3, c3, rfl, hs3⟩ := ho.sl cJ_len
          have HSM := Lib.hid hs3
          have HB_w3 : Below w.heap.size w w3 := HB_w2.trans (hb_w3.mono HB_w2.size)
          clear ho hs3 HLO
          go_wp2_with fail
          refine (rinall_any o3 _ c3 J G f w3 HSM.out HPV.out HF.out).mono ?_
          rintro e w4 ⟨rfl, hb_w4⟩
          have HB_w4 : Below w.heap.size w w4 := HB_w3.trans (hb_w4.mono HB_w3.size)
          have hb24 : Below w2.heap.size w2 w4 := hb_w3.trans (hb_w4.mono hb_w3.size)
          have HG4 := Lib.hid (HG.out.below hb24)
          have HO4 := Lib.hid (HO2.out.below hb24)
          clear HG HO2 HSM HPV hb_w2 hb_w3 hb_w4 hb24
          generalize (pickJ J G).length = gl at *
          cases hft : fits J f G with
          | true =>
            rw [hft, if_pos rfl] at HNX
            clear hft
            go_wp2_with fail
            go_roundw
            case rel => exact ⟨i + 1, _, _, _, hil, rfl, by go_num, HB_w4, by rw [HNX.out]; exact HG4⟩
            case measure => simp [intOf] <;> omega
          | false =>
            rw [hft, if_neg (by simp)] at HNX
            clear hft
            go_wp2_with fail
            go_roundw
            case rel => exact ⟨i + 1, _, _, _, hil, rfl, by go_num, HB_w4, by rw [HNX.out]; exact HO4⟩
            case measure => simp [intOf] <;> omega
        · obtain rfl : i = J.length := by omega
          rw [askI_all] at HO
          go_wp2_with fail
          go_roundw
          case rel => exact ⟨d + 1, _, _, _, by omega, rfl, by have := HPD.out; go_num, HB_wr, HO⟩
          case measure => have := HPD.out; simp [intOf] <;> omega
    · obtain rfl : d = 10 := by omega
      rw [askI_zero] at HO
      go_wp2_with fail
      go_ret2
      exact ⟨_, 0, HSP.out, _, _, _, rfl, HO.out, HB_wr⟩
end Go.Proofs.Ytheioedggjbphaa
