/-
  The law ScheduleLater.
-/
import Derived.Test.YtheioedggjbphaaSdL
import Derived.Test.YtheioedggjbphaaSdQ
set_option linter.unusedVariables false
namespace Sc
theorem planF_len (J : List Jb) {f : Int} (h : 0 ≤ f) : (planF J f).length ≤ 400 := by
  have := planS_len J f (400 - f).toNat
  unfold planF
  omega
theorem doneR_ok {J : List Jb} {f : Int} (h0 : 0 ≤ f) (i : Nat) : doneR (planF J f) i = (doneF (planF J f) i, 0) := by
  unfold doneR
  rw [plan_rise h0, decide_eq_true (show (0 : Int) ≤ (i : Int) by omega)]
  rfl
end Sc
namespace Go.Proofs.Ytheioedggjbphaa
open Go Go.RowKit Sc Sk Go.Sort
theorem Done_k {bo : Option Addr} {m capb : Nat} {J : List Jb} {f : Int} (w : World) (hd : Sl w 3 cS bo m capb (planF J f)) (h0 : 0 ≤ f) (i : Nat) :
    Calls Try.prog 27 #[.slice bo m capb, .int .i64 (i : Int)] w (IntsK w (doneF (planF J f) i) 0) :=
  (Done_any bo m capb _ i w hd (by have := planF_len J h0; omega)).mono fun _ _ h => by have := h.K; rwa [doneR_ok h0] at this
set_option maxRecDepth 100000 in
set_option maxHeartbeats 16000000 in
theorem later_walk (hso : SortOk) (ao : Option Addr) (n cap : Nat) (l : List Jb) (x0 x1 x2 x3 f : Int) (w : World) (hs : Sl w 4 cJ ao n cap l) :
    Calls Try.prog 7 #[.slice ao n cap, .agg #[.int .i64 x0, .int .i64 x1, .int .i64 x2, .int .i64 x3], .int .i64 f] w (Ret w (.bool true)) := by
  obtain rfl := hs.len
  have hle := hs.le
  have hcap := hs.max
  have HCAP := Lib.hid hcap
  have hcap2 := hcap
  unfold maxLen at hcap2
  have HS := Lib.hid hs
  have HSO := Lib.hid hso
  clear hs hso hcap
  have HP1 := Lib.hid (planR_cases l f)
  obtain ⟨l2, hl2⟩ : ∃ l2, l ++ [(⟨x0, x1, x2, x3⟩ : Jb)] = l2 := ⟨_, rfl⟩
  have HAPP := Lib.hid hl2
  have HP2 := Lib.hid (planR_cases l2 f)
  have HLAW := Lib.hid (fun k (hk : k < l.length) => show (¬ (x1 < (jat l k).due ∨ (jat l k).due = x1 ∧ (jat l k).prio < x3)) → doneF (planF l2 f) k = doneF (planF l f) k from fun h => hl2 ▸ later_law ((fore_iff hk).2 h))

  clear hl2
  obtain ⟨i0, hi, hz0, hz1, hz2⟩ := info_parts info_job
  have HI := Lib.hid hi
  have HZ0 := Lib.hid hz0
  have HZ1 := Lib.hid hz1
  have HZ2 := Lib.hid hz2
  obtain ⟨i1, hy, hy0, hy1, hy2⟩ := info_parts info_sent
  have HY := Lib.hid hy
  have HY0 := Lib.hid hy0
  have HY1 := Lib.hid hy1
  have HY2 := Lib.hid hy2
  clear hi hz0 hz1 hz2 hy hy0 hy1 hy2
  obtain ⟨W0, hW0, HB_W0, hZ, hb1⟩ := boxes1 w [.int .i64 x0, .int .i64 x1, .int .i64 x2, .int .i64 x3] 44
  have H_j := Lib.hid hb1
  obtain ⟨BJ, hBJ⟩ : ∃ B, w.heap.size = B := ⟨_, rfl⟩
  rw [hBJ] at H_j
  clear hb1 hZ
  replace HS := Lib.hid (HS.out.below HB_W0)
  go_enter Try.func7, Try.ntmps7
  go_wp2_with fail
  clear hW0
  refine (head_any HSO.out _).mono ?_
  rintro e w1 ⟨rfl, hb_w1⟩
  have HB_w1 : Below w.heap.size w w1 := by first | exact after0 HB_W0 hb_w1 | exact after1 HB_W0 hb_w1 | exact after2 HB_W0 hb_w1 | exact after3 HB_W0 hb_w1 | exact after4 HB_W0 hb_w1 | exact after5 HB_W0 hb_w1
  try clear q_j_0 q_j_1 q_j_2 q_j_3
  have H_j := Lib.hid (Box.below (by first | exact H_j.out | exact H_j.out.alloc _ | exact (H_j.out.alloc _).alloc _ | exact ((H_j.out.alloc _).alloc _).alloc _) hb_w1)
  obtain ⟨q_j_0, q_j_1, q_j_2, q_j_3⟩ := H_j.out.c4
  replace HS := Lib.hid (show Sl w1 _ _ _ _ _ _ by first | exact HS.out.below hb_w1 | exact (HS.out.below (grew1 (Below.refl _ _))).below hb_w1 | exact (HS.out.below (grew2 (Below.refl _ _))).below hb_w1 | exact (HS.out.below (grew3 (Below.refl _ _))).below hb_w1)
  by_cases h11 : 11 < (l.length : Int)
  ·
    go_wp2_with fail
    all_goals try (exfalso; omega)
    go_ret
    exact ⟨rfl, HB_w1⟩
  replace h11 := Int.not_lt.1 h11
  go_wp2_with fail
  all_goals try (exfalso; omega)
  refine (Plan_k ao l.length cap l f _ HS.out).mono ?_
  rintro e w2 ⟨o2, n2, c2, rfl, hl, hb_w2⟩
  have HB_w2 : Below w.heap.size w w2 := by first | exact after0 HB_w1 hb_w2 | exact after1 HB_w1 hb_w2 | exact after2 HB_w1 hb_w2 | exact after3 HB_w1 hb_w2 | exact after4 HB_w1 hb_w2 | exact after5 HB_w1 hb_w2
  try clear q_j_0 q_j_1 q_j_2 q_j_3
  have H_j := Lib.hid (Box.below (by first | exact H_j.out | exact H_j.out.alloc _ | exact (H_j.out.alloc _).alloc _ | exact ((H_j.out.alloc _).alloc _).alloc _) hb_w2)
  obtain ⟨q_j_0, q_j_1, q_j_2, q_j_3⟩ := H_j.out.c4
  replace HS := Lib.hid (show Sl w2 _ _ _ _ _ _ by first | exact HS.out.below hb_w2 | exact (HS.out.below (grew1 (Below.refl _ _))).below hb_w2 | exact (HS.out.below (grew2 (Below.refl _ _))).below hb_w2 | exact (HS.out.below (grew3 (Below.refl _ _))).below hb_w2)
  have HL1 := Lib.hid hl
  clear hl hBJ
  go_wp2_with fail
  have y_q_j_0 := cell_regrown q_j_0
  have y_q_j_1 := cell_regrown q_j_1
  have y_q_j_2 := cell_regrown q_j_2
  have y_q_j_3 := cell_regrown q_j_3
  clear q_j_0 q_j_1 q_j_2 q_j_3
  refine wp_region_plan (C := fun w' => ∃ p : Regrown, w' = grow (redrawn w2 p.d) p.os) (.q 1 (.q 3 (.q 6 (.two 0 (.two 2 (.e 4 (.e 5 (.e 7 (.q 8 (.q 9 (.q 10 (.q 11 (.q 12 (.done))))))))) 4 (.e 2 (.e 5 (.e 7 (.q 8 (.q 9 (.q 10 (.q 11 (.q 12 (.done)))))))))) 4 (.e 0 (.e 2 (.e 5 (.e 7 (.q 8 (.q 9 (.q 10 (.q 11 (.q 12 (.done)))))))))))))) 13 (by kernel_rfl) (by kernel_rfl) (grew_drew _) ?_
  repeat (any_goals (first | (go_big_quiet_skip; refine wpQuiet_nil ?_) | (go_big_quiet_want; go_big_quiet_op; go_big_quiet_on; refine wpQuiet_nil ?_) | ((with_reducible apply q_split); exact rfl; intro q hq; cases q <;> (rw [hq]; (try first | replace hq := bnot_t hq | replace hq := bnot_f hq); (try first | replace hq := of_decide_eq_true hq | replace hq := of_decide_eq_false hq | replace hq := eq_of_beq hq); (try first | replace hq := Int.not_lt.1 hq | replace hq := Int.not_le.1 hq | replace hq := Nat.not_lt.1 hq | replace hq := Nat.not_le.1 hq); try (exfalso; omega))) | (refine plan_q rfl rfl ?_)))
  refine plan_two rfl rfl ?_ ?_
  · go_wp2_with fail
    obtain ⟨W3, hW3⟩ : ∃ W3, (w2.alloc (.cells #[] 44)).drew = W3 := ⟨_, rfl⟩
    have HW_W3 : Below w2.heap.size w2 W3 := hW3 ▸ (grew1 (Below.refl _ _)).drew
    have HO_W3 : Hid (OwnL W3 w2.heap.size 44 4 cJ (.slice (some ⟨w2.heap.size, 0, none⟩) 0 0) ([] : List Jb)) := hW3 ▸ (OwnL.made (Nat.le_refl _)).drew
    rw [hW3]
    clear hW3
    refine MixPost.intro (grew_of_below HW_W3) ?_
    refine plan_two rfl rfl ?_ ?_
    · go_wp2_with (at_builtin; refine wpList_append_sl rfl _ _ 22 rfl w2.heap.size 44 i0 _ 4 32 Try.underlying22 HI.out HZ0.out HZ1.out HZ2.out rfl (by decide) cJ_len cJ_one _ ([] : List Jb) rfl HO_W3.out ao l.length cap l rfl (HS.out.below HW_W3) (by unfold maxLen; simp; omega) (by simp; omega) HW_W3.size ?_)
      rintro v4 w4 ho hg hgr
      have HW_w4 : Below w2.heap.size w2 w4 := HW_W3.trans (hg _ (Nat.le_refl _))
      have HO_w4 : Hid (OwnL w4 w2.heap.size 44 4 cJ v4 l) := ho
      clear ho hg hgr
      refine MixPost.intro (grew_of_below HW_w4) ?_
      refine plan_e rfl ?_
      go_wp2_with fail
      have HW_w5 : Below w2.heap.size w2 (w4.alloc (.cells #[.int .i64 x0, .int .i64 x1, .int .i64 x2, .int .i64 x3] 44)) := grew1 HW_w4
      have HO_w5 := Lib.hid (HO_w4.out.alloc (.cells #[.int .i64 x0, .int .i64 x1, .int .i64 x2, .int .i64 x3] 44))
      have HX := Lib.hid (Sl.one (x := (⟨x0, x1, x2, x3⟩ : Jb)) cJ_len (Box.new w4 (cJ ⟨x0, x1, x2, x3⟩) 44))
      generalize w4.heap.size = BX at *
      generalize w4.alloc (.cells #[.int .i64 x0, .int .i64 x1, .int .i64 x2, .int .i64 x3] 44) = w5 at *
      refine MixPost.intro (grew_of_below HW_w5) ?_
      refine plan_e rfl ?_
      go_wp2_with (at_builtin; refine wpList_append_sl rfl _ _ 22 rfl w2.heap.size 44 i0 _ 4 32 Try.underlying22 HI.out HZ0.out HZ1.out HZ2.out rfl (by decide) cJ_len cJ_one v4 l rfl HO_w5.out (some ⟨BX, 0, none⟩) 1 1 [(⟨x0, x1, x2, x3⟩ : Jb)] rfl (HX.out) (by unfold maxLen; first | omega | (simp; omega)) (by first | omega | (simp; omega)) HW_w5.size ?_)
      rintro v8 w8 ho hg hgr
      have HW_w8 : Below w2.heap.size w2 w8 := HW_w5.trans (hg _ (Nat.le_refl _))
      have HO_w8 : Hid (OwnL w8 w2.heap.size 44 4 cJ v8 ((l ++ [(⟨x0, x1, x2, x3⟩ : Jb)]))) := ho
      clear ho hg hgr
      refine MixPost.intro (grew_of_below HW_w8) ?_
      clear HX
      rw [HAPP.out] at HO_w8
      obtain ⟨ao', cap', rfl, hsl⟩ := HO_w8.out.sl cJ_len
      have HSL := Lib.hid hsl
      clear hsl
      refine plan_e rfl ?_
      go_wp2_with fail
      refine (Plan_k ao' l2.length cap' l2 f _ HSL.out).mono ?_
      rintro e w9 ⟨o9, n9, c9, rfl, hl, hb_w9⟩
      have HW_w9 : Below w2.heap.size w2 w9 := HW_w8.trans (hb_w9.mono HW_w8.size)
      have HL2 := Lib.hid hl
      clear hl hb_w9 HSL HO_w8
      go_wp2_with fail
      refine MixPost.intro (grew_of_below HW_w9) ?_
      repeat (any_goals (first | (go_big_quiet_skip; refine wpQuiet_nil ?_) | (go_big_quiet_want; go_big_quiet_op; go_big_quiet_on; refine wpQuiet_nil ?_) | ((with_reducible apply q_split); exact rfl; intro q hq; cases q <;> (rw [hq]; (try first | replace hq := bnot_t hq | replace hq := bnot_f hq); (try first | replace hq := of_decide_eq_true hq | replace hq := of_decide_eq_false hq | replace hq := eq_of_beq hq); (try first | replace hq := Int.not_lt.1 hq | replace hq := Int.not_le.1 hq | replace hq := Nat.not_lt.1 hq | replace hq := Nat.not_le.1 hq); try (exfalso; omega))) | (refine plan_q rfl rfl ?_)))
      clear y_q_j_0 y_q_j_1 y_q_j_2 y_q_j_3
      all_goals refine plan_done ?_
      all_goals (try simp only [List.drop_succ_cons, List.drop_zero])
      all_goals (try go_wp2_with fail)
      all_goals refine NoPanic.normal ?_
      have HB_w9 := HB_w2.trans (HW_w9.mono HB_w2.size)
      replace HL1 := Lib.hid (HL1.out.below HW_w9)
      replace HS := Lib.hid (HS.out.below HW_w9)
      replace H_j := Lib.hid (H_j.out.below HW_w9)
      rcases HP1.out with ⟨v1, s1, e1⟩ | ⟨_, e1⟩
      case inr =>
        rw [e1]
        go_wp2_with fail
        all_goals try (exfalso; omega)
        go_ret
        exact ⟨rfl, HB_w9⟩
      rcases HP2.out with ⟨_, s2, e2⟩ | ⟨_, e2⟩
      case inr =>
        rw [e1, e2]
        go_wp2_with fail
        all_goals try (exfalso; omega)
        go_ret
        exact ⟨rfl, HB_w9⟩
      rw [e1, e2]
      rw [e1] at HL1
      rw [e2] at HL2
      have h0 := (slotB_iff.1 s1).1
      clear e1 e2 s1 s2 v1 HP1 HP2
      go_wp2_with fail
      go_loopw [7, 12] (fun up i wr => ∃ k : Nat, k ≤ l.length ∧ i = .int .i64 k ∧ up = .bool true ∧ Below w.heap.size w wr ∧ Hid (Below w9.heap.size w9 wr)) (fun _ i _ => l.length - (intOf i).toNat)
      case atStart => exact ⟨0, by omega, rfl, rfl, HB_w9, Below.refl _ _⟩
      case round =>
        obtain ⟨k, hk, rfl, rfl, HB_wr, HBB⟩ := hrel
        by_cases hlt : k < l.length
        · obtain ⟨b, off, rfl, hb, hrow⟩ := (HS.out.below HBB.out).get hlt
          obtain ⟨e_0, e_1, e_2, e_3⟩ := (hrow k hlt).c4
          have HFK := Lib.hid (HLAW.out k hlt)
          rw [jat_get hlt] at HFK
          obtain ⟨q_j_0, q_j_1, q_j_2, q_j_3⟩ := (H_j.out.below HBB.out).c4
          clear hrow
          generalize l[k] = y at *
          obtain ⟨y0, y1, y2, y3⟩ := y
          dsimp only at e_0 e_1 e_2 e_3 HFK
          rcases Int.lt_trichotomy x1 y1 with hd | hd | hd
          · clear HFK
            go_wp2_with fail
            have y_e_0 := cell_regrown e_0
            have y_e_1 := cell_regrown e_1
            have y_e_2 := cell_regrown e_2
            have y_e_3 := cell_regrown e_3
            clear e_0 e_1 e_2 e_3
            have y_q_j_0 := cell_regrown q_j_0
            have y_q_j_1 := cell_regrown q_j_1
            have y_q_j_2 := cell_regrown q_j_2
            have y_q_j_3 := cell_regrown q_j_3
            clear q_j_0 q_j_1 q_j_2 q_j_3
            refine wp_region_plan (C := fun w' => ∃ p : Regrown, w' = grow (redrawn wr p.d) p.os) (.q 0 (.q 1 (.q 2 (.q 3 (.q 4 (.q 5 (.q 6 (.q 7 (.q 8 (.q 9 (.q 10 (.q 11 (.q 12 (.q 13 (.q 14 (.q 15 (.q 16 (.q 17 (.q 18 (.q 19 (.q 20 (.q 21 (.q 22 (.q 23 (.q 24 (.q 25 (.q 26 (.q 27 (.done))))))))))))))))))))))))))))) 28 (by kernel_rfl) (by kernel_rfl) (grew_drew _) ?_
            repeat (any_goals (first | (go_big_quiet_skip; refine wpQuiet_nil ?_) | (go_big_quiet_want; go_big_quiet_op; go_big_quiet_on; refine wpQuiet_nil ?_) | ((with_reducible apply q_split); exact rfl; intro q hq; cases q <;> (rw [hq]; (try first | replace hq := bnot_t hq | replace hq := bnot_f hq); (try first | replace hq := of_decide_eq_true hq | replace hq := of_decide_eq_false hq | replace hq := eq_of_beq hq); (try first | replace hq := Int.not_lt.1 hq | replace hq := Int.not_le.1 hq | replace hq := Nat.not_lt.1 hq | replace hq := Nat.not_le.1 hq); try (exfalso; omega))) | (refine plan_q rfl rfl ?_)))
            clear y_e_0 y_e_1 y_e_2 y_e_3
            clear y_q_j_0 y_q_j_1 y_q_j_2 y_q_j_3
            all_goals refine plan_done ?_
            all_goals (try simp only [List.drop_succ_cons, List.drop_zero])
            all_goals (try go_wp2_with fail)
            all_goals refine NoPanic.normal ?_
            all_goals (try go_wp2_with fail)
            go_roundw
            case rel => exact ⟨k + 1, by omega, by go_num, rfl, by first | exact HB_wr.drew | exact HB_wc, by first | exact HBB.out.drew | exact HBB3⟩
            case measure => simp [intOf] <;> omega
          · subst hd
            by_cases hp : y3 < x3
            · clear HFK
              go_wp2_with fail
              have y_e_0 := cell_regrown e_0
              have y_e_1 := cell_regrown e_1
              have y_e_2 := cell_regrown e_2
              have y_e_3 := cell_regrown e_3
              clear e_0 e_1 e_2 e_3
              have y_q_j_0 := cell_regrown q_j_0
              have y_q_j_1 := cell_regrown q_j_1
              have y_q_j_2 := cell_regrown q_j_2
              have y_q_j_3 := cell_regrown q_j_3
              clear q_j_0 q_j_1 q_j_2 q_j_3
              refine wp_region_plan (C := fun w' => ∃ p : Regrown, w' = grow (redrawn wr p.d) p.os) (.q 0 (.q 1 (.q 2 (.q 3 (.q 4 (.q 5 (.q 6 (.q 7 (.q 8 (.q 9 (.q 10 (.q 11 (.q 12 (.q 13 (.q 14 (.q 15 (.q 16 (.q 17 (.q 18 (.q 19 (.q 20 (.q 21 (.q 22 (.q 23 (.q 24 (.q 25 (.q 26 (.q 27 (.done))))))))))))))))))))))))))))) 28 (by kernel_rfl) (by kernel_rfl) (grew_drew _) ?_
              repeat (any_goals (first | (go_big_quiet_skip; refine wpQuiet_nil ?_) | (go_big_quiet_want; go_big_quiet_op; go_big_quiet_on; refine wpQuiet_nil ?_) | ((with_reducible apply q_split); exact rfl; intro q hq; cases q <;> (rw [hq]; (try first | replace hq := bnot_t hq | replace hq := bnot_f hq); (try first | replace hq := of_decide_eq_true hq | replace hq := of_decide_eq_false hq | replace hq := eq_of_beq hq); (try first | replace hq := Int.not_lt.1 hq | replace hq := Int.not_le.1 hq | replace hq := Nat.not_lt.1 hq | replace hq := Nat.not_le.1 hq); try (exfalso; omega))) | (refine plan_q rfl rfl ?_)))
              clear y_e_0 y_e_1 y_e_2 y_e_3
              clear y_q_j_0 y_q_j_1 y_q_j_2 y_q_j_3
              all_goals refine plan_done ?_
              all_goals (try simp only [List.drop_succ_cons, List.drop_zero])
              all_goals (try go_wp2_with fail)
              all_goals refine NoPanic.normal ?_
              all_goals (try go_wp2_with fail)
              go_roundw
              case rel => exact ⟨k + 1, by omega, by go_num, rfl, by first | exact HB_wr.drew | exact HB_wc, by first | exact HBB.out.drew | exact HBB3⟩
              case measure => simp [intOf] <;> omega
            · have HQ := Lib.hid (HFK.out (by omega))
              replace hp := Int.not_lt.1 hp
              clear HFK
              go_wp2_with fail
              have y_e_0 := cell_regrown e_0
              have y_e_1 := cell_regrown e_1
              have y_e_2 := cell_regrown e_2
              have y_e_3 := cell_regrown e_3
              clear e_0 e_1 e_2 e_3
              have y_q_j_0 := cell_regrown q_j_0
              have y_q_j_1 := cell_regrown q_j_1
              have y_q_j_2 := cell_regrown q_j_2
              have y_q_j_3 := cell_regrown q_j_3
              clear q_j_0 q_j_1 q_j_2 q_j_3
              refine wp_region_plan (C := fun w' => ∃ p : Regrown, w' = grow (redrawn wr p.d) p.os) (.q 0 (.q 1 (.q 2 (.q 3 (.q 4 (.q 5 (.q 6 (.q 7 (.q 8 (.q 9 (.q 10 (.q 11 (.q 12 (.q 13 (.q 14 (.q 15 (.q 16 (.q 17 (.q 18 (.q 19 (.q 20 (.q 21 (.q 22 (.q 23 (.q 24 (.q 25 (.q 26 (.q 27 (.done))))))))))))))))))))))))))))) 28 (by kernel_rfl) (by kernel_rfl) (grew_drew _) ?_
              repeat (any_goals (first | (go_big_quiet_skip; refine wpQuiet_nil ?_) | (go_big_quiet_want; go_big_quiet_op; go_big_quiet_on; refine wpQuiet_nil ?_) | ((with_reducible apply q_split); exact rfl; intro q hq; cases q <;> (rw [hq]; (try first | replace hq := bnot_t hq | replace hq := bnot_f hq); (try first | replace hq := of_decide_eq_true hq | replace hq := of_decide_eq_false hq | replace hq := eq_of_beq hq); (try first | replace hq := Int.not_lt.1 hq | replace hq := Int.not_le.1 hq | replace hq := Nat.not_lt.1 hq | replace hq := Nat.not_le.1 hq); try (exfalso; omega))) | (refine plan_q rfl rfl ?_)))
              clear y_e_0 y_e_1 y_e_2 y_e_3
              clear y_q_j_0 y_q_j_1 y_q_j_2 y_q_j_3
              all_goals refine plan_done ?_
              all_goals (try simp only [List.drop_succ_cons, List.drop_zero])
              all_goals (try go_wp2_with fail)
              all_goals refine NoPanic.normal ?_
              all_goals (try go_wp2_with fail)
              obtain ⟨wd, hwd⟩ : ∃ X, wr.drew = X := ⟨_, rfl⟩
              rw [hwd]
              have HB_wd : Below w.heap.size w wd := hwd ▸ HB_wr.drew
              have HBBD := Lib.hid (show Below w9.heap.size w9 wd from hwd ▸ HBB.out.drew)
              clear hwd
              refine (Done_k _ (HL1.out.below HBBD.out) h0 k).mono ?_
              rintro e wa ⟨o1, n1, c1, rfl, hl, hb_wa⟩
              have HB_wa : Below w.heap.size w wa := by first | exact after0 HB_wd hb_wa | exact after1 HB_wd hb_wa | exact after2 HB_wd hb_wa | exact after3 HB_wd hb_wa | exact after4 HB_wd hb_wa | exact after5 HB_wd hb_wa
              obtain rfl := hl.len
              have HD1 := Lib.hid hl
              have HBBA := Lib.hid (HBBD.out.trans (hb_wa.mono HBBD.out.size))
              clear hl
              go_wp2_with fail
              refine (Done_k _ (HL2.out.below HBBA.out) h0 k).mono ?_
              rintro e wb ⟨o3, n3, c3, rfl, hl, hb_wb⟩
              have HB_wb : Below w.heap.size w wb := by first | exact after0 HB_wa hb_wb | exact after1 HB_wa hb_wb | exact after2 HB_wa hb_wb | exact after3 HB_wa hb_wb | exact after4 HB_wa hb_wb | exact after5 HB_wa hb_wb
              rw [HQ.out] at hl
              have HD2 := Lib.hid hl
              replace HD1 := Lib.hid (HD1.out.below hb_wb)
              have HBBB := Lib.hid (HBBA.out.trans (hb_wb.mono HBBA.out.size))
              clear hl
              go_wp2_with fail
              refine (h_ints _ HD1.out HD2.out).mono ?_
              rintro e wc ⟨rfl, hb_wc⟩
              have HB_wc : Below w.heap.size w wc := by first | exact after0 HB_wb hb_wc | exact after1 HB_wb hb_wc | exact after2 HB_wb hb_wc | exact after3 HB_wb hb_wc | exact after4 HB_wb hb_wc | exact after5 HB_wb hb_wc
              have HBB3 := HBBB.out.trans (hb_wc.mono HBBB.out.size)
              go_wp2_with fail
              go_roundw
              case rel => exact ⟨k + 1, by omega, by go_num, rfl, by first | exact HB_wr.drew | exact HB_wc, by first | exact HBB.out.drew | exact HBB3⟩
              case measure => simp [intOf] <;> omega
          · have HQ := Lib.hid (HFK.out (by omega))
            have hd2 : (y1 == x1) = false := beq_eq_false_iff_ne.2 (by omega)
            clear HFK
            go_wp2_with fail
            have y_e_0 := cell_regrown e_0
            have y_e_1 := cell_regrown e_1
            have y_e_2 := cell_regrown e_2
            have y_e_3 := cell_regrown e_3
            clear e_0 e_1 e_2 e_3
            have y_q_j_0 := cell_regrown q_j_0
            have y_q_j_1 := cell_regrown q_j_1
            have y_q_j_2 := cell_regrown q_j_2
            have y_q_j_3 := cell_regrown q_j_3
            clear q_j_0 q_j_1 q_j_2 q_j_3
            refine wp_region_plan (C := fun w' => ∃ p : Regrown, w' = grow (redrawn wr p.d) p.os) (.q 0 (.q 1 (.q 2 (.q 3 (.q 4 (.q 5 (.q 6 (.q 7 (.q 8 (.q 9 (.q 10 (.q 11 (.q 12 (.q 13 (.q 14 (.q 15 (.q 16 (.q 17 (.q 18 (.q 19 (.q 20 (.q 21 (.q 22 (.q 23 (.q 24 (.q 25 (.q 26 (.q 27 (.done))))))))))))))))))))))))))))) 28 (by kernel_rfl) (by kernel_rfl) (grew_drew _) ?_
            repeat (any_goals (first | (go_big_quiet_skip; refine wpQuiet_nil ?_) | (go_big_quiet_want; go_big_quiet_op; go_big_quiet_on; refine wpQuiet_nil ?_) | ((with_reducible apply q_split); exact rfl; intro q hq; cases q <;> (rw [hq]; (try first | replace hq := bnot_t hq | replace hq := bnot_f hq); (try first | replace hq := of_decide_eq_true hq | replace hq := of_decide_eq_false hq | replace hq := eq_of_beq hq); (try first | replace hq := Int.not_lt.1 hq | replace hq := Int.not_le.1 hq | replace hq := Nat.not_lt.1 hq | replace hq := Nat.not_le.1 hq); try (exfalso; omega))) | (refine plan_q rfl rfl ?_)))
            clear y_e_0 y_e_1 y_e_2 y_e_3
            clear y_q_j_0 y_q_j_1 y_q_j_2 y_q_j_3
            all_goals refine plan_done ?_
            all_goals (try simp only [List.drop_succ_cons, List.drop_zero])
            all_goals (try go_wp2_with fail)
            all_goals refine NoPanic.normal ?_
            all_goals (try go_wp2_with fail)
            obtain ⟨wd, hwd⟩ : ∃ X, wr.drew = X := ⟨_, rfl⟩
            rw [hwd]
            have HB_wd : Below w.heap.size w wd := hwd ▸ HB_wr.drew
            have HBBD := Lib.hid (show Below w9.heap.size w9 wd from hwd ▸ HBB.out.drew)
            clear hwd
            refine (Done_k _ (HL1.out.below HBBD.out) h0 k).mono ?_
            rintro e wa ⟨o1, n1, c1, rfl, hl, hb_wa⟩
            have HB_wa : Below w.heap.size w wa := by first | exact after0 HB_wd hb_wa | exact after1 HB_wd hb_wa | exact after2 HB_wd hb_wa | exact after3 HB_wd hb_wa | exact after4 HB_wd hb_wa | exact after5 HB_wd hb_wa
            obtain rfl := hl.len
            have HD1 := Lib.hid hl
            have HBBA := Lib.hid (HBBD.out.trans (hb_wa.mono HBBD.out.size))
            clear hl
            go_wp2_with fail
            refine (Done_k _ (HL2.out.below HBBA.out) h0 k).mono ?_
            rintro e wb ⟨o3, n3, c3, rfl, hl, hb_wb⟩
            have HB_wb : Below w.heap.size w wb := by first | exact after0 HB_wa hb_wb | exact after1 HB_wa hb_wb | exact after2 HB_wa hb_wb | exact after3 HB_wa hb_wb | exact after4 HB_wa hb_wb | exact after5 HB_wa hb_wb
            rw [HQ.out] at hl
            have HD2 := Lib.hid hl
            replace HD1 := Lib.hid (HD1.out.below hb_wb)
            have HBBB := Lib.hid (HBBA.out.trans (hb_wb.mono HBBA.out.size))
            clear hl
            go_wp2_with fail
            refine (h_ints _ HD1.out HD2.out).mono ?_
            rintro e wc ⟨rfl, hb_wc⟩
            have HB_wc : Below w.heap.size w wc := by first | exact after0 HB_wb hb_wc | exact after1 HB_wb hb_wc | exact after2 HB_wb hb_wc | exact after3 HB_wb hb_wc | exact after4 HB_wb hb_wc | exact after5 HB_wb hb_wc
            have HBB3 := HBBB.out.trans (hb_wc.mono HBBB.out.size)
            go_wp2_with fail
            go_roundw
            case rel => exact ⟨k + 1, by omega, by go_num, rfl, by first | exact HB_wr.drew | exact HB_wc, by first | exact HBB.out.drew | exact HBB3⟩
            case measure => simp [intOf] <;> omega
        ·
          go_wp2_with fail
          all_goals try (exfalso; omega)
          go_ret
          exact ⟨rfl, HB_wr⟩
    · go_wp2_with fail
      have HW_w5 : Below w2.heap.size w2 (W3.alloc (.cells #[.int .i64 x0, .int .i64 x1, .int .i64 x2, .int .i64 x3] 44)) := grew1 HW_W3
      have HO_w5 := Lib.hid (HO_W3.out.alloc (.cells #[.int .i64 x0, .int .i64 x1, .int .i64 x2, .int .i64 x3] 44))
      have HXB := Lib.hid (Box.new W3 [.int .i64 x0, .int .i64 x1, .int .i64 x2, .int .i64 x3] 44)
      have hne : w2.heap.size < W3.heap.size := (World.ownsRow.lt HO_W3.out w2.heap.size rfl).2
      generalize W3.heap.size = BX at *
      generalize W3.alloc (.cells #[.int .i64 x0, .int .i64 x1, .int .i64 x2, .int .i64 x3] 44) = w5 at *
      refine MixPost.intro (grew_of_below HW_w5) ?_
      refine plan_e rfl ?_
      go_wp2_with (at_builtin; refine wpList_append_sl rfl _ _ 22 rfl w2.heap.size 44 i0 _ 4 32 Try.underlying22 HI.out HZ0.out HZ1.out HZ2.out rfl (by decide) cJ_len cJ_one _ ([] : List Jb) rfl HO_w5.out ao l.length cap l rfl (HS.out.below HW_w5) (by unfold maxLen; simp; omega) (by simp; omega) HW_w5.size ?_)
      rintro v4 w7 ho hg hgr
      have HW_w7 : Below w2.heap.size w2 w7 := HW_w5.trans (hg _ (Nat.le_refl _))
      have HO_w7 : Hid (OwnL w7 w2.heap.size 44 4 cJ v4 l) := ho
      have HX := Lib.hid (show Sl w7 4 cJ (some ⟨BX, 0, none⟩) 1 1 [(⟨x0, x1, x2, x3⟩ : Jb)] from Sl.one (x := (⟨x0, x1, x2, x3⟩ : Jb)) cJ_len (Box.grown HXB.out hgr (fun e => by
        have e2 : w2.heap.size = BX := by simpa [Value.ownBlock] using e.symm
        omega)))
      clear ho hg hgr HXB
      refine MixPost.intro (grew_of_below HW_w7) ?_
      refine plan_e rfl ?_
      go_wp2_with (at_builtin; refine wpList_append_sl rfl _ _ 22 rfl w2.heap.size 44 i0 _ 4 32 Try.underlying22 HI.out HZ0.out HZ1.out HZ2.out rfl (by decide) cJ_len cJ_one v4 l rfl HO_w7.out (some ⟨BX, 0, none⟩) 1 1 [(⟨x0, x1, x2, x3⟩ : Jb)] rfl (HX.out) (by unfold maxLen; first | omega | (simp; omega)) (by first | omega | (simp; omega)) HW_w7.size ?_)
      rintro v8 w8 ho hg hgr
      have HW_w8 : Below w2.heap.size w2 w8 := HW_w7.trans (hg _ (Nat.le_refl _))
      have HO_w8 : Hid (OwnL w8 w2.heap.size 44 4 cJ v8 ((l ++ [(⟨x0, x1, x2, x3⟩ : Jb)]))) := ho
      clear ho hg hgr
      refine MixPost.intro (grew_of_below HW_w8) ?_
      clear HX
      rw [HAPP.out] at HO_w8
      obtain ⟨ao', cap', rfl, hsl⟩ := HO_w8.out.sl cJ_len
      have HSL := Lib.hid hsl
      clear hsl
      refine plan_e rfl ?_
      go_wp2_with fail
      refine (Plan_k ao' l2.length cap' l2 f _ HSL.out).mono ?_
      rintro e w9 ⟨o9, n9, c9, rfl, hl, hb_w9⟩
      have HW_w9 : Below w2.heap.size w2 w9 := HW_w8.trans (hb_w9.mono HW_w8.size)
      have HL2 := Lib.hid hl
      clear hl hb_w9 HSL HO_w8
      go_wp2_with fail
      refine MixPost.intro (grew_of_below HW_w9) ?_
      repeat (any_goals (first | (go_big_quiet_skip; refine wpQuiet_nil ?_) | (go_big_quiet_want; go_big_quiet_op; go_big_quiet_on; refine wpQuiet_nil ?_) | ((with_reducible apply q_split); exact rfl; intro q hq; cases q <;> (rw [hq]; (try first | replace hq := bnot_t hq | replace hq := bnot_f hq); (try first | replace hq := of_decide_eq_true hq | replace hq := of_decide_eq_false hq | replace hq := eq_of_beq hq); (try first | replace hq := Int.not_lt.1 hq | replace hq := Int.not_le.1 hq | replace hq := Nat.not_lt.1 hq | replace hq := Nat.not_le.1 hq); try (exfalso; omega))) | (refine plan_q rfl rfl ?_)))
      clear y_q_j_0 y_q_j_1 y_q_j_2 y_q_j_3
      all_goals refine plan_done ?_
      all_goals (try simp only [List.drop_succ_cons, List.drop_zero])
      all_goals (try go_wp2_with fail)
      all_goals refine NoPanic.normal ?_
      have HB_w9 := HB_w2.trans (HW_w9.mono HB_w2.size)
      replace HL1 := Lib.hid (HL1.out.below HW_w9)
      replace HS := Lib.hid (HS.out.below HW_w9)
      replace H_j := Lib.hid (H_j.out.below HW_w9)
      rcases HP1.out with ⟨v1, s1, e1⟩ | ⟨_, e1⟩
      case inr =>
        rw [e1]
        go_wp2_with fail
        all_goals try (exfalso; omega)
        go_ret
        exact ⟨rfl, HB_w9⟩
      rcases HP2.out with ⟨_, s2, e2⟩ | ⟨_, e2⟩
      case inr =>
        rw [e1, e2]
        go_wp2_with fail
        all_goals try (exfalso; omega)
        go_ret
        exact ⟨rfl, HB_w9⟩
      rw [e1, e2]
      rw [e1] at HL1
      rw [e2] at HL2
      have h0 := (slotB_iff.1 s1).1
      clear e1 e2 s1 s2 v1 HP1 HP2
      go_wp2_with fail
      go_loopw [7, 12] (fun up i wr => ∃ k : Nat, k ≤ l.length ∧ i = .int .i64 k ∧ up = .bool true ∧ Below w.heap.size w wr ∧ Hid (Below w9.heap.size w9 wr)) (fun _ i _ => l.length - (intOf i).toNat)
      case atStart => exact ⟨0, by omega, rfl, rfl, HB_w9, Below.refl _ _⟩
      case round =>
        obtain ⟨k, hk, rfl, rfl, HB_wr, HBB⟩ := hrel
        by_cases hlt : k < l.length
        · obtain ⟨b, off, rfl, hb, hrow⟩ := (HS.out.below HBB.out).get hlt
          obtain ⟨e_0, e_1, e_2, e_3⟩ := (hrow k hlt).c4
          have HFK := Lib.hid (HLAW.out k hlt)
          rw [jat_get hlt] at HFK
          obtain ⟨q_j_0, q_j_1, q_j_2, q_j_3⟩ := (H_j.out.below HBB.out).c4
          clear hrow
          generalize l[k] = y at *
          obtain ⟨y0, y1, y2, y3⟩ := y
          dsimp only at e_0 e_1 e_2 e_3 HFK
          rcases Int.lt_trichotomy x1 y1 with hd | hd | hd
          · clear HFK
            go_wp2_with fail
            have y_e_0 := cell_regrown e_0
            have y_e_1 := cell_regrown e_1
            have y_e_2 := cell_regrown e_2
            have y_e_3 := cell_regrown e_3
            clear e_0 e_1 e_2 e_3
            have y_q_j_0 := cell_regrown q_j_0
            have y_q_j_1 := cell_regrown q_j_1
            have y_q_j_2 := cell_regrown q_j_2
            have y_q_j_3 := cell_regrown q_j_3
            clear q_j_0 q_j_1 q_j_2 q_j_3
            refine wp_region_plan (C := fun w' => ∃ p : Regrown, w' = grow (redrawn wr p.d) p.os) (.q 0 (.q 1 (.q 2 (.q 3 (.q 4 (.q 5 (.q 6 (.q 7 (.q 8 (.q 9 (.q 10 (.q 11 (.q 12 (.q 13 (.q 14 (.q 15 (.q 16 (.q 17 (.q 18 (.q 19 (.q 20 (.q 21 (.q 22 (.q 23 (.q 24 (.q 25 (.q 26 (.q 27 (.done))))))))))))))))))))))))))))) 28 (by kernel_rfl) (by kernel_rfl) (grew_drew _) ?_
            repeat (any_goals (first | (go_big_quiet_skip; refine wpQuiet_nil ?_) | (go_big_quiet_want; go_big_quiet_op; go_big_quiet_on; refine wpQuiet_nil ?_) | ((with_reducible apply q_split); exact rfl; intro q hq; cases q <;> (rw [hq]; (try first | replace hq := bnot_t hq | replace hq := bnot_f hq); (try first | replace hq := of_decide_eq_true hq | replace hq := of_decide_eq_false hq | replace hq := eq_of_beq hq); (try first | replace hq := Int.not_lt.1 hq | replace hq := Int.not_le.1 hq | replace hq := Nat.not_lt.1 hq | replace hq := Nat.not_le.1 hq); try (exfalso; omega))) | (refine plan_q rfl rfl ?_)))
            clear y_e_0 y_e_1 y_e_2 y_e_3
            clear y_q_j_0 y_q_j_1 y_q_j_2 y_q_j_3
            all_goals refine plan_done ?_
            all_goals (try simp only [List.drop_succ_cons, List.drop_zero])
            all_goals (try go_wp2_with fail)
            all_goals refine NoPanic.normal ?_
            all_goals (try go_wp2_with fail)
            go_roundw
            case rel => exact ⟨k + 1, by omega, by go_num, rfl, by first | exact HB_wr.drew | exact HB_wc, by first | exact HBB.out.drew | exact HBB3⟩
            case measure => simp [intOf] <;> omega
          · subst hd
            by_cases hp : y3 < x3
            · clear HFK
              go_wp2_with fail
              have y_e_0 := cell_regrown e_0
              have y_e_1 := cell_regrown e_1
              have y_e_2 := cell_regrown e_2
              have y_e_3 := cell_regrown e_3
              clear e_0 e_1 e_2 e_3
              have y_q_j_0 := cell_regrown q_j_0
              have y_q_j_1 := cell_regrown q_j_1
              have y_q_j_2 := cell_regrown q_j_2
              have y_q_j_3 := cell_regrown q_j_3
              clear q_j_0 q_j_1 q_j_2 q_j_3
              refine wp_region_plan (C := fun w' => ∃ p : Regrown, w' = grow (redrawn wr p.d) p.os) (.q 0 (.q 1 (.q 2 (.q 3 (.q 4 (.q 5 (.q 6 (.q 7 (.q 8 (.q 9 (.q 10 (.q 11 (.q 12 (.q 13 (.q 14 (.q 15 (.q 16 (.q 17 (.q 18 (.q 19 (.q 20 (.q 21 (.q 22 (.q 23 (.q 24 (.q 25 (.q 26 (.q 27 (.done))))))))))))))))))))))))))))) 28 (by kernel_rfl) (by kernel_rfl) (grew_drew _) ?_
              repeat (any_goals (first | (go_big_quiet_skip; refine wpQuiet_nil ?_) | (go_big_quiet_want; go_big_quiet_op; go_big_quiet_on; refine wpQuiet_nil ?_) | ((with_reducible apply q_split); exact rfl; intro q hq; cases q <;> (rw [hq]; (try first | replace hq := bnot_t hq | replace hq := bnot_f hq); (try first | replace hq := of_decide_eq_true hq | replace hq := of_decide_eq_false hq | replace hq := eq_of_beq hq); (try first | replace hq := Int.not_lt.1 hq | replace hq := Int.not_le.1 hq | replace hq := Nat.not_lt.1 hq | replace hq := Nat.not_le.1 hq); try (exfalso; omega))) | (refine plan_q rfl rfl ?_)))
              clear y_e_0 y_e_1 y_e_2 y_e_3
              clear y_q_j_0 y_q_j_1 y_q_j_2 y_q_j_3
              all_goals refine plan_done ?_
              all_goals (try simp only [List.drop_succ_cons, List.drop_zero])
              all_goals (try go_wp2_with fail)
              all_goals refine NoPanic.normal ?_
              all_goals (try go_wp2_with fail)
              go_roundw
              case rel => exact ⟨k + 1, by omega, by go_num, rfl, by first | exact HB_wr.drew | exact HB_wc, by first | exact HBB.out.drew | exact HBB3⟩
              case measure => simp [intOf] <;> omega
            · have HQ := Lib.hid (HFK.out (by omega))
              replace hp := Int.not_lt.1 hp
              clear HFK
              go_wp2_with fail
              have y_e_0 := cell_regrown e_0
              have y_e_1 := cell_regrown e_1
              have y_e_2 := cell_regrown e_2
              have y_e_3 := cell_regrown e_3
              clear e_0 e_1 e_2 e_3
              have y_q_j_0 := cell_regrown q_j_0
              have y_q_j_1 := cell_regrown q_j_1
              have y_q_j_2 := cell_regrown q_j_2
              have y_q_j_3 := cell_regrown q_j_3
              clear q_j_0 q_j_1 q_j_2 q_j_3
              refine wp_region_plan (C := fun w' => ∃ p : Regrown, w' = grow (redrawn wr p.d) p.os) (.q 0 (.q 1 (.q 2 (.q 3 (.q 4 (.q 5 (.q 6 (.q 7 (.q 8 (.q 9 (.q 10 (.q 11 (.q 12 (.q 13 (.q 14 (.q 15 (.q 16 (.q 17 (.q 18 (.q 19 (.q 20 (.q 21 (.q 22 (.q 23 (.q 24 (.q 25 (.q 26 (.q 27 (.done))))))))))))))))))))))))))))) 28 (by kernel_rfl) (by kernel_rfl) (grew_drew _) ?_
              repeat (any_goals (first | (go_big_quiet_skip; refine wpQuiet_nil ?_) | (go_big_quiet_want; go_big_quiet_op; go_big_quiet_on; refine wpQuiet_nil ?_) | ((with_reducible apply q_split); exact rfl; intro q hq; cases q <;> (rw [hq]; (try first | replace hq := bnot_t hq | replace hq := bnot_f hq); (try first | replace hq := of_decide_eq_true hq | replace hq := of_decide_eq_false hq | replace hq := eq_of_beq hq); (try first | replace hq := Int.not_lt.1 hq | replace hq := Int.not_le.1 hq | replace hq := Nat.not_lt.1 hq | replace hq := Nat.not_le.1 hq); try (exfalso; omega))) | (refine plan_q rfl rfl ?_)))
              clear y_e_0 y_e_1 y_e_2 y_e_3
              clear y_q_j_0 y_q_j_1 y_q_j_2 y_q_j_3
              all_goals refine plan_done ?_
              all_goals (try simp only [List.drop_succ_cons, List.drop_zero])
              all_goals (try go_wp2_with fail)
              all_goals refine NoPanic.normal ?_
              all_goals (try go_wp2_with fail)
              obtain ⟨wd, hwd⟩ : ∃ X, wr.drew = X := ⟨_, rfl⟩
              rw [hwd]
              have HB_wd : Below w.heap.size w wd := hwd ▸ HB_wr.drew
              have HBBD := Lib.hid (show Below w9.heap.size w9 wd from hwd ▸ HBB.out.drew)
              clear hwd
              refine (Done_k _ (HL1.out.below HBBD.out) h0 k).mono ?_
              rintro e wa ⟨o1, n1, c1, rfl, hl, hb_wa⟩
              have HB_wa : Below w.heap.size w wa := by first | exact after0 HB_wd hb_wa | exact after1 HB_wd hb_wa | exact after2 HB_wd hb_wa | exact after3 HB_wd hb_wa | exact after4 HB_wd hb_wa | exact after5 HB_wd hb_wa
              obtain rfl := hl.len
              have HD1 := Lib.hid hl
              have HBBA := Lib.hid (HBBD.out.trans (hb_wa.mono HBBD.out.size))
              clear hl
              go_wp2_with fail
              refine (Done_k _ (HL2.out.below HBBA.out) h0 k).mono ?_
              rintro e wb ⟨o3, n3, c3, rfl, hl, hb_wb⟩
              have HB_wb : Below w.heap.size w wb := by first | exact after0 HB_wa hb_wb | exact after1 HB_wa hb_wb | exact after2 HB_wa hb_wb | exact after3 HB_wa hb_wb | exact after4 HB_wa hb_wb | exact after5 HB_wa hb_wb
              rw [HQ.out] at hl
              have HD2 := Lib.hid hl
              replace HD1 := Lib.hid (HD1.out.below hb_wb)
              have HBBB := Lib.hid (HBBA.out.trans (hb_wb.mono HBBA.out.size))
              clear hl
              go_wp2_with fail
              refine (h_ints _ HD1.out HD2.out).mono ?_
              rintro e wc ⟨rfl, hb_wc⟩
              have HB_wc : Below w.heap.size w wc := by first | exact after0 HB_wb hb_wc | exact after1 HB_wb hb_wc | exact after2 HB_wb hb_wc | exact after3 HB_wb hb_wc | exact after4 HB_wb hb_wc | exact after5 HB_wb hb_wc
              have HBB3 := HBBB.out.trans (hb_wc.mono HBBB.out.size)
              go_wp2_with fail
              go_roundw
              case rel => exact ⟨k + 1, by omega, by go_num, rfl, by first | exact HB_wr.drew | exact HB_wc, by first | exact HBB.out.drew | exact HBB3⟩
              case measure => simp [intOf] <;> omega
          · have HQ := Lib.hid (HFK.out (by omega))
            have hd2 : (y1 == x1) = false := beq_eq_false_iff_ne.2 (by omega)
            clear HFK
            go_wp2_with fail
            have y_e_0 := cell_regrown e_0
            have y_e_1 := cell_regrown e_1
            have y_e_2 := cell_regrown e_2
            have y_e_3 := cell_regrown e_3
            clear e_0 e_1 e_2 e_3
            have y_q_j_0 := cell_regrown q_j_0
            have y_q_j_1 := cell_regrown q_j_1
            have y_q_j_2 := cell_regrown q_j_2
            have y_q_j_3 := cell_regrown q_j_3
            clear q_j_0 q_j_1 q_j_2 q_j_3
            refine wp_region_plan (C := fun w' => ∃ p : Regrown, w' = grow (redrawn wr p.d) p.os) (.q 0 (.q 1 (.q 2 (.q 3 (.q 4 (.q 5 (.q 6 (.q 7 (.q 8 (.q 9 (.q 10 (.q 11 (.q 12 (.q 13 (.q 14 (.q 15 (.q 16 (.q 17 (.q 18 (.q 19 (.q 20 (.q 21 (.q 22 (.q 23 (.q 24 (.q 25 (.q 26 (.q 27 (.done))))))))))))))))))))))))))))) 28 (by kernel_rfl) (by kernel_rfl) (grew_drew _) ?_
            repeat (any_goals (first | (go_big_quiet_skip; refine wpQuiet_nil ?_) | (go_big_quiet_want; go_big_quiet_op; go_big_quiet_on; refine wpQuiet_nil ?_) | ((with_reducible apply q_split); exact rfl; intro q hq; cases q <;> (rw [hq]; (try first | replace hq := bnot_t hq | replace hq := bnot_f hq); (try first | replace hq := of_decide_eq_true hq | replace hq := of_decide_eq_false hq | replace hq := eq_of_beq hq); (try first | replace hq := Int.not_lt.1 hq | replace hq := Int.not_le.1 hq | replace hq := Nat.not_lt.1 hq | replace hq := Nat.not_le.1 hq); try (exfalso; omega))) | (refine plan_q rfl rfl ?_)))
            clear y_e_0 y_e_1 y_e_2 y_e_3
            clear y_q_j_0 y_q_j_1 y_q_j_2 y_q_j_3
            all_goals refine plan_done ?_
            all_goals (try simp only [List.drop_succ_cons, List.drop_zero])
            all_goals (try go_wp2_with fail)
            all_goals refine NoPanic.normal ?_
            all_goals (try go_wp2_with fail)
            obtain ⟨wd, hwd⟩ : ∃ X, wr.drew = X := ⟨_, rfl⟩
            rw [hwd]
            have HB_wd : Below w.heap.size w wd := hwd ▸ HB_wr.drew
            have HBBD := Lib.hid (show Below w9.heap.size w9 wd from hwd ▸ HBB.out.drew)
            clear hwd
            refine (Done_k _ (HL1.out.below HBBD.out) h0 k).mono ?_
            rintro e wa ⟨o1, n1, c1, rfl, hl, hb_wa⟩
            have HB_wa : Below w.heap.size w wa := by first | exact after0 HB_wd hb_wa | exact after1 HB_wd hb_wa | exact after2 HB_wd hb_wa | exact after3 HB_wd hb_wa | exact after4 HB_wd hb_wa | exact after5 HB_wd hb_wa
            obtain rfl := hl.len
            have HD1 := Lib.hid hl
            have HBBA := Lib.hid (HBBD.out.trans (hb_wa.mono HBBD.out.size))
            clear hl
            go_wp2_with fail
            refine (Done_k _ (HL2.out.below HBBA.out) h0 k).mono ?_
            rintro e wb ⟨o3, n3, c3, rfl, hl, hb_wb⟩
            have HB_wb : Below w.heap.size w wb := by first | exact after0 HB_wa hb_wb | exact after1 HB_wa hb_wb | exact after2 HB_wa hb_wb | exact after3 HB_wa hb_wb | exact after4 HB_wa hb_wb | exact after5 HB_wa hb_wb
            rw [HQ.out] at hl
            have HD2 := Lib.hid hl
            replace HD1 := Lib.hid (HD1.out.below hb_wb)
            have HBBB := Lib.hid (HBBA.out.trans (hb_wb.mono HBBA.out.size))
            clear hl
            go_wp2_with fail
            refine (h_ints _ HD1.out HD2.out).mono ?_
            rintro e wc ⟨rfl, hb_wc⟩
            have HB_wc : Below w.heap.size w wc := by first | exact after0 HB_wb hb_wc | exact after1 HB_wb hb_wc | exact after2 HB_wb hb_wc | exact after3 HB_wb hb_wc | exact after4 HB_wb hb_wc | exact after5 HB_wb hb_wc
            have HBB3 := HBBB.out.trans (hb_wc.mono HBBB.out.size)
            go_wp2_with fail
            go_roundw
            case rel => exact ⟨k + 1, by omega, by go_num, rfl, by first | exact HB_wr.drew | exact HB_wc, by first | exact HBB.out.drew | exact HBB3⟩
            case measure => simp [intOf] <;> omega
        ·
          go_wp2_with fail
          all_goals try (exfalso; omega)
          go_ret
          exact ⟨rfl, HB_wr⟩
  · go_wp2_with fail
    obtain ⟨W3, hW3⟩ : ∃ W3, (w2.alloc (.cells #[.int .i64 x0, .int .i64 x1, .int .i64 x2, .int .i64 x3] 44)).drew = W3 := ⟨_, rfl⟩
    have HW_W3 : Below w2.heap.size w2 W3 := hW3 ▸ (grew1 (Below.refl _ _)).drew
    have HXB3 : Hid (Box W3 w2.heap.size 44 [.int .i64 x0, .int .i64 x1, .int .i64 x2, .int .i64 x3]) := hW3 ▸ Box.new w2 _ _
    rw [hW3]
    clear hW3
    refine MixPost.intro (grew_of_below HW_W3) ?_
    refine plan_e rfl ?_
    go_wp2_with fail
    have HW_w5 : Below w2.heap.size w2 (W3.alloc (.cells #[] 44)) := grew1 HW_W3
    have HO_w5 : Hid (OwnL (W3.alloc (.cells #[] 44)) w2.heap.size 44 4 cJ (.slice (some ⟨W3.heap.size, 0, none⟩) 0 0) ([] : List Jb)) := (OwnL.made (Nat.le_refl _)).mono HW_W3.size
    have HXB := Lib.hid (HXB3.out.alloc (.cells #[] 44))
    have hne := HXB3.out.lt
    obtain ⟨BX, hBX⟩ : ∃ B, w2.heap.size = B := ⟨_, rfl⟩
    rw [hBX] at HXB hne
    generalize W3.heap.size = NB at *
    generalize W3.alloc (.cells #[] 44) = w5 at *
    refine MixPost.intro (grew_of_below HW_w5) ?_
    rw [hBX]
    have HBX := Lib.hid hBX
    clear hBX
    refine plan_e rfl ?_
    go_wp2_with (at_builtin; refine wpList_append_sl rfl _ _ 22 rfl w2.heap.size 44 i0 _ 4 32 Try.underlying22 HI.out HZ0.out HZ1.out HZ2.out rfl (by decide) cJ_len cJ_one _ ([] : List Jb) rfl HO_w5.out ao l.length cap l rfl (HS.out.below HW_w5) (by unfold maxLen; simp; omega) (by simp; omega) HW_w5.size ?_)
    rintro v4 w7 ho hg hgr
    have HW_w7 : Below w2.heap.size w2 w7 := HW_w5.trans (hg _ (Nat.le_refl _))
    have HO_w7 : Hid (OwnL w7 w2.heap.size 44 4 cJ v4 l) := ho
    have HX := Lib.hid (show Sl w7 4 cJ (some ⟨BX, 0, none⟩) 1 1 [(⟨x0, x1, x2, x3⟩ : Jb)] from Sl.one (x := (⟨x0, x1, x2, x3⟩ : Jb)) cJ_len (Box.grown HXB.out hgr (fun e => by
      have e2 : NB = BX := by simpa [Value.ownBlock] using e.symm
      omega)))
    clear ho hg hgr HXB
    refine MixPost.intro (grew_of_below HW_w7) ?_
    refine plan_e rfl ?_
    go_wp2_with (at_builtin; refine wpList_append_sl rfl _ _ 22 rfl w2.heap.size 44 i0 _ 4 32 Try.underlying22 HI.out HZ0.out HZ1.out HZ2.out rfl (by decide) cJ_len cJ_one v4 l rfl HO_w7.out (some ⟨BX, 0, none⟩) 1 1 [(⟨x0, x1, x2, x3⟩ : Jb)] rfl (HX.out) (by unfold maxLen; first | omega | (simp; omega)) (by first | omega | (simp; omega)) HW_w7.size ?_)
    rintro v8 w8 ho hg hgr
    have HW_w8 : Below w2.heap.size w2 w8 := HW_w7.trans (hg _ (Nat.le_refl _))
    have HO_w8 : Hid (OwnL w8 w2.heap.size 44 4 cJ v8 ((l ++ [(⟨x0, x1, x2, x3⟩ : Jb)]))) := ho
    clear ho hg hgr
    refine MixPost.intro (grew_of_below HW_w8) ?_
    clear HX
    rw [HAPP.out] at HO_w8
    obtain ⟨ao', cap', rfl, hsl⟩ := HO_w8.out.sl cJ_len
    have HSL := Lib.hid hsl
    clear hsl
    refine plan_e rfl ?_
    go_wp2_with fail
    refine (Plan_k ao' l2.length cap' l2 f _ HSL.out).mono ?_
    rintro e w9 ⟨o9, n9, c9, rfl, hl, hb_w9⟩
    have HW_w9 : Below w2.heap.size w2 w9 := HW_w8.trans (hb_w9.mono HW_w8.size)
    have HL2 := Lib.hid hl
    clear hl hb_w9 HSL HO_w8
    go_wp2_with fail
    refine MixPost.intro (grew_of_below HW_w9) ?_
    repeat (any_goals (first | (go_big_quiet_skip; refine wpQuiet_nil ?_) | (go_big_quiet_want; go_big_quiet_op; go_big_quiet_on; refine wpQuiet_nil ?_) | ((with_reducible apply q_split); exact rfl; intro q hq; cases q <;> (rw [hq]; (try first | replace hq := bnot_t hq | replace hq := bnot_f hq); (try first | replace hq := of_decide_eq_true hq | replace hq := of_decide_eq_false hq | replace hq := eq_of_beq hq); (try first | replace hq := Int.not_lt.1 hq | replace hq := Int.not_le.1 hq | replace hq := Nat.not_lt.1 hq | replace hq := Nat.not_le.1 hq); try (exfalso; omega))) | (refine plan_q rfl rfl ?_)))
    clear y_q_j_0 y_q_j_1 y_q_j_2 y_q_j_3
    all_goals refine plan_done ?_
    all_goals (try simp only [List.drop_succ_cons, List.drop_zero])
    all_goals (try go_wp2_with fail)
    all_goals refine NoPanic.normal ?_
    have HB_w9 := HB_w2.trans (HW_w9.mono HB_w2.size)
    replace HL1 := Lib.hid (HL1.out.below HW_w9)
    replace HS := Lib.hid (HS.out.below HW_w9)
    replace H_j := Lib.hid (H_j.out.below HW_w9)
    rcases HP1.out with ⟨v1, s1, e1⟩ | ⟨_, e1⟩
    case inr =>
      rw [e1]
      go_wp2_with fail
      all_goals try (exfalso; omega)
      go_ret
      exact ⟨rfl, HB_w9⟩
    rcases HP2.out with ⟨_, s2, e2⟩ | ⟨_, e2⟩
    case inr =>
      rw [e1, e2]
      go_wp2_with fail
      all_goals try (exfalso; omega)
      go_ret
      exact ⟨rfl, HB_w9⟩
    rw [e1, e2]
    rw [e1] at HL1
    rw [e2] at HL2
    have h0 := (slotB_iff.1 s1).1
    clear e1 e2 s1 s2 v1 HP1 HP2
    go_wp2_with fail
    go_loopw [7, 12] (fun up i wr => ∃ k : Nat, k ≤ l.length ∧ i = .int .i64 k ∧ up = .bool true ∧ Below w.heap.size w wr ∧ Hid (Below w9.heap.size w9 wr)) (fun _ i _ => l.length - (intOf i).toNat)
    case atStart => exact ⟨0, by omega, rfl, rfl, HB_w9, Below.refl _ _⟩
    case round =>
      obtain ⟨k, hk, rfl, rfl, HB_wr, HBB⟩ := hrel
      by_cases hlt : k < l.length
      · obtain ⟨b, off, rfl, hb, hrow⟩ := (HS.out.below HBB.out).get hlt
        obtain ⟨e_0, e_1, e_2, e_3⟩ := (hrow k hlt).c4
        have HFK := Lib.hid (HLAW.out k hlt)
        rw [jat_get hlt] at HFK
        obtain ⟨q_j_0, q_j_1, q_j_2, q_j_3⟩ := (H_j.out.below HBB.out).c4
        clear hrow
        generalize l[k] = y at *
        obtain ⟨y0, y1, y2, y3⟩ := y
        dsimp only at e_0 e_1 e_2 e_3 HFK
        rcases Int.lt_trichotomy x1 y1 with hd | hd | hd
        · clear HFK
          go_wp2_with fail
          have y_e_0 := cell_regrown e_0
          have y_e_1 := cell_regrown e_1
          have y_e_2 := cell_regrown e_2
          have y_e_3 := cell_regrown e_3
          clear e_0 e_1 e_2 e_3
          have y_q_j_0 := cell_regrown q_j_0
          have y_q_j_1 := cell_regrown q_j_1
          have y_q_j_2 := cell_regrown q_j_2
          have y_q_j_3 := cell_regrown q_j_3
          clear q_j_0 q_j_1 q_j_2 q_j_3
          refine wp_region_plan (C := fun w' => ∃ p : Regrown, w' = grow (redrawn wr p.d) p.os) (.q 0 (.q 1 (.q 2 (.q 3 (.q 4 (.q 5 (.q 6 (.q 7 (.q 8 (.q 9 (.q 10 (.q 11 (.q 12 (.q 13 (.q 14 (.q 15 (.q 16 (.q 17 (.q 18 (.q 19 (.q 20 (.q 21 (.q 22 (.q 23 (.q 24 (.q 25 (.q 26 (.q 27 (.done))))))))))))))))))))))))))))) 28 (by kernel_rfl) (by kernel_rfl) (grew_drew _) ?_
          repeat (any_goals (first | (go_big_quiet_skip; refine wpQuiet_nil ?_) | (go_big_quiet_want; go_big_quiet_op; go_big_quiet_on; refine wpQuiet_nil ?_) | ((with_reducible apply q_split); exact rfl; intro q hq; cases q <;> (rw [hq]; (try first | replace hq := bnot_t hq | replace hq := bnot_f hq); (try first | replace hq := of_decide_eq_true hq | replace hq := of_decide_eq_false hq | replace hq := eq_of_beq hq); (try first | replace hq := Int.not_lt.1 hq | replace hq := Int.not_le.1 hq | replace hq := Nat.not_lt.1 hq | replace hq := Nat.not_le.1 hq); try (exfalso; omega))) | (refine plan_q rfl rfl ?_)))
          clear y_e_0 y_e_1 y_e_2 y_e_3
          clear y_q_j_0 y_q_j_1 y_q_j_2 y_q_j_3
          all_goals refine plan_done ?_
          all_goals (try simp only [List.drop_succ_cons, List.drop_zero])
          all_goals (try go_wp2_with fail)
          all_goals refine NoPanic.normal ?_
          all_goals (try go_wp2_with fail)
          go_roundw
          case rel => exact ⟨k + 1, by omega, by go_num, rfl, by first | exact HB_wr.drew | exact HB_wc, by first | exact HBB.out.drew | exact HBB3⟩
          case measure => simp [intOf] <;> omega
        · subst hd
          by_cases hp : y3 < x3
          · clear HFK
            go_wp2_with fail
            have y_e_0 := cell_regrown e_0
            have y_e_1 := cell_regrown e_1
            have y_e_2 := cell_regrown e_2
            have y_e_3 := cell_regrown e_3
            clear e_0 e_1 e_2 e_3
            have y_q_j_0 := cell_regrown q_j_0
            have y_q_j_1 := cell_regrown q_j_1
            have y_q_j_2 := cell_regrown q_j_2
            have y_q_j_3 := cell_regrown q_j_3
            clear q_j_0 q_j_1 q_j_2 q_j_3
            refine wp_region_plan (C := fun w' => ∃ p : Regrown, w' = grow (redrawn wr p.d) p.os) (.q 0 (.q 1 (.q 2 (.q 3 (.q 4 (.q 5 (.q 6 (.q 7 (.q 8 (.q 9 (.q 10 (.q 11 (.q 12 (.q 13 (.q 14 (.q 15 (.q 16 (.q 17 (.q 18 (.q 19 (.q 20 (.q 21 (.q 22 (.q 23 (.q 24 (.q 25 (.q 26 (.q 27 (.done))))))))))))))))))))))))))))) 28 (by kernel_rfl) (by kernel_rfl) (grew_drew _) ?_
            repeat (any_goals (first | (go_big_quiet_skip; refine wpQuiet_nil ?_) | (go_big_quiet_want; go_big_quiet_op; go_big_quiet_on; refine wpQuiet_nil ?_) | ((with_reducible apply q_split); exact rfl; intro q hq; cases q <;> (rw [hq]; (try first | replace hq := bnot_t hq | replace hq := bnot_f hq); (try first | replace hq := of_decide_eq_true hq | replace hq := of_decide_eq_false hq | replace hq := eq_of_beq hq); (try first | replace hq := Int.not_lt.1 hq | replace hq := Int.not_le.1 hq | replace hq := Nat.not_lt.1 hq | replace hq := Nat.not_le.1 hq); try (exfalso; omega))) | (refine plan_q rfl rfl ?_)))
            clear y_e_0 y_e_1 y_e_2 y_e_3
            clear y_q_j_0 y_q_j_1 y_q_j_2 y_q_j_3
            all_goals refine plan_done ?_
            all_goals (try simp only [List.drop_succ_cons, List.drop_zero])
            all_goals (try go_wp2_with fail)
            all_goals refine NoPanic.normal ?_
            all_goals (try go_wp2_with fail)
            go_roundw
            case rel => exact ⟨k + 1, by omega, by go_num, rfl, by first | exact HB_wr.drew | exact HB_wc, by first | exact HBB.out.drew | exact HBB3⟩
            case measure => simp [intOf] <;> omega
          · have HQ := Lib.hid (HFK.out (by omega))
            replace hp := Int.not_lt.1 hp
            clear HFK
            go_wp2_with fail
            have y_e_0 := cell_regrown e_0
            have y_e_1 := cell_regrown e_1
            have y_e_2 := cell_regrown e_2
            have y_e_3 := cell_regrown e_3
            clear e_0 e_1 e_2 e_3
            have y_q_j_0 := cell_regrown q_j_0
            have y_q_j_1 := cell_regrown q_j_1
            have y_q_j_2 := cell_regrown q_j_2
            have y_q_j_3 := cell_regrown q_j_3
            clear q_j_0 q_j_1 q_j_2 q_j_3
            refine wp_region_plan (C := fun w' => ∃ p : Regrown, w' = grow (redrawn wr p.d) p.os) (.q 0 (.q 1 (.q 2 (.q 3 (.q 4 (.q 5 (.q 6 (.q 7 (.q 8 (.q 9 (.q 10 (.q 11 (.q 12 (.q 13 (.q 14 (.q 15 (.q 16 (.q 17 (.q 18 (.q 19 (.q 20 (.q 21 (.q 22 (.q 23 (.q 24 (.q 25 (.q 26 (.q 27 (.done))))))))))))))))))))))))))))) 28 (by kernel_rfl) (by kernel_rfl) (grew_drew _) ?_
            repeat (any_goals (first | (go_big_quiet_skip; refine wpQuiet_nil ?_) | (go_big_quiet_want; go_big_quiet_op; go_big_quiet_on; refine wpQuiet_nil ?_) | ((with_reducible apply q_split); exact rfl; intro q hq; cases q <;> (rw [hq]; (try first | replace hq := bnot_t hq | replace hq := bnot_f hq); (try first | replace hq := of_decide_eq_true hq | replace hq := of_decide_eq_false hq | replace hq := eq_of_beq hq); (try first | replace hq := Int.not_lt.1 hq | replace hq := Int.not_le.1 hq | replace hq := Nat.not_lt.1 hq | replace hq := Nat.not_le.1 hq); try (exfalso; omega))) | (refine plan_q rfl rfl ?_)))
            clear y_e_0 y_e_1 y_e_2 y_e_3
            clear y_q_j_0 y_q_j_1 y_q_j_2 y_q_j_3
            all_goals refine plan_done ?_
            all_goals (try simp only [List.drop_succ_cons, List.drop_zero])
            all_goals (try go_wp2_with fail)
            all_goals refine NoPanic.normal ?_
            all_goals (try go_wp2_with fail)
            obtain ⟨wd, hwd⟩ : ∃ X, wr.drew = X := ⟨_, rfl⟩
            rw [hwd]
            have HB_wd : Below w.heap.size w wd := hwd ▸ HB_wr.drew
            have HBBD := Lib.hid (show Below w9.heap.size w9 wd from hwd ▸ HBB.out.drew)
            clear hwd
            refine (Done_k _ (HL1.out.below HBBD.out) h0 k).mono ?_
            rintro e wa ⟨o1, n1, c1, rfl, hl, hb_wa⟩
            have HB_wa : Below w.heap.size w wa := by first | exact after0 HB_wd hb_wa | exact after1 HB_wd hb_wa | exact after2 HB_wd hb_wa | exact after3 HB_wd hb_wa | exact after4 HB_wd hb_wa | exact after5 HB_wd hb_wa
            obtain rfl := hl.len
            have HD1 := Lib.hid hl
            have HBBA := Lib.hid (HBBD.out.trans (hb_wa.mono HBBD.out.size))
            clear hl
            go_wp2_with fail
            refine (Done_k _ (HL2.out.below HBBA.out) h0 k).mono ?_
            rintro e wb ⟨o3, n3, c3, rfl, hl, hb_wb⟩
            have HB_wb : Below w.heap.size w wb := by first | exact after0 HB_wa hb_wb | exact after1 HB_wa hb_wb | exact after2 HB_wa hb_wb | exact after3 HB_wa hb_wb | exact after4 HB_wa hb_wb | exact after5 HB_wa hb_wb
            rw [HQ.out] at hl
            have HD2 := Lib.hid hl
            replace HD1 := Lib.hid (HD1.out.below hb_wb)
            have HBBB := Lib.hid (HBBA.out.trans (hb_wb.mono HBBA.out.size))
            clear hl
            go_wp2_with fail
            refine (h_ints _ HD1.out HD2.out).mono ?_
            rintro e wc ⟨rfl, hb_wc⟩
            have HB_wc : Below w.heap.size w wc := by first | exact after0 HB_wb hb_wc | exact after1 HB_wb hb_wc | exact after2 HB_wb hb_wc | exact after3 HB_wb hb_wc | exact after4 HB_wb hb_wc | exact after5 HB_wb hb_wc
            have HBB3 := HBBB.out.trans (hb_wc.mono HBBB.out.size)
            go_wp2_with fail
            go_roundw
            case rel => exact ⟨k + 1, by omega, by go_num, rfl, by first | exact HB_wr.drew | exact HB_wc, by first | exact HBB.out.drew | exact HBB3⟩
            case measure => simp [intOf] <;> omega
        · have HQ := Lib.hid (HFK.out (by omega))
          have hd2 : (y1 == x1) = false := beq_eq_false_iff_ne.2 (by omega)
          clear HFK
          go_wp2_with fail
          have y_e_0 := cell_regrown e_0
          have y_e_1 := cell_regrown e_1
          have y_e_2 := cell_regrown e_2
          have y_e_3 := cell_regrown e_3
          clear e_0 e_1 e_2 e_3
          have y_q_j_0 := cell_regrown q_j_0
          have y_q_j_1 := cell_regrown q_j_1
          have y_q_j_2 := cell_regrown q_j_2
          have y_q_j_3 := cell_regrown q_j_3
          clear q_j_0 q_j_1 q_j_2 q_j_3
          refine wp_region_plan (C := fun w' => ∃ p : Regrown, w' = grow (redrawn wr p.d) p.os) (.q 0 (.q 1 (.q 2 (.q 3 (.q 4 (.q 5 (.q 6 (.q 7 (.q 8 (.q 9 (.q 10 (.q 11 (.q 12 (.q 13 (.q 14 (.q 15 (.q 16 (.q 17 (.q 18 (.q 19 (.q 20 (.q 21 (.q 22 (.q 23 (.q 24 (.q 25 (.q 26 (.q 27 (.done))))))))))))))))))))))))))))) 28 (by kernel_rfl) (by kernel_rfl) (grew_drew _) ?_
          repeat (any_goals (first | (go_big_quiet_skip; refine wpQuiet_nil ?_) | (go_big_quiet_want; go_big_quiet_op; go_big_quiet_on; refine wpQuiet_nil ?_) | ((with_reducible apply q_split); exact rfl; intro q hq; cases q <;> (rw [hq]; (try first | replace hq := bnot_t hq | replace hq := bnot_f hq); (try first | replace hq := of_decide_eq_true hq | replace hq := of_decide_eq_false hq | replace hq := eq_of_beq hq); (try first | replace hq := Int.not_lt.1 hq | replace hq := Int.not_le.1 hq | replace hq := Nat.not_lt.1 hq | replace hq := Nat.not_le.1 hq); try (exfalso; omega))) | (refine plan_q rfl rfl ?_)))
          clear y_e_0 y_e_1 y_e_2 y_e_3
          clear y_q_j_0 y_q_j_1 y_q_j_2 y_q_j_3
          all_goals refine plan_done ?_
          all_goals (try simp only [List.drop_succ_cons, List.drop_zero])
          all_goals (try go_wp2_with fail)
          all_goals refine NoPanic.normal ?_
          all_goals (try go_wp2_with fail)
          obtain ⟨wd, hwd⟩ : ∃ X, wr.drew = X := ⟨_, rfl⟩
          rw [hwd]
          have HB_wd : Below w.heap.size w wd := hwd ▸ HB_wr.drew
          have HBBD := Lib.hid (show Below w9.heap.size w9 wd from hwd ▸ HBB.out.drew)
          clear hwd
          refine (Done_k _ (HL1.out.below HBBD.out) h0 k).mono ?_
          rintro e wa ⟨o1, n1, c1, rfl, hl, hb_wa⟩
          have HB_wa : Below w.heap.size w wa := by first | exact after0 HB_wd hb_wa | exact after1 HB_wd hb_wa | exact after2 HB_wd hb_wa | exact after3 HB_wd hb_wa | exact after4 HB_wd hb_wa | exact after5 HB_wd hb_wa
          obtain rfl := hl.len
          have HD1 := Lib.hid hl
          have HBBA := Lib.hid (HBBD.out.trans (hb_wa.mono HBBD.out.size))
          clear hl
          go_wp2_with fail
          refine (Done_k _ (HL2.out.below HBBA.out) h0 k).mono ?_
          rintro e wb ⟨o3, n3, c3, rfl, hl, hb_wb⟩
          have HB_wb : Below w.heap.size w wb := by first | exact after0 HB_wa hb_wb | exact after1 HB_wa hb_wb | exact after2 HB_wa hb_wb | exact after3 HB_wa hb_wb | exact after4 HB_wa hb_wb | exact after5 HB_wa hb_wb
          rw [HQ.out] at hl
          have HD2 := Lib.hid hl
          replace HD1 := Lib.hid (HD1.out.below hb_wb)
          have HBBB := Lib.hid (HBBA.out.trans (hb_wb.mono HBBA.out.size))
          clear hl
          go_wp2_with fail
          refine (h_ints _ HD1.out HD2.out).mono ?_
          rintro e wc ⟨rfl, hb_wc⟩
          have HB_wc : Below w.heap.size w wc := by first | exact after0 HB_wb hb_wc | exact after1 HB_wb hb_wc | exact after2 HB_wb hb_wc | exact after3 HB_wb hb_wc | exact after4 HB_wb hb_wc | exact after5 HB_wb hb_wc
          have HBB3 := HBBB.out.trans (hb_wc.mono HBBB.out.size)
          go_wp2_with fail
          go_roundw
          case rel => exact ⟨k + 1, by omega, by go_num, rfl, by first | exact HB_wr.drew | exact HB_wc, by first | exact HBB.out.drew | exact HBB3⟩
          case measure => simp [intOf] <;> omega
      ·
        go_wp2_with fail
        all_goals try (exfalso; omega)
        go_ret
        exact ⟨rfl, HB_wr⟩
end Go.Proofs.Ytheioedggjbphaa
