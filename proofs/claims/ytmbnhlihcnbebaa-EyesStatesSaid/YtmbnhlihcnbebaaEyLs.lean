/-
  The law EyesStates.
-/
import Derived.Test.YtmbnhlihcnbebaaEyQ
import Derived.Test.YtmbnhlihcnbebaaEyRB
import Derived.Test.YtmbnhlihcnbebaaEyTs
set_option linter.unusedVariables false
namespace Go.Proofs.Ytmbnhlihcnbebaa
open Go Go.RowKit Ey Sk Go.Sort


set_option maxRecDepth 100000 in
set_option maxHeartbeats 8000000 in
theorem states_walk (hko : KeysOk) (ao : Option Addr) (n cap : Nat) (l : List Dg) (a : Ac) (w : World) (hs : Sl w 12 cD ao n cap l) :
    Calls Try.prog 9 #[.slice ao n cap, eA a] w (Ret w (.bool true)) := by
  obtain rfl := hs.len
  have hle := hs.le
  have hcap := hs.max
  unfold maxLen at hcap
  have HS := Lib.hid hs
  have HKO := Lib.hid hko
  have HB_w : Below w.heap.size w w := Below.refl _ _
  clear hs hko
  have HDP := Lib.hid (@doR_parts l a)
  have HDO := Lib.hid (fun W hW => do_any HKO.out ao l.length cap l a W (HS.out.below hW))
  have HRS := Lib.hid (fun W hW => rstate_any ao l.length cap l W (HS.out.below hW))
  have HRA := Lib.hid (fun W => ract_any a W)
  generalize doR l a = r at *
  generalize validA a = va at *
  obtain ⟨a0, a1, a2, a3, ⟨a4, a5, a6, a7⟩⟩ := a
  dsimp only [eA] at HDO HDP HRA ⊢
  obtain ⟨W0, hW0, HB_W0, hZ, hn⟩ := boxes1 w [.int .i64 a0, .int .i64 a1, .int .i64 a2, .int .i64 a3, .int .i64 a4, .int .i64 a5, .int .i64 a6, .int .i64 a7] 37
  have H_n := Lib.hid hn
  clear hn hZ
  go_enter Try.func9, Try.ntmps9
  go_wp2_with fail
  refine (head_any HKO.out _).mono ?_
  rintro e wa ⟨rfl, hb_wa⟩
  have HB_wa : Below w.heap.size w wa := by first | exact after0 HB_W0 hb_wa | exact after1 HB_W0 hb_wa | exact after2 HB_W0 hb_wa | exact after3 HB_W0 hb_wa | exact after4 HB_W0 hb_wa | exact after5 HB_W0 hb_wa
  clear hW0
  by_cases hl : 300 < (l.length : Int)
  ·
    go_wp2_with fail
    all_goals try (exfalso; omega)
    go_ret
    exact ⟨rfl, HB_wa⟩
  replace hl := Int.not_lt.1 hl
  replace H_n := Lib.hid (H_n.out.below hb_wa)
  obtain ⟨q_n_0, q_n_1, q_n_2, q_n_3, q_n_4, q_n_5, q_n_6, q_n_7⟩ := H_n.out.c8
  go_wp2_with fail
  all_goals try (exfalso; omega)
  refine (HDO.out _ HB_wa).mono ?_
  rintro e wb ⟨o1, n1, c1, rfl, hs1, hb_wb⟩
  have HB_wb : Below w.heap.size w wb := by first | exact after0 HB_wa hb_wb | exact after1 HB_wa hb_wb | exact after2 HB_wa hb_wb | exact after3 HB_wa hb_wb | exact after4 HB_wa hb_wb | exact after5 HB_wa hb_wb
  try clear q_n_0 q_n_1 q_n_2 q_n_3 q_n_4 q_n_5 q_n_6 q_n_7
  have H_n := Lib.hid (Box.below (by first | exact H_n.out | exact H_n.out.alloc _ | exact (H_n.out.alloc _).alloc _ | exact ((H_n.out.alloc _).alloc _).alloc _) hb_wb)
  obtain ⟨q_n_0, q_n_1, q_n_2, q_n_3, q_n_4, q_n_5, q_n_6, q_n_7⟩ := H_n.out.c8
  have H1 := Lib.hid hs1
  clear hs1 HDO
  rcases HDP.out with ⟨rfl, hb⟩ | ⟨e, rfl, he0, he1⟩ | ⟨N, rfl, hst, hsn, hg1, hg2, hne⟩
  · obtain rfl := H1.out.len
    clear HDP
    rcases hb with hb | ⟨hb, rfl⟩
    · rw [hb] at HRS
      go_wp2_with fail
      all_goals try (exfalso; omega)
      refine (HRS.out _ HB_wb).mono ?_
      rintro e wc ⟨rfl, hb_wc⟩
      have HB_wc : Below w.heap.size w wc := by first | exact after0 HB_wb hb_wc | exact after1 HB_wb hb_wc | exact after2 HB_wb hb_wc | exact after3 HB_wb hb_wc | exact after4 HB_wb hb_wc | exact after5 HB_wb hb_wc
      go_wp2_with fail
      all_goals try (exfalso; omega)
      go_ret
      exact ⟨rfl, HB_wc⟩
    · rw [hb] at HRS
      go_wp2_with fail
      all_goals try (exfalso; omega)
      refine (HRS.out _ HB_wb).mono ?_
      rintro e wc ⟨rfl, hb_wc⟩
      have HB_wc : Below w.heap.size w wc := by first | exact after0 HB_wb hb_wc | exact after1 HB_wb hb_wc | exact after2 HB_wb hb_wc | exact after3 HB_wb hb_wc | exact after4 HB_wb hb_wc | exact after5 HB_wb hb_wc
      try clear q_n_0 q_n_1 q_n_2 q_n_3 q_n_4 q_n_5 q_n_6 q_n_7
      have H_n := Lib.hid (Box.below (by first | exact H_n.out | exact H_n.out.alloc _ | exact (H_n.out.alloc _).alloc _ | exact ((H_n.out.alloc _).alloc _).alloc _) hb_wc)
      obtain ⟨q_n_0, q_n_1, q_n_2, q_n_3, q_n_4, q_n_5, q_n_6, q_n_7⟩ := H_n.out.c8
      go_wp2_with fail
      all_goals try (exfalso; omega)
      refine (HRA.out _).mono ?_
      rintro e wd ⟨rfl, hb_wd⟩
      have HB_wd : Below w.heap.size w wd := by first | exact after0 HB_wc hb_wd | exact after1 HB_wc hb_wd | exact after2 HB_wc hb_wd | exact after3 HB_wc hb_wd | exact after4 HB_wc hb_wd | exact after5 HB_wc hb_wd
      go_wp2_with fail
      all_goals try (exfalso; omega)
      go_ret
      exact ⟨rfl, HB_wd⟩
  · obtain rfl := H1.out.len
    have h0 : (e != 0) = true := bne_iff_ne.2 he0
    have h1 : (e == 1) = false := beq_eq_false_iff_ne.2 he1
    have h2 : (e != 1) = true := bne_iff_ne.2 he1
    clear HDP he0 he1
    go_wp2_with fail
    all_goals try (exfalso; omega)
    go_ret
    exact ⟨rfl, HB_wb⟩
  have HNE := Lib.hid hne
  have HG1 := Lib.hid hg1
  have HG2 := Lib.hid hg2
  dsimp only at H1
  obtain rfl := H1.out.len
  have h1l := H1.out.max
  have h1m := H1.out.le
  unfold maxLen at h1l
  have HRN := Lib.hid (rstate_any _ _ _ N wb H1.out)
  rw [hsn] at HRN
  clear HDP hne hg1 hg2 hst hsn HRS HRA q_n_0 q_n_1 q_n_2 q_n_3 q_n_4 q_n_5 q_n_6 q_n_7
  go_wp2_with fail
  all_goals try (exfalso; omega)
  refine (HRN.out).mono ?_
  rintro e wc ⟨rfl, hb_wc⟩
  have HB_wc : Below w.heap.size w wc := by first | exact after0 HB_wb hb_wc | exact after1 HB_wb hb_wc | exact after2 HB_wb hb_wc | exact after3 HB_wb hb_wc | exact after4 HB_wb hb_wc | exact after5 HB_wb hb_wc
  replace H1 := Lib.hid (H1.out.below hb_wc)
  replace H_n := Lib.hid (H_n.out.below hb_wc)
  replace HS := Lib.hid (HS.out.below HB_wc)
  clear HRN
  go_wp2_with fail
  go_loopw [5, 8] (fun u i wr => ∃ k : Nat, k ≤ l.length ∧ u = .bool true ∧ i = .int .i64 k ∧ Below w.heap.size w wr ∧ Hid (Below wc.heap.size wc wr)) (fun _ i _ => l.length - (intOf i).toNat)
  case atStart => exact ⟨0, by omega, rfl, rfl, HB_wc, Below.refl _ _⟩
  case round =>
    obtain ⟨k, hk, rfl, rfl, HB_wr, HBB⟩ := hrel
    by_cases hlt : k < l.length
    · obtain ⟨b', off, rfl, hb, hrow⟩ := (HS.out.below HBB.out).get hlt
      obtain ⟨e_0, e_1, e_2, e_3, e_4, e_5, e_6, e_7, e_8, e_9, e_10, e_11⟩ := (hrow k hlt).c12
      have f_0 := (H_n.out.below HBB.out).c8.2.1
      have HG := Lib.hid (HG1.out k hlt)
      have HFI := Lib.hid (show ∀ W, Below wr.heap.size wr W → Calls Try.prog 30 #[.slice o1 N.length c1, .int .i64 l[k].id] W (Ret W (eD (gt N l[k].id))) from fun W hW => rfind_any _ _ _ _ _ W ((H1.out.below HBB.out).below hW))
      clear hrow
      generalize l[k] = d at *
      by_cases hid : d.id = a1
      · obtain ⟨d0, told, ⟨d2, d3, d4, d5⟩, d6, drop, ⟨d8, d9, d10, d11⟩⟩ := d
        dsimp only at e_0 e_1 e_2 e_3 e_4 e_5 e_6 e_7 e_8 e_9 e_10 e_11 hid
        subst hid
        clear HFI HG
        go_wp2_with fail
        have y_e_0 := cell_regrown e_0
        have y_e_1 := cell_regrown e_1
        have y_e_2 := cell_regrown e_2
        have y_e_3 := cell_regrown e_3
        have y_e_4 := cell_regrown e_4
        have y_e_5 := cell_regrown e_5
        have y_e_6 := cell_regrown e_6
        have y_e_7 := cell_regrown e_7
        have y_e_8 := cell_regrown e_8
        have y_e_9 := cell_regrown e_9
        have y_e_10 := cell_regrown e_10
        have y_e_11 := cell_regrown e_11
        clear e_0 e_1 e_2 e_3 e_4 e_5 e_6 e_7 e_8 e_9 e_10 e_11
        have y_f_0 := cell_regrown f_0
        clear f_0
        refine wp_region_plan (C := fun w' => ∃ p : Regrown, w' = grow (redrawn wr p.d) p.os) (.q 0 (.q 1 (.q 2 (.q 3 (.q 4 (.q 5 (.q 6 (.q 7 (.q 8 (.q 9 (.q 10 (.q 11 (.q 12 (.q 13 (.q 14 (.q 15 (.q 16 (.q 18 (.q 19 (.q 20 (.q 21 (.e 17 (.q 22 (.q 23 (.q 24 (.q 25 (.done))))))))))))))))))))))))))) 26 (by kernel_rfl) (by kernel_rfl) (grew_drew _) ?_
        repeat (any_goals (first | (go_big_quiet_skip; refine wpQuiet_nil ?_) | (go_big_quiet_want; go_big_quiet_op; go_big_quiet_on; refine wpQuiet_nil ?_) | ((with_reducible apply q_split); exact rfl; intro q hq; cases q <;> (rw [hq]; (try first | replace hq := bnot_t hq | replace hq := bnot_f hq); (try first | replace hq := of_decide_eq_true hq | replace hq := of_decide_eq_false hq | replace hq := eq_of_beq hq); (try first | replace hq := Int.not_lt.1 hq | replace hq := Int.not_le.1 hq | replace hq := Nat.not_lt.1 hq | replace hq := Nat.not_le.1 hq); try (exfalso; omega))) | (refine plan_q rfl rfl ?_)))
        refine plan_e rfl ?_
        go_wp2_with fail
        refine MixPost.intro (by first | exact grew_drew _ | exact grew_of_below (by assumption)) ?_
        repeat (any_goals (first | (go_big_quiet_skip; refine wpQuiet_nil ?_) | (go_big_quiet_want; go_big_quiet_op; go_big_quiet_on; refine wpQuiet_nil ?_) | ((with_reducible apply q_split); exact rfl; intro q hq; cases q <;> (rw [hq]; (try first | replace hq := bnot_t hq | replace hq := bnot_f hq); (try first | replace hq := of_decide_eq_true hq | replace hq := of_decide_eq_false hq | replace hq := eq_of_beq hq); (try first | replace hq := Int.not_lt.1 hq | replace hq := Int.not_le.1 hq | replace hq := Nat.not_lt.1 hq | replace hq := Nat.not_le.1 hq); try (exfalso; omega))) | (refine plan_q rfl rfl ?_)))
        clear y_e_0 y_e_1 y_e_2 y_e_3 y_e_4 y_e_5 y_e_6 y_e_7 y_e_8 y_e_9 y_e_10 y_e_11
        clear y_f_0
        all_goals refine plan_done ?_
        all_goals (try simp only [List.drop_succ_cons, List.drop_zero])
        all_goals (try go_wp2_with fail)
        all_goals refine NoPanic.normal ?_
        all_goals (try go_wp2_with fail)
        go_roundw
        case rel => exact ⟨k + 1, hlt, rfl, by go_num, HB_wr.drew, HBB.out.drew⟩
        case measure => simp [intOf] <;> omega
      · rw [HG.out hid] at HFI
        have hid2 : (d.id == a1) = false := beq_eq_false_iff_ne.2 hid
        obtain ⟨d0, told, ⟨d2, d3, d4, d5⟩, d6, drop, ⟨d8, d9, d10, d11⟩⟩ := d
        dsimp only at e_0 e_1 e_2 e_3 e_4 e_5 e_6 e_7 e_8 e_9 e_10 e_11 hid hid2
        dsimp only [eD] at HFI
        have hq := eql_dg d0 d2 d3 d4 d5 d6 d8 d9 d10 d11 d0 d2 d3 d4 d5 d6 d8 d9 d10 d11 told drop told drop
        rw [decide_eq_true rfl] at hq
        clear HG hid
        go_wp2_with fail
        have y_e_0 := cell_regrown e_0
        have y_e_1 := cell_regrown e_1
        have y_e_2 := cell_regrown e_2
        have y_e_3 := cell_regrown e_3
        have y_e_4 := cell_regrown e_4
        have y_e_5 := cell_regrown e_5
        have y_e_6 := cell_regrown e_6
        have y_e_7 := cell_regrown e_7
        have y_e_8 := cell_regrown e_8
        have y_e_9 := cell_regrown e_9
        have y_e_10 := cell_regrown e_10
        have y_e_11 := cell_regrown e_11
        clear e_0 e_1 e_2 e_3 e_4 e_5 e_6 e_7 e_8 e_9 e_10 e_11
        have y_f_0 := cell_regrown f_0
        clear f_0
        refine wp_region_plan (C := fun w' => ∃ p : Regrown, w' = grow (redrawn wr p.d) p.os) (.q 0 (.q 1 (.q 2 (.q 3 (.q 4 (.q 5 (.q 6 (.q 7 (.q 8 (.q 9 (.q 10 (.q 11 (.q 12 (.q 13 (.q 14 (.q 15 (.q 16 (.q 18 (.q 19 (.q 20 (.q 21 (.e 17 (.q 22 (.q 23 (.q 24 (.q 25 (.done))))))))))))))))))))))))))) 26 (by kernel_rfl) (by kernel_rfl) (grew_drew _) ?_
        repeat (any_goals (first | (go_big_quiet_skip; refine wpQuiet_nil ?_) | (go_big_quiet_want; go_big_quiet_op; go_big_quiet_on; refine wpQuiet_nil ?_) | ((with_reducible apply q_split); exact rfl; intro q hq; cases q <;> (rw [hq]; (try first | replace hq := bnot_t hq | replace hq := bnot_f hq); (try first | replace hq := of_decide_eq_true hq | replace hq := of_decide_eq_false hq | replace hq := eq_of_beq hq); (try first | replace hq := Int.not_lt.1 hq | replace hq := Int.not_le.1 hq | replace hq := Nat.not_lt.1 hq | replace hq := Nat.not_le.1 hq); try (exfalso; omega))) | (refine plan_q rfl rfl ?_)))
        refine plan_e rfl ?_
        go_wp2_with fail
        refine (HFI.out _ below_drew).mono ?_
        rintro e w5 ⟨rfl, hb_w5⟩
        have HW_w5 : Below wr.heap.size wr w5 := below_undrew hb_w5
        clear hb_w5
        go_wp2_with fail
        refine MixPost.intro (grew_of_below HW_w5) ?_
        repeat (any_goals (first | (go_big_quiet_skip; refine wpQuiet_nil ?_) | (go_big_quiet_want; go_big_quiet_op; go_big_quiet_on; refine wpQuiet_nil ?_) | ((with_reducible apply q_split); exact rfl; intro q hq; cases q <;> (rw [hq]; (try first | replace hq := bnot_t hq | replace hq := bnot_f hq); (try first | replace hq := of_decide_eq_true hq | replace hq := of_decide_eq_false hq | replace hq := eq_of_beq hq); (try first | replace hq := Int.not_lt.1 hq | replace hq := Int.not_le.1 hq | replace hq := Nat.not_lt.1 hq | replace hq := Nat.not_le.1 hq); try (exfalso; omega))) | (refine plan_q rfl rfl ?_)))
        clear y_e_0 y_e_1 y_e_2 y_e_3 y_e_4 y_e_5 y_e_6 y_e_7 y_e_8 y_e_9 y_e_10 y_e_11
        clear y_f_0
        all_goals refine plan_done ?_
        all_goals (try simp only [List.drop_succ_cons, List.drop_zero])
        all_goals (try go_wp2_with fail)
        all_goals refine NoPanic.normal ?_
        all_goals (try go_wp2_with fail)
        have HB_w5 := after0 HB_wr HW_w5
        have HBB5 := HBB.out.trans (HW_w5.mono HBB.out.size)
        go_roundw
        case rel => exact ⟨k + 1, hlt, rfl, by go_num, HB_w5, HBB5⟩
        case measure => simp [intOf] <;> omega
    · obtain rfl : k = l.length := by omega
      go_wp2_with fail
      go_loopw [5, 9] (fun u i wr => ∃ k : Nat, k ≤ N.length ∧ u = .bool true ∧ i = .int .i64 k ∧ Below w.heap.size w wr ∧ Hid (Below wc.heap.size wc wr)) (fun _ i _ => N.length - (intOf i).toNat)
      case atStart => exact ⟨0, by omega, rfl, rfl, HB_wr, HBB.out⟩
      case round =>
        clear HBB
        obtain ⟨k, hk, rfl, rfl, HB_wr, HBB⟩ := hrel
        by_cases hlt : k < N.length
        · obtain ⟨b', off, rfl, hb, hrow⟩ := (H1.out.below HBB.out).get hlt
          obtain ⟨e_0, e_1, e_2, e_3, e_4, e_5, e_6, e_7, e_8, e_9, e_10, e_11⟩ := (hrow k hlt).c12
          have f_0 := (H_n.out.below HBB.out).c8.2.1
          have HG := Lib.hid (HG2.out k hlt)
          have HFI := Lib.hid (show ∀ W, Below wr.heap.size wr W → Calls Try.prog 30 #[.slice ao l.length cap, .int .i64 N[k].id] W (Ret W (eD (gt l N[k].id))) from fun W hW => rfind_any _ _ _ _ _ W ((HS.out.below HBB.out).below hW))
          clear hrow
          generalize N[k] = d at *
          by_cases hid : d.id = a1
          · obtain ⟨d0, told, ⟨d2, d3, d4, d5⟩, d6, drop, ⟨d8, d9, d10, d11⟩⟩ := d
            dsimp only at e_0 e_1 e_2 e_3 e_4 e_5 e_6 e_7 e_8 e_9 e_10 e_11 hid
            subst hid
            clear HFI HG
            go_wp2_with fail
            have y_e_0 := cell_regrown e_0
            have y_e_1 := cell_regrown e_1
            have y_e_2 := cell_regrown e_2
            have y_e_3 := cell_regrown e_3
            have y_e_4 := cell_regrown e_4
            have y_e_5 := cell_regrown e_5
            have y_e_6 := cell_regrown e_6
            have y_e_7 := cell_regrown e_7
            have y_e_8 := cell_regrown e_8
            have y_e_9 := cell_regrown e_9
            have y_e_10 := cell_regrown e_10
            have y_e_11 := cell_regrown e_11
            clear e_0 e_1 e_2 e_3 e_4 e_5 e_6 e_7 e_8 e_9 e_10 e_11
            have y_f_0 := cell_regrown f_0
            clear f_0
            refine wp_region_plan (C := fun w' => ∃ p : Regrown, w' = grow (redrawn wr p.d) p.os) (.q 0 (.q 1 (.q 2 (.q 3 (.q 4 (.q 5 (.q 6 (.q 7 (.q 8 (.q 9 (.q 10 (.q 11 (.q 12 (.q 13 (.q 14 (.q 15 (.q 16 (.q 18 (.q 19 (.q 20 (.q 21 (.e 17 (.q 22 (.q 23 (.q 24 (.q 25 (.done))))))))))))))))))))))))))) 26 (by kernel_rfl) (by kernel_rfl) (grew_drew _) ?_
            repeat (any_goals (first | (go_big_quiet_skip; refine wpQuiet_nil ?_) | (go_big_quiet_want; go_big_quiet_op; go_big_quiet_on; refine wpQuiet_nil ?_) | ((with_reducible apply q_split); exact rfl; intro q hq; cases q <;> (rw [hq]; (try first | replace hq := bnot_t hq | replace hq := bnot_f hq); (try first | replace hq := of_decide_eq_true hq | replace hq := of_decide_eq_false hq | replace hq := eq_of_beq hq); (try first | replace hq := Int.not_lt.1 hq | replace hq := Int.not_le.1 hq | replace hq := Nat.not_lt.1 hq | replace hq := Nat.not_le.1 hq); try (exfalso; omega))) | (refine plan_q rfl rfl ?_)))
            refine plan_e rfl ?_
            go_wp2_with fail
            refine MixPost.intro (by first | exact grew_drew _ | exact grew_of_below (by assumption)) ?_
            repeat (any_goals (first | (go_big_quiet_skip; refine wpQuiet_nil ?_) | (go_big_quiet_want; go_big_quiet_op; go_big_quiet_on; refine wpQuiet_nil ?_) | ((with_reducible apply q_split); exact rfl; intro q hq; cases q <;> (rw [hq]; (try first | replace hq := bnot_t hq | replace hq := bnot_f hq); (try first | replace hq := of_decide_eq_true hq | replace hq := of_decide_eq_false hq | replace hq := eq_of_beq hq); (try first | replace hq := Int.not_lt.1 hq | replace hq := Int.not_le.1 hq | replace hq := Nat.not_lt.1 hq | replace hq := Nat.not_le.1 hq); try (exfalso; omega))) | (refine plan_q rfl rfl ?_)))
            clear y_e_0 y_e_1 y_e_2 y_e_3 y_e_4 y_e_5 y_e_6 y_e_7 y_e_8 y_e_9 y_e_10 y_e_11
            clear y_f_0
            all_goals refine plan_done ?_
            all_goals (try simp only [List.drop_succ_cons, List.drop_zero])
            all_goals (try go_wp2_with fail)
            all_goals refine NoPanic.normal ?_
            all_goals (try go_wp2_with fail)
            go_roundw
            case rel => exact ⟨k + 1, hlt, rfl, by go_num, HB_wr.drew, HBB.out.drew⟩
            case measure => simp [intOf] <;> omega
          · rw [HG.out hid] at HFI
            have hid2 : (d.id == a1) = false := beq_eq_false_iff_ne.2 hid
            obtain ⟨d0, told, ⟨d2, d3, d4, d5⟩, d6, drop, ⟨d8, d9, d10, d11⟩⟩ := d
            dsimp only at e_0 e_1 e_2 e_3 e_4 e_5 e_6 e_7 e_8 e_9 e_10 e_11 hid hid2
            dsimp only [eD] at HFI
            have hq := eql_dg d0 d2 d3 d4 d5 d6 d8 d9 d10 d11 d0 d2 d3 d4 d5 d6 d8 d9 d10 d11 told drop told drop
            rw [decide_eq_true rfl] at hq
            clear HG hid
            go_wp2_with fail
            have y_e_0 := cell_regrown e_0
            have y_e_1 := cell_regrown e_1
            have y_e_2 := cell_regrown e_2
            have y_e_3 := cell_regrown e_3
            have y_e_4 := cell_regrown e_4
            have y_e_5 := cell_regrown e_5
            have y_e_6 := cell_regrown e_6
            have y_e_7 := cell_regrown e_7
            have y_e_8 := cell_regrown e_8
            have y_e_9 := cell_regrown e_9
            have y_e_10 := cell_regrown e_10
            have y_e_11 := cell_regrown e_11
            clear e_0 e_1 e_2 e_3 e_4 e_5 e_6 e_7 e_8 e_9 e_10 e_11
            have y_f_0 := cell_regrown f_0
            clear f_0
            refine wp_region_plan (C := fun w' => ∃ p : Regrown, w' = grow (redrawn wr p.d) p.os) (.q 0 (.q 1 (.q 2 (.q 3 (.q 4 (.q 5 (.q 6 (.q 7 (.q 8 (.q 9 (.q 10 (.q 11 (.q 12 (.q 13 (.q 14 (.q 15 (.q 16 (.q 18 (.q 19 (.q 20 (.q 21 (.e 17 (.q 22 (.q 23 (.q 24 (.q 25 (.done))))))))))))))))))))))))))) 26 (by kernel_rfl) (by kernel_rfl) (grew_drew _) ?_
            repeat (any_goals (first | (go_big_quiet_skip; refine wpQuiet_nil ?_) | (go_big_quiet_want; go_big_quiet_op; go_big_quiet_on; refine wpQuiet_nil ?_) | ((with_reducible apply q_split); exact rfl; intro q hq; cases q <;> (rw [hq]; (try first | replace hq := bnot_t hq | replace hq := bnot_f hq); (try first | replace hq := of_decide_eq_true hq | replace hq := of_decide_eq_false hq | replace hq := eq_of_beq hq); (try first | replace hq := Int.not_lt.1 hq | replace hq := Int.not_le.1 hq | replace hq := Nat.not_lt.1 hq | replace hq := Nat.not_le.1 hq); try (exfalso; omega))) | (refine plan_q rfl rfl ?_)))
            refine plan_e rfl ?_
            go_wp2_with fail
            refine (HFI.out _ below_drew).mono ?_
            rintro e w5 ⟨rfl, hb_w5⟩
            have HW_w5 : Below wr.heap.size wr w5 := below_undrew hb_w5
            clear hb_w5
            go_wp2_with fail
            refine MixPost.intro (grew_of_below HW_w5) ?_
            repeat (any_goals (first | (go_big_quiet_skip; refine wpQuiet_nil ?_) | (go_big_quiet_want; go_big_quiet_op; go_big_quiet_on; refine wpQuiet_nil ?_) | ((with_reducible apply q_split); exact rfl; intro q hq; cases q <;> (rw [hq]; (try first | replace hq := bnot_t hq | replace hq := bnot_f hq); (try first | replace hq := of_decide_eq_true hq | replace hq := of_decide_eq_false hq | replace hq := eq_of_beq hq); (try first | replace hq := Int.not_lt.1 hq | replace hq := Int.not_le.1 hq | replace hq := Nat.not_lt.1 hq | replace hq := Nat.not_le.1 hq); try (exfalso; omega))) | (refine plan_q rfl rfl ?_)))
            clear y_e_0 y_e_1 y_e_2 y_e_3 y_e_4 y_e_5 y_e_6 y_e_7 y_e_8 y_e_9 y_e_10 y_e_11
            clear y_f_0
            all_goals refine plan_done ?_
            all_goals (try simp only [List.drop_succ_cons, List.drop_zero])
            all_goals (try go_wp2_with fail)
            all_goals refine NoPanic.normal ?_
            all_goals (try go_wp2_with fail)
            have HB_w5 := after0 HB_wr HW_w5
            have HBB5 := HBB.out.trans (HW_w5.mono HBB.out.size)
            go_roundw
            case rel => exact ⟨k + 1, hlt, rfl, by go_num, HB_w5, HBB5⟩
            case measure => simp [intOf] <;> omega
        · obtain rfl : k = N.length := by omega
          have f_0 := (H_n.out.below HBB.out).c8.2.1
          have HF1 := Lib.hid (show ∀ W, Below wr.heap.size wr W → Calls Try.prog 30 #[.slice o1 N.length c1, .int .i64 a1] W (Ret W (eD (gt N a1))) from fun W hW => rfind_any _ _ _ _ _ W ((H1.out.below HBB.out).below hW))
          have HF2 := Lib.hid (show ∀ W, Below wr.heap.size wr W → Calls Try.prog 30 #[.slice ao l.length cap, .int .i64 a1] W (Ret W (eD (gt l a1))) from fun W hW => rfind_any _ _ _ _ _ W ((HS.out.below HBB.out).below hW))
          clear HG1 HG2
          generalize gt N a1 = p at *
          generalize gt l a1 = q at *
          obtain ⟨p0, p1, ⟨p2, p3, p4, p5⟩, p6, p7, ⟨p8, p9, p10, p11⟩⟩ := p
          obtain ⟨q0, q1, ⟨q2, q3, q4, q5⟩, q6, q7, ⟨q8, q9, q10, q11⟩⟩ := q
          have hq := neq_dg p0 p2 p3 p4 p5 p6 p8 p9 p10 p11 q0 q2 q3 q4 q5 q6 q8 q9 q10 q11 p1 p7 q1 q7
          rw [decide_eq_false HNE.out] at hq
          dsimp only [eD] at HF1 HF2
          clear HNE
          go_wp2_with fail
          have y_f_0 := cell_regrown f_0
          clear f_0
          refine wp_region_plan (C := fun w' => ∃ p : Regrown, w' = grow (redrawn wr p.d) p.os) (.q 0 (.q 1 (.q 2 (.q 3 (.q 4 (.q 6 (.q 7 (.q 8 (.e 5 (.e 9 (.q 10 (.q 11 (.q 12 (.done)))))))))))))) 13 (by kernel_rfl) (by kernel_rfl) (grew_drew _) ?_
          repeat (any_goals (first | (go_big_quiet_skip; refine wpQuiet_nil ?_) | (go_big_quiet_want; go_big_quiet_op; go_big_quiet_on; refine wpQuiet_nil ?_) | ((with_reducible apply q_split); exact rfl; intro q hq; cases q <;> (rw [hq]; (try first | replace hq := bnot_t hq | replace hq := bnot_f hq); (try first | replace hq := of_decide_eq_true hq | replace hq := of_decide_eq_false hq | replace hq := eq_of_beq hq); (try first | replace hq := Int.not_lt.1 hq | replace hq := Int.not_le.1 hq | replace hq := Nat.not_lt.1 hq | replace hq := Nat.not_le.1 hq); try (exfalso; omega))) | (refine plan_q rfl rfl ?_)))
          refine plan_e rfl ?_
          go_wp2_with fail
          refine (HF1.out _ below_drew).mono ?_
          rintro e w5 ⟨rfl, hb_w5⟩
          have HW_w5 : Below wr.heap.size wr w5 := below_undrew hb_w5
          clear hb_w5
          go_wp2_with fail
          refine MixPost.intro (grew_of_below HW_w5) ?_
          repeat (any_goals (first | (go_big_quiet_skip; refine wpQuiet_nil ?_) | (go_big_quiet_want; go_big_quiet_op; go_big_quiet_on; refine wpQuiet_nil ?_) | ((with_reducible apply q_split); exact rfl; intro q hq; cases q <;> (rw [hq]; (try first | replace hq := bnot_t hq | replace hq := bnot_f hq); (try first | replace hq := of_decide_eq_true hq | replace hq := of_decide_eq_false hq | replace hq := eq_of_beq hq); (try first | replace hq := Int.not_lt.1 hq | replace hq := Int.not_le.1 hq | replace hq := Nat.not_lt.1 hq | replace hq := Nat.not_le.1 hq); try (exfalso; omega))) | (refine plan_q rfl rfl ?_)))
          refine plan_e rfl ?_
          go_wp2_with fail
          refine (HF2.out _ HW_w5).mono ?_
          rintro e w6 ⟨rfl, hb_w6⟩
          have HW_w6 : Below wr.heap.size wr w6 := after0 HW_w5 hb_w6
          clear hb_w6
          go_wp2_with fail
          refine MixPost.intro (grew_of_below HW_w6) ?_
          repeat (any_goals (first | (go_big_quiet_skip; refine wpQuiet_nil ?_) | (go_big_quiet_want; go_big_quiet_op; go_big_quiet_on; refine wpQuiet_nil ?_) | ((with_reducible apply q_split); exact rfl; intro q hq; cases q <;> (rw [hq]; (try first | replace hq := bnot_t hq | replace hq := bnot_f hq); (try first | replace hq := of_decide_eq_true hq | replace hq := of_decide_eq_false hq | replace hq := eq_of_beq hq); (try first | replace hq := Int.not_lt.1 hq | replace hq := Int.not_le.1 hq | replace hq := Nat.not_lt.1 hq | replace hq := Nat.not_le.1 hq); try (exfalso; omega))) | (refine plan_q rfl rfl ?_)))
          clear y_f_0
          all_goals refine plan_done ?_
          all_goals (try simp only [List.drop_succ_cons, List.drop_zero])
          all_goals (try go_wp2_with fail)
          all_goals refine NoPanic.normal ?_
          all_goals (try go_wp2_with fail)
          have HB_w6 := after0 HB_wr HW_w6
          go_ret
          exact ⟨rfl, HB_w6⟩
end Go.Proofs.Ytmbnhlihcnbebaa
