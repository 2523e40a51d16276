/-
  The law EyesWithdrawn.
-/
import Derived.Test.YtmbnhlihcnbebaaEyQ
import Derived.Test.YtmbnhlihcnbebaaEyTw
set_option linter.unusedVariables false
namespace Go.Proofs.Ytmbnhlihcnbebaa
open Go Go.RowKit Ey Sk Go.Sort

set_option maxRecDepth 100000 in
set_option maxHeartbeats 8000000 in
theorem withdrawn_walk (hko : KeysOk) (ao : Option Addr) (n cap : Nat) (l : List Dg) (z p q x y : Int) (w : World) (hs : Sl w 12 cD ao n cap l) :
    Calls Try.prog 10 #[.slice ao n cap, .int .i64 z, .int .i64 p, .int .i64 q, .agg #[.int .i64 x, .int .i64 y]] w (Ret w (.bool true)) := by
  obtain rfl := hs.len
  have hle := hs.le
  have hcap := hs.max
  unfold maxLen at hcap
  have HS := Lib.hid hs
  have HKO := Lib.hid hko
  have HB_w : Below w.heap.size w w := Below.refl _ _
  clear hs hko
  obtain ⟨W0, hW0, HB_W0, hZ, hn⟩ := boxes1 w [.int .i64 x, .int .i64 y] 49
  have H_n := Lib.hid hn
  clear hn hZ
  obtain ⟨q_n_0, q_n_1⟩ := H_n.out.c2
  go_enter Try.func10, Try.ntmps10
  go_wp2_with fail
  refine (head_any HKO.out _).mono ?_
  rintro e wa ⟨rfl, hb_wa⟩
  have HB_wa : Below w.heap.size w wa := by first | exact after0 HB_W0 hb_wa | exact after1 HB_W0 hb_wa | exact after2 HB_W0 hb_wa | exact after3 HB_W0 hb_wa | exact after4 HB_W0 hb_wa | exact after5 HB_W0 hb_wa
  try clear q_n_0 q_n_1
  have H_n := Lib.hid (Box.below (by first | exact H_n.out | exact H_n.out.alloc _ | exact (H_n.out.alloc _).alloc _ | exact ((H_n.out.alloc _).alloc _).alloc _) hb_wa)
  obtain ⟨q_n_0, q_n_1⟩ := H_n.out.c2
  clear hW0
  by_cases hl : 300 < (l.length : Int)
  ·
    go_wp2_with fail
    all_goals try (exfalso; omega)
    go_ret
    exact ⟨rfl, HB_wa⟩
  replace hl := Int.not_lt.1 hl
  have HTO := Lib.hid (told_any _ _ _ l x y _ (HS.out.below HB_wa))
  rcases @toldR_zero l x y with hz | ⟨hst, hbx, hz⟩
  · rw [hz] at HTO
    go_wp2_with fail
    all_goals try (exfalso; omega)
    refine (HTO.out).mono ?_
    rintro e wb ⟨o1, c1, rfl, hs1, hb_wb⟩
    have HB_wb : Below w.heap.size w wb := by first | exact after0 HB_wa hb_wb | exact after1 HB_wa hb_wb | exact after2 HB_wa hb_wb | exact after3 HB_wa hb_wb | exact after4 HB_wa hb_wb | exact after5 HB_wa hb_wb
    go_wp2_with fail
    all_goals try (exfalso; omega)
    go_ret
    exact ⟨rfl, HB_wb⟩
  rw [hz] at HTO
  have HWD := Lib.hid (@withdrawn l z p q x y hbx)
  have HST := Lib.hid hst
  clear hz hbx hst
  go_wp2_with fail
  all_goals try (exfalso; omega)
  refine (HTO.out).mono ?_
  rintro e wb ⟨o1, c1, rfl, hs1, hb_wb⟩
  have HB_wb : Below w.heap.size w wb := by first | exact after0 HB_wa hb_wb | exact after1 HB_wa hb_wb | exact after2 HB_wa hb_wb | exact after3 HB_wa hb_wb | exact after4 HB_wa hb_wb | exact after5 HB_wa hb_wb
  try clear q_n_0 q_n_1
  have H_n := Lib.hid (Box.below (by first | exact H_n.out | exact H_n.out.alloc _ | exact (H_n.out.alloc _).alloc _ | exact ((H_n.out.alloc _).alloc _).alloc _) hb_wb)
  obtain ⟨q_n_0, q_n_1⟩ := H_n.out.c2
  have H1 := Lib.hid hs1
  have h1l := hs1.max
  have h1m := hs1.le
  dsimp only at H1 h1m
  have HTL := Lib.hid (toldF_len l x y)
  have HTD := Lib.hid (told_dl (stateB_iff.1 HST.out).2 z x y)
  have HTA := Lib.hid (fun k => @told_at l x y k)
  have HTN := Lib.hid (fun k => @told_len_no l x y k)
  have hsnd := Lib.hid (stateB_iff.1 HST.out).1
  unfold maxLen at h1l
  clear hs1 HTO
  dsimp only
  have HT0 := Lib.hid (show toldF l x y = toldF l x y from rfl)
  generalize hT : toldF l x y = T at *
  have HT := Lib.hid hT
  clear hT HT0
  go_wp2_with fail
  all_goals try (exfalso; omega)
  go_loopw [11, 14, 15] (fun u c i wr => ∃ k : Nat, k ≤ l.length ∧ u = .bool true ∧ c = .int .i64 ((toldF (l.take k) x y).length) ∧ i = .int .i64 k ∧ Below w.heap.size w wr ∧ Hid (Below wb.heap.size wb wr)) (fun _ _ i _ => l.length - (intOf i).toNat)
  case atStart => exact ⟨0, by omega, rfl, rfl, rfl, HB_wb, Below.refl _ _⟩
  case round =>
    obtain ⟨k, hk, rfl, rfl, rfl, HB_wr, HBB⟩ := hrel
    replace H_n := Lib.hid (H_n.out.below HBB.out)
    replace H1 := Lib.hid (H1.out.below HBB.out)
    by_cases hlt : k < l.length
    · obtain ⟨b', off, rfl, hb, hrow⟩ := HS.out.get hlt
      obtain ⟨e_0, e_1, e_2, e_3, e_4, e_5, e_6, e_7, e_8, e_9, e_10, e_11⟩ := ((hrow k hlt).below HB_wr hb).c12
      have HYES := Lib.hid (HTA.out k hlt)
      have HNO := Lib.hid (HTN.out k hlt)
      have hnl := toldF_len (l.take k) x y
      rw [List.length_take] at hnl
      have hsd := hsnd.out _ (List.getElem_mem hlt)
      have HSD := Lib.hid (sound_told hsd)
      clear hrow hsd
      generalize l[k] = d at *
      generalize (toldF (l.take k) x y).length = c at *
      replace hnl : c ≤ 300 := by omega
      obtain ⟨d0, told, ⟨d2, d3, d4, d5⟩, d6, drop, ⟨d8, d9, d10, d11⟩⟩ := d
      dsimp only at e_0 e_1 e_2 e_3 e_4 e_5 e_6 e_7 e_8 e_9 e_10 e_11 HYES HNO HSD
      obtain ⟨R, hR⟩ : ∃ R, wr.heap.size = R := ⟨_, rfl⟩
      obtain ⟨W1, hW1, hB1, hZ1, hb1⟩ := boxes1 wr [.int .i64 d0, .bool told, .int .i64 d2, .int .i64 d3, .int .i64 d4, .int .i64 d5, .int .i64 d6, .bool drop, .int .i64 d8, .int .i64 d9, .int .i64 d10, .int .i64 d11] 33
      rw [hR] at hb1
      have H_s := Lib.hid hb1
      have HB_W1 : Below w.heap.size w W1 := after0 HB_wr hB1
      replace HBB := Lib.hid (HBB.out.trans (hB1.mono HBB.out.size))
      replace H_n := Lib.hid (H_n.out.below hB1)
      replace H1 := Lib.hid (H1.out.below hB1)
      clear hb1 hB1 hZ1
      obtain ⟨q0, q1⟩ := H_n.out.c2
      obtain ⟨s0, s1, s2, s3, s4, s5, -, -, -, -, -, -⟩ := H_s.out.c12
      cases told
      ·
        have HNX := Lib.hid (HNO.out (.inr rfl))
        have hnc := HNX.out
        clear HNO HYES
        go_wp2_with fail
        all_goals try (exfalso; omega)
        go_roundw
        case rel => exact ⟨k + 1, hlt, rfl, by rw [HNX.out], by go_num, HB_W1, HBB.out⟩
        case measure => simp [intOf] <;> omega
      by_cases k1 : d2 ≤ x
      case neg =>
        have HNX := Lib.hid (HNO.out (.inl (inB_no (fun h => k1 h.1))))
        have hnc := HNX.out
        clear HNO HYES
        go_wp2_with fail
        all_goals try (exfalso; omega)
        go_roundw
        case rel => exact ⟨k + 1, hlt, rfl, by rw [HNX.out], by go_num, HB_W1, HBB.out⟩
        case measure => simp [intOf] <;> omega
      by_cases k2 : x ≤ d3
      case neg =>
        have HNX := Lib.hid (HNO.out (.inl (inB_no (fun h => k2 h.2.1))))
        have hnc := HNX.out
        clear HNO HYES
        go_wp2_with fail
        all_goals try (exfalso; omega)
        go_roundw
        case rel => exact ⟨k + 1, hlt, rfl, by rw [HNX.out], by go_num, HB_W1, HBB.out⟩
        case measure => simp [intOf] <;> omega
      by_cases k3 : d4 ≤ y
      case neg =>
        have HNX := Lib.hid (HNO.out (.inl (inB_no (fun h => k3 h.2.2.1))))
        have hnc := HNX.out
        clear HNO HYES
        go_wp2_with fail
        all_goals try (exfalso; omega)
        go_roundw
        case rel => exact ⟨k + 1, hlt, rfl, by rw [HNX.out], by go_num, HB_W1, HBB.out⟩
        case measure => simp [intOf] <;> omega
      by_cases k4 : y ≤ d5
      case neg =>
        have HNX := Lib.hid (HNO.out (.inl (inB_no (fun h => k4 h.2.2.2))))
        have hnc := HNX.out
        clear HNO HYES
        go_wp2_with fail
        all_goals try (exfalso; omega)
        go_roundw
        case rel => exact ⟨k + 1, hlt, rfl, by rw [HNX.out], by go_num, HB_W1, HBB.out⟩
        case measure => simp [intOf] <;> omega
      obtain ⟨g1, g2, g3⟩ := HYES.out (inB_yes (HSD.out rfl) k1 k2 k3 k4) rfl
      clear HNO HYES
      go_wp2_with fail
      all_goals try (exfalso; omega)
      obtain ⟨b2, off2, rfl, hb2, hrow2⟩ := H1.out.get g2
      have f_0 := (hrow2 c g2).c1
      rw [Nat.mul_one, (List.getElem?_eq_some_iff.1 g1).2] at f_0
      have f_1 := s0
      clear hrow2 g1 q0 q1 s0 s1 s2 s3 s4 s5 hW1 hR e_0 e_1 e_2 e_3 e_4 e_5 e_6 e_7 e_8 e_9 e_10 e_11 HSD k1 k2 k3 k4
      have y_f_0 := cell_regrown f_0
      have y_f_1 := cell_regrown f_1
      clear f_0 f_1
      refine wp_region_plan (C := fun w' => ∃ p : Regrown, w' = grow (redrawn W1 p.d) p.os) (.q 0 (.q 1 (.q 2 (.q 3 (.q 4 (.q 5 (.q 6 (.q 7 (.q 8 (.q 9 (.q 10 (.q 11 (.q 12 (.q 13 (.q 14 (.q 15 (.q 16 (.q 17 (.q 18 (.q 19 (.q 20 (.q 21 (.done))))))))))))))))))))))) 22 (by kernel_rfl) (by kernel_rfl) (grew_drew _) ?_
      repeat (any_goals (first | (go_big_quiet_skip; refine wpQuiet_nil ?_) | (go_big_quiet_want; go_big_quiet_op; go_big_quiet_on; refine wpQuiet_nil ?_) | ((with_reducible apply q_split); exact rfl; intro q hq; cases q <;> (rw [hq]; (try first | replace hq := bnot_t hq | replace hq := bnot_f hq); (try first | replace hq := of_decide_eq_true hq | replace hq := of_decide_eq_false hq | replace hq := eq_of_beq hq); (try first | replace hq := Int.not_lt.1 hq | replace hq := Int.not_le.1 hq | replace hq := Nat.not_lt.1 hq | replace hq := Nat.not_le.1 hq); try (exfalso; omega))) | (refine plan_q rfl rfl ?_)))
      clear y_f_0 y_f_1
      all_goals refine plan_done ?_
      all_goals (try simp only [List.drop_succ_cons, List.drop_zero])
      all_goals (try go_wp2_with fail)
      all_goals refine NoPanic.normal ?_
      all_goals (try go_wp2_with fail)
      all_goals
        go_roundw
        case rel => exact ⟨k + 1, hlt, rfl, by rw [g3]; go_num, by go_num, HB_W1.drew, HBB.out.drew⟩
        case measure => simp [intOf] <;> omega
    · obtain rfl : k = l.length := by omega
      rw [List.take_length, HT.out]
      have HT1 := HTL.out
      have HTD2 := HTD.out
      obtain ⟨r1, hr1⟩ : ∃ r, doR l (acW 2 z p) = r := ⟨_, rfl⟩
      have HD1 := Lib.hid (do_any HKO.out _ _ _ l (acW 2 z p) _ (HS.out.below HB_wr))
      rw [hr1] at HD1 HWD
      obtain ⟨L1, e1⟩ := r1
      dsimp only at HWD
      clear HTA HTN HTL HTD hsnd hr1 HT HST
      go_wp2_with fail
      all_goals try (exfalso; omega)
      refine (HD1.out).mono ?_
      rintro e wc ⟨o2, n2, c2, rfl, hs2, hb_wc⟩
      have HB_wc : Below w.heap.size w wc := by first | exact after0 HB_wr hb_wc | exact after1 HB_wr hb_wc | exact after2 HB_wr hb_wc | exact after3 HB_wr hb_wc | exact after4 HB_wr hb_wc | exact after5 HB_wr hb_wc
      try clear q_n_0 q_n_1
      have H_n := Lib.hid (Box.below (by first | exact H_n.out | exact H_n.out.alloc _ | exact (H_n.out.alloc _).alloc _ | exact ((H_n.out.alloc _).alloc _).alloc _) hb_wc)
      obtain ⟨q_n_0, q_n_1⟩ := H_n.out.c2
      have H2 := Lib.hid hs2
      clear hs2 HD1
      by_cases he1 : e1 = 0
      case neg =>
        have he2 : (e1 == 0) = false := beq_eq_false_iff_ne.2 he1
        clear he1
        go_wp2_with fail
        all_goals try (exfalso; omega)
        go_ret
        exact ⟨rfl, HB_wc⟩
      replace HWD := Lib.hid (HWD.out he1)
      subst he1
      obtain ⟨r2, hr2⟩ : ∃ r, doR L1 (acW 3 z q) = r := ⟨_, rfl⟩
      have HD2 := Lib.hid (do_any HKO.out _ _ _ L1 (acW 3 z q) _ H2.out)
      rw [hr2] at HD2 HWD
      obtain ⟨L2, e2⟩ := r2
      dsimp only at HWD
      clear hr2
      go_wp2_with fail
      refine (HD2.out).mono ?_
      rintro e wd ⟨o3, n3, c3, rfl, hs3, hb_wd⟩
      have HB_wd : Below w.heap.size w wd := by first | exact after0 HB_wc hb_wd | exact after1 HB_wc hb_wd | exact after2 HB_wc hb_wd | exact after3 HB_wc hb_wd | exact after4 HB_wc hb_wd | exact after5 HB_wc hb_wd
      try clear q_n_0 q_n_1
      have H_n := Lib.hid (Box.below (by first | exact H_n.out | exact H_n.out.alloc _ | exact (H_n.out.alloc _).alloc _ | exact ((H_n.out.alloc _).alloc _).alloc _) hb_wd)
      obtain ⟨q_n_0, q_n_1⟩ := H_n.out.c2
      have H3 := Lib.hid hs3
      dsimp only at H3
      clear hs3 HD2
      rcases HWD.out with ⟨-, ⟨rfl, rfl⟩ | rfl⟩ | ⟨rfl, hpq, htl⟩
      ·
        go_wp2_with fail
        all_goals try (exfalso; omega)
        go_ret
        exact ⟨rfl, HB_wd⟩
      ·
        go_wp2_with fail
        all_goals try (exfalso; omega)
        go_ret
        exact ⟨rfl, HB_wd⟩
      have HTO2 := Lib.hid (told_any _ _ _ L2 x y _ H3.out)
      rw [htl] at HTO2
      have HNZ := Lib.hid (@told_not l z x y)
      have hpq2 : (p != q) = true := bne_iff_ne.2 hpq
      clear htl hpq HWD
      go_wp2_with fail
      refine (HTO2.out).mono ?_
      rintro e we ⟨o4, c4, rfl, hs4, hb_we⟩
      have HB_we : Below w.heap.size w we := by first | exact after0 HB_wd hb_we | exact after1 HB_wd hb_we | exact after2 HB_wd hb_we | exact after3 HB_wd hb_we | exact after4 HB_wd hb_we | exact after5 HB_wd hb_we
      have H4 := Lib.hid hs4
      have h4l := hs4.max
      have h4m := hs4.le
      dsimp only at H4 h4m
      unfold maxLen at h4l
      clear hs4 HTO2
      dsimp only
      generalize toldF (dl l z) x y = T2 at *
      go_wp2_with fail
      go_loopw [11, 24] (fun u i wr => ∃ k : Nat, k ≤ T2.length ∧ u = .bool true ∧ i = .int .i64 k ∧ Below w.heap.size w wr ∧ Hid (Below we.heap.size we wr)) (fun _ i _ => T2.length - (intOf i).toNat)
      case atStart => exact ⟨0, by omega, rfl, rfl, HB_we, Below.refl _ _⟩
      case round =>
        obtain ⟨k, hk, rfl, rfl, HB_wr, HBB2⟩ := hrel
        by_cases hlt2 : k < T2.length
        · obtain ⟨b', off, rfl, hb, hrow⟩ := (H4.out.below HBB2.out).get hlt2
          have e_0 := (hrow k hlt2).c1
          rw [Nat.mul_one] at e_0
          have hnz : (T2[k] != z) = true := bne_iff_ne.2 (HNZ.out _ (List.getElem_mem hlt2))
          clear hrow
          generalize T2[k] = v at *
          go_wp2_with fail
          all_goals try (exfalso; omega)
          go_roundw
          case rel => exact ⟨k + 1, hlt2, rfl, by go_num, HB_wr, HBB2.out⟩
          case measure => simp [intOf] <;> omega
        · obtain rfl : k = T2.length := by omega
          go_wp2_with fail
          all_goals try (exfalso; omega)
          go_ret
          exact ⟨ret_bool' (decide_eq_true (by omega)), HB_wr⟩
end Go.Proofs.Ytmbnhlihcnbebaa
