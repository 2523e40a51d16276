/-
  Walks of the reference of the layer 'eyes': Do.
-/
import Derived.Test.YtmbnhlihcnbebaaEyRD
import Derived.Test.YtmbnhlihcnbebaaApart
set_option linter.unusedVariables false
namespace Go.Proofs.Ytmbnhlihcnbebaa
open Go Go.RowKit Ey Sk Go.Sort
def DgsO (w : World) (p : List Dg × Int) (e : Ending) (w' : World) : Prop := ∃ v, e = .returned (.tuple #[v, .int .i64 p.2]) ∧ OwnL w' w.heap.size 33 12 cD v p.1 ∧ Below w.heap.size w w'


set_option maxRecDepth 100000 in
set_option maxHeartbeats 8000000 in
theorem rdo_own (ao : Option Addr) (n cap : Nat) (l : List Dg) (a : Ac) (w : World) (hs : Sl w 12 cD ao n cap l) : Calls Try.prog 21 #[.slice ao n cap, eA a] w (DgsO w (doR l a)) := by
  obtain rfl := hs.len
  have HS := Lib.hid hs
  have HBAD := Lib.hid (@doR_bad l a)
  have HREF := Lib.hid (@doR_ref l a)
  have HRS := Lib.hid (fun W hW => rstate_any ao l.length cap l W (HS.out.below hW))
  have HRA := Lib.hid (fun W => ract_any a W)
  unfold DgsO
  generalize doR l a = r at *
  cases h1 : stateB l with
  | false =>
    have HP := Lib.hid (HBAD.out (.inl h1))
    rw [h1] at HRS
    clear HBAD HREF h1
    generalize validA a = va at *
    obtain ⟨a0, a1, a2, a3, ⟨a4, a5, a6, a7⟩⟩ := a
    dsimp only [eA] at HRA ⊢
    obtain ⟨W0, hW0, HB_W0, hZ, hn⟩ := boxes1 w [.int .i64 a0, .int .i64 a1, .int .i64 a2, .int .i64 a3, .int .i64 a4, .int .i64 a5, .int .i64 a6, .int .i64 a7] 37
    have H_n := Lib.hid hn
    clear hn hZ
    go_enter Try.func21, Try.ntmps21
    go_wp2_with fail
    refine (HRS.out _ HB_W0).mono ?_
    rintro e wa ⟨rfl, hb_wa⟩
    have HB_wa : Below w.heap.size w wa := by first | exact after0 HB_W0 hb_wa | exact after1 HB_W0 hb_wa | exact after2 HB_W0 hb_wa | exact after3 HB_W0 hb_wa | exact after4 HB_W0 hb_wa | exact after5 HB_W0 hb_wa
    try clear q_n_0 q_n_1 q_n_2 q_n_3 q_n_4 q_n_5 q_n_6 q_n_7
    have H_n := Lib.hid (Box.below (by first | exact H_n.out | exact H_n.out.alloc _ | exact (H_n.out.alloc _).alloc _ | exact ((H_n.out.alloc _).alloc _).alloc _) hb_wa)
    obtain ⟨q_n_0, q_n_1, q_n_2, q_n_3, q_n_4, q_n_5, q_n_6, q_n_7⟩ := H_n.out.c8
    clear hW0
    go_wp2_with fail
    refine (HRA.out _).mono ?_
    rintro e wb ⟨rfl, hb_wb⟩
    have HB_wb : Below w.heap.size w wb := by first | exact after0 HB_wa hb_wb | exact after1 HB_wa hb_wb | exact after2 HB_wa hb_wb | exact after3 HB_wa hb_wb | exact after4 HB_wa hb_wb | exact after5 HB_wa hb_wb
    go_wp2_with fail
    all_goals try (exfalso; omega)
    go_ret2
    exact ⟨.slice none 0 0, by rw [HP.out]; rfl, by rw [HP.out]; exact OwnL.nil, HB_wb⟩
  | true =>
  rw [h1] at HRS
  have hlen := state_len h1
  cases h2 : validA a with
  | false =>
    have HP := Lib.hid (HBAD.out (.inr h2))
    rw [h2] at HRA
    clear HBAD HREF h1 h2
    obtain ⟨a0, a1, a2, a3, ⟨a4, a5, a6, a7⟩⟩ := a
    dsimp only [eA] at HRA ⊢
    obtain ⟨W0, hW0, HB_W0, hZ, hn⟩ := boxes1 w [.int .i64 a0, .int .i64 a1, .int .i64 a2, .int .i64 a3, .int .i64 a4, .int .i64 a5, .int .i64 a6, .int .i64 a7] 37
    have H_n := Lib.hid hn
    clear hn hZ
    go_enter Try.func21, Try.ntmps21
    go_wp2_with fail
    refine (HRS.out _ HB_W0).mono ?_
    rintro e wa ⟨rfl, hb_wa⟩
    have HB_wa : Below w.heap.size w wa := by first | exact after0 HB_W0 hb_wa | exact after1 HB_W0 hb_wa | exact after2 HB_W0 hb_wa | exact after3 HB_W0 hb_wa | exact after4 HB_W0 hb_wa | exact after5 HB_W0 hb_wa
    try clear q_n_0 q_n_1 q_n_2 q_n_3 q_n_4 q_n_5 q_n_6 q_n_7
    have H_n := Lib.hid (Box.below (by first | exact H_n.out | exact H_n.out.alloc _ | exact (H_n.out.alloc _).alloc _ | exact ((H_n.out.alloc _).alloc _).alloc _) hb_wa)
    obtain ⟨q_n_0, q_n_1, q_n_2, q_n_3, q_n_4, q_n_5, q_n_6, q_n_7⟩ := H_n.out.c8
    clear hW0
    go_wp2_with fail
    refine (HRA.out _).mono ?_
    rintro e wb ⟨rfl, hb_wb⟩
    have HB_wb : Below w.heap.size w wb := by first | exact after0 HB_wa hb_wb | exact after1 HB_wa hb_wb | exact after2 HB_wa hb_wb | exact after3 HB_wa hb_wb | exact after4 HB_wa hb_wb | exact after5 HB_wa hb_wb
    go_wp2_with fail
    all_goals try (exfalso; omega)
    go_ret2
    exact ⟨.slice none 0 0, by rw [HP.out]; rfl, by rw [HP.out]; exact OwnL.nil, HB_wb⟩
  | true =>
  rw [h2] at HRA
  have HP := Lib.hid (HREF.out h1 h2)
  have HEF := Lib.hid (fun W => reffect_any (gt l a.danger) a W h2 (fine_gt h1 _))
  have HFI0 := Lib.hid (fun W hW => rfind_any ao l.length cap l a.danger W (HS.out.below hW))
  clear HBAD HREF h1 h2
  generalize rEff (gt l a.danger) a = pq at *
  generalize gt l a.danger = g at *
  obtain ⟨⟨p0, p1, ⟨p2, p3, p4, p5⟩, p6, p7, ⟨p8, p9, p10, p11⟩⟩, q⟩ := pq
  obtain ⟨g0, g1, ⟨g2, g3, g4, g5⟩, g6, g7, ⟨g8, g9, g10, g11⟩⟩ := g
  obtain ⟨a0, a1, a2, a3, ⟨a4, a5, a6, a7⟩⟩ := a
  dsimp only [eA, eD, eE] at HRA HEF HFI0 HP ⊢
  obtain ⟨W0, hW0, HB_W0, hZ, hn⟩ := boxes1 w [.int .i64 a0, .int .i64 a1, .int .i64 a2, .int .i64 a3, .int .i64 a4, .int .i64 a5, .int .i64 a6, .int .i64 a7] 37
  have H_n := Lib.hid hn
  clear hn hZ
  go_enter Try.func21, Try.ntmps21
  go_wp2_with fail
  refine (HRS.out _ HB_W0).mono ?_
  rintro e wa ⟨rfl, hb_wa⟩
  have HB_wa : Below w.heap.size w wa := by first | exact after0 HB_W0 hb_wa | exact after1 HB_W0 hb_wa | exact after2 HB_W0 hb_wa | exact after3 HB_W0 hb_wa | exact after4 HB_W0 hb_wa | exact after5 HB_W0 hb_wa
  try clear q_n_0 q_n_1 q_n_2 q_n_3 q_n_4 q_n_5 q_n_6 q_n_7
  have H_n := Lib.hid (Box.below (by first | exact H_n.out | exact H_n.out.alloc _ | exact (H_n.out.alloc _).alloc _ | exact ((H_n.out.alloc _).alloc _).alloc _) hb_wa)
  obtain ⟨q_n_0, q_n_1, q_n_2, q_n_3, q_n_4, q_n_5, q_n_6, q_n_7⟩ := H_n.out.c8
  clear hW0
  go_wp2_with fail
  refine (HRA.out _).mono ?_
  rintro e wb ⟨rfl, hb_wb⟩
  have HB_wb : Below w.heap.size w wb := by first | exact after0 HB_wa hb_wb | exact after1 HB_wa hb_wb | exact after2 HB_wa hb_wb | exact after3 HB_wa hb_wb | exact after4 HB_wa hb_wb | exact after5 HB_wa hb_wb
  replace H_n := Lib.hid (H_n.out.below hb_wb)
  have HFI := Lib.hid (fun W (hW : Below wb.heap.size wb W) => HFI0.out W (after0 HB_wb hW))
  clear HFI0 HRS HRA q_n_0 q_n_1 q_n_2 q_n_3 q_n_4 q_n_5 q_n_6 q_n_7
  go_wp2_with fail
  obtain ⟨n_0, n_1, n_2, n_3, n_4, n_5, n_6, n_7⟩ := H_n.out.c8
  have y_n_0 := cell_regrown n_0
  have y_n_1 := cell_regrown n_1
  have y_n_2 := cell_regrown n_2
  have y_n_3 := cell_regrown n_3
  have y_n_4 := cell_regrown n_4
  have y_n_5 := cell_regrown n_5
  have y_n_6 := cell_regrown n_6
  have y_n_7 := cell_regrown n_7
  clear n_0 n_1 n_2 n_3 n_4 n_5 n_6 n_7
  refine wp_region_plan (C := fun w' => ∃ p : Regrown, w' = grow (redrawn wb p.d) p.os) (.q 0 (.q 1 (.q 2 (.q 4 (.two 3 (.two 5 (.q 6 (.q 7 (.q 8 (.e 9 (.e 10 (.q 11 (.done))))))) 9 (.e 5 (.q 6 (.q 7 (.q 8 (.e 10 (.q 11 (.done)))))))) 9 (.e 3 (.e 5 (.q 6 (.q 7 (.q 8 (.e 10 (.q 11 (.done))))))))))))) 12 (by kernel_rfl) (by kernel_rfl) (grew_drew _) ?_
  repeat (any_goals (first | (go_big_quiet_skip; refine wpQuiet_nil ?_) | (go_big_quiet_want; go_big_quiet_op; go_big_quiet_on; refine wpQuiet_nil ?_) | ((with_reducible apply q_split); exact rfl; intro q hq; cases q <;> (rw [hq]; (try first | replace hq := bnot_t hq | replace hq := bnot_f hq); (try first | replace hq := of_decide_eq_true hq | replace hq := of_decide_eq_false hq | replace hq := eq_of_beq hq); (try first | replace hq := Int.not_lt.1 hq | replace hq := Int.not_le.1 hq | replace hq := Nat.not_lt.1 hq | replace hq := Nat.not_le.1 hq); try (exfalso; omega))) | (refine plan_q rfl rfl ?_)))
  obtain ⟨V, hV⟩ : ∃ V, wb.drew = V := ⟨_, rfl⟩
  rw [show { heap := wb.heap, tape := wb.tape, drawn := wb.drawn + 1, os := wb.os, output := wb.output } = V from hV]
  have HW_V : Below wb.heap.size wb V := hV ▸ below_drew
  clear hV
  refine plan_two rfl rfl ?_ ?_
  ·
    go_wp2_with fail
    refine (HFI.out _ HW_V).mono ?_
    rintro e w1 ⟨rfl, hb_w1⟩
    have HW_1 := HW_V.trans (hb_w1.mono HW_V.size)
    go_wp2_with fail
    refine MixPost.intro (grew_of_below HW_1) ?_
    repeat (any_goals (first | (go_big_quiet_skip; refine wpQuiet_nil ?_) | (go_big_quiet_want; go_big_quiet_op; go_big_quiet_on; refine wpQuiet_nil ?_) | ((with_reducible apply q_split); exact rfl; intro q hq; cases q <;> (rw [hq]; (try first | replace hq := bnot_t hq | replace hq := bnot_f hq); (try first | replace hq := of_decide_eq_true hq | replace hq := of_decide_eq_false hq | replace hq := eq_of_beq hq); (try first | replace hq := Int.not_lt.1 hq | replace hq := Int.not_le.1 hq | replace hq := Nat.not_lt.1 hq | replace hq := Nat.not_le.1 hq); try (exfalso; omega))) | (refine plan_q rfl rfl ?_)))
    refine plan_two rfl rfl ?_ ?_
    ·
      go_wp2_with fail
      refine (HEF.out _).mono ?_
      rintro e w2 ⟨rfl, hb_w2⟩
      have HW_2 := HW_1.trans (hb_w2.mono HW_1.size)
      go_wp2_with fail
      refine MixPost.intro (grew_of_below HW_2) ?_
      repeat (any_goals (first | (go_big_quiet_skip; refine wpQuiet_nil ?_) | (go_big_quiet_want; go_big_quiet_op; go_big_quiet_on; refine wpQuiet_nil ?_) | ((with_reducible apply q_split); exact rfl; intro q hq; cases q <;> (rw [hq]; (try first | replace hq := bnot_t hq | replace hq := bnot_f hq); (try first | replace hq := of_decide_eq_true hq | replace hq := of_decide_eq_false hq | replace hq := eq_of_beq hq); (try first | replace hq := Int.not_lt.1 hq | replace hq := Int.not_le.1 hq | replace hq := Nat.not_lt.1 hq | replace hq := Nat.not_le.1 hq); try (exfalso; omega))) | (refine plan_q rfl rfl ?_)))
      refine plan_e rfl ?_
      obtain ⟨W3, hW3, hB3, hZ3, hb3⟩ := boxes1 w2 (cD dg0) 33
      dsimp only [cD, dg0, bx0] at hW3 hb3
      have HW_3 := HW_2.trans (hB3.mono HW_2.size)
      have HGZ := Lib.hid hb3
      have hGle := HW_2.size
      clear hB3 hZ3 hb3
      go_wp2_with fail
      clear hW3
      refine MixPost.intro (grew_of_below HW_3) ?_
      repeat (any_goals (first | (go_big_quiet_skip; refine wpQuiet_nil ?_) | (go_big_quiet_want; go_big_quiet_op; go_big_quiet_on; refine wpQuiet_nil ?_) | ((with_reducible apply q_split); exact rfl; intro q hq; cases q <;> (rw [hq]; (try first | replace hq := bnot_t hq | replace hq := bnot_f hq); (try first | replace hq := of_decide_eq_true hq | replace hq := of_decide_eq_false hq | replace hq := eq_of_beq hq); (try first | replace hq := Int.not_lt.1 hq | replace hq := Int.not_le.1 hq | replace hq := Nat.not_lt.1 hq | replace hq := Nat.not_le.1 hq); try (exfalso; omega))) | (refine plan_q rfl rfl ?_)))
      refine plan_e rfl ?_
      refine wpList_store_box rfl 33 _ _ rfl w2.heap.size 33 _ [.int .i64 p0, .bool p1, .int .i64 p2, .int .i64 p3, .int .i64 p4, .int .i64 p5, .int .i64 p6, .bool p7, .int .i64 p8, .int .i64 p9, .int .i64 p10, .int .i64 p11] rfl rfl HGZ.out size_danger rfl rfl ?_
      intro W9 hb9 hl9 ho9 hz9
      have HW_9 := HW_3.trans (hl9 _ hGle)
      have HG9 := Lib.hid hb9
      clear hl9 ho9 hz9 hb9 HGZ
      go_wp2_with fail
      refine MixPost.intro (grew_of_below HW_9) ?_
      repeat (any_goals (first | (go_big_quiet_skip; refine wpQuiet_nil ?_) | (go_big_quiet_want; go_big_quiet_op; go_big_quiet_on; refine wpQuiet_nil ?_) | ((with_reducible apply q_split); exact rfl; intro q hq; cases q <;> (rw [hq]; (try first | replace hq := bnot_t hq | replace hq := bnot_f hq); (try first | replace hq := of_decide_eq_true hq | replace hq := of_decide_eq_false hq | replace hq := eq_of_beq hq); (try first | replace hq := Int.not_lt.1 hq | replace hq := Int.not_le.1 hq | replace hq := Nat.not_lt.1 hq | replace hq := Nat.not_le.1 hq); try (exfalso; omega))) | (refine plan_q rfl rfl ?_)))
      refine plan_done ?_
      try simp only [List.drop_succ_cons, List.drop_zero]
      clear y_n_0 y_n_1 y_n_2 y_n_3 y_n_4 y_n_5 y_n_6 y_n_7
      have HB_9 := after0 HB_wb HW_9
      by_cases hq0 : q = 0
      · have HP2 := Lib.hid (HP.out.trans (if_neg (fun h => h hq0)))
        subst hq0
        clear HP
        obtain ⟨f_0, f_1, f_2, f_3, f_4, f_5, f_6, f_7, f_8, f_9, f_10, f_11⟩ := HG9.out.c12
        obtain ⟨-, n_1, -⟩ := (H_n.out.below HW_9).c8
        have HPU := Lib.hid (rput_any ao l.length cap l a1 ⟨p0, p1, ⟨p2, p3, p4, p5⟩, p6, p7, ⟨p8, p9, p10, p11⟩⟩ _ (HS.out.below HB_9) (by omega))
        dsimp only [eD] at HPU
        go_wp2_with fail
        refine NoPanic.normal ?_
        go_wp2_with fail
        all_goals try (exfalso; omega)
        refine HPU.out.mono ?_
        rintro e wz ⟨v, rfl, ho, hb_wz⟩
        have HB_wz := after0 HB_9 hb_wz
        have hoz := ho.mono HB_9.size
        clear f_0 f_1 f_2 f_3 f_4 f_5 f_6 f_7 f_8 f_9 f_10 f_11 n_1
        go_wp2_with fail
        go_ret2
        exact ⟨v, by rw [HP2.out]; rfl, by rw [HP2.out]; exact hoz, HB_wz⟩
      · have HP2 := Lib.hid (HP.out.trans (if_pos hq0))
        have hq1 : (q != 0) = true := bne_iff_ne.2 hq0
        clear HP hq0
        go_wp2_with fail
        refine NoPanic.normal ?_
        go_wp2_with fail
        all_goals try (exfalso; omega)
        go_ret2
        exact ⟨.slice none 0 0, by rw [HP2.out]; rfl, by rw [HP2.out]; exact OwnL.nil, HB_9⟩
    · obtain ⟨W3, hW3, hB3, hZ3, hb3⟩ := boxes1 w1 (cD dg0) 33
      dsimp only [cD, dg0, bx0] at hW3 hb3
      have HW_3 := HW_1.trans (hB3.mono HW_1.size)
      have hGle := HW_1.size
      clear hB3 hZ3
      go_wp2_with fail
      clear hW3
      refine MixPost.intro (grew_of_below HW_3) ?_
      repeat (any_goals (first | (go_big_quiet_skip; refine wpQuiet_nil ?_) | (go_big_quiet_want; go_big_quiet_op; go_big_quiet_on; refine wpQuiet_nil ?_) | ((with_reducible apply q_split); exact rfl; intro q hq; cases q <;> (rw [hq]; (try first | replace hq := bnot_t hq | replace hq := bnot_f hq); (try first | replace hq := of_decide_eq_true hq | replace hq := of_decide_eq_false hq | replace hq := eq_of_beq hq); (try first | replace hq := Int.not_lt.1 hq | replace hq := Int.not_le.1 hq | replace hq := Nat.not_lt.1 hq | replace hq := Nat.not_le.1 hq); try (exfalso; omega))) | (refine plan_q rfl rfl ?_)))
      refine plan_e rfl ?_
      go_wp2_with fail
      refine (HEF.out _).mono ?_
      rintro e w2 ⟨rfl, hb_w2⟩
      have HW_2 := HW_3.trans (hb_w2.mono HW_3.size)
      have HGZ := Lib.hid (hb3.below hb_w2)
      clear hb3
      go_wp2_with fail
      refine MixPost.intro (grew_of_below HW_2) ?_
      repeat (any_goals (first | (go_big_quiet_skip; refine wpQuiet_nil ?_) | (go_big_quiet_want; go_big_quiet_op; go_big_quiet_on; refine wpQuiet_nil ?_) | ((with_reducible apply q_split); exact rfl; intro q hq; cases q <;> (rw [hq]; (try first | replace hq := bnot_t hq | replace hq := bnot_f hq); (try first | replace hq := of_decide_eq_true hq | replace hq := of_decide_eq_false hq | replace hq := eq_of_beq hq); (try first | replace hq := Int.not_lt.1 hq | replace hq := Int.not_le.1 hq | replace hq := Nat.not_lt.1 hq | replace hq := Nat.not_le.1 hq); try (exfalso; omega))) | (refine plan_q rfl rfl ?_)))
      refine plan_e rfl ?_
      refine wpList_store_box rfl 33 _ _ rfl w1.heap.size 33 _ [.int .i64 p0, .bool p1, .int .i64 p2, .int .i64 p3, .int .i64 p4, .int .i64 p5, .int .i64 p6, .bool p7, .int .i64 p8, .int .i64 p9, .int .i64 p10, .int .i64 p11] rfl rfl HGZ.out size_danger rfl rfl ?_
      intro W9 hb9 hl9 ho9 hz9
      have HW_9 := HW_2.trans (hl9 _ hGle)
      have HG9 := Lib.hid hb9
      clear hl9 ho9 hz9 hb9 HGZ
      go_wp2_with fail
      refine MixPost.intro (grew_of_below HW_9) ?_
      repeat (any_goals (first | (go_big_quiet_skip; refine wpQuiet_nil ?_) | (go_big_quiet_want; go_big_quiet_op; go_big_quiet_on; refine wpQuiet_nil ?_) | ((with_reducible apply q_split); exact rfl; intro q hq; cases q <;> (rw [hq]; (try first | replace hq := bnot_t hq | replace hq := bnot_f hq); (try first | replace hq := of_decide_eq_true hq | replace hq := of_decide_eq_false hq | replace hq := eq_of_beq hq); (try first | replace hq := Int.not_lt.1 hq | replace hq := Int.not_le.1 hq | replace hq := Nat.not_lt.1 hq | replace hq := Nat.not_le.1 hq); try (exfalso; omega))) | (refine plan_q rfl rfl ?_)))
      refine plan_done ?_
      try simp only [List.drop_succ_cons, List.drop_zero]
      clear y_n_0 y_n_1 y_n_2 y_n_3 y_n_4 y_n_5 y_n_6 y_n_7
      have HB_9 := after0 HB_wb HW_9
      by_cases hq0 : q = 0
      · have HP2 := Lib.hid (HP.out.trans (if_neg (fun h => h hq0)))
        subst hq0
        clear HP
        obtain ⟨f_0, f_1, f_2, f_3, f_4, f_5, f_6, f_7, f_8, f_9, f_10, f_11⟩ := HG9.out.c12
        obtain ⟨-, n_1, -⟩ := (H_n.out.below HW_9).c8
        have HPU := Lib.hid (rput_any ao l.length cap l a1 ⟨p0, p1, ⟨p2, p3, p4, p5⟩, p6, p7, ⟨p8, p9, p10, p11⟩⟩ _ (HS.out.below HB_9) (by omega))
        dsimp only [eD] at HPU
        go_wp2_with fail
        refine NoPanic.normal ?_
        go_wp2_with fail
        all_goals try (exfalso; omega)
        refine HPU.out.mono ?_
        rintro e wz ⟨v, rfl, ho, hb_wz⟩
        have HB_wz := after0 HB_9 hb_wz
        have hoz := ho.mono HB_9.size
        clear f_0 f_1 f_2 f_3 f_4 f_5 f_6 f_7 f_8 f_9 f_10 f_11 n_1
        go_wp2_with fail
        go_ret2
        exact ⟨v, by rw [HP2.out]; rfl, by rw [HP2.out]; exact hoz, HB_wz⟩
      · have HP2 := Lib.hid (HP.out.trans (if_pos hq0))
        have hq1 : (q != 0) = true := bne_iff_ne.2 hq0
        clear HP hq0
        go_wp2_with fail
        refine NoPanic.normal ?_
        go_wp2_with fail
        all_goals try (exfalso; omega)
        go_ret2
        exact ⟨.slice none 0 0, by rw [HP2.out]; rfl, by rw [HP2.out]; exact OwnL.nil, HB_9⟩
  · obtain ⟨W3, hW3, hB3, hZ3, hb3⟩ := boxes1 V (cD dg0) 33
    dsimp only [cD, dg0, bx0] at hW3 hb3
    have HW_3 := HW_V.trans (hB3.mono HW_V.size)
    have hGle := HW_V.size
    clear hB3 hZ3
    go_wp2_with fail
    clear hW3
    refine MixPost.intro (grew_of_below HW_3) ?_
    repeat (any_goals (first | (go_big_quiet_skip; refine wpQuiet_nil ?_) | (go_big_quiet_want; go_big_quiet_op; go_big_quiet_on; refine wpQuiet_nil ?_) | ((with_reducible apply q_split); exact rfl; intro q hq; cases q <;> (rw [hq]; (try first | replace hq := bnot_t hq | replace hq := bnot_f hq); (try first | replace hq := of_decide_eq_true hq | replace hq := of_decide_eq_false hq | replace hq := eq_of_beq hq); (try first | replace hq := Int.not_lt.1 hq | replace hq := Int.not_le.1 hq | replace hq := Nat.not_lt.1 hq | replace hq := Nat.not_le.1 hq); try (exfalso; omega))) | (refine plan_q rfl rfl ?_)))
    refine plan_e rfl ?_
    go_wp2_with fail
    refine (HFI.out _ HW_3).mono ?_
    rintro e w1 ⟨rfl, hb_w1⟩
    have HW_1 := HW_3.trans (hb_w1.mono HW_3.size)
    go_wp2_with fail
    refine MixPost.intro (grew_of_below HW_1) ?_
    repeat (any_goals (first | (go_big_quiet_skip; refine wpQuiet_nil ?_) | (go_big_quiet_want; go_big_quiet_op; go_big_quiet_on; refine wpQuiet_nil ?_) | ((with_reducible apply q_split); exact rfl; intro q hq; cases q <;> (rw [hq]; (try first | replace hq := bnot_t hq | replace hq := bnot_f hq); (try first | replace hq := of_decide_eq_true hq | replace hq := of_decide_eq_false hq | replace hq := eq_of_beq hq); (try first | replace hq := Int.not_lt.1 hq | replace hq := Int.not_le.1 hq | replace hq := Nat.not_lt.1 hq | replace hq := Nat.not_le.1 hq); try (exfalso; omega))) | (refine plan_q rfl rfl ?_)))
    refine plan_e rfl ?_
    go_wp2_with fail
    refine (HEF.out _).mono ?_
    rintro e w2 ⟨rfl, hb_w2⟩
    have HW_2 := HW_1.trans (hb_w2.mono HW_1.size)
    have HGZ := Lib.hid ((hb3.below hb_w1).below hb_w2)
    clear hb3
    go_wp2_with fail
    refine MixPost.intro (grew_of_below HW_2) ?_
    repeat (any_goals (first | (go_big_quiet_skip; refine wpQuiet_nil ?_) | (go_big_quiet_want; go_big_quiet_op; go_big_quiet_on; refine wpQuiet_nil ?_) | ((with_reducible apply q_split); exact rfl; intro q hq; cases q <;> (rw [hq]; (try first | replace hq := bnot_t hq | replace hq := bnot_f hq); (try first | replace hq := of_decide_eq_true hq | replace hq := of_decide_eq_false hq | replace hq := eq_of_beq hq); (try first | replace hq := Int.not_lt.1 hq | replace hq := Int.not_le.1 hq | replace hq := Nat.not_lt.1 hq | replace hq := Nat.not_le.1 hq); try (exfalso; omega))) | (refine plan_q rfl rfl ?_)))
    refine plan_e rfl ?_
    refine wpList_store_box rfl 33 _ _ rfl V.heap.size 33 _ [.int .i64 p0, .bool p1, .int .i64 p2, .int .i64 p3, .int .i64 p4, .int .i64 p5, .int .i64 p6, .bool p7, .int .i64 p8, .int .i64 p9, .int .i64 p10, .int .i64 p11] rfl rfl HGZ.out size_danger rfl rfl ?_
    intro W9 hb9 hl9 ho9 hz9
    have HW_9 := HW_2.trans (hl9 _ hGle)
    have HG9 := Lib.hid hb9
    clear hl9 ho9 hz9 hb9 HGZ
    go_wp2_with fail
    refine MixPost.intro (grew_of_below HW_9) ?_
    repeat (any_goals (first | (go_big_quiet_skip; refine wpQuiet_nil ?_) | (go_big_quiet_want; go_big_quiet_op; go_big_quiet_on; refine wpQuiet_nil ?_) | ((with_reducible apply q_split); exact rfl; intro q hq; cases q <;> (rw [hq]; (try first | replace hq := bnot_t hq | replace hq := bnot_f hq); (try first | replace hq := of_decide_eq_true hq | replace hq := of_decide_eq_false hq | replace hq := eq_of_beq hq); (try first | replace hq := Int.not_lt.1 hq | replace hq := Int.not_le.1 hq | replace hq := Nat.not_lt.1 hq | replace hq := Nat.not_le.1 hq); try (exfalso; omega))) | (refine plan_q rfl rfl ?_)))
    refine plan_done ?_
    try simp only [List.drop_succ_cons, List.drop_zero]
    clear y_n_0 y_n_1 y_n_2 y_n_3 y_n_4 y_n_5 y_n_6 y_n_7
    have HB_9 := after0 HB_wb HW_9
    by_cases hq0 : q = 0
    · have HP2 := Lib.hid (HP.out.trans (if_neg (fun h => h hq0)))
      subst hq0
      clear HP
      obtain ⟨f_0, f_1, f_2, f_3, f_4, f_5, f_6, f_7, f_8, f_9, f_10, f_11⟩ := HG9.out.c12
      obtain ⟨-, n_1, -⟩ := (H_n.out.below HW_9).c8
      have HPU := Lib.hid (rput_any ao l.length cap l a1 ⟨p0, p1, ⟨p2, p3, p4, p5⟩, p6, p7, ⟨p8, p9, p10, p11⟩⟩ _ (HS.out.below HB_9) (by omega))
      dsimp only [eD] at HPU
      go_wp2_with fail
      refine NoPanic.normal ?_
      go_wp2_with fail
      all_goals try (exfalso; omega)
      refine HPU.out.mono ?_
      rintro e wz ⟨v, rfl, ho, hb_wz⟩
      have HB_wz := after0 HB_9 hb_wz
      have hoz := ho.mono HB_9.size
      clear f_0 f_1 f_2 f_3 f_4 f_5 f_6 f_7 f_8 f_9 f_10 f_11 n_1
      go_wp2_with fail
      go_ret2
      exact ⟨v, by rw [HP2.out]; rfl, by rw [HP2.out]; exact hoz, HB_wz⟩
    · have HP2 := Lib.hid (HP.out.trans (if_pos hq0))
      have hq1 : (q != 0) = true := bne_iff_ne.2 hq0
      clear HP hq0
      go_wp2_with fail
      refine NoPanic.normal ?_
      go_wp2_with fail
      all_goals try (exfalso; omega)
      go_ret2
      exact ⟨.slice none 0 0, by rw [HP2.out]; rfl, by rw [HP2.out]; exact OwnL.nil, HB_9⟩
theorem rdo_any (ao : Option Addr) (n cap : Nat) (l : List Dg) (a : Ac) (w : World) (hs : Sl w 12 cD ao n cap l) : Calls Try.prog 21 #[.slice ao n cap, eA a] w (DgsE w (doR l a)) := by
  refine (rdo_own ao n cap l a w hs).mono ?_
  rintro e w' ⟨v, rfl, ho, hb⟩
  obtain ⟨o, c, rfl, hsl⟩ := ho.sl cD_len
  exact ⟨_, _, _, rfl, hsl, hb⟩
end Go.Proofs.Ytmbnhlihcnbebaa
