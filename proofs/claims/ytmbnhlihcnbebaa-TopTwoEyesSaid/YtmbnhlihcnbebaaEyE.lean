/-
  Walks of the layer 'eyes': what acts do (the first deed; act).
-/
import Derived.Test.YtmbnhlihcnbebaaEyD
set_option linter.unusedVariables false
namespace Go.Proofs.Ytmbnhlihcnbebaa
open Go Go.RowKit Ey Sk

set_option maxRecDepth 100000 in
set_option maxHeartbeats 8000000 in
theorem deeds1_last (d0 : Int) (told : Bool) (d2 d3 d4 d5 : Int) (drop : Bool) (d8 d9 d10 d11 a1 a2 a3 a4 a5 a6 a7 : Int) (w : World) (h : told = true → (⟨d2, d3, d4, d5⟩ : Bx) ≠ ⟨a4, a5, a6, a7⟩) :
    Calls Try.prog 82 #[eD ⟨d0, told, ⟨d2, d3, d4, d5⟩, 0, drop, ⟨d8, d9, d10, d11⟩⟩, eA ⟨1, a1, a2, a3, ⟨a4, a5, a6, a7⟩⟩] w (Ret w (eR (⟨a1, told, ⟨d2, d3, d4, d5⟩, a2, drop, ⟨a4, a5, a6, a7⟩⟩, true, 0))) := by
  dsimp only [eA, eD, eR]
  obtain ⟨W0, hW0, HB_W0, hZ, hn, hm, hr⟩ := boxes3 w [.int .i64 d0, .bool told, .int .i64 d2, .int .i64 d3, .int .i64 d4, .int .i64 d5, .int .i64 0, .bool drop, .int .i64 d8, .int .i64 d9, .int .i64 d10, .int .i64 d11] [.int .i64 1, .int .i64 a1, .int .i64 a2, .int .i64 a3, .int .i64 a4, .int .i64 a5, .int .i64 a6, .int .i64 a7] [.int .i64 0, .bool false, .int .i64 0, .int .i64 0, .int .i64 0, .int .i64 0, .int .i64 0, .bool false, .int .i64 0, .int .i64 0, .int .i64 0, .int .i64 0] 33 37 33
  obtain ⟨V, hV⟩ : ∃ V, W0.drew = V := ⟨_, rfl⟩
  have HVM : AA (w.heap.size + 1) ⟨1, a1, a2, a3, ⟨a4, a5, a6, a7⟩⟩ V := hV ▸ hm.drew
  have hnV : Box V w.heap.size 33 [.int .i64 d0, .bool told, .int .i64 d2, .int .i64 d3, .int .i64 d4, .int .i64 d5, .int .i64 0, .bool drop, .int .i64 d8, .int .i64 d9, .int .i64 d10, .int .i64 d11] := hV ▸ hn.drew
  have hrV : Box V (w.heap.size + 1 + 1) 33 [.int .i64 0, .bool false, .int .i64 0, .int .i64 0, .int .i64 0, .int .i64 0, .int .i64 0, .bool false, .int .i64 0, .int .i64 0, .int .i64 0, .int .i64 0] := hV ▸ hr.drew
  have HB_V : Below w.heap.size w V := hV ▸ HB_W0.drew
  have hn1 := ((((((hnV.set 0 (.int .i64 a1)).set 6 (.int .i64 a2)).set 8 (.int .i64 a4)).set 9 (.int .i64 a5)).set 10 (.int .i64 a6)).set 11 (.int .i64 a7))
  have hm1 : ∀ (l : List (Nat × Value)), AA (w.heap.size + 1) ⟨1, a1, a2, a3, ⟨a4, a5, a6, a7⟩⟩ (l.foldl (fun W x => W.setCell ⟨w.heap.size, x.1, none⟩ x.2) V) := fun l => by
    suffices ∀ W, AA (w.heap.size + 1) ⟨1, a1, a2, a3, ⟨a4, a5, a6, a7⟩⟩ W → AA (w.heap.size + 1) ⟨1, a1, a2, a3, ⟨a4, a5, a6, a7⟩⟩ (l.foldl (fun W x => W.setCell ⟨w.heap.size, x.1, none⟩ x.2) W) from this V HVM
    induction l with
    | nil => exact fun W h => h
    | cons x l ih => exact fun W h => ih _ (Box.other h (by omega))
  have HM1 := Lib.hid (hm1 [(0, .int .i64 a1)])
  have HM2 := Lib.hid (hm1 [(0, .int .i64 a1), (6, .int .i64 a2)])
  have HM3 := Lib.hid (hm1 [(0, .int .i64 a1), (6, .int .i64 a2), (8, .int .i64 a4), (9, .int .i64 a5), (10, .int .i64 a6), (11, .int .i64 a7)])
  dsimp only [List.foldl] at HM1 HM2 HM3
  have hr1 := (((((hrV.other (b' := w.heap.size) (j := 0) (v := .int .i64 a1) (by omega)).other (b' := w.heap.size) (j := 6) (v := .int .i64 a2) (by omega)).other (b' := w.heap.size) (j := 8) (v := .int .i64 a4) (by omega)).other (b' := w.heap.size) (j := 9) (v := .int .i64 a5) (by omega)).other (b' := w.heap.size) (j := 10) (v := .int .i64 a6) (by omega)).other (b' := w.heap.size) (j := 11) (v := .int .i64 a7) (by omega)
  have HB_X := below_set (below_set (below_set (below_set (below_set (below_set HB_V (Nat.le_refl _) 0 (.int .i64 a1)) (Nat.le_refl _) 6 (.int .i64 a2)) (Nat.le_refl _) 8 (.int .i64 a4)) (Nat.le_refl _) 9 (.int .i64 a5)) (Nat.le_refl _) 10 (.int .i64 a6)) (Nat.le_refl _) 11 (.int .i64 a7)
  have HN0 := Lib.hid hn
  have HNV := Lib.hid hnV
  have HN1 := Lib.hid hn1
  have HR1 := Lib.hid hr1
  have HMM := Lib.hid hm
  have HC := Lib.hid h
  have HBX := Lib.hid HB_X
  clear hn hm hr hZ hnV hrV hn1 hm1 hr1 h HB_X
  obtain ⟨q_n_0, q_n_1, q_n_2, q_n_3, q_n_4, q_n_5, q_n_6, q_n_7, q_n_8, q_n_9, q_n_10, q_n_11⟩ := HN0.out.c12
  obtain ⟨q_m_0, q_m_1, q_m_2, q_m_3, q_m_4, q_m_5, q_m_6, q_m_7⟩ := HMM.out.c8
  have hq := eql_box d2 d3 d4 d5 a4 a5 a6 a7
  have hqf : told = true → decide ((⟨d2, d3, d4, d5⟩ : Bx) = ⟨a4, a5, a6, a7⟩) = false := fun ht => decide_eq_false (HC.out ht)
  generalize decide ((⟨d2, d3, d4, d5⟩ : Bx) = ⟨a4, a5, a6, a7⟩) = q at *
  go_enter Try.func82, Try.ntmps82
  have hnat : q = false ∨ told = false := by
    cases told
    · exact .inr rfl
    · exact .inl (hqf rfl)
  clear hqf
  have HYN := Lib.hid (show Nonempty (Wc (AA (w.heap.size + 1) ⟨1, a1, a2, a3, ⟨a4, a5, a6, a7⟩⟩)) from ⟨⟨V, HVM⟩⟩)
  have y_0 := fun p : Wc (AA (w.heap.size + 1) ⟨1, a1, a2, a3, ⟨a4, a5, a6, a7⟩⟩) => (Box.c8 p.h).1
  have y_1 := fun p : Wc (AA (w.heap.size + 1) ⟨1, a1, a2, a3, ⟨a4, a5, a6, a7⟩⟩) => (Box.c8 p.h).2.1
  have y_2 := fun p : Wc (AA (w.heap.size + 1) ⟨1, a1, a2, a3, ⟨a4, a5, a6, a7⟩⟩) => (Box.c8 p.h).2.2.1
  have y_3 := fun p : Wc (AA (w.heap.size + 1) ⟨1, a1, a2, a3, ⟨a4, a5, a6, a7⟩⟩) => (Box.c8 p.h).2.2.2.1
  have y_4 := fun p : Wc (AA (w.heap.size + 1) ⟨1, a1, a2, a3, ⟨a4, a5, a6, a7⟩⟩) => (Box.c8 p.h).2.2.2.2.1
  have y_5 := fun p : Wc (AA (w.heap.size + 1) ⟨1, a1, a2, a3, ⟨a4, a5, a6, a7⟩⟩) => (Box.c8 p.h).2.2.2.2.2.1
  have y_6 := fun p : Wc (AA (w.heap.size + 1) ⟨1, a1, a2, a3, ⟨a4, a5, a6, a7⟩⟩) => (Box.c8 p.h).2.2.2.2.2.2.1
  have y_7 := fun p : Wc (AA (w.heap.size + 1) ⟨1, a1, a2, a3, ⟨a4, a5, a6, a7⟩⟩) => (Box.c8 p.h).2.2.2.2.2.2.2
  have HYS := Lib.hid (And.intro y_1 (And.intro y_2 (And.intro y_4 (And.intro y_5 (And.intro y_6 y_7)))))
  clear y_0 y_1 y_2 y_3 y_4 y_5 y_6 y_7
  rcases hnat with rfl | rfl
  · cases told
    ·
      go_wp2_with fail
      clear q_n_0 q_n_1 q_n_2 q_n_3 q_n_4 q_n_5 q_n_6 q_n_7 q_n_8 q_n_9 q_n_10 q_n_11 q_m_0 q_m_1 q_m_2 q_m_3 q_m_4 q_m_5 q_m_6 q_m_7 hW0
      have y_n := HYN.out
      obtain ⟨y_1, y_2, y_4, y_5, y_6, y_7⟩ := HYS.out
      refine wp_region_plan (C := fun w' => ∃ p : Wc (fun W => AA (w.heap.size + 1) ⟨1, a1, a2, a3, ⟨a4, a5, a6, a7⟩⟩ W), w' = p.w) (.q 0 (.q 1 (.q 2 (.q 3 (.q 4 (.q 5 (.q 6 (.e 7 (.q 8 (.e 9 (.q 10 (.e 11 (.done))))))))))))) 12 (by kernel_rfl) (by kernel_rfl) ⟨⟨_, ?_⟩, rfl⟩ ?_
      · exact (hV ▸ HVM : AA (w.heap.size + 1) ⟨1, a1, a2, a3, ⟨a4, a5, a6, a7⟩⟩ W0.drew)
      repeat (any_goals (first | (go_big_quiet_skip; refine wpQuiet_nil ?_) | (go_big_quiet_want; go_big_quiet_op; go_big_quiet_on; refine wpQuiet_nil ?_) | ((with_reducible apply q_split); exact rfl; intro q hq; cases q <;> (rw [hq]; (try first | replace hq := bnot_t hq | replace hq := bnot_f hq); (try first | replace hq := of_decide_eq_true hq | replace hq := of_decide_eq_false hq | replace hq := eq_of_beq hq); (try first | replace hq := Int.not_lt.1 hq | replace hq := Int.not_le.1 hq | replace hq := Nat.not_lt.1 hq | replace hq := Nat.not_le.1 hq); try (exfalso; omega))) | (refine plan_q rfl rfl ?_)))
      rw [show { heap := W0.heap, tape := W0.tape, drawn := W0.drawn + 1, os := W0.os, output := W0.output } = V from hV]
      clear hV y_1 y_2 y_4 y_5 y_6 y_7
      obtain ⟨z0, z1, z2, z3, z4, z5, z6, z7, z8, z9, z10, z11⟩ := HNV.out.c12
      have fz := HNV.out.frozen
      refine plan_e rfl ?_
      go_wp2_with fail
      refine MixPost.intro ⟨⟨_, HM1.out⟩, rfl⟩ ?_
      repeat (any_goals (first | (go_big_quiet_skip; refine wpQuiet_nil ?_) | (go_big_quiet_want; go_big_quiet_op; go_big_quiet_on; refine wpQuiet_nil ?_) | ((with_reducible apply q_split); exact rfl; intro q hq; cases q <;> (rw [hq]; (try first | replace hq := bnot_t hq | replace hq := bnot_f hq); (try first | replace hq := of_decide_eq_true hq | replace hq := of_decide_eq_false hq | replace hq := eq_of_beq hq); (try first | replace hq := Int.not_lt.1 hq | replace hq := Int.not_le.1 hq | replace hq := Nat.not_lt.1 hq | replace hq := Nat.not_le.1 hq); try (exfalso; omega))) | (refine plan_q rfl rfl ?_)))
      refine plan_e rfl ?_
      go_wp2_with fail
      refine MixPost.intro ⟨⟨_, HM2.out⟩, rfl⟩ ?_
      repeat (any_goals (first | (go_big_quiet_skip; refine wpQuiet_nil ?_) | (go_big_quiet_want; go_big_quiet_op; go_big_quiet_on; refine wpQuiet_nil ?_) | ((with_reducible apply q_split); exact rfl; intro q hq; cases q <;> (rw [hq]; (try first | replace hq := bnot_t hq | replace hq := bnot_f hq); (try first | replace hq := of_decide_eq_true hq | replace hq := of_decide_eq_false hq | replace hq := eq_of_beq hq); (try first | replace hq := Int.not_lt.1 hq | replace hq := Int.not_le.1 hq | replace hq := Nat.not_lt.1 hq | replace hq := Nat.not_le.1 hq); try (exfalso; omega))) | (refine plan_q rfl rfl ?_)))
      refine plan_e rfl ?_
      go_wp2_with fail
      refine MixPost.intro ⟨⟨_, HM3.out⟩, rfl⟩ ?_
      repeat (any_goals (first | (go_big_quiet_skip; refine wpQuiet_nil ?_) | (go_big_quiet_want; go_big_quiet_op; go_big_quiet_on; refine wpQuiet_nil ?_) | ((with_reducible apply q_split); exact rfl; intro q hq; cases q <;> (rw [hq]; (try first | replace hq := bnot_t hq | replace hq := bnot_f hq); (try first | replace hq := of_decide_eq_true hq | replace hq := of_decide_eq_false hq | replace hq := eq_of_beq hq); (try first | replace hq := Int.not_lt.1 hq | replace hq := Int.not_le.1 hq | replace hq := Nat.not_lt.1 hq | replace hq := Nat.not_le.1 hq); try (exfalso; omega))) | (refine plan_q rfl rfl ?_)))
      refine plan_done ?_
      try simp only [List.drop_succ_cons, List.drop_zero]
      clear z0 z1 z2 z3 z4 z5 z6 z7 z8 z9 z10 z11 fz HM1 HM2 HM3 HVM y_n HNV
      obtain ⟨W1, hW1⟩ : ∃ X, (((((V.setCell ⟨w.heap.size, 0, none⟩ (.int .i64 a1)).setCell ⟨w.heap.size, 6, none⟩ (.int .i64 a2)).setCell ⟨w.heap.size, 8, none⟩ (.int .i64 a4)).setCell ⟨w.heap.size, 9, none⟩ (.int .i64 a5)).setCell ⟨w.heap.size, 10, none⟩ (.int .i64 a6)).setCell ⟨w.heap.size, 11, none⟩ (.int .i64 a7) = X := ⟨_, rfl⟩
      rw [hW1] at HN1 HR1 HBX
      rw [hW1]
      clear hW1
      obtain ⟨z0, z1, z2, z3, z4, z5, z6, z7, z8, z9, z10, z11⟩ := HN1.out.c12
      try go_wp2_with fail
      refine NoPanic.normal ?_
      go_wp2_with (refine wpList_store_box rfl 33 _ _ rfl (w.heap.size + 1 + 1) 33 _ [.int .i64 a1, .bool false, .int .i64 d2, .int .i64 d3, .int .i64 d4, .int .i64 d5, .int .i64 a2, .bool drop, .int .i64 a4, .int .i64 a5, .int .i64 a6, .int .i64 a7] rfl rfl HR1.out size_danger rfl rfl ?_; intro W5 hb5 hl5 ho5 hz5)
      have HB_5 : Below w.heap.size w W5 := HBX.out.trans (hl5 _ (by omega))
      try go_wp2_with fail
      obtain ⟨s0, s1, s2, s3, s4, s5, s6, s7, s8, s9, s10, s11⟩ := hb5.c12
      refine bodyPost_ret (v := .tuple #[.agg #[.int .i64 a1, .bool false, .int .i64 d2, .int .i64 d3, .int .i64 d4, .int .i64 d5, .int .i64 a2, .bool drop, .int .i64 a4, .int .i64 a5, .int .i64 a6, .int .i64 a7], .bool true, .int .i64 0]) (by simp [results, Try.results82, go_sem, s0, s1, s2, s3, s4, s5, s6, s7, s8, s9, s10, s11]) rfl ?_
      exact ⟨rfl, HB_5⟩
    ·
      go_wp2_with fail
      clear q_n_0 q_n_1 q_n_2 q_n_3 q_n_4 q_n_5 q_n_6 q_n_7 q_n_8 q_n_9 q_n_10 q_n_11 q_m_0 q_m_1 q_m_2 q_m_3 q_m_4 q_m_5 q_m_6 q_m_7 hW0
      have y_n := HYN.out
      obtain ⟨y_1, y_2, y_4, y_5, y_6, y_7⟩ := HYS.out
      refine wp_region_plan (C := fun w' => ∃ p : Wc (fun W => AA (w.heap.size + 1) ⟨1, a1, a2, a3, ⟨a4, a5, a6, a7⟩⟩ W), w' = p.w) (.q 0 (.q 1 (.q 2 (.q 3 (.q 4 (.q 5 (.q 6 (.e 7 (.q 8 (.e 9 (.q 10 (.e 11 (.done))))))))))))) 12 (by kernel_rfl) (by kernel_rfl) ⟨⟨_, ?_⟩, rfl⟩ ?_
      · exact (hV ▸ HVM : AA (w.heap.size + 1) ⟨1, a1, a2, a3, ⟨a4, a5, a6, a7⟩⟩ W0.drew)
      repeat (any_goals (first | (go_big_quiet_skip; refine wpQuiet_nil ?_) | (go_big_quiet_want; go_big_quiet_op; go_big_quiet_on; refine wpQuiet_nil ?_) | ((with_reducible apply q_split); exact rfl; intro q hq; cases q <;> (rw [hq]; (try first | replace hq := bnot_t hq | replace hq := bnot_f hq); (try first | replace hq := of_decide_eq_true hq | replace hq := of_decide_eq_false hq | replace hq := eq_of_beq hq); (try first | replace hq := Int.not_lt.1 hq | replace hq := Int.not_le.1 hq | replace hq := Nat.not_lt.1 hq | replace hq := Nat.not_le.1 hq); try (exfalso; omega))) | (refine plan_q rfl rfl ?_)))
      rw [show { heap := W0.heap, tape := W0.tape, drawn := W0.drawn + 1, os := W0.os, output := W0.output } = V from hV]
      clear hV y_1 y_2 y_4 y_5 y_6 y_7
      obtain ⟨z0, z1, z2, z3, z4, z5, z6, z7, z8, z9, z10, z11⟩ := HNV.out.c12
      have fz := HNV.out.frozen
      refine plan_e rfl ?_
      go_wp2_with fail
      refine MixPost.intro ⟨⟨_, HM1.out⟩, rfl⟩ ?_
      repeat (any_goals (first | (go_big_quiet_skip; refine wpQuiet_nil ?_) | (go_big_quiet_want; go_big_quiet_op; go_big_quiet_on; refine wpQuiet_nil ?_) | ((with_reducible apply q_split); exact rfl; intro q hq; cases q <;> (rw [hq]; (try first | replace hq := bnot_t hq | replace hq := bnot_f hq); (try first | replace hq := of_decide_eq_true hq | replace hq := of_decide_eq_false hq | replace hq := eq_of_beq hq); (try first | replace hq := Int.not_lt.1 hq | replace hq := Int.not_le.1 hq | replace hq := Nat.not_lt.1 hq | replace hq := Nat.not_le.1 hq); try (exfalso; omega))) | (refine plan_q rfl rfl ?_)))
      refine plan_e rfl ?_
      go_wp2_with fail
      refine MixPost.intro ⟨⟨_, HM2.out⟩, rfl⟩ ?_
      repeat (any_goals (first | (go_big_quiet_skip; refine wpQuiet_nil ?_) | (go_big_quiet_want; go_big_quiet_op; go_big_quiet_on; refine wpQuiet_nil ?_) | ((with_reducible apply q_split); exact rfl; intro q hq; cases q <;> (rw [hq]; (try first | replace hq := bnot_t hq | replace hq := bnot_f hq); (try first | replace hq := of_decide_eq_true hq | replace hq := of_decide_eq_false hq | replace hq := eq_of_beq hq); (try first | replace hq := Int.not_lt.1 hq | replace hq := Int.not_le.1 hq | replace hq := Nat.not_lt.1 hq | replace hq := Nat.not_le.1 hq); try (exfalso; omega))) | (refine plan_q rfl rfl ?_)))
      refine plan_e rfl ?_
      go_wp2_with fail
      refine MixPost.intro ⟨⟨_, HM3.out⟩, rfl⟩ ?_
      repeat (any_goals (first | (go_big_quiet_skip; refine wpQuiet_nil ?_) | (go_big_quiet_want; go_big_quiet_op; go_big_quiet_on; refine wpQuiet_nil ?_) | ((with_reducible apply q_split); exact rfl; intro q hq; cases q <;> (rw [hq]; (try first | replace hq := bnot_t hq | replace hq := bnot_f hq); (try first | replace hq := of_decide_eq_true hq | replace hq := of_decide_eq_false hq | replace hq := eq_of_beq hq); (try first | replace hq := Int.not_lt.1 hq | replace hq := Int.not_le.1 hq | replace hq := Nat.not_lt.1 hq | replace hq := Nat.not_le.1 hq); try (exfalso; omega))) | (refine plan_q rfl rfl ?_)))
      refine plan_done ?_
      try simp only [List.drop_succ_cons, List.drop_zero]
      clear z0 z1 z2 z3 z4 z5 z6 z7 z8 z9 z10 z11 fz HM1 HM2 HM3 HVM y_n HNV
      obtain ⟨W1, hW1⟩ : ∃ X, (((((V.setCell ⟨w.heap.size, 0, none⟩ (.int .i64 a1)).setCell ⟨w.heap.size, 6, none⟩ (.int .i64 a2)).setCell ⟨w.heap.size, 8, none⟩ (.int .i64 a4)).setCell ⟨w.heap.size, 9, none⟩ (.int .i64 a5)).setCell ⟨w.heap.size, 10, none⟩ (.int .i64 a6)).setCell ⟨w.heap.size, 11, none⟩ (.int .i64 a7) = X := ⟨_, rfl⟩
      rw [hW1] at HN1 HR1 HBX
      rw [hW1]
      clear hW1
      obtain ⟨z0, z1, z2, z3, z4, z5, z6, z7, z8, z9, z10, z11⟩ := HN1.out.c12
      try go_wp2_with fail
      refine NoPanic.normal ?_
      go_wp2_with (refine wpList_store_box rfl 33 _ _ rfl (w.heap.size + 1 + 1) 33 _ [.int .i64 a1, .bool true, .int .i64 d2, .int .i64 d3, .int .i64 d4, .int .i64 d5, .int .i64 a2, .bool drop, .int .i64 a4, .int .i64 a5, .int .i64 a6, .int .i64 a7] rfl rfl HR1.out size_danger rfl rfl ?_; intro W5 hb5 hl5 ho5 hz5)
      have HB_5 : Below w.heap.size w W5 := HBX.out.trans (hl5 _ (by omega))
      try go_wp2_with fail
      obtain ⟨s0, s1, s2, s3, s4, s5, s6, s7, s8, s9, s10, s11⟩ := hb5.c12
      refine bodyPost_ret (v := .tuple #[.agg #[.int .i64 a1, .bool true, .int .i64 d2, .int .i64 d3, .int .i64 d4, .int .i64 d5, .int .i64 a2, .bool drop, .int .i64 a4, .int .i64 a5, .int .i64 a6, .int .i64 a7], .bool true, .int .i64 0]) (by simp [results, Try.results82, go_sem, s0, s1, s2, s3, s4, s5, s6, s7, s8, s9, s10, s11]) rfl ?_
      exact ⟨rfl, HB_5⟩
  ·
    go_wp2_with fail
    clear q_n_0 q_n_1 q_n_2 q_n_3 q_n_4 q_n_5 q_n_6 q_n_7 q_n_8 q_n_9 q_n_10 q_n_11 q_m_0 q_m_1 q_m_2 q_m_3 q_m_4 q_m_5 q_m_6 q_m_7 hW0
    have y_n := HYN.out
    obtain ⟨y_1, y_2, y_4, y_5, y_6, y_7⟩ := HYS.out
    refine wp_region_plan (C := fun w' => ∃ p : Wc (fun W => AA (w.heap.size + 1) ⟨1, a1, a2, a3, ⟨a4, a5, a6, a7⟩⟩ W), w' = p.w) (.q 0 (.q 1 (.q 2 (.q 3 (.q 4 (.q 5 (.q 6 (.e 7 (.q 8 (.e 9 (.q 10 (.e 11 (.done))))))))))))) 12 (by kernel_rfl) (by kernel_rfl) ⟨⟨_, ?_⟩, rfl⟩ ?_
    · exact (hV ▸ HVM : AA (w.heap.size + 1) ⟨1, a1, a2, a3, ⟨a4, a5, a6, a7⟩⟩ W0.drew)
    repeat (any_goals (first | (go_big_quiet_skip; refine wpQuiet_nil ?_) | (go_big_quiet_want; go_big_quiet_op; go_big_quiet_on; refine wpQuiet_nil ?_) | ((with_reducible apply q_split); exact rfl; intro q hq; cases q <;> (rw [hq]; (try first | replace hq := bnot_t hq | replace hq := bnot_f hq); (try first | replace hq := of_decide_eq_true hq | replace hq := of_decide_eq_false hq | replace hq := eq_of_beq hq); (try first | replace hq := Int.not_lt.1 hq | replace hq := Int.not_le.1 hq | replace hq := Nat.not_lt.1 hq | replace hq := Nat.not_le.1 hq); try (exfalso; omega))) | (refine plan_q rfl rfl ?_)))
    rw [show { heap := W0.heap, tape := W0.tape, drawn := W0.drawn + 1, os := W0.os, output := W0.output } = V from hV]
    clear hV y_1 y_2 y_4 y_5 y_6 y_7
    obtain ⟨z0, z1, z2, z3, z4, z5, z6, z7, z8, z9, z10, z11⟩ := HNV.out.c12
    have fz := HNV.out.frozen
    refine plan_e rfl ?_
    go_wp2_with fail
    refine MixPost.intro ⟨⟨_, HM1.out⟩, rfl⟩ ?_
    repeat (any_goals (first | (go_big_quiet_skip; refine wpQuiet_nil ?_) | (go_big_quiet_want; go_big_quiet_op; go_big_quiet_on; refine wpQuiet_nil ?_) | ((with_reducible apply q_split); exact rfl; intro q hq; cases q <;> (rw [hq]; (try first | replace hq := bnot_t hq | replace hq := bnot_f hq); (try first | replace hq := of_decide_eq_true hq | replace hq := of_decide_eq_false hq | replace hq := eq_of_beq hq); (try first | replace hq := Int.not_lt.1 hq | replace hq := Int.not_le.1 hq | replace hq := Nat.not_lt.1 hq | replace hq := Nat.not_le.1 hq); try (exfalso; omega))) | (refine plan_q rfl rfl ?_)))
    refine plan_e rfl ?_
    go_wp2_with fail
    refine MixPost.intro ⟨⟨_, HM2.out⟩, rfl⟩ ?_
    repeat (any_goals (first | (go_big_quiet_skip; refine wpQuiet_nil ?_) | (go_big_quiet_want; go_big_quiet_op; go_big_quiet_on; refine wpQuiet_nil ?_) | ((with_reducible apply q_split); exact rfl; intro q hq; cases q <;> (rw [hq]; (try first | replace hq := bnot_t hq | replace hq := bnot_f hq); (try first | replace hq := of_decide_eq_true hq | replace hq := of_decide_eq_false hq | replace hq := eq_of_beq hq); (try first | replace hq := Int.not_lt.1 hq | replace hq := Int.not_le.1 hq | replace hq := Nat.not_lt.1 hq | replace hq := Nat.not_le.1 hq); try (exfalso; omega))) | (refine plan_q rfl rfl ?_)))
    refine plan_e rfl ?_
    go_wp2_with fail
    refine MixPost.intro ⟨⟨_, HM3.out⟩, rfl⟩ ?_
    repeat (any_goals (first | (go_big_quiet_skip; refine wpQuiet_nil ?_) | (go_big_quiet_want; go_big_quiet_op; go_big_quiet_on; refine wpQuiet_nil ?_) | ((with_reducible apply q_split); exact rfl; intro q hq; cases q <;> (rw [hq]; (try first | replace hq := bnot_t hq | replace hq := bnot_f hq); (try first | replace hq := of_decide_eq_true hq | replace hq := of_decide_eq_false hq | replace hq := eq_of_beq hq); (try first | replace hq := Int.not_lt.1 hq | replace hq := Int.not_le.1 hq | replace hq := Nat.not_lt.1 hq | replace hq := Nat.not_le.1 hq); try (exfalso; omega))) | (refine plan_q rfl rfl ?_)))
    refine plan_done ?_
    try simp only [List.drop_succ_cons, List.drop_zero]
    clear z0 z1 z2 z3 z4 z5 z6 z7 z8 z9 z10 z11 fz HM1 HM2 HM3 HVM y_n HNV
    obtain ⟨W1, hW1⟩ : ∃ X, (((((V.setCell ⟨w.heap.size, 0, none⟩ (.int .i64 a1)).setCell ⟨w.heap.size, 6, none⟩ (.int .i64 a2)).setCell ⟨w.heap.size, 8, none⟩ (.int .i64 a4)).setCell ⟨w.heap.size, 9, none⟩ (.int .i64 a5)).setCell ⟨w.heap.size, 10, none⟩ (.int .i64 a6)).setCell ⟨w.heap.size, 11, none⟩ (.int .i64 a7) = X := ⟨_, rfl⟩
    rw [hW1] at HN1 HR1 HBX
    rw [hW1]
    clear hW1
    obtain ⟨z0, z1, z2, z3, z4, z5, z6, z7, z8, z9, z10, z11⟩ := HN1.out.c12
    try go_wp2_with fail
    refine NoPanic.normal ?_
    go_wp2_with (refine wpList_store_box rfl 33 _ _ rfl (w.heap.size + 1 + 1) 33 _ [.int .i64 a1, .bool false, .int .i64 d2, .int .i64 d3, .int .i64 d4, .int .i64 d5, .int .i64 a2, .bool drop, .int .i64 a4, .int .i64 a5, .int .i64 a6, .int .i64 a7] rfl rfl HR1.out size_danger rfl rfl ?_; intro W5 hb5 hl5 ho5 hz5)
    have HB_5 : Below w.heap.size w W5 := HBX.out.trans (hl5 _ (by omega))
    try go_wp2_with fail
    obtain ⟨s0, s1, s2, s3, s4, s5, s6, s7, s8, s9, s10, s11⟩ := hb5.c12
    refine bodyPost_ret (v := .tuple #[.agg #[.int .i64 a1, .bool false, .int .i64 d2, .int .i64 d3, .int .i64 d4, .int .i64 d5, .int .i64 a2, .bool drop, .int .i64 a4, .int .i64 a5, .int .i64 a6, .int .i64 a7], .bool true, .int .i64 0]) (by simp [results, Try.results82, go_sem, s0, s1, s2, s3, s4, s5, s6, s7, s8, s9, s10, s11]) rfl ?_
    exact ⟨rfl, HB_5⟩

set_option maxRecDepth 100000 in
set_option maxHeartbeats 8000000 in
theorem deeds1_any (d : Dg) (a : Ac) (w : World) (hk : a.kind = 1) : Calls Try.prog 82 #[eD d, eA a] w (Ret w (eR (eff d a))) := by
  have HE := Lib.hid (show eff d a = (if d.prop ≠ 0 then (d, true, 6) else if d.told = true ∧ d.area = a.area then (d, true, 5) else (⟨a.danger, d.told, d.area, a.person, d.drop, a.area⟩, true, 0)) by unfold eff; rw [if_pos hk])
  generalize eff d a = p at *
  obtain ⟨d0, told, ⟨d2, d3, d4, d5⟩, d6, drop, ⟨d8, d9, d10, d11⟩⟩ := d
  obtain ⟨a0, a1, a2, a3, ⟨a4, a5, a6, a7⟩⟩ := a
  dsimp only at hk
  subst hk
  dsimp only [eA, eD, eR] at *
  have HB_w : Below w.heap.size w w := Below.refl _ _
  by_cases hp : d6 = 0
  case neg =>
    have HP := Lib.hid (HE.out.trans (if_pos hp))
    have hp2 : (d6 != 0) = true := bne_iff_ne.2 hp
    clear hp HE
    go_enter Try.func82, Try.ntmps82
    go_wp2_with fail
    refine bodyPost_ret (v := .tuple #[.agg #[.int .i64 d0, .bool told, .int .i64 d2, .int .i64 d3, .int .i64 d4, .int .i64 d5, .int .i64 d6, .bool drop, .int .i64 d8, .int .i64 d9, .int .i64 d10, .int .i64 d11], .bool true, .int .i64 6]) (by simp [results, Try.results82, go_sem]) rfl ?_
    refine ⟨by rw [HP.out], ?_⟩
    first | exact grew3 HB_w | exact (grew3 HB_w).drew | trace_state
  have HE2 := Lib.hid (HE.out.trans (if_neg (fun h => h hp)))
  subst hp
  clear HE
  by_cases hq : told = true ∧ (⟨d2, d3, d4, d5⟩ : Bx) = ⟨a4, a5, a6, a7⟩
  · have HP := Lib.hid (HE2.out.trans (if_pos hq))
    obtain ⟨rfl, hq⟩ := hq
    simp only [Bx.mk.injEq] at hq
    obtain ⟨rfl, rfl, rfl, rfl⟩ := hq
    have hq := eql_box d2 d3 d4 d5 d2 d3 d4 d5
    rw [decide_eq_true rfl] at hq
    clear HE2
    go_enter Try.func82, Try.ntmps82
    go_wp2_with fail
    refine bodyPost_ret (v := .tuple #[.agg #[.int .i64 d0, .bool true, .int .i64 d2, .int .i64 d3, .int .i64 d4, .int .i64 d5, .int .i64 0, .bool drop, .int .i64 d8, .int .i64 d9, .int .i64 d10, .int .i64 d11], .bool true, .int .i64 5]) (by simp [results, Try.results82, go_sem]) rfl ?_
    refine ⟨by rw [HP.out], ?_⟩
    first | exact grew3 HB_w | exact (grew3 HB_w).drew | trace_state
  · rw [HE2.out, if_neg hq]
    exact deeds1_last d0 told d2 d3 d4 d5 drop d8 d9 d10 d11 a1 a2 a3 a4 a5 a6 a7 w (fun ht he => hq ⟨ht, he⟩)
end Go.Proofs.Ytmbnhlihcnbebaa
