/-
  The walk of 'ReuseLonger'.
-/
import Derived.Test.YtpdecgbfnhaojaaReuK
set_option linter.unusedVariables false
namespace Go.Proofs.Ytpdecgbfnhaojaa
open Go.RowKit Nb Sk Ck Ru Go.Sort

theorem info_clock : (Try.prog.info? 44).map (fun i => (i.zero, i.size, i.bytes)) = some (some (.agg #[.int .i64 0, .int .i64 0, .int .i64 0, .int .i64 0]), 4, 32) := by kernel_rfl
theorem cC_len (c : Clk) : (cC c).length = 4 := rfl
theorem cC_one : ∀ x, ∀ u ∈ cC x, u.oneCell' = true := by intro x u hu; simp [cC] at hu; rcases hu with rfl | rfl | rfl | rfl <;> rfl



set_option maxRecDepth 100000 in
set_option maxHeartbeats 8000000 in
theorem longer_aa (hso : SortOk) (u k : Int) (co : Option Addr) (cc : Nat) (cs : List Clk) (a b c0 c1 c2 c3 t e s f : Int) (w : World) (hc : Sl w 4 cC co cs.length cc cs) (ha2 : 0 ≤ a) (ha3 : a ≤ 65535) (hb2 : 0 ≤ b) (hb3 : b ≤ 65535) (h8 : cs.length ≤ 8)
    (k1 : 0 ≤ u) (k2 : u ≤ 10000000) (k3 : 0 ≤ k) (k4 : k ≤ 100000) (he1 : (e == 1) = false) (h1 : freeF u k cs = (t, e)) (h2 : freeF (u + a) (k + b) (cs ++ [⟨c0, c1, c2, c3⟩]) = (s, f)) (HLAW : f = 1 ∨ f = 4 ∨ f = 0 ∧ e = 0 ∧ t ≤ s) (ha4 : u + a < 10000000) (hb4 : k + b < 100000) :
    Calls Try.prog 5 #[.int .i64 u, .int .i64 k, .slice co cs.length cc, .int .u16 a, .int .u16 b, .agg #[.int .i64 c0, .int .i64 c1, .int .i64 c2, .int .i64 c3]] w (Ret w (.bool true)) := by
  have hcap := hc.max
  have hle := hc.le
  have h8i : (cs.length : Int) ≤ 8 := by omega
  unfold maxLen at hcap
  obtain ⟨W0, hW0, HB_W0, hZ, hn⟩ := boxes1 w [.int .i64 c0, .int .i64 c1, .int .i64 c2, .int .i64 c3] 44
  have H_c := Lib.hid hn
  have HCS := Lib.hid (hc.below HB_W0)
  have HSO := Lib.hid hso
  have H1 := Lib.hid h1
  have H2 := Lib.hid h2
  obtain ⟨i0, hi, hz0, hz1, hz2⟩ := info_parts info_clock
  have HI := Lib.hid hi
  have HZ0 := Lib.hid hz0
  have HZ1 := Lib.hid hz1
  have HZ2 := Lib.hid hz2
  clear hi hz0 hz1 hz2 hc hso h1 h2 hn hZ
  obtain ⟨q_c_0, q_c_1, q_c_2, q_c_3⟩ := H_c.out.c4
  go_enter Try.func5, Try.ntmps5
  go_wp2_with fail
  refine (head_any HSO.out _).mono ?_
  rintro e w1 ⟨rfl, hb_w1⟩
  have HB_w1 : Below w.heap.size w w1 := by first | exact after0 HB_W0 hb_w1 | exact after1 HB_W0 hb_w1 | exact after2 HB_W0 hb_w1 | exact after3 HB_W0 hb_w1 | exact after4 HB_W0 hb_w1 | exact after5 HB_W0 hb_w1
  try clear q_c_0 q_c_1 q_c_2 q_c_3
  have H_c := Lib.hid (Box.below (by first | exact H_c.out | exact H_c.out.alloc _ | exact (H_c.out.alloc _).alloc _ | exact ((H_c.out.alloc _).alloc _).alloc _) hb_w1)
  obtain ⟨q_c_0, q_c_1, q_c_2, q_c_3⟩ := H_c.out.c4
  replace HCS := Lib.hid (show Sl w1 _ _ _ _ _ _ by first | exact HCS.out.below hb_w1 | exact (HCS.out.below (grew1 (Below.refl _ _))).below hb_w1 | exact (HCS.out.below (grew2 (Below.refl _ _))).below hb_w1 | exact (HCS.out.below (grew3 (Below.refl _ _))).below hb_w1)
  clear hW0
  go_wp2_with fail
  refine (free_to H1.out HCS.out).mono ?_
  rintro e w2 ⟨rfl, hb_w2⟩
  have HB_w2 : Below w.heap.size w w2 := by first | exact after0 HB_w1 hb_w2 | exact after1 HB_w1 hb_w2 | exact after2 HB_w1 hb_w2 | exact after3 HB_w1 hb_w2 | exact after4 HB_w1 hb_w2 | exact after5 HB_w1 hb_w2
  try clear q_c_0 q_c_1 q_c_2 q_c_3
  have H_c := Lib.hid (Box.below (by first | exact H_c.out | exact H_c.out.alloc _ | exact (H_c.out.alloc _).alloc _ | exact ((H_c.out.alloc _).alloc _).alloc _) hb_w2)
  obtain ⟨q_c_0, q_c_1, q_c_2, q_c_3⟩ := H_c.out.c4
  replace HCS := Lib.hid (show Sl w2 _ _ _ _ _ _ by first | exact HCS.out.below hb_w2 | exact (HCS.out.below (grew1 (Below.refl _ _))).below hb_w2 | exact (HCS.out.below (grew2 (Below.refl _ _))).below hb_w2 | exact (HCS.out.below (grew3 (Below.refl _ _))).below hb_w2)
  go_wp2_with fail
  have y_q_c_0 := cell_regrown q_c_0
  have y_q_c_1 := cell_regrown q_c_1
  have y_q_c_2 := cell_regrown q_c_2
  have y_q_c_3 := cell_regrown q_c_3
  clear q_c_0 q_c_1 q_c_2 q_c_3
  refine wp_region_plan (C := fun w' => ∃ p : Regrown, w' = grow (redrawn w2 p.d) p.os) (.q 0 (.q 1 (.q 2 (.q 3 (.q 4 (.q 5 (.q 6 (.q 7 (.q 8 (.q 9 (.q 11 (.q 13 (.two 10 (.two 12 (.e 14 (.e 15 (.e 16 (.q 17 (.q 18 (.q 19 (.q 20 (.q 21 (.done))))))))) 14 (.e 12 (.e 15 (.e 16 (.q 17 (.q 18 (.q 19 (.q 20 (.q 21 (.done)))))))))) 14 (.e 10 (.e 12 (.e 15 (.e 16 (.q 17 (.q 18 (.q 19 (.q 20 (.q 21 (.done))))))))))))))))))))))) 22 (by kernel_rfl) (by kernel_rfl) (grew_drew _) ?_
  repeat (any_goals (first | (go_big_quiet_skip; refine wpQuiet_nil ?_) | (go_big_quiet_want; go_big_quiet_op; go_big_quiet_on; refine wpQuiet_nil ?_) | ((with_reducible apply q_split); exact rfl; intro q hq; cases q <;> (rw [hq]; (try first | replace hq := bnot_t hq | replace hq := bnot_f hq); (try first | replace hq := of_decide_eq_true hq | replace hq := of_decide_eq_false hq | replace hq := eq_of_beq hq); (try first | replace hq := Int.not_lt.1 hq | replace hq := Int.not_le.1 hq | replace hq := Nat.not_lt.1 hq | replace hq := Nat.not_le.1 hq); try (exfalso; omega))) | (refine plan_q rfl rfl ?_)))
  refine plan_two rfl rfl ?_ ?_
  · go_wp2_with fail
    obtain ⟨W3, hW3⟩ : ∃ W3, (w2.alloc (.cells #[] 44)).drew = W3 := ⟨_, rfl⟩
    have HB_W3 : Below w2.heap.size w2 W3 := hW3 ▸ (grew1 (Below.refl _ _)).drew
    have HO_W3 : Hid (OwnL W3 w2.heap.size 44 4 cC (.slice (some ⟨w2.heap.size, 0, none⟩) 0 0) ([] : List Clk)) := hW3 ▸ (OwnL.made (Nat.le_refl _)).drew
    rw [hW3]
    have hlt3 : w2.heap.size < W3.heap.size := by rw [← hW3]; simp
    clear hW3
    refine MixPost.intro (grew_of_below HB_W3) ?_
    refine plan_two rfl rfl ?_ ?_
    ·
      go_wp2_with (at_builtin; refine wpList_append_sl rfl _ _ 23 rfl w2.heap.size 44 i0 _ 4 32 Try.underlying23 HI.out HZ0.out HZ1.out HZ2.out rfl (by decide) cC_len cC_one _ ([] : List Clk) rfl HO_W3.out co _ cc cs rfl (HCS.out.below HB_W3) (by unfold maxLen; (try simp); (try omega)) (by (try simp); (try omega)) HB_W3.size ?_)
      rintro v4 w4 ho hg hgr
      have HB_w4 : Below w2.heap.size w2 w4 := HB_W3.trans (hg _ (Nat.le_refl _))
      have HO_w4 : Hid (OwnL w4 w2.heap.size 44 4 cC v4 cs) := ho
      have hgw : W3.heap.size ≤ w4.heap.size := hgr.size
      clear ho hg hgr
      refine MixPost.intro (grew_of_below HB_w4) ?_
      refine plan_e rfl ?_
      go_wp2_with fail
      obtain ⟨NB, hNB⟩ : ∃ N, w4.heap.size = N := ⟨_, rfl⟩
      obtain ⟨W5, hW5⟩ : ∃ W, w4.alloc (.cells #[.int .i64 c0, .int .i64 c1, .int .i64 c2, .int .i64 c3] 44) = W := ⟨_, rfl⟩
      have HB_W5 : Below w2.heap.size w2 W5 := hW5 ▸ grew1 HB_w4
      have HX : Hid (Box W5 NB 44 [.int .i64 c0, .int .i64 c1, .int .i64 c2, .int .i64 c3]) := by rw [← hW5, ← hNB]; exact Box.new w4 [.int .i64 c0, .int .i64 c1, .int .i64 c2, .int .i64 c3] 44
      have hge3 : w2.heap.size ≤ NB := by rw [← hNB]; exact HB_w4.size
      have hgt3 : W3.heap.size ≤ NB := by first | (rw [← hNB]; exact Nat.le_refl _) | (rw [← hNB]; exact hgw)
      rw [hW5]
      try rw [hNB]
      clear hNB
      refine MixPost.intro (grew_of_below HB_W5) ?_
      have HO_W5 := Lib.hid (hW5 ▸ HO_w4.out.alloc (.cells #[.int .i64 c0, .int .i64 c1, .int .i64 c2, .int .i64 c3] 44))
      clear hW5
      refine plan_e rfl ?_
      go_wp2_with (at_builtin; refine wpList_append_sl rfl _ _ 23 rfl w2.heap.size 44 i0 _ 4 32 Try.underlying23 HI.out HZ0.out HZ1.out HZ2.out rfl (by decide) cC_len cC_one v4 cs rfl HO_W5.out (some ⟨NB, 0, none⟩) 1 1 [(⟨c0, c1, c2, c3⟩ : Clk)] rfl (Sl.one (enc := cC) (x := (⟨c0, c1, c2, c3⟩ : Clk)) cC_len HX.out) (by unfold maxLen; (try simp); (try omega)) (by (try simp); (try omega)) HB_W5.size ?_)
      rintro v6 w6 ho hg hgr
      have HB_w6 : Below w2.heap.size w2 w6 := HB_W5.trans (hg _ (Nat.le_refl _))
      have HO_w6 : Hid (OwnL w6 w2.heap.size 44 4 cC v6 (cs ++ [(⟨c0, c1, c2, c3⟩ : Clk)])) := ho
      clear ho hg hgr
      refine MixPost.intro (grew_of_below HB_w6) ?_
      obtain ⟨ao', cap', rfl, hsl⟩ := HO_w6.out.sl cC_len
      rw [List.length_append] at hsl
      have HSL := Lib.hid (show Sl _ 4 cC ao' (cs.length + 1) cap' (cs ++ [(⟨c0, c1, c2, c3⟩ : Clk)]) from hsl)
      clear hsl
      refine plan_e rfl ?_
      go_wp2_with fail
      refine (free_to H2.out HSL.out).mono ?_
      rintro e w7 ⟨rfl, hb7⟩
      have HB_w7 : Below w2.heap.size w2 w7 := HB_w6.trans (hb7.mono HB_w6.size)
      clear hb7
      go_wp2_with fail
      refine MixPost.intro (grew_of_below HB_w7) ?_
      repeat (any_goals (first | (go_big_quiet_skip; refine wpQuiet_nil ?_) | (go_big_quiet_want; go_big_quiet_op; go_big_quiet_on; refine wpQuiet_nil ?_) | ((with_reducible apply q_split); exact rfl; intro q hq; cases q <;> (rw [hq]; (try first | replace hq := bnot_t hq | replace hq := bnot_f hq); (try first | replace hq := of_decide_eq_true hq | replace hq := of_decide_eq_false hq | replace hq := eq_of_beq hq); (try first | replace hq := Int.not_lt.1 hq | replace hq := Int.not_le.1 hq | replace hq := Nat.not_lt.1 hq | replace hq := Nat.not_le.1 hq); try (exfalso; omega))) | (refine plan_q rfl rfl ?_)))
      clear y_q_c_0 y_q_c_1 y_q_c_2 y_q_c_3
      have HB_F := after0 HB_w2 HB_w7
      rcases HLAW with rfl | rfl | ⟨rfl, rfl, hts⟩
      all_goals
        all_goals refine plan_done ?_
        all_goals (try simp only [List.drop_succ_cons, List.drop_zero])
        all_goals (try go_wp2_with fail)
        all_goals refine NoPanic.normal ?_
        all_goals (try go_wp2_with fail)
        go_ret
        exact ⟨rfl, HB_F⟩
    ·
      go_wp2_with fail
      obtain ⟨NB, hNB⟩ : ∃ N, W3.heap.size = N := ⟨_, rfl⟩
      obtain ⟨W5, hW5⟩ : ∃ W, W3.alloc (.cells #[.int .i64 c0, .int .i64 c1, .int .i64 c2, .int .i64 c3] 44) = W := ⟨_, rfl⟩
      have HB_W5 : Below w2.heap.size w2 W5 := hW5 ▸ grew1 HB_W3
      have HX : Hid (Box W5 NB 44 [.int .i64 c0, .int .i64 c1, .int .i64 c2, .int .i64 c3]) := by rw [← hW5, ← hNB]; exact Box.new W3 [.int .i64 c0, .int .i64 c1, .int .i64 c2, .int .i64 c3] 44
      have hge3 : w2.heap.size ≤ NB := by rw [← hNB]; exact HB_W3.size
      have hgt3 : W3.heap.size ≤ NB := by first | (rw [← hNB]; exact Nat.le_refl _) | (rw [← hNB]; exact hgw)
      rw [hW5]
      try rw [hNB]
      clear hNB
      refine MixPost.intro (grew_of_below HB_W5) ?_
      have HO_W5 := Lib.hid (hW5 ▸ HO_W3.out.alloc (.cells #[.int .i64 c0, .int .i64 c1, .int .i64 c2, .int .i64 c3] 44))
      clear hW5
      refine plan_e rfl ?_
      go_wp2_with (at_builtin; refine wpList_append_sl rfl _ _ 23 rfl w2.heap.size 44 i0 _ 4 32 Try.underlying23 HI.out HZ0.out HZ1.out HZ2.out rfl (by decide) cC_len cC_one _ ([] : List Clk) rfl HO_W5.out co _ cc cs rfl (HCS.out.below HB_W5) (by unfold maxLen; (try simp); (try omega)) (by (try simp); (try omega)) HB_W5.size ?_)
      rintro v4 w4 ho hg hgr
      have HB_w4 : Below w2.heap.size w2 w4 := HB_W5.trans (hg _ (Nat.le_refl _))
      have HO_w4 : Hid (OwnL w4 w2.heap.size 44 4 cC v4 cs) := ho
      replace HX := Lib.hid (HX.out.grown hgr (by intro e; simp only [Value.ownBlock, Option.some.injEq] at e; omega))
      clear ho hg hgr
      refine MixPost.intro (grew_of_below HB_w4) ?_
      refine plan_e rfl ?_
      go_wp2_with (at_builtin; refine wpList_append_sl rfl _ _ 23 rfl w2.heap.size 44 i0 _ 4 32 Try.underlying23 HI.out HZ0.out HZ1.out HZ2.out rfl (by decide) cC_len cC_one v4 cs rfl HO_w4.out (some ⟨NB, 0, none⟩) 1 1 [(⟨c0, c1, c2, c3⟩ : Clk)] rfl (Sl.one (enc := cC) (x := (⟨c0, c1, c2, c3⟩ : Clk)) cC_len HX.out) (by unfold maxLen; (try simp); (try omega)) (by (try simp); (try omega)) HB_w4.size ?_)
      rintro v6 w6 ho hg hgr
      have HB_w6 : Below w2.heap.size w2 w6 := HB_w4.trans (hg _ (Nat.le_refl _))
      have HO_w6 : Hid (OwnL w6 w2.heap.size 44 4 cC v6 (cs ++ [(⟨c0, c1, c2, c3⟩ : Clk)])) := ho
      clear ho hg hgr
      refine MixPost.intro (grew_of_below HB_w6) ?_
      obtain ⟨ao', cap', rfl, hsl⟩ := HO_w6.out.sl cC_len
      rw [List.length_append] at hsl
      have HSL := Lib.hid (show Sl _ 4 cC ao' (cs.length + 1) cap' (cs ++ [(⟨c0, c1, c2, c3⟩ : Clk)]) from hsl)
      clear hsl
      refine plan_e rfl ?_
      go_wp2_with fail
      refine (free_to H2.out HSL.out).mono ?_
      rintro e w7 ⟨rfl, hb7⟩
      have HB_w7 : Below w2.heap.size w2 w7 := HB_w6.trans (hb7.mono HB_w6.size)
      clear hb7
      go_wp2_with fail
      refine MixPost.intro (grew_of_below HB_w7) ?_
      repeat (any_goals (first | (go_big_quiet_skip; refine wpQuiet_nil ?_) | (go_big_quiet_want; go_big_quiet_op; go_big_quiet_on; refine wpQuiet_nil ?_) | ((with_reducible apply q_split); exact rfl; intro q hq; cases q <;> (rw [hq]; (try first | replace hq := bnot_t hq | replace hq := bnot_f hq); (try first | replace hq := of_decide_eq_true hq | replace hq := of_decide_eq_false hq | replace hq := eq_of_beq hq); (try first | replace hq := Int.not_lt.1 hq | replace hq := Int.not_le.1 hq | replace hq := Nat.not_lt.1 hq | replace hq := Nat.not_le.1 hq); try (exfalso; omega))) | (refine plan_q rfl rfl ?_)))
      clear y_q_c_0 y_q_c_1 y_q_c_2 y_q_c_3
      have HB_F := after0 HB_w2 HB_w7
      rcases HLAW with rfl | rfl | ⟨rfl, rfl, hts⟩
      all_goals
        all_goals refine plan_done ?_
        all_goals (try simp only [List.drop_succ_cons, List.drop_zero])
        all_goals (try go_wp2_with fail)
        all_goals refine NoPanic.normal ?_
        all_goals (try go_wp2_with fail)
        go_ret
        exact ⟨rfl, HB_F⟩
  · go_wp2_with fail
    obtain ⟨NB, hNB⟩ : ∃ N, w2.heap.size = N := ⟨_, rfl⟩
    obtain ⟨W3, hW3⟩ : ∃ W3, (w2.alloc (.cells #[.int .i64 c0, .int .i64 c1, .int .i64 c2, .int .i64 c3] 44)).drew = W3 := ⟨_, rfl⟩
    have HB_W3 : Below w2.heap.size w2 W3 := hW3 ▸ (grew1 (Below.refl _ _)).drew
    have HX : Hid (Box W3 NB 44 [.int .i64 c0, .int .i64 c1, .int .i64 c2, .int .i64 c3]) := by rw [← hW3, ← hNB]; exact Box.drew (Box.new w2 [.int .i64 c0, .int .i64 c1, .int .i64 c2, .int .i64 c3] 44)
    rw [hW3]
    try rw [hNB]
    have hlt3 : NB < W3.heap.size := HX.out.lt
    clear hW3 hNB
    refine MixPost.intro (grew_of_below HB_W3) ?_
    refine plan_e rfl ?_
    go_wp2_with fail
    have HB_W5 : Below w2.heap.size w2 (W3.alloc (.cells #[] 44)) := grew1 HB_W3
    have HO_W5 : Hid (OwnL (W3.alloc (.cells #[] 44)) w2.heap.size 44 4 cC (.slice (some ⟨W3.heap.size, 0, none⟩) 0 0) ([] : List Clk)) := (OwnL.made (Nat.le_refl _)).mono HB_W3.size
    replace HX := Lib.hid (HX.out.alloc (.cells #[] 44))
    generalize W3.heap.size = N0 at *
    generalize W3.alloc (.cells #[] 44) = W5 at *
    refine MixPost.intro (grew_of_below HB_W5) ?_
    refine plan_e rfl ?_
    go_wp2_with (at_builtin; refine wpList_append_sl rfl _ _ 23 rfl w2.heap.size 44 i0 _ 4 32 Try.underlying23 HI.out HZ0.out HZ1.out HZ2.out rfl (by decide) cC_len cC_one _ ([] : List Clk) rfl HO_W5.out co _ cc cs rfl (HCS.out.below HB_W5) (by unfold maxLen; (try simp); (try omega)) (by (try simp); (try omega)) HB_W5.size ?_)
    rintro v4 w4 ho hg hgr
    have HB_w4 : Below w2.heap.size w2 w4 := HB_W5.trans (hg _ (Nat.le_refl _))
    have HO_w4 : Hid (OwnL w4 w2.heap.size 44 4 cC v4 cs) := ho
    replace HX := Lib.hid (HX.out.grown hgr (by intro e; simp only [Value.ownBlock, Option.some.injEq] at e; omega))
    clear ho hg hgr
    refine MixPost.intro (grew_of_below HB_w4) ?_
    refine plan_e rfl ?_
    go_wp2_with (at_builtin; refine wpList_append_sl rfl _ _ 23 rfl w2.heap.size 44 i0 _ 4 32 Try.underlying23 HI.out HZ0.out HZ1.out HZ2.out rfl (by decide) cC_len cC_one v4 cs rfl HO_w4.out (some ⟨NB, 0, none⟩) 1 1 [(⟨c0, c1, c2, c3⟩ : Clk)] rfl (Sl.one (enc := cC) (x := (⟨c0, c1, c2, c3⟩ : Clk)) cC_len HX.out) (by unfold maxLen; (try simp); (try omega)) (by (try simp); (try omega)) HB_w4.size ?_)
    rintro v6 w6 ho hg hgr
    have HB_w6 : Below w2.heap.size w2 w6 := HB_w4.trans (hg _ (Nat.le_refl _))
    have HO_w6 : Hid (OwnL w6 w2.heap.size 44 4 cC v6 (cs ++ [(⟨c0, c1, c2, c3⟩ : Clk)])) := ho
    clear ho hg hgr
    refine MixPost.intro (grew_of_below HB_w6) ?_
    obtain ⟨ao', cap', rfl, hsl⟩ := HO_w6.out.sl cC_len
    rw [List.length_append] at hsl
    have HSL := Lib.hid (show Sl _ 4 cC ao' (cs.length + 1) cap' (cs ++ [(⟨c0, c1, c2, c3⟩ : Clk)]) from hsl)
    clear hsl
    refine plan_e rfl ?_
    go_wp2_with fail
    refine (free_to H2.out HSL.out).mono ?_
    rintro e w7 ⟨rfl, hb7⟩
    have HB_w7 : Below w2.heap.size w2 w7 := HB_w6.trans (hb7.mono HB_w6.size)
    clear hb7
    go_wp2_with fail
    refine MixPost.intro (grew_of_below HB_w7) ?_
    repeat (any_goals (first | (go_big_quiet_skip; refine wpQuiet_nil ?_) | (go_big_quiet_want; go_big_quiet_op; go_big_quiet_on; refine wpQuiet_nil ?_) | ((with_reducible apply q_split); exact rfl; intro q hq; cases q <;> (rw [hq]; (try first | replace hq := bnot_t hq | replace hq := bnot_f hq); (try first | replace hq := of_decide_eq_true hq | replace hq := of_decide_eq_false hq | replace hq := eq_of_beq hq); (try first | replace hq := Int.not_lt.1 hq | replace hq := Int.not_le.1 hq | replace hq := Nat.not_lt.1 hq | replace hq := Nat.not_le.1 hq); try (exfalso; omega))) | (refine plan_q rfl rfl ?_)))
    clear y_q_c_0 y_q_c_1 y_q_c_2 y_q_c_3
    have HB_F := after0 HB_w2 HB_w7
    rcases HLAW with rfl | rfl | ⟨rfl, rfl, hts⟩
    all_goals
      all_goals refine plan_done ?_
      all_goals (try simp only [List.drop_succ_cons, List.drop_zero])
      all_goals (try go_wp2_with fail)
      all_goals refine NoPanic.normal ?_
      all_goals (try go_wp2_with fail)
      go_ret
      exact ⟨rfl, HB_F⟩

set_option maxRecDepth 100000 in
set_option maxHeartbeats 8000000 in
theorem longer_ab (hso : SortOk) (u k : Int) (co : Option Addr) (cc : Nat) (cs : List Clk) (a b c0 c1 c2 c3 t e s f : Int) (w : World) (hc : Sl w 4 cC co cs.length cc cs) (ha2 : 0 ≤ a) (ha3 : a ≤ 65535) (hb2 : 0 ≤ b) (hb3 : b ≤ 65535) (h8 : cs.length ≤ 8)
    (k1 : 0 ≤ u) (k2 : u ≤ 10000000) (k3 : 0 ≤ k) (k4 : k ≤ 100000) (he1 : (e == 1) = false) (h1 : freeF u k cs = (t, e)) (h2 : freeF (u + a) (100000) (cs ++ [⟨c0, c1, c2, c3⟩]) = (s, f)) (HLAW : f = 1 ∨ f = 4 ∨ f = 0 ∧ e = 0 ∧ t ≤ s) (ha4 : u + a < 10000000) (hb4 : 100000 ≤ k + b) :
    Calls Try.prog 5 #[.int .i64 u, .int .i64 k, .slice co cs.length cc, .int .u16 a, .int .u16 b, .agg #[.int .i64 c0, .int .i64 c1, .int .i64 c2, .int .i64 c3]] w (Ret w (.bool true)) := by
  have hcap := hc.max
  have hle := hc.le
  have h8i : (cs.length : Int) ≤ 8 := by omega
  unfold maxLen at hcap
  obtain ⟨W0, hW0, HB_W0, hZ, hn⟩ := boxes1 w [.int .i64 c0, .int .i64 c1, .int .i64 c2, .int .i64 c3] 44
  have H_c := Lib.hid hn
  have HCS := Lib.hid (hc.below HB_W0)
  have HSO := Lib.hid hso
  have H1 := Lib.hid h1
  have H2 := Lib.hid h2
  obtain ⟨i0, hi, hz0, hz1, hz2⟩ := info_parts info_clock
  have HI := Lib.hid hi
  have HZ0 := Lib.hid hz0
  have HZ1 := Lib.hid hz1
  have HZ2 := Lib.hid hz2
  clear hi hz0 hz1 hz2 hc hso h1 h2 hn hZ
  obtain ⟨q_c_0, q_c_1, q_c_2, q_c_3⟩ := H_c.out.c4
  go_enter Try.func5, Try.ntmps5
  go_wp2_with fail
  refine (head_any HSO.out _).mono ?_
  rintro e w1 ⟨rfl, hb_w1⟩
  have HB_w1 : Below w.heap.size w w1 := by first | exact after0 HB_W0 hb_w1 | exact after1 HB_W0 hb_w1 | exact after2 HB_W0 hb_w1 | exact after3 HB_W0 hb_w1 | exact after4 HB_W0 hb_w1 | exact after5 HB_W0 hb_w1
  try clear q_c_0 q_c_1 q_c_2 q_c_3
  have H_c := Lib.hid (Box.below (by first | exact H_c.out | exact H_c.out.alloc _ | exact (H_c.out.alloc _).alloc _ | exact ((H_c.out.alloc _).alloc _).alloc _) hb_w1)
  obtain ⟨q_c_0, q_c_1, q_c_2, q_c_3⟩ := H_c.out.c4
  replace HCS := Lib.hid (show Sl w1 _ _ _ _ _ _ by first | exact HCS.out.below hb_w1 | exact (HCS.out.below (grew1 (Below.refl _ _))).below hb_w1 | exact (HCS.out.below (grew2 (Below.refl _ _))).below hb_w1 | exact (HCS.out.below (grew3 (Below.refl _ _))).below hb_w1)
  clear hW0
  go_wp2_with fail
  refine (free_to H1.out HCS.out).mono ?_
  rintro e w2 ⟨rfl, hb_w2⟩
  have HB_w2 : Below w.heap.size w w2 := by first | exact after0 HB_w1 hb_w2 | exact after1 HB_w1 hb_w2 | exact after2 HB_w1 hb_w2 | exact after3 HB_w1 hb_w2 | exact after4 HB_w1 hb_w2 | exact after5 HB_w1 hb_w2
  try clear q_c_0 q_c_1 q_c_2 q_c_3
  have H_c := Lib.hid (Box.below (by first | exact H_c.out | exact H_c.out.alloc _ | exact (H_c.out.alloc _).alloc _ | exact ((H_c.out.alloc _).alloc _).alloc _) hb_w2)
  obtain ⟨q_c_0, q_c_1, q_c_2, q_c_3⟩ := H_c.out.c4
  replace HCS := Lib.hid (show Sl w2 _ _ _ _ _ _ by first | exact HCS.out.below hb_w2 | exact (HCS.out.below (grew1 (Below.refl _ _))).below hb_w2 | exact (HCS.out.below (grew2 (Below.refl _ _))).below hb_w2 | exact (HCS.out.below (grew3 (Below.refl _ _))).below hb_w2)
  go_wp2_with fail
  have y_q_c_0 := cell_regrown q_c_0
  have y_q_c_1 := cell_regrown q_c_1
  have y_q_c_2 := cell_regrown q_c_2
  have y_q_c_3 := cell_regrown q_c_3
  clear q_c_0 q_c_1 q_c_2 q_c_3
  refine wp_region_plan (C := fun w' => ∃ p : Regrown, w' = grow (redrawn w2 p.d) p.os) (.q 0 (.q 1 (.q 2 (.q 3 (.q 4 (.q 5 (.q 6 (.q 7 (.q 8 (.q 9 (.q 11 (.q 13 (.two 10 (.two 12 (.e 14 (.e 15 (.e 16 (.q 17 (.q 18 (.q 19 (.q 20 (.q 21 (.done))))))))) 14 (.e 12 (.e 15 (.e 16 (.q 17 (.q 18 (.q 19 (.q 20 (.q 21 (.done)))))))))) 14 (.e 10 (.e 12 (.e 15 (.e 16 (.q 17 (.q 18 (.q 19 (.q 20 (.q 21 (.done))))))))))))))))))))))) 22 (by kernel_rfl) (by kernel_rfl) (grew_drew _) ?_
  repeat (any_goals (first | (go_big_quiet_skip; refine wpQuiet_nil ?_) | (go_big_quiet_want; go_big_quiet_op; go_big_quiet_on; refine wpQuiet_nil ?_) | ((with_reducible apply q_split); exact rfl; intro q hq; cases q <;> (rw [hq]; (try first | replace hq := bnot_t hq | replace hq := bnot_f hq); (try first | replace hq := of_decide_eq_true hq | replace hq := of_decide_eq_false hq | replace hq := eq_of_beq hq); (try first | replace hq := Int.not_lt.1 hq | replace hq := Int.not_le.1 hq | replace hq := Nat.not_lt.1 hq | replace hq := Nat.not_le.1 hq); try (exfalso; omega))) | (refine plan_q rfl rfl ?_)))
  refine plan_two rfl rfl ?_ ?_
  · go_wp2_with fail
    obtain ⟨W3, hW3⟩ : ∃ W3, (w2.alloc (.cells #[] 44)).drew = W3 := ⟨_, rfl⟩
    have HB_W3 : Below w2.heap.size w2 W3 := hW3 ▸ (grew1 (Below.refl _ _)).drew
    have HO_W3 : Hid (OwnL W3 w2.heap.size 44 4 cC (.slice (some ⟨w2.heap.size, 0, none⟩) 0 0) ([] : List Clk)) := hW3 ▸ (OwnL.made (Nat.le_refl _)).drew
    rw [hW3]
    have hlt3 : w2.heap.size < W3.heap.size := by rw [← hW3]; simp
    clear hW3
    refine MixPost.intro (grew_of_below HB_W3) ?_
    refine plan_two rfl rfl ?_ ?_
    ·
      go_wp2_with (at_builtin; refine wpList_append_sl rfl _ _ 23 rfl w2.heap.size 44 i0 _ 4 32 Try.underlying23 HI.out HZ0.out HZ1.out HZ2.out rfl (by decide) cC_len cC_one _ ([] : List Clk) rfl HO_W3.out co _ cc cs rfl (HCS.out.below HB_W3) (by unfold maxLen; (try simp); (try omega)) (by (try simp); (try omega)) HB_W3.size ?_)
      rintro v4 w4 ho hg hgr
      have HB_w4 : Below w2.heap.size w2 w4 := HB_W3.trans (hg _ (Nat.le_refl _))
      have HO_w4 : Hid (OwnL w4 w2.heap.size 44 4 cC v4 cs) := ho
      have hgw : W3.heap.size ≤ w4.heap.size := hgr.size
      clear ho hg hgr
      refine MixPost.intro (grew_of_below HB_w4) ?_
      refine plan_e rfl ?_
      go_wp2_with fail
      obtain ⟨NB, hNB⟩ : ∃ N, w4.heap.size = N := ⟨_, rfl⟩
      obtain ⟨W5, hW5⟩ : ∃ W, w4.alloc (.cells #[.int .i64 c0, .int .i64 c1, .int .i64 c2, .int .i64 c3] 44) = W := ⟨_, rfl⟩
      have HB_W5 : Below w2.heap.size w2 W5 := hW5 ▸ grew1 HB_w4
      have HX : Hid (Box W5 NB 44 [.int .i64 c0, .int .i64 c1, .int .i64 c2, .int .i64 c3]) := by rw [← hW5, ← hNB]; exact Box.new w4 [.int .i64 c0, .int .i64 c1, .int .i64 c2, .int .i64 c3] 44
      have hge3 : w2.heap.size ≤ NB := by rw [← hNB]; exact HB_w4.size
      have hgt3 : W3.heap.size ≤ NB := by first | (rw [← hNB]; exact Nat.le_refl _) | (rw [← hNB]; exact hgw)
      rw [hW5]
      try rw [hNB]
      clear hNB
      refine MixPost.intro (grew_of_below HB_W5) ?_
      have HO_W5 := Lib.hid (hW5 ▸ HO_w4.out.alloc (.cells #[.int .i64 c0, .int .i64 c1, .int .i64 c2, .int .i64 c3] 44))
      clear hW5
      refine plan_e rfl ?_
      go_wp2_with (at_builtin; refine wpList_append_sl rfl _ _ 23 rfl w2.heap.size 44 i0 _ 4 32 Try.underlying23 HI.out HZ0.out HZ1.out HZ2.out rfl (by decide) cC_len cC_one v4 cs rfl HO_W5.out (some ⟨NB, 0, none⟩) 1 1 [(⟨c0, c1, c2, c3⟩ : Clk)] rfl (Sl.one (enc := cC) (x := (⟨c0, c1, c2, c3⟩ : Clk)) cC_len HX.out) (by unfold maxLen; (try simp); (try omega)) (by (try simp); (try omega)) HB_W5.size ?_)
      rintro v6 w6 ho hg hgr
      have HB_w6 : Below w2.heap.size w2 w6 := HB_W5.trans (hg _ (Nat.le_refl _))
      have HO_w6 : Hid (OwnL w6 w2.heap.size 44 4 cC v6 (cs ++ [(⟨c0, c1, c2, c3⟩ : Clk)])) := ho
      clear ho hg hgr
      refine MixPost.intro (grew_of_below HB_w6) ?_
      obtain ⟨ao', cap', rfl, hsl⟩ := HO_w6.out.sl cC_len
      rw [List.length_append] at hsl
      have HSL := Lib.hid (show Sl _ 4 cC ao' (cs.length + 1) cap' (cs ++ [(⟨c0, c1, c2, c3⟩ : Clk)]) from hsl)
      clear hsl
      refine plan_e rfl ?_
      go_wp2_with fail
      refine (free_to H2.out HSL.out).mono ?_
      rintro e w7 ⟨rfl, hb7⟩
      have HB_w7 : Below w2.heap.size w2 w7 := HB_w6.trans (hb7.mono HB_w6.size)
      clear hb7
      go_wp2_with fail
      refine MixPost.intro (grew_of_below HB_w7) ?_
      repeat (any_goals (first | (go_big_quiet_skip; refine wpQuiet_nil ?_) | (go_big_quiet_want; go_big_quiet_op; go_big_quiet_on; refine wpQuiet_nil ?_) | ((with_reducible apply q_split); exact rfl; intro q hq; cases q <;> (rw [hq]; (try first | replace hq := bnot_t hq | replace hq := bnot_f hq); (try first | replace hq := of_decide_eq_true hq | replace hq := of_decide_eq_false hq | replace hq := eq_of_beq hq); (try first | replace hq := Int.not_lt.1 hq | replace hq := Int.not_le.1 hq | replace hq := Nat.not_lt.1 hq | replace hq := Nat.not_le.1 hq); try (exfalso; omega))) | (refine plan_q rfl rfl ?_)))
      clear y_q_c_0 y_q_c_1 y_q_c_2 y_q_c_3
      have HB_F := after0 HB_w2 HB_w7
      rcases HLAW with rfl | rfl | ⟨rfl, rfl, hts⟩
      all_goals
        all_goals refine plan_done ?_
        all_goals (try simp only [List.drop_succ_cons, List.drop_zero])
        all_goals (try go_wp2_with fail)
        all_goals refine NoPanic.normal ?_
        all_goals (try go_wp2_with fail)
        go_ret
        exact ⟨rfl, HB_F⟩
    ·
      go_wp2_with fail
      obtain ⟨NB, hNB⟩ : ∃ N, W3.heap.size = N := ⟨_, rfl⟩
      obtain ⟨W5, hW5⟩ : ∃ W, W3.alloc (.cells #[.int .i64 c0, .int .i64 c1, .int .i64 c2, .int .i64 c3] 44) = W := ⟨_, rfl⟩
      have HB_W5 : Below w2.heap.size w2 W5 := hW5 ▸ grew1 HB_W3
      have HX : Hid (Box W5 NB 44 [.int .i64 c0, .int .i64 c1, .int .i64 c2, .int .i64 c3]) := by rw [← hW5, ← hNB]; exact Box.new W3 [.int .i64 c0, .int .i64 c1, .int .i64 c2, .int .i64 c3] 44
      have hge3 : w2.heap.size ≤ NB := by rw [← hNB]; exact HB_W3.size
      have hgt3 : W3.heap.size ≤ NB := by first | (rw [← hNB]; exact Nat.le_refl _) | (rw [← hNB]; exact hgw)
      rw [hW5]
      try rw [hNB]
      clear hNB
      refine MixPost.intro (grew_of_below HB_W5) ?_
      have HO_W5 := Lib.hid (hW5 ▸ HO_W3.out.alloc (.cells #[.int .i64 c0, .int .i64 c1, .int .i64 c2, .int .i64 c3] 44))
      clear hW5
      refine plan_e rfl ?_
      go_wp2_with (at_builtin; refine wpList_append_sl rfl _ _ 23 rfl w2.heap.size 44 i0 _ 4 32 Try.underlying23 HI.out HZ0.out HZ1.out HZ2.out rfl (by decide) cC_len cC_one _ ([] : List Clk) rfl HO_W5.out co _ cc cs rfl (HCS.out.below HB_W5) (by unfold maxLen; (try simp); (try omega)) (by (try simp); (try omega)) HB_W5.size ?_)
      rintro v4 w4 ho hg hgr
      have HB_w4 : Below w2.heap.size w2 w4 := HB_W5.trans (hg _ (Nat.le_refl _))
      have HO_w4 : Hid (OwnL w4 w2.heap.size 44 4 cC v4 cs) := ho
      replace HX := Lib.hid (HX.out.grown hgr (by intro e; simp only [Value.ownBlock, Option.some.injEq] at e; omega))
      clear ho hg hgr
      refine MixPost.intro (grew_of_below HB_w4) ?_
      refine plan_e rfl ?_
      go_wp2_with (at_builtin; refine wpList_append_sl rfl _ _ 23 rfl w2.heap.size 44 i0 _ 4 32 Try.underlying23 HI.out HZ0.out HZ1.out HZ2.out rfl (by decide) cC_len cC_one v4 cs rfl HO_w4.out (some ⟨NB, 0, none⟩) 1 1 [(⟨c0, c1, c2, c3⟩ : Clk)] rfl (Sl.one (enc := cC) (x := (⟨c0, c1, c2, c3⟩ : Clk)) cC_len HX.out) (by unfold maxLen; (try simp); (try omega)) (by (try simp); (try omega)) HB_w4.size ?_)
      rintro v6 w6 ho hg hgr
      have HB_w6 : Below w2.heap.size w2 w6 := HB_w4.trans (hg _ (Nat.le_refl _))
      have HO_w6 : Hid (OwnL w6 w2.heap.size 44 4 cC v6 (cs ++ [(⟨c0, c1, c2, c3⟩ : Clk)])) := ho
      clear ho hg hgr
      refine MixPost.intro (grew_of_below HB_w6) ?_
      obtain ⟨ao', cap', rfl, hsl⟩ := HO_w6.out.sl cC_len
      rw [List.length_append] at hsl
      have HSL := Lib.hid (show Sl _ 4 cC ao' (cs.length + 1) cap' (cs ++ [(⟨c0, c1, c2, c3⟩ : Clk)]) from hsl)
      clear hsl
      refine plan_e rfl ?_
      go_wp2_with fail
      refine (free_to H2.out HSL.out).mono ?_
      rintro e w7 ⟨rfl, hb7⟩
      have HB_w7 : Below w2.heap.size w2 w7 := HB_w6.trans (hb7.mono HB_w6.size)
      clear hb7
      go_wp2_with fail
      refine MixPost.intro (grew_of_below HB_w7) ?_
      repeat (any_goals (first | (go_big_quiet_skip; refine wpQuiet_nil ?_) | (go_big_quiet_want; go_big_quiet_op; go_big_quiet_on; refine wpQuiet_nil ?_) | ((with_reducible apply q_split); exact rfl; intro q hq; cases q <;> (rw [hq]; (try first | replace hq := bnot_t hq | replace hq := bnot_f hq); (try first | replace hq := of_decide_eq_true hq | replace hq := of_decide_eq_false hq | replace hq := eq_of_beq hq); (try first | replace hq := Int.not_lt.1 hq | replace hq := Int.not_le.1 hq | replace hq := Nat.not_lt.1 hq | replace hq := Nat.not_le.1 hq); try (exfalso; omega))) | (refine plan_q rfl rfl ?_)))
      clear y_q_c_0 y_q_c_1 y_q_c_2 y_q_c_3
      have HB_F := after0 HB_w2 HB_w7
      rcases HLAW with rfl | rfl | ⟨rfl, rfl, hts⟩
      all_goals
        all_goals refine plan_done ?_
        all_goals (try simp only [List.drop_succ_cons, List.drop_zero])
        all_goals (try go_wp2_with fail)
        all_goals refine NoPanic.normal ?_
        all_goals (try go_wp2_with fail)
        go_ret
        exact ⟨rfl, HB_F⟩
  · go_wp2_with fail
    obtain ⟨NB, hNB⟩ : ∃ N, w2.heap.size = N := ⟨_, rfl⟩
    obtain ⟨W3, hW3⟩ : ∃ W3, (w2.alloc (.cells #[.int .i64 c0, .int .i64 c1, .int .i64 c2, .int .i64 c3] 44)).drew = W3 := ⟨_, rfl⟩
    have HB_W3 : Below w2.heap.size w2 W3 := hW3 ▸ (grew1 (Below.refl _ _)).drew
    have HX : Hid (Box W3 NB 44 [.int .i64 c0, .int .i64 c1, .int .i64 c2, .int .i64 c3]) := by rw [← hW3, ← hNB]; exact Box.drew (Box.new w2 [.int .i64 c0, .int .i64 c1, .int .i64 c2, .int .i64 c3] 44)
    rw [hW3]
    try rw [hNB]
    have hlt3 : NB < W3.heap.size := HX.out.lt
    clear hW3 hNB
    refine MixPost.intro (grew_of_below HB_W3) ?_
    refine plan_e rfl ?_
    go_wp2_with fail
    have HB_W5 : Below w2.heap.size w2 (W3.alloc (.cells #[] 44)) := grew1 HB_W3
    have HO_W5 : Hid (OwnL (W3.alloc (.cells #[] 44)) w2.heap.size 44 4 cC (.slice (some ⟨W3.heap.size, 0, none⟩) 0 0) ([] : List Clk)) := (OwnL.made (Nat.le_refl _)).mono HB_W3.size
    replace HX := Lib.hid (HX.out.alloc (.cells #[] 44))
    generalize W3.heap.size = N0 at *
    generalize W3.alloc (.cells #[] 44) = W5 at *
    refine MixPost.intro (grew_of_below HB_W5) ?_
    refine plan_e rfl ?_
    go_wp2_with (at_builtin; refine wpList_append_sl rfl _ _ 23 rfl w2.heap.size 44 i0 _ 4 32 Try.underlying23 HI.out HZ0.out HZ1.out HZ2.out rfl (by decide) cC_len cC_one _ ([] : List Clk) rfl HO_W5.out co _ cc cs rfl (HCS.out.below HB_W5) (by unfold maxLen; (try simp); (try omega)) (by (try simp); (try omega)) HB_W5.size ?_)
    rintro v4 w4 ho hg hgr
    have HB_w4 : Below w2.heap.size w2 w4 := HB_W5.trans (hg _ (Nat.le_refl _))
    have HO_w4 : Hid (OwnL w4 w2.heap.size 44 4 cC v4 cs) := ho
    replace HX := Lib.hid (HX.out.grown hgr (by intro e; simp only [Value.ownBlock, Option.some.injEq] at e; omega))
    clear ho hg hgr
    refine MixPost.intro (grew_of_below HB_w4) ?_
    refine plan_e rfl ?_
    go_wp2_with (at_builtin; refine wpList_append_sl rfl _ _ 23 rfl w2.heap.size 44 i0 _ 4 32 Try.underlying23 HI.out HZ0.out HZ1.out HZ2.out rfl (by decide) cC_len cC_one v4 cs rfl HO_w4.out (some ⟨NB, 0, none⟩) 1 1 [(⟨c0, c1, c2, c3⟩ : Clk)] rfl (Sl.one (enc := cC) (x := (⟨c0, c1, c2, c3⟩ : Clk)) cC_len HX.out) (by unfold maxLen; (try simp); (try omega)) (by (try simp); (try omega)) HB_w4.size ?_)
    rintro v6 w6 ho hg hgr
    have HB_w6 : Below w2.heap.size w2 w6 := HB_w4.trans (hg _ (Nat.le_refl _))
    have HO_w6 : Hid (OwnL w6 w2.heap.size 44 4 cC v6 (cs ++ [(⟨c0, c1, c2, c3⟩ : Clk)])) := ho
    clear ho hg hgr
    refine MixPost.intro (grew_of_below HB_w6) ?_
    obtain ⟨ao', cap', rfl, hsl⟩ := HO_w6.out.sl cC_len
    rw [List.length_append] at hsl
    have HSL := Lib.hid (show Sl _ 4 cC ao' (cs.length + 1) cap' (cs ++ [(⟨c0, c1, c2, c3⟩ : Clk)]) from hsl)
    clear hsl
    refine plan_e rfl ?_
    go_wp2_with fail
    refine (free_to H2.out HSL.out).mono ?_
    rintro e w7 ⟨rfl, hb7⟩
    have HB_w7 : Below w2.heap.size w2 w7 := HB_w6.trans (hb7.mono HB_w6.size)
    clear hb7
    go_wp2_with fail
    refine MixPost.intro (grew_of_below HB_w7) ?_
    repeat (any_goals (first | (go_big_quiet_skip; refine wpQuiet_nil ?_) | (go_big_quiet_want; go_big_quiet_op; go_big_quiet_on; refine wpQuiet_nil ?_) | ((with_reducible apply q_split); exact rfl; intro q hq; cases q <;> (rw [hq]; (try first | replace hq := bnot_t hq | replace hq := bnot_f hq); (try first | replace hq := of_decide_eq_true hq | replace hq := of_decide_eq_false hq | replace hq := eq_of_beq hq); (try first | replace hq := Int.not_lt.1 hq | replace hq := Int.not_le.1 hq | replace hq := Nat.not_lt.1 hq | replace hq := Nat.not_le.1 hq); try (exfalso; omega))) | (refine plan_q rfl rfl ?_)))
    clear y_q_c_0 y_q_c_1 y_q_c_2 y_q_c_3
    have HB_F := after0 HB_w2 HB_w7
    rcases HLAW with rfl | rfl | ⟨rfl, rfl, hts⟩
    all_goals
      all_goals refine plan_done ?_
      all_goals (try simp only [List.drop_succ_cons, List.drop_zero])
      all_goals (try go_wp2_with fail)
      all_goals refine NoPanic.normal ?_
      all_goals (try go_wp2_with fail)
      go_ret
      exact ⟨rfl, HB_F⟩

end Go.Proofs.Ytpdecgbfnhaojaa
