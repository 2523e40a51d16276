/-
  The reference functions of 'number': Text, Parse, Take.
-/
import Derived.Test.YtpdecgbfnhaojaaGreatNumW
import Derived.Test.YtpdecgbfnhaojaaGreatNumC
import Derived.Test.YtpdecgbfnhaojaaGreatApp
namespace Go.Proofs.YtpdecgbfnhaojaaGreat
open Go.RowKit Nb Sk Go.Sort

theorem cU_one1 (u : Us) : ∀ v ∈ cU u, v.oneCell' = true := by
  intro v hv
  simp [cU] at hv
  rcases hv with rfl | rfl | rfl | rfl | rfl <;> rfl
theorem next_len {l : List Us} {st kd now : Int} (h : (next l st kd now).2 ≠ 1) : l.length ≤ 200 := by
  by_cases hr : rows l = true
  · exact (rows_iff.1 hr).len
  · exfalso
    have h1 := asked_one (st := st) (kd := kd) (now := now) (.inl (by simpa using hr))
    rw [next_err (by omega), h1] at h
    exact h rfl


set_option maxRecDepth 100000 in
set_option maxHeartbeats 4000000 in
theorem rtake_any (ao : Option Addr) (n cap : Nat) (l : List Us) (st kd now free : Int) (w : World) (hs : Sl w 5 cU ao n cap l) :
    Calls Tryz.prog 33 #[.slice ao n cap, .int .i64 st, .int .i64 kd, .int .i64 now, .int .i64 free] w (Took w (take l st kd now free)) := by
  obtain rfl := hs.len
  have hcap := hs.max
  have hle := hs.le
  unfold maxLen at hcap
  have HS := Lib.hid hs
  clear hs
  obtain ⟨p, hp⟩ : ∃ p, take l st kd now free = p := ⟨_, rfl⟩
  have HP := Lib.hid hp
  rw [hp]
  clear hp
  have HNL := Lib.hid (@next_len l st kd now)
  obtain ⟨x, hx⟩ : ∃ x, next l st kd now = x := ⟨_, rfl⟩
  have HX := Lib.hid hx
  rw [hx] at HNL
  obtain ⟨W0, hW0, HB_W0, hZ, hr⟩ := boxes1 w [.int .i64 0, .int .i64 0, .int .i64 0] 29
  have H_r := Lib.hid hr
  clear hr
  go_enter Tryz.func33, Tryz.ntmps33
  go_wp2_with fail
  refine (rnext_any _ _ _ l st kd now W0 (HS.out.below HB_W0)).mono ?_
  rintro e wa ⟨rfl, hb⟩
  rw [hx]
  obtain ⟨⟨a, b, c⟩, q⟩ := x
  dsimp only
  have HB_a : Below w.heap.size w wa := after0 HB_W0 hb
  have H_r2 := Lib.hid (H_r.out.below hb)
  clear hx hW0 hb H_r
  obtain ⟨W1, hW1, hB1, hZ1, hv⟩ := boxes1 wa [.int .i64 a, .int .i64 b, .int .i64 c] 29
  have H_v := Lib.hid hv
  have H_r3 := Lib.hid (H_r2.out.below hB1)
  have HB_1 : Below w.heap.size w W1 := after0 HB_a hB1
  have hVR : w.heap.size < wa.heap.size := H_r2.out.lt
  obtain ⟨V, hV⟩ : ∃ V, wa.heap.size = V := ⟨_, rfl⟩
  rw [hV] at H_v hVR hZ1
  clear hv hB1 H_r2 HB_a
  by_cases g1 : q = 1
  · subst g1
    have HP2 : Hid (p = ([], zeroN, 1)) := by show _ = _; rw [← HP.out]; exact take_arg HX.out (.inl rfl)
    have H_r4 := H_r3
    have HB_4 := HB_1
    have f1 := H_r4.out.frozen
    obtain ⟨r0, r1, r2⟩ := H_r4.out.c3
    go_wp2_with fail
    obtain ⟨s0, s1, s2⟩ := (((H_r4.out.set 0 (.int .i64 0)).set 1 (.int .i64 0)).set 2 (.int .i64 0)).c3
    refine bodyPost_ret (v := .tuple #[.slice none 0 0, .agg #[.int .i64 0, .int .i64 0, .int .i64 0], .int .i64 1]) (by simp [results, Tryz.results33, go_sem, s0, s1, s2]) rfl ?_
    exact ⟨none, 0, 0, by rw [HP2.out]; rfl, by rw [HP2.out]; exact Sl.nil, by rw [HP2.out]; exact World.ownsRow_nil _ _ _ _, ((HB_4.setCell (p := ⟨w.heap.size, 0, none⟩) (Nat.le_refl _) _).setCell (p := ⟨w.heap.size, 1, none⟩) (Nat.le_refl _) _).setCell (p := ⟨w.heap.size, 2, none⟩) (Nat.le_refl _) _⟩
  have g1' : (q == 1) = false := beq_eq_false_iff_ne.2 g1
  have hlen200 := HNL.out g1
  by_cases g2 : free ≤ now
  · have HP2 : Hid (p = ([], zeroN, 1)) := by show _ = _; rw [← HP.out]; exact take_arg HX.out (.inr (.inl g2))
    have H_r4 := H_r3
    have HB_4 := HB_1
    have f1 := H_r4.out.frozen
    obtain ⟨r0, r1, r2⟩ := H_r4.out.c3
    go_wp2_with fail
    obtain ⟨s0, s1, s2⟩ := (((H_r4.out.set 0 (.int .i64 0)).set 1 (.int .i64 0)).set 2 (.int .i64 0)).c3
    refine bodyPost_ret (v := .tuple #[.slice none 0 0, .agg #[.int .i64 0, .int .i64 0, .int .i64 0], .int .i64 1]) (by simp [results, Tryz.results33, go_sem, s0, s1, s2]) rfl ?_
    exact ⟨none, 0, 0, by rw [HP2.out]; rfl, by rw [HP2.out]; exact Sl.nil, by rw [HP2.out]; exact World.ownsRow_nil _ _ _ _, ((HB_4.setCell (p := ⟨w.heap.size, 0, none⟩) (Nat.le_refl _) _).setCell (p := ⟨w.heap.size, 1, none⟩) (Nat.le_refl _) _).setCell (p := ⟨w.heap.size, 2, none⟩) (Nat.le_refl _) _⟩
  go_wp2_with fail
  refine (rtime_any _ _).mono ?_
  rintro e wb ⟨rfl, hb⟩
  have H_r4 := Lib.hid (H_r3.out.below hb)
  have H_v4 := Lib.hid (H_v.out.below hb)
  have HB_4 : Below w.heap.size w wb := after0 HB_1 hb
  clear hW1 hb H_r3 H_v HB_1
  by_cases g3 : tm free = true
  case neg =>
    have g3' : tm free = false := by simpa using g3
    have HP2 : Hid (p = ([], zeroN, 1)) := by show _ = _; rw [← HP.out]; exact take_arg HX.out (.inr (.inr g3'))
    rw [g3']
    have f1 := H_r4.out.frozen
    obtain ⟨r0, r1, r2⟩ := H_r4.out.c3
    go_wp2_with fail
    obtain ⟨s0, s1, s2⟩ := (((H_r4.out.set 0 (.int .i64 0)).set 1 (.int .i64 0)).set 2 (.int .i64 0)).c3
    refine bodyPost_ret (v := .tuple #[.slice none 0 0, .agg #[.int .i64 0, .int .i64 0, .int .i64 0], .int .i64 1]) (by simp [results, Tryz.results33, go_sem, s0, s1, s2]) rfl ?_
    exact ⟨none, 0, 0, by rw [HP2.out]; rfl, by rw [HP2.out]; exact Sl.nil, by rw [HP2.out]; exact World.ownsRow_nil _ _ _ _, ((HB_4.setCell (p := ⟨w.heap.size, 0, none⟩) (Nat.le_refl _) _).setCell (p := ⟨w.heap.size, 1, none⟩) (Nat.le_refl _) _).setCell (p := ⟨w.heap.size, 2, none⟩) (Nat.le_refl _) _⟩
  rw [g3]
  have hno : ¬ (q = 1 ∨ free ≤ now ∨ tm free = false) := by simp [g1, g2, g3]
  by_cases g4 : 200 ≤ l.length
  · have HP2 : Hid (p = ([], zeroN, 2)) := by show _ = _; rw [← HP.out]; exact take_limit HX.out hno g4
    have hl2 : l.length = 200 := by omega
    have hl3 : ((l.length : Int) == 200) = true := by rw [hl2]; rfl
    clear hl2
    have f1 := H_r4.out.frozen
    obtain ⟨r0, r1, r2⟩ := H_r4.out.c3
    go_wp2_with fail
    obtain ⟨s0, s1, s2⟩ := (((H_r4.out.set 0 (.int .i64 0)).set 1 (.int .i64 0)).set 2 (.int .i64 0)).c3
    refine bodyPost_ret (v := .tuple #[.slice none 0 0, .agg #[.int .i64 0, .int .i64 0, .int .i64 0], .int .i64 2]) (by simp [results, Tryz.results33, go_sem, s0, s1, s2]) rfl ?_
    exact ⟨none, 0, 0, by rw [HP2.out]; rfl, by rw [HP2.out]; exact Sl.nil, by rw [HP2.out]; exact World.ownsRow_nil _ _ _ _, ((HB_4.setCell (p := ⟨w.heap.size, 0, none⟩) (Nat.le_refl _) _).setCell (p := ⟨w.heap.size, 1, none⟩) (Nat.le_refl _) _).setCell (p := ⟨w.heap.size, 2, none⟩) (Nat.le_refl _) _⟩
  have hl3 : ((l.length : Int) == 200) = false := beq_eq_false_iff_ne.2 (by omega)
  by_cases g5 : q = 0
  case neg =>
    have g5' : (q == 0) = false := beq_eq_false_iff_ne.2 g5
    have HP2 : Hid (p = ([], zeroN, q)) := by show _ = _; rw [← HP.out]; exact take_err HX.out hno g4 g5
    have f1 := H_r4.out.frozen
    obtain ⟨r0, r1, r2⟩ := H_r4.out.c3
    go_wp2_with fail
    obtain ⟨s0, s1, s2⟩ := (((H_r4.out.set 0 (.int .i64 0)).set 1 (.int .i64 0)).set 2 (.int .i64 0)).c3
    refine bodyPost_ret (v := .tuple #[.slice none 0 0, .agg #[.int .i64 0, .int .i64 0, .int .i64 0], .int .i64 q]) (by simp [results, Tryz.results33, go_sem, s0, s1, s2]) rfl ?_
    exact ⟨none, 0, 0, by rw [HP2.out]; rfl, by rw [HP2.out]; exact Sl.nil, by rw [HP2.out]; exact World.ownsRow_nil _ _ _ _, ((HB_4.setCell (p := ⟨w.heap.size, 0, none⟩) (Nat.le_refl _) _).setCell (p := ⟨w.heap.size, 1, none⟩) (Nat.le_refl _) _).setCell (p := ⟨w.heap.size, 2, none⟩) (Nat.le_refl _) _⟩
  subst g5
  have HP2 : Hid (p = (l ++ [⟨⟨a, b, c⟩, now, free⟩], ⟨a, b, c⟩, 0)) := by show _ = _; rw [← HP.out]; exact take_ok HX.out hno g4 rfl
  clear g1'
  go_wp2_with fail
  have hRR : w.heap.size < wb.heap.size := H_r4.out.lt
  obtain ⟨k_0, k_1, k_2⟩ := H_v4.out.c3
  have y_k_0 := cell_regrown k_0
  have y_k_1 := cell_regrown k_1
  have y_k_2 := cell_regrown k_2
  clear k_0 k_1 k_2
  obtain ⟨i0, hi, hz0, hz1, hz2⟩ := info_parts info_used
  have HSL : Hid (Sl wb 5 cU ao l.length cap l) := HS.out.below HB_4
  refine wp_region_plan (C := fun w' => ∃ p : Regrown, w' = grow (redrawn wb p.d) p.os) (.q 1 (.q 3 (.q 4 (.q 5 (.q 6 (.q 9 (.two 0 (.two 2 (.e 7 (.e 8 (.q 10 (.done)))) 7 (.e 2 (.e 8 (.q 10 (.done))))) 7 (.e 0 (.e 2 (.e 8 (.q 10 (.done)))))))))))) 11 (by kernel_rfl) (by kernel_rfl) (grew_drew _) ?_
  repeat (any_goals (first | (go_big_quiet_skip; refine wpQuiet_nil ?_) | (go_big_quiet_want; go_big_quiet_op; go_big_quiet_on; refine wpQuiet_nil ?_) | ((with_reducible apply q_split); exact rfl; intro q hq; cases q <;> (rw [hq]; (try first | replace hq := bnot_t hq | replace hq := bnot_f hq); (try first | replace hq := of_decide_eq_true hq | replace hq := of_decide_eq_false hq | replace hq := eq_of_beq hq); (try first | replace hq := Int.not_lt.1 hq | replace hq := Int.not_le.1 hq | replace hq := Nat.not_lt.1 hq | replace hq := Nat.not_le.1 hq); try (exfalso; omega))) | (refine plan_q rfl rfl ?_)))
  refine plan_two rfl rfl ?_ ?_
  · go_wp2_with fail
    obtain ⟨W3, hW3⟩ : ∃ W3, (wb.alloc (.cells #[] 43)).drew = W3 := ⟨_, rfl⟩
    have HB_W3 : Below wb.heap.size wb W3 := hW3 ▸ (grew1 (Below.refl _ _)).drew
    have HO_W3 : Hid (OwnL W3 wb.heap.size 43 5 cU (.slice (some ⟨wb.heap.size, 0, none⟩) 0 0) ([] : List Us)) := hW3 ▸ (OwnL.made (Nat.le_refl _)).drew
    have HSL3 := Lib.hid (HSL.out.below HB_W3)
    have HZ3 : wb.heap.size < W3.heap.size := hW3 ▸ (by simp)
    rw [hW3]
    clear hW3
    refine MixPost.intro (grew_of_below HB_W3) ?_
    refine plan_two rfl rfl ?_ ?_
    · go_wp2_with (at_builtin; refine wpList_append_sl rfl _ _ 22 rfl wb.heap.size 43 i0 _ 5 40 Tryz.underlying22 hi hz0 hz1 hz2 rfl (by decide) cU_len cU_one1 _ ([] : List Us) rfl HO_W3.out ao l.length cap l rfl HSL3.out (by unfold maxLen; simp; omega) (by simp; omega) HB_W3.size ?_)
      rintro v1 w4 ho4 hg4 _
      have HB_w4 : Below wb.heap.size wb w4 := HB_W3.trans (hg4 _ (Nat.le_refl _))
      refine MixPost.intro (grew_of_below HB_w4) ?_
      refine plan_e rfl ?_
      go_wp2_with fail
      have HO_W5 := Lib.hid (ho4.alloc (.cells (cU ⟨⟨a, b, c⟩, now, free⟩).toArray 43))
      have HX_W5 := Lib.hid (Sl.one (x := (⟨⟨a, b, c⟩, now, free⟩ : Us)) cU_len (Box.new w4 (cU ⟨⟨a, b, c⟩, now, free⟩) 43))
      have HB_W5 : Below wb.heap.size wb (w4.alloc (.cells (cU ⟨⟨a, b, c⟩, now, free⟩).toArray 43)) := grew1 HB_w4
      generalize hNB : w4.heap.size = NB at *
      generalize hW5 : w4.alloc (.cells (cU ⟨⟨a, b, c⟩, now, free⟩).toArray 43) = W5 at *
      refine MixPost.intro (grew_of_below HB_W5) ?_
      clear hW5 hNB ho4 hg4
      refine plan_e rfl ?_
      go_wp2_with (at_builtin; refine wpList_append_sl rfl _ _ 22 rfl wb.heap.size 43 i0 _ 5 40 Tryz.underlying22 hi hz0 hz1 hz2 rfl (by decide) cU_len cU_one1 v1 l rfl HO_W5.out (some ⟨NB, 0, none⟩) 1 1 [⟨⟨a, b, c⟩, now, free⟩] rfl HX_W5.out (by unfold maxLen; omega) (by omega) HB_W5.size ?_)
      rintro v' w5 ho5 hg5 _
      have HB5 : Below wb.heap.size wb w5 := HB_W5.trans (hg5 _ (Nat.le_refl _))
      refine MixPost.intro (grew_of_below HB5) ?_
      repeat (any_goals (first | (go_big_quiet_skip; refine wpQuiet_nil ?_) | (go_big_quiet_want; go_big_quiet_op; go_big_quiet_on; refine wpQuiet_nil ?_) | ((with_reducible apply q_split); exact rfl; intro q hq; cases q <;> (rw [hq]; (try first | replace hq := bnot_t hq | replace hq := bnot_f hq); (try first | replace hq := of_decide_eq_true hq | replace hq := of_decide_eq_false hq | replace hq := eq_of_beq hq); (try first | replace hq := Int.not_lt.1 hq | replace hq := Int.not_le.1 hq | replace hq := Nat.not_lt.1 hq | replace hq := Nat.not_le.1 hq); try (exfalso; omega))) | (refine plan_q rfl rfl ?_)))
      have H_r5 := Lib.hid (H_r4.out.below HB5)
      have f1 := H_r5.out.frozen
      obtain ⟨r0, r1, r2⟩ := H_r5.out.c3
      clear y_k_0 y_k_1 y_k_2
      all_goals refine plan_done ?_
      all_goals (try simp only [List.drop_succ_cons, List.drop_zero])
      all_goals (try go_wp2_with fail)
      all_goals refine NoPanic.normal ?_
      all_goals (try go_wp2_with fail)
      obtain ⟨s0, s1, s2⟩ := (((H_r5.out.set 0 (.int .i64 a)).set 1 (.int .i64 b)).set 2 (.int .i64 c)).c3
      have ho6 := ho5.setCell (b := w.heap.size) (j := 0) (x := .int .i64 a) hRR
      have ho7 := ho6.setCell (b := w.heap.size) (j := 1) (x := .int .i64 b) hRR
      have ho8 := ho7.setCell (b := w.heap.size) (j := 2) (x := .int .i64 c) hRR
      obtain ⟨ao', cap', rfl, hsl⟩ := OwnL.sl cU_len ho8
      refine bodyPost_ret (v := .tuple #[.slice ao' (l ++ [(⟨⟨a, b, c⟩, now, free⟩ : Us)]).length cap', .agg #[.int .i64 a, .int .i64 b, .int .i64 c], .int .i64 0]) (by simp [results, Tryz.results33, go_sem, s0, s1, s2]) rfl ?_
      have HB6 : Below w.heap.size w w5 := HB_4.trans (HB5.mono HB_4.size)
      exact ⟨ao', _, cap', by rw [HP2.out], by rw [HP2.out]; exact hsl, by rw [HP2.out]; exact owns_mono ho8 HB_4.size, ((HB6.setCell (p := ⟨w.heap.size, 0, none⟩) (Nat.le_refl _) _).setCell (p := ⟨w.heap.size, 1, none⟩) (Nat.le_refl _) _).setCell (p := ⟨w.heap.size, 2, none⟩) (Nat.le_refl _) _⟩
    · go_wp2_with fail
      have HO_W4 := Lib.hid (HO_W3.out.alloc (.cells (cU ⟨⟨a, b, c⟩, now, free⟩).toArray 43))
      have HX_W4 := Lib.hid (Sl.one (x := (⟨⟨a, b, c⟩, now, free⟩ : Us)) cU_len (Box.new W3 (cU ⟨⟨a, b, c⟩, now, free⟩) 43))
      have HB_W4 : Below wb.heap.size wb (W3.alloc (.cells (cU ⟨⟨a, b, c⟩, now, free⟩).toArray 43)) := grew1 HB_W3
      have HZ_W4 : W3.heap.size < (W3.alloc (.cells (cU ⟨⟨a, b, c⟩, now, free⟩).toArray 43)).heap.size := by simp
      have HSL4 := Lib.hid (HSL.out.below HB_W4)
      have HBX_W4 := Lib.hid (Box.new W3 (cU ⟨⟨a, b, c⟩, now, free⟩) 43)
      generalize hNB : W3.heap.size = NB at *
      generalize hW4 : W3.alloc (.cells (cU ⟨⟨a, b, c⟩, now, free⟩).toArray 43) = W4 at *
      refine MixPost.intro (grew_of_below HB_W4) ?_
      clear hW4 hNB
      refine plan_e rfl ?_
      go_wp2_with (at_builtin; refine wpList_append_sl rfl _ _ 22 rfl wb.heap.size 43 i0 _ 5 40 Tryz.underlying22 hi hz0 hz1 hz2 rfl (by decide) cU_len cU_one1 _ ([] : List Us) rfl HO_W4.out ao l.length cap l rfl HSL4.out (by unfold maxLen; simp; omega) (by simp; omega) HB_W4.size ?_)
      rintro v1 w6 ho6 hg6 hgr
      have HB_w6 : Below wb.heap.size wb w6 := HB_W4.trans (hg6 _ (Nat.le_refl _))
      have HO_w6 : Hid (OwnL w6 wb.heap.size 43 5 cU v1 l) := ho6
      have HX_w6 := Lib.hid (Sl.one (x := (⟨⟨a, b, c⟩, now, free⟩ : Us)) cU_len (HBX_W4.out.grown hgr (by intro e; simp [Value.ownBlock] at e; omega)))
      refine MixPost.intro (grew_of_below HB_w6) ?_
      clear ho6 hg6 hgr
      refine plan_e rfl ?_
      go_wp2_with (at_builtin; refine wpList_append_sl rfl _ _ 22 rfl wb.heap.size 43 i0 _ 5 40 Tryz.underlying22 hi hz0 hz1 hz2 rfl (by decide) cU_len cU_one1 v1 l rfl HO_w6.out (some ⟨NB, 0, none⟩) 1 1 [⟨⟨a, b, c⟩, now, free⟩] rfl HX_w6.out (by unfold maxLen; omega) (by omega) HB_w6.size ?_)
      rintro v' w5 ho5 hg5 _
      have HB5 : Below wb.heap.size wb w5 := HB_w6.trans (hg5 _ (Nat.le_refl _))
      refine MixPost.intro (grew_of_below HB5) ?_
      repeat (any_goals (first | (go_big_quiet_skip; refine wpQuiet_nil ?_) | (go_big_quiet_want; go_big_quiet_op; go_big_quiet_on; refine wpQuiet_nil ?_) | ((with_reducible apply q_split); exact rfl; intro q hq; cases q <;> (rw [hq]; (try first | replace hq := bnot_t hq | replace hq := bnot_f hq); (try first | replace hq := of_decide_eq_true hq | replace hq := of_decide_eq_false hq | replace hq := eq_of_beq hq); (try first | replace hq := Int.not_lt.1 hq | replace hq := Int.not_le.1 hq | replace hq := Nat.not_lt.1 hq | replace hq := Nat.not_le.1 hq); try (exfalso; omega))) | (refine plan_q rfl rfl ?_)))
      have H_r5 := Lib.hid (H_r4.out.below HB5)
      have f1 := H_r5.out.frozen
      obtain ⟨r0, r1, r2⟩ := H_r5.out.c3
      clear y_k_0 y_k_1 y_k_2
      all_goals refine plan_done ?_
      all_goals (try simp only [List.drop_succ_cons, List.drop_zero])
      all_goals (try go_wp2_with fail)
      all_goals refine NoPanic.normal ?_
      all_goals (try go_wp2_with fail)
      obtain ⟨s0, s1, s2⟩ := (((H_r5.out.set 0 (.int .i64 a)).set 1 (.int .i64 b)).set 2 (.int .i64 c)).c3
      have ho6 := ho5.setCell (b := w.heap.size) (j := 0) (x := .int .i64 a) hRR
      have ho7 := ho6.setCell (b := w.heap.size) (j := 1) (x := .int .i64 b) hRR
      have ho8 := ho7.setCell (b := w.heap.size) (j := 2) (x := .int .i64 c) hRR
      obtain ⟨ao', cap', rfl, hsl⟩ := OwnL.sl cU_len ho8
      refine bodyPost_ret (v := .tuple #[.slice ao' (l ++ [(⟨⟨a, b, c⟩, now, free⟩ : Us)]).length cap', .agg #[.int .i64 a, .int .i64 b, .int .i64 c], .int .i64 0]) (by simp [results, Tryz.results33, go_sem, s0, s1, s2]) rfl ?_
      have HB6 : Below w.heap.size w w5 := HB_4.trans (HB5.mono HB_4.size)
      exact ⟨ao', _, cap', by rw [HP2.out], by rw [HP2.out]; exact hsl, by rw [HP2.out]; exact owns_mono ho8 HB_4.size, ((HB6.setCell (p := ⟨w.heap.size, 0, none⟩) (Nat.le_refl _) _).setCell (p := ⟨w.heap.size, 1, none⟩) (Nat.le_refl _) _).setCell (p := ⟨w.heap.size, 2, none⟩) (Nat.le_refl _) _⟩
  · go_wp2_with fail
    obtain ⟨W3, hW3⟩ : ∃ W3, (wb.alloc (.cells (cU ⟨⟨a, b, c⟩, now, free⟩).toArray 43)).drew = W3 := ⟨_, rfl⟩
    have HB_W3 : Below wb.heap.size wb W3 := hW3 ▸ (grew1 (Below.refl _ _)).drew
    have HBX_W3 : Hid (Box W3 wb.heap.size 43 (cU ⟨⟨a, b, c⟩, now, free⟩)) := hW3 ▸ Box.new wb (cU ⟨⟨a, b, c⟩, now, free⟩) 43
    have HZ3 : wb.heap.size < W3.heap.size := hW3 ▸ (by simp)
    rw [hW3]
    clear hW3
    refine MixPost.intro (grew_of_below HB_W3) ?_
    refine plan_e rfl ?_
    go_wp2_with fail
    have HB_W4 : Below wb.heap.size wb (W3.alloc (.cells #[] 43)) := grew1 HB_W3
    have HO_W4 : Hid (OwnL (W3.alloc (.cells #[] 43)) wb.heap.size 43 5 cU (.slice (some ⟨W3.heap.size, 0, none⟩) 0 0) ([] : List Us)) := (OwnL.made (Nat.le_refl _)).mono HB_W3.size
    have HBX_W4 := Lib.hid (HBX_W3.out.alloc (.cells #[] 43))
    have HSL4 := Lib.hid (HSL.out.below HB_W4)
    generalize hNB : W3.heap.size = NB at *
    generalize hW4 : W3.alloc (.cells #[] 43) = W4 at *
    refine MixPost.intro (grew_of_below HB_W4) ?_
    clear hW4 hNB
    refine plan_e rfl ?_
    go_wp2_with (at_builtin; refine wpList_append_sl rfl _ _ 22 rfl wb.heap.size 43 i0 _ 5 40 Tryz.underlying22 hi hz0 hz1 hz2 rfl (by decide) cU_len cU_one1 _ ([] : List Us) rfl HO_W4.out ao l.length cap l rfl HSL4.out (by unfold maxLen; simp; omega) (by simp; omega) HB_W4.size ?_)
    rintro v1 w6 ho6 hg6 hgr
    have HB_w6 : Below wb.heap.size wb w6 := HB_W4.trans (hg6 _ (Nat.le_refl _))
    have HO_w6 : Hid (OwnL w6 wb.heap.size 43 5 cU v1 l) := ho6
    have HX_w6 := Lib.hid (Sl.one (x := (⟨⟨a, b, c⟩, now, free⟩ : Us)) cU_len (HBX_W4.out.grown hgr (by intro e; simp [Value.ownBlock] at e; omega)))
    refine MixPost.intro (grew_of_below HB_w6) ?_
    clear ho6 hg6 hgr
    refine plan_e rfl ?_
    go_wp2_with (at_builtin; refine wpList_append_sl rfl _ _ 22 rfl wb.heap.size 43 i0 _ 5 40 Tryz.underlying22 hi hz0 hz1 hz2 rfl (by decide) cU_len cU_one1 v1 l rfl HO_w6.out (some ⟨wb.heap.size, 0, none⟩) 1 1 [⟨⟨a, b, c⟩, now, free⟩] rfl HX_w6.out (by unfold maxLen; omega) (by omega) HB_w6.size ?_)
    rintro v' w5 ho5 hg5 _
    have HB5 : Below wb.heap.size wb w5 := HB_w6.trans (hg5 _ (Nat.le_refl _))
    refine MixPost.intro (grew_of_below HB5) ?_
    repeat (any_goals (first | (go_big_quiet_skip; refine wpQuiet_nil ?_) | (go_big_quiet_want; go_big_quiet_op; go_big_quiet_on; refine wpQuiet_nil ?_) | ((with_reducible apply q_split); exact rfl; intro q hq; cases q <;> (rw [hq]; (try first | replace hq := bnot_t hq | replace hq := bnot_f hq); (try first | replace hq := of_decide_eq_true hq | replace hq := of_decide_eq_false hq | replace hq := eq_of_beq hq); (try first | replace hq := Int.not_lt.1 hq | replace hq := Int.not_le.1 hq | replace hq := Nat.not_lt.1 hq | replace hq := Nat.not_le.1 hq); try (exfalso; omega))) | (refine plan_q rfl rfl ?_)))
    have H_r5 := Lib.hid (H_r4.out.below HB5)
    have f1 := H_r5.out.frozen
    obtain ⟨r0, r1, r2⟩ := H_r5.out.c3
    clear y_k_0 y_k_1 y_k_2
    all_goals refine plan_done ?_
    all_goals (try simp only [List.drop_succ_cons, List.drop_zero])
    all_goals (try go_wp2_with fail)
    all_goals refine NoPanic.normal ?_
    all_goals (try go_wp2_with fail)
    obtain ⟨s0, s1, s2⟩ := (((H_r5.out.set 0 (.int .i64 a)).set 1 (.int .i64 b)).set 2 (.int .i64 c)).c3
    have ho6 := ho5.setCell (b := w.heap.size) (j := 0) (x := .int .i64 a) hRR
    have ho7 := ho6.setCell (b := w.heap.size) (j := 1) (x := .int .i64 b) hRR
    have ho8 := ho7.setCell (b := w.heap.size) (j := 2) (x := .int .i64 c) hRR
    obtain ⟨ao', cap', rfl, hsl⟩ := OwnL.sl cU_len ho8
    refine bodyPost_ret (v := .tuple #[.slice ao' (l ++ [(⟨⟨a, b, c⟩, now, free⟩ : Us)]).length cap', .agg #[.int .i64 a, .int .i64 b, .int .i64 c], .int .i64 0]) (by simp [results, Tryz.results33, go_sem, s0, s1, s2]) rfl ?_
    have HB6 : Below w.heap.size w w5 := HB_4.trans (HB5.mono HB_4.size)
    exact ⟨ao', _, cap', by rw [HP2.out], by rw [HP2.out]; exact hsl, by rw [HP2.out]; exact owns_mono ho8 HB_4.size, ((HB6.setCell (p := ⟨w.heap.size, 0, none⟩) (Nat.le_refl _) _).setCell (p := ⟨w.heap.size, 1, none⟩) (Nat.le_refl _) _).setCell (p := ⟨w.heap.size, 2, none⟩) (Nat.le_refl _) _⟩
end Go.Proofs.YtpdecgbfnhaojaaGreat
