/-
  The reference functions of chapter 10: Lost.
-/
import Derived.Test.YtmnlkndbdcdngaaSymRE
namespace Go.Proofs.Ytmnlkndbdcdngaa
open Go.RowKit Sb Sk Go.Sort
set_option linter.unusedVariables false

theorem symsAt_step {a : List Mk} (p : Mk → Bool) {j : Nat} (hj : j < a.length) : ((a.take (j + 1)).filter p).map Mk.sy = ((a.take j).filter p).map Mk.sy ++ (if p a[j] then [a[j].sy] else []) := by
  rw [List.take_add_one, List.getElem?_eq_getElem hj, List.filter_append, List.map_append]
  cases h : p a[j] <;> simp [h]

set_option maxRecDepth 100000 in
set_option maxHeartbeats 8000000 in
theorem rlost_any (oa : Int) (aa : Option Addr) (na ca : Nat) (a : List Mk) (ob : Int) (ab : Option Addr) (nb cb : Nat) (b : List Mk) (w : World) (ha : Sl w 3 cM aa na ca a) (hb : Sl w 3 cM ab nb cb b) :
    Calls Try.prog 19 #[.agg #[.int .i64 oa, .slice aa na ca], .agg #[.int .i64 ob, .slice ab nb cb]] w (IntsE w (symsF oa a ob b isLost).1 (symsF oa a ob b isLost).2) := by
  obtain rfl := ha.len
  obtain rfl := hb.len
  have hca := ha.max
  have hla := ha.le
  have hcb := hb.max
  have hlb := hb.le
  unfold maxLen at hca hcb
  obtain ⟨W0, hW0, HB_W0, hZ, hn, hm⟩ := boxes2 w [.int .i64 oa, .slice aa a.length ca] [.int .i64 ob, .slice ab b.length cb] 24 24
  have H_a := Lib.hid hn
  have H_b := Lib.hid hm
  have HSA := Lib.hid (ha.below HB_W0)
  have HSB := Lib.hid (hb.below HB_W0)
  have HTR := Lib.hid (@symsF_ok oa ob a b isLost)
  have HBAD := Lib.hid (@symsF_bad oa ob a b isLost)
  clear ha hb hn hm hZ
  generalize symsF oa a ob b isLost = p at *
  obtain ⟨q_a_0, q_a_1⟩ := H_a.out.c2
  obtain ⟨q_b_0, q_b_1⟩ := H_b.out.c2
  go_enter Try.func19, Try.ntmps19
  go_wp2_with fail
  refine (rvalid_any _ _ _ _ _ _ (by first | exact HSA.out | exact HSA.out.below (grew1 (Below.refl _ _)) | exact HSA.out.below (grew2 (Below.refl _ _)) | exact HSA.out.below (grew3 (Below.refl _ _)))).mono ?_
  rintro e w1 ⟨rfl, hb_w1⟩
  have HB_w1 : Below w.heap.size w w1 := by first | exact after0 HB_W0 hb_w1 | exact after1 HB_W0 hb_w1 | exact after2 HB_W0 hb_w1 | exact after3 HB_W0 hb_w1 | exact after4 HB_W0 hb_w1 | exact after5 HB_W0 hb_w1
  try clear q_a_0 q_a_1
  have H_a := Lib.hid (Box.below (by first | exact H_a.out | exact H_a.out.alloc _ | exact (H_a.out.alloc _).alloc _ | exact ((H_a.out.alloc _).alloc _).alloc _) hb_w1)
  obtain ⟨q_a_0, q_a_1⟩ := H_a.out.c2
  try clear q_b_0 q_b_1
  have H_b := Lib.hid (Box.below (by first | exact H_b.out | exact H_b.out.alloc _ | exact (H_b.out.alloc _).alloc _ | exact ((H_b.out.alloc _).alloc _).alloc _) hb_w1)
  obtain ⟨q_b_0, q_b_1⟩ := H_b.out.c2
  replace HSA := Lib.hid (show Sl w1 _ _ _ _ _ _ by first | exact HSA.out.below hb_w1 | exact (HSA.out.below (grew1 (Below.refl _ _))).below hb_w1 | exact (HSA.out.below (grew2 (Below.refl _ _))).below hb_w1 | exact (HSA.out.below (grew3 (Below.refl _ _))).below hb_w1)
  replace HSB := Lib.hid (show Sl w1 _ _ _ _ _ _ by first | exact HSB.out.below hb_w1 | exact (HSB.out.below (grew1 (Below.refl _ _))).below hb_w1 | exact (HSB.out.below (grew2 (Below.refl _ _))).below hb_w1 | exact (HSB.out.below (grew3 (Below.refl _ _))).below hb_w1)
  clear hW0
  cases hoa : okB oa a
  · have HP := Lib.hid (HBAD.out (by rw [hoa]; rfl))
    go_wp2_with fail
    go_ret2
    exact ⟨none, 0, 0, by rw [HP.out]; rfl, by rw [HP.out]; exact Sl.nil, HB_w1⟩
  go_wp2_with fail
  refine (rvalid_any _ _ _ _ _ _ (by first | exact HSB.out | exact HSB.out.below (grew1 (Below.refl _ _)) | exact HSB.out.below (grew2 (Below.refl _ _)) | exact HSB.out.below (grew3 (Below.refl _ _)))).mono ?_
  rintro e w2 ⟨rfl, hb_w2⟩
  have HB_w2 : Below w.heap.size w w2 := by first | exact after0 HB_w1 hb_w2 | exact after1 HB_w1 hb_w2 | exact after2 HB_w1 hb_w2 | exact after3 HB_w1 hb_w2 | exact after4 HB_w1 hb_w2 | exact after5 HB_w1 hb_w2
  try clear q_a_0 q_a_1
  have H_a := Lib.hid (Box.below (by first | exact H_a.out | exact H_a.out.alloc _ | exact (H_a.out.alloc _).alloc _ | exact ((H_a.out.alloc _).alloc _).alloc _) hb_w2)
  obtain ⟨q_a_0, q_a_1⟩ := H_a.out.c2
  try clear q_b_0 q_b_1
  have H_b := Lib.hid (Box.below (by first | exact H_b.out | exact H_b.out.alloc _ | exact (H_b.out.alloc _).alloc _ | exact ((H_b.out.alloc _).alloc _).alloc _) hb_w2)
  obtain ⟨q_b_0, q_b_1⟩ := H_b.out.c2
  replace HSA := Lib.hid (show Sl w2 _ _ _ _ _ _ by first | exact HSA.out.below hb_w2 | exact (HSA.out.below (grew1 (Below.refl _ _))).below hb_w2 | exact (HSA.out.below (grew2 (Below.refl _ _))).below hb_w2 | exact (HSA.out.below (grew3 (Below.refl _ _))).below hb_w2)
  replace HSB := Lib.hid (show Sl w2 _ _ _ _ _ _ by first | exact HSB.out.below hb_w2 | exact (HSB.out.below (grew1 (Below.refl _ _))).below hb_w2 | exact (HSB.out.below (grew2 (Below.refl _ _))).below hb_w2 | exact (HSB.out.below (grew3 (Below.refl _ _))).below hb_w2)
  cases hob : okB ob b
  · have HP := Lib.hid (HBAD.out (by rw [hoa, hob]; rfl))
    go_wp2_with fail
    go_ret2
    exact ⟨none, 0, 0, by rw [HP.out]; rfl, by rw [HP.out]; exact Sl.nil, HB_w2⟩
  have HP := Lib.hid (HTR.out (by rw [hoa, hob]; rfl))
  have HOB := Lib.hid hob
  have hlen : a.length ≤ 100 := (vok hoa).len
  clear hoa hob HTR HBAD
  go_wp2_with fail
  generalize hP : (fun m => isLost m (trans b m) (found (trans b m))) = P at *
  replace hP := Lib.hid hP
  go_loopw [6, 7] (fun o i wr => ∃ j : Nat, ∃ v, j ≤ a.length ∧ o = v ∧ i = .int .i64 j ∧ Below w2.heap.size w2 wr ∧ Hid (OwnL wr w2.heap.size 3 1 cI v (((a.take j).filter P).map Mk.sy))) (fun _ i _ => a.length - (intOf i).toNat)
  case atStart => exact ⟨0, _, by omega, rfl, rfl, Below.refl _ _, OwnL.nil⟩
  case round =>
    obtain ⟨j, v, hj, rfl, rfl, HB_wr, HO⟩ := hrel
    have H_ar := Lib.hid (H_a.out.below HB_wr)
    have H_br := Lib.hid (H_b.out.below HB_wr)
    clear q_a_0 q_a_1 q_b_0 q_b_1
    obtain ⟨q_a_0, q_a_1⟩ := H_ar.out.c2
    obtain ⟨q_b_0, q_b_1⟩ := H_br.out.c2
    by_cases hjl : j < a.length
    case neg =>
      obtain rfl : j = a.length := by omega
      rw [List.take_length] at HO
      obtain ⟨ao', cap', rfl, hsl⟩ := HO.out.sl cI_len
      have HSO := Lib.hid hsl
      clear hsl
      go_wp2_with fail
      go_ret2
      exact ⟨ao', _, cap', by rw [HP.out]; rfl, by rw [HP.out]; exact HSO.out, after0 HB_w2 HB_wr⟩
    have hstep := symsAt_step P hjl
    obtain ⟨bb, off, rfl, hbb, hrow⟩ := HSA.out.get hjl
    have HROW := Lib.hid (hrow j hjl)
    obtain ⟨e_0, e_1, e_2⟩ := (HROW.out.below HB_wr hbb).c3
    have hpj : P a[j] = isLost a[j] (trans b a[j]) (found (trans b a[j])) := by rw [← hP.out]
    rw [hpj] at hstep
    have HST := Lib.hid hstep
    clear hrow hstep hpj
    generalize hx : a[j] = x at *
    clear hx
    obtain ⟨m0, m1, m2⟩ := x
    dsimp only at e_0 e_1 e_2
    have HFOR := Lib.hid (show ∀ W, Below wr.heap.size wr W → Calls Try.prog 35 #[.agg #[.int .i64 ob, .slice ab b.length cb], .agg #[.int .i64 m0, .int .i64 m1, .int .i64 m2]] W (Ret W (.int .i64 (forI b ⟨m0, m1, m2⟩))) from fun W hW => rfor_any ob ab _ cb b m0 m1 m2 W ((HSB.out.below HB_wr).below hW) (vok HOB.out))
    cases hf : found (trans b ⟨m0, m1, m2⟩)
    · rw [forI_lost (vok HOB.out) hf] at HFOR
      have HN : Hid (((a.take (j + 1)).filter P).map Mk.sy = ((a.take j).filter P).map Mk.sy ++ [m0]) := by show _ = _; rw [HST.out, hf]; rfl
      have hl : (((a.take j).filter P).map Mk.sy).length ≤ 100 := by
        rw [List.length_map]
        have h1 := List.length_filter_le P (a.take j)
        have h2 := List.length_take_le j a
        omega
      generalize ((a.take j).filter P).map Mk.sy = ys at *
      clear hf HST
      go_wp2_with fail
      have y_e_0 := cell_regrown e_0
      have y_e_1 := cell_regrown e_1
      have y_e_2 := cell_regrown e_2
      clear e_0 e_1 e_2
      have y_q_a_0 := cell_regrown q_a_0
      have y_q_a_1 := cell_regrown q_a_1
      clear q_a_0 q_a_1
      have y_q_b_0 := cell_regrown q_b_0
      have y_q_b_1 := cell_regrown q_b_1
      clear q_b_0 q_b_1
      refine wp_region_plan (C := fun w' => ∃ p : Regrown, w' = grow (redrawn wr p.d) p.os) (.q 0 (.q 1 (.q 2 (.q 3 (.q 4 (.q 5 (.e 6 (.q 7 (.done))))))))) 8 (by kernel_rfl) (by kernel_rfl) (grew_drew _) ?_
      repeat (any_goals (first | (go_big_quiet_skip; refine wpQuiet_nil ?_) | (go_big_quiet_want; go_big_quiet_op; go_big_quiet_on; refine wpQuiet_nil ?_) | ((with_reducible apply q_split); exact rfl; intro q hq; cases q <;> (rw [hq]; (try first | replace hq := bnot_t hq | replace hq := bnot_f hq); (try first | replace hq := of_decide_eq_true hq | replace hq := of_decide_eq_false hq | replace hq := eq_of_beq hq); (try first | replace hq := Int.not_lt.1 hq | replace hq := Int.not_le.1 hq | replace hq := Nat.not_lt.1 hq | replace hq := Nat.not_le.1 hq); try (exfalso; omega))) | (refine plan_q rfl rfl ?_)))
      refine plan_e rfl ?_
      go_wp2_with fail
      refine (HFOR.out _ below_drew).mono ?_
      rintro e w5 ⟨rfl, hb_w5⟩
      have HW_w5 : Below wr.heap.size wr w5 := below_undrew hb_w5
      clear hb_w5
      go_wp2_with fail
      refine MixPost.intro (grew_of_below HW_w5) ?_
      repeat (any_goals (first | (go_big_quiet_skip; refine wpQuiet_nil ?_) | (go_big_quiet_want; go_big_quiet_op; go_big_quiet_on; refine wpQuiet_nil ?_) | ((with_reducible apply q_split); exact rfl; intro q hq; cases q <;> (rw [hq]; (try first | replace hq := bnot_t hq | replace hq := bnot_f hq); (try first | replace hq := of_decide_eq_true hq | replace hq := of_decide_eq_false hq | replace hq := eq_of_beq hq); (try first | replace hq := Int.not_lt.1 hq | replace hq := Int.not_le.1 hq | replace hq := Nat.not_lt.1 hq | replace hq := Nat.not_le.1 hq); try (exfalso; omega))) | (refine plan_q rfl rfl ?_)))
      clear y_e_0 y_e_1 y_e_2
      clear y_q_a_0 y_q_a_1
      clear y_q_b_0 y_q_b_1
      have HB_w5 := after0 HB_wr HW_w5
      obtain ⟨e_0, e_1, e_2⟩ := (HROW.out.below HB_w5 hbb).c3
      obtain ⟨q_a_0, q_a_1⟩ := (H_ar.out.below HW_w5).c2
      obtain ⟨i0, hi, hz0, hz1, hz2⟩ := info_parts info_int
      have HOX := Lib.hid ((HO.out.below HW_w5).alloc (.cells #[.int .i64 m0] 3))
      have HSX := Lib.hid (Sl.one (x := m0) cI_len (Box.new w5 (cI m0) 3))
      have hsz : w2.heap.size ≤ (w5.alloc (.cells #[.int .i64 m0] 3)).heap.size := Nat.le_trans HB_w5.size (by simp)
      refine plan_done ?_
      try simp only [List.drop_succ_cons, List.drop_zero]
      try go_wp2_with fail
      refine NoPanic.normal ?_
      go_wp2_with (at_builtin; refine wpList_append_sl rfl _ _ 35 rfl w2.heap.size 3 i0 _ 1 8 Try.underlying35 hi hz0 hz1 hz2 rfl (by decide) cI_len cI_one _ ys rfl HOX.out (some ⟨w5.heap.size, 0, none⟩) 1 1 [m0] rfl HSX.out (by unfold maxLen; omega) (by omega) hsz ?_)
      rintro v' w6 ho6 hg6 _
      have HB_w6 : Below w2.heap.size w2 w6 := (grew1 HB_w5).trans (hg6 _ (Nat.le_refl _))
      have HO6 := Lib.hid ho6
      clear ho6 hg6 hi hz0 hz1 hz2
      go_wp2_with fail
      go_roundw
      case rel => exact ⟨j + 1, v', by omega, rfl, by go_num, HB_w6, by show OwnL _ _ _ _ _ _ _; rw [HN.out]; exact HO6.out⟩
      case measure => simp [intOf]; omega
    · obtain ⟨k, hk, hfo, hkt⟩ := forI_found (vok HOB.out) hf
      rw [hfo] at HFOR
      have HN : Hid (((a.take (j + 1)).filter P).map Mk.sy = ((a.take j).filter P).map Mk.sy) := by show _ = _; rw [HST.out, hf]; simp [isLost]
      clear hf hfo hkt HST
      go_wp2_with fail
      have y_e_0 := cell_regrown e_0
      have y_e_1 := cell_regrown e_1
      have y_e_2 := cell_regrown e_2
      clear e_0 e_1 e_2
      have y_q_a_0 := cell_regrown q_a_0
      have y_q_a_1 := cell_regrown q_a_1
      clear q_a_0 q_a_1
      have y_q_b_0 := cell_regrown q_b_0
      have y_q_b_1 := cell_regrown q_b_1
      clear q_b_0 q_b_1
      refine wp_region_plan (C := fun w' => ∃ p : Regrown, w' = grow (redrawn wr p.d) p.os) (.q 0 (.q 1 (.q 2 (.q 3 (.q 4 (.q 5 (.e 6 (.q 7 (.done))))))))) 8 (by kernel_rfl) (by kernel_rfl) (grew_drew _) ?_
      repeat (any_goals (first | (go_big_quiet_skip; refine wpQuiet_nil ?_) | (go_big_quiet_want; go_big_quiet_op; go_big_quiet_on; refine wpQuiet_nil ?_) | ((with_reducible apply q_split); exact rfl; intro q hq; cases q <;> (rw [hq]; (try first | replace hq := bnot_t hq | replace hq := bnot_f hq); (try first | replace hq := of_decide_eq_true hq | replace hq := of_decide_eq_false hq | replace hq := eq_of_beq hq); (try first | replace hq := Int.not_lt.1 hq | replace hq := Int.not_le.1 hq | replace hq := Nat.not_lt.1 hq | replace hq := Nat.not_le.1 hq); try (exfalso; omega))) | (refine plan_q rfl rfl ?_)))
      refine plan_e rfl ?_
      go_wp2_with fail
      refine (HFOR.out _ below_drew).mono ?_
      rintro e w5 ⟨rfl, hb_w5⟩
      have HW_w5 : Below wr.heap.size wr w5 := below_undrew hb_w5
      clear hb_w5
      go_wp2_with fail
      refine MixPost.intro (grew_of_below HW_w5) ?_
      repeat (any_goals (first | (go_big_quiet_skip; refine wpQuiet_nil ?_) | (go_big_quiet_want; go_big_quiet_op; go_big_quiet_on; refine wpQuiet_nil ?_) | ((with_reducible apply q_split); exact rfl; intro q hq; cases q <;> (rw [hq]; (try first | replace hq := bnot_t hq | replace hq := bnot_f hq); (try first | replace hq := of_decide_eq_true hq | replace hq := of_decide_eq_false hq | replace hq := eq_of_beq hq); (try first | replace hq := Int.not_lt.1 hq | replace hq := Int.not_le.1 hq | replace hq := Nat.not_lt.1 hq | replace hq := Nat.not_le.1 hq); try (exfalso; omega))) | (refine plan_q rfl rfl ?_)))
      clear y_e_0 y_e_1 y_e_2
      clear y_q_a_0 y_q_a_1
      clear y_q_b_0 y_q_b_1
      all_goals refine plan_done ?_
      all_goals (try simp only [List.drop_succ_cons, List.drop_zero])
      all_goals (try go_wp2_with fail)
      all_goals refine NoPanic.normal ?_
      all_goals (try go_wp2_with fail)
      go_roundw
      case rel => exact ⟨j + 1, _, by omega, rfl, by go_num, after0 HB_wr HW_w5, by show OwnL _ _ _ _ _ _ _; rw [HN.out]; exact HO.out.below HW_w5⟩
      case measure => simp [intOf]; omega
end Go.Proofs.Ytmnlkndbdcdngaa
