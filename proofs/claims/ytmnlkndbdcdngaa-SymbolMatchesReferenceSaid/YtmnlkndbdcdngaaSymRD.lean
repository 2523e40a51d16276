/-
  The reference functions of chapter 10: Translate.
-/
import Derived.Test.YtmnlkndbdcdngaaSymRC
namespace Go.Proofs.Ytmnlkndbdcdngaa
open Go.RowKit Sb Sk Go.Sort
set_option linter.unusedVariables false

set_option maxRecDepth 100000 in
set_option maxHeartbeats 8000000 in
theorem rtranslate_any (oa : Int) (aa : Option Addr) (na ca : Nat) (a : List Mk) (ob : Int) (ab : Option Addr) (nb cb : Nat) (b : List Mk) (s : Int) (w : World) (ha : Sl w 3 cM aa na ca a) (hb : Sl w 3 cM ab nb cb b) :
    Calls Try.prog 17 #[.agg #[.int .i64 oa, .slice aa na ca], .agg #[.int .i64 ob, .slice ab nb cb], .int .i64 s] w (Ret w (.tuple #[.int .i64 (translate oa a ob b s).1, .int .i64 (translate oa a ob b s).2])) := by
  obtain rfl := ha.len
  obtain rfl := hb.len
  have hca := ha.max
  have hla := ha.le
  have hcb := hb.max
  have hlb := hb.le
  unfold maxLen at hca hcb
  obtain ⟨W0, hW0, HB_W0, hZ, hn, hm⟩ := boxes2 w [.int .i64 oa, .slice aa a.length ca] [.int .i64 ob, .slice ab b.length cb] 24 24
  have H_a := Lib.hid hn
  have H_b := Lib.hid hm
  have HSA := Lib.hid (ha.below HB_W0)
  have HSB := Lib.hid (hb.below HB_W0)
  have HTR := Lib.hid (@translate_ok oa ob a b s)
  have HBAD := Lib.hid (@translate_bad oa ob a b s)
  clear ha hb hn hm hZ
  generalize translate oa a ob b s = p at *
  obtain ⟨q_a_0, q_a_1⟩ := H_a.out.c2
  obtain ⟨q_b_0, q_b_1⟩ := H_b.out.c2
  go_enter Try.func17, Try.ntmps17
  go_wp2_with fail
  refine (rvalid_any _ _ _ _ _ _ (by first | exact HSA.out | exact HSA.out.below (grew1 (Below.refl _ _)) | exact HSA.out.below (grew2 (Below.refl _ _)) | exact HSA.out.below (grew3 (Below.refl _ _)))).mono ?_
  rintro e w1 ⟨rfl, hb_w1⟩
  have HB_w1 : Below w.heap.size w w1 := by first | exact after0 HB_W0 hb_w1 | exact after1 HB_W0 hb_w1 | exact after2 HB_W0 hb_w1 | exact after3 HB_W0 hb_w1 | exact after4 HB_W0 hb_w1 | exact after5 HB_W0 hb_w1
  try clear q_a_0 q_a_1
  have H_a := Lib.hid (Box.below (by first | exact H_a.out | exact H_a.out.alloc _ | exact (H_a.out.alloc _).alloc _ | exact ((H_a.out.alloc _).alloc _).alloc _) hb_w1)
  obtain ⟨q_a_0, q_a_1⟩ := H_a.out.c2
  try clear q_b_0 q_b_1
  have H_b := Lib.hid (Box.below (by first | exact H_b.out | exact H_b.out.alloc _ | exact (H_b.out.alloc _).alloc _ | exact ((H_b.out.alloc _).alloc _).alloc _) hb_w1)
  obtain ⟨q_b_0, q_b_1⟩ := H_b.out.c2
  replace HSA := Lib.hid (show Sl w1 _ _ _ _ _ _ by first | exact HSA.out.below hb_w1 | exact (HSA.out.below (grew1 (Below.refl _ _))).below hb_w1 | exact (HSA.out.below (grew2 (Below.refl _ _))).below hb_w1 | exact (HSA.out.below (grew3 (Below.refl _ _))).below hb_w1)
  replace HSB := Lib.hid (show Sl w1 _ _ _ _ _ _ by first | exact HSB.out.below hb_w1 | exact (HSB.out.below (grew1 (Below.refl _ _))).below hb_w1 | exact (HSB.out.below (grew2 (Below.refl _ _))).below hb_w1 | exact (HSB.out.below (grew3 (Below.refl _ _))).below hb_w1)
  clear hW0
  cases hoa : okB oa a
  · have HP := Lib.hid (HBAD.out (by rw [hoa]; rfl))
    go_wp2_with fail
    go_ret2
    exact ⟨ret_pair HP.out, HB_w1⟩
  go_wp2_with fail
  refine (rvalid_any _ _ _ _ _ _ (by first | exact HSB.out | exact HSB.out.below (grew1 (Below.refl _ _)) | exact HSB.out.below (grew2 (Below.refl _ _)) | exact HSB.out.below (grew3 (Below.refl _ _)))).mono ?_
  rintro e w2 ⟨rfl, hb_w2⟩
  have HB_w2 : Below w.heap.size w w2 := by first | exact after0 HB_w1 hb_w2 | exact after1 HB_w1 hb_w2 | exact after2 HB_w1 hb_w2 | exact after3 HB_w1 hb_w2 | exact after4 HB_w1 hb_w2 | exact after5 HB_w1 hb_w2
  try clear q_a_0 q_a_1
  have H_a := Lib.hid (Box.below (by first | exact H_a.out | exact H_a.out.alloc _ | exact (H_a.out.alloc _).alloc _ | exact ((H_a.out.alloc _).alloc _).alloc _) hb_w2)
  obtain ⟨q_a_0, q_a_1⟩ := H_a.out.c2
  try clear q_b_0 q_b_1
  have H_b := Lib.hid (Box.below (by first | exact H_b.out | exact H_b.out.alloc _ | exact (H_b.out.alloc _).alloc _ | exact ((H_b.out.alloc _).alloc _).alloc _) hb_w2)
  obtain ⟨q_b_0, q_b_1⟩ := H_b.out.c2
  replace HSA := Lib.hid (show Sl w2 _ _ _ _ _ _ by first | exact HSA.out.below hb_w2 | exact (HSA.out.below (grew1 (Below.refl _ _))).below hb_w2 | exact (HSA.out.below (grew2 (Below.refl _ _))).below hb_w2 | exact (HSA.out.below (grew3 (Below.refl _ _))).below hb_w2)
  replace HSB := Lib.hid (show Sl w2 _ _ _ _ _ _ by first | exact HSB.out.below hb_w2 | exact (HSB.out.below (grew1 (Below.refl _ _))).below hb_w2 | exact (HSB.out.below (grew2 (Below.refl _ _))).below hb_w2 | exact (HSB.out.below (grew3 (Below.refl _ _))).below hb_w2)
  cases hob : okB ob b
  · have HP := Lib.hid (HBAD.out (by rw [hoa, hob]; rfl))
    go_wp2_with fail
    go_ret2
    exact ⟨ret_pair HP.out, HB_w2⟩
  go_wp2_with fail
  refine (rsymbol_any s _).mono ?_
  rintro e w3 ⟨rfl, hb_w3⟩
  have HB_w3 : Below w.heap.size w w3 := by first | exact after0 HB_w2 hb_w3 | exact after1 HB_w2 hb_w3 | exact after2 HB_w2 hb_w3 | exact after3 HB_w2 hb_w3 | exact after4 HB_w2 hb_w3 | exact after5 HB_w2 hb_w3
  try clear q_a_0 q_a_1
  have H_a := Lib.hid (Box.below (by first | exact H_a.out | exact H_a.out.alloc _ | exact (H_a.out.alloc _).alloc _ | exact ((H_a.out.alloc _).alloc _).alloc _) hb_w3)
  obtain ⟨q_a_0, q_a_1⟩ := H_a.out.c2
  try clear q_b_0 q_b_1
  have H_b := Lib.hid (Box.below (by first | exact H_b.out | exact H_b.out.alloc _ | exact (H_b.out.alloc _).alloc _ | exact ((H_b.out.alloc _).alloc _).alloc _) hb_w3)
  obtain ⟨q_b_0, q_b_1⟩ := H_b.out.c2
  replace HSA := Lib.hid (show Sl w3 _ _ _ _ _ _ by first | exact HSA.out.below hb_w3 | exact (HSA.out.below (grew1 (Below.refl _ _))).below hb_w3 | exact (HSA.out.below (grew2 (Below.refl _ _))).below hb_w3 | exact (HSA.out.below (grew3 (Below.refl _ _))).below hb_w3)
  replace HSB := Lib.hid (show Sl w3 _ _ _ _ _ _ by first | exact HSB.out.below hb_w3 | exact (HSB.out.below (grew1 (Below.refl _ _))).below hb_w3 | exact (HSB.out.below (grew2 (Below.refl _ _))).below hb_w3 | exact (HSB.out.below (grew3 (Below.refl _ _))).below hb_w3)
  cases hs : okS s
  · have HP := Lib.hid (HBAD.out (by rw [hoa, hob, hs]; rfl))
    go_wp2_with fail
    go_ret2
    exact ⟨ret_pair HP.out, HB_w3⟩
  have HT := Lib.hid (HTR.out (by rw [hoa, hob, hs]; rfl))
  have HOA := Lib.hid hoa
  have HOB := Lib.hid hob
  clear hoa hob hs HTR HBAD
  go_wp2_with fail
  refine (rplace_any _ _ _ _ _ _ _ (by first | exact HSA.out | exact HSA.out.below (grew1 (Below.refl _ _)) | exact HSA.out.below (grew2 (Below.refl _ _)) | exact HSA.out.below (grew3 (Below.refl _ _)))).mono ?_
  rintro e w4 ⟨rfl, hb_w4⟩
  have HB_w4 : Below w.heap.size w w4 := by first | exact after0 HB_w3 hb_w4 | exact after1 HB_w3 hb_w4 | exact after2 HB_w3 hb_w4 | exact after3 HB_w3 hb_w4 | exact after4 HB_w3 hb_w4 | exact after5 HB_w3 hb_w4
  try clear q_a_0 q_a_1
  have H_a := Lib.hid (Box.below (by first | exact H_a.out | exact H_a.out.alloc _ | exact (H_a.out.alloc _).alloc _ | exact ((H_a.out.alloc _).alloc _).alloc _) hb_w4)
  obtain ⟨q_a_0, q_a_1⟩ := H_a.out.c2
  try clear q_b_0 q_b_1
  have H_b := Lib.hid (Box.below (by first | exact H_b.out | exact H_b.out.alloc _ | exact (H_b.out.alloc _).alloc _ | exact ((H_b.out.alloc _).alloc _).alloc _) hb_w4)
  obtain ⟨q_b_0, q_b_1⟩ := H_b.out.c2
  replace HSA := Lib.hid (show Sl w4 _ _ _ _ _ _ by first | exact HSA.out.below hb_w4 | exact (HSA.out.below (grew1 (Below.refl _ _))).below hb_w4 | exact (HSA.out.below (grew2 (Below.refl _ _))).below hb_w4 | exact (HSA.out.below (grew3 (Below.refl _ _))).below hb_w4)
  replace HSB := Lib.hid (show Sl w4 _ _ _ _ _ _ by first | exact HSB.out.below hb_w4 | exact (HSB.out.below (grew1 (Below.refl _ _))).below hb_w4 | exact (HSB.out.below (grew2 (Below.refl _ _))).below hb_w4 | exact (HSB.out.below (grew3 (Below.refl _ _))).below hb_w4)
  cases hl : lookM a s with
  | none =>
    have HP := Lib.hid HT.out
    rw [hl] at HP
    rw [place_none hl]
    clear hl HT
    go_wp2_with fail
    go_ret2
    exact ⟨ret_pair HP.out, HB_w4⟩
  | some m =>
    have HP := Lib.hid HT.out
    rw [hl] at HP
    obtain ⟨i, hi, hpl, him⟩ := place_some hl
    rw [hpl]
    clear hl hpl HT
    dsimp only at HP
    obtain ⟨bb, off, rfl, hbb, hrow⟩ := HSA.out.get hi
    obtain ⟨e_0, e_1, e_2⟩ := (hrow i hi).c3
    rw [him] at e_0 e_1 e_2
    clear hrow him
    obtain ⟨m0, m1, m2⟩ := m
    dsimp only at e_0 e_1 e_2
    have HFOR := Lib.hid (show ∀ W, Below w4.heap.size w4 W → Calls Try.prog 35 #[.agg #[.int .i64 ob, .slice ab b.length cb], .agg #[.int .i64 m0, .int .i64 m1, .int .i64 m2]] W (Ret W (.int .i64 (forI b ⟨m0, m1, m2⟩))) from fun W hW => rfor_any ob ab _ cb b m0 m1 m2 W (HSB.out.below hW) (vok HOB.out))
    cases hf : found (trans b ⟨m0, m1, m2⟩)
    · rw [hf] at HP
      rw [forI_lost (vok HOB.out) hf] at HFOR
      clear hf
      go_wp2_with fail
      have y_e_0 := cell_regrown e_0
      have y_e_1 := cell_regrown e_1
      have y_e_2 := cell_regrown e_2
      clear e_0 e_1 e_2
      have y_q_a_0 := cell_regrown q_a_0
      have y_q_a_1 := cell_regrown q_a_1
      clear q_a_0 q_a_1
      have y_q_b_0 := cell_regrown q_b_0
      have y_q_b_1 := cell_regrown q_b_1
      clear q_b_0 q_b_1
      refine wp_region_plan (C := fun w' => ∃ p : Regrown, w' = grow (redrawn w4 p.d) p.os) (.q 0 (.q 1 (.q 2 (.q 3 (.q 4 (.q 5 (.e 6 (.q 7 (.done))))))))) 8 (by kernel_rfl) (by kernel_rfl) (grew_drew _) ?_
      repeat (any_goals (first | (go_big_quiet_skip; refine wpQuiet_nil ?_) | (go_big_quiet_want; go_big_quiet_op; go_big_quiet_on; refine wpQuiet_nil ?_) | ((with_reducible apply q_split); exact rfl; intro q hq; cases q <;> (rw [hq]; (try first | replace hq := bnot_t hq | replace hq := bnot_f hq); (try first | replace hq := of_decide_eq_true hq | replace hq := of_decide_eq_false hq | replace hq := eq_of_beq hq); (try first | replace hq := Int.not_lt.1 hq | replace hq := Int.not_le.1 hq | replace hq := Nat.not_lt.1 hq | replace hq := Nat.not_le.1 hq); try (exfalso; omega))) | (refine plan_q rfl rfl ?_)))
      refine plan_e rfl ?_
      go_wp2_with fail
      refine (HFOR.out _ below_drew).mono ?_
      rintro e w5 ⟨rfl, hb_w5⟩
      have HW_w5 : Below w4.heap.size w4 w5 := below_undrew hb_w5
      clear hb_w5
      go_wp2_with fail
      refine MixPost.intro (grew_of_below HW_w5) ?_
      repeat (any_goals (first | (go_big_quiet_skip; refine wpQuiet_nil ?_) | (go_big_quiet_want; go_big_quiet_op; go_big_quiet_on; refine wpQuiet_nil ?_) | ((with_reducible apply q_split); exact rfl; intro q hq; cases q <;> (rw [hq]; (try first | replace hq := bnot_t hq | replace hq := bnot_f hq); (try first | replace hq := of_decide_eq_true hq | replace hq := of_decide_eq_false hq | replace hq := eq_of_beq hq); (try first | replace hq := Int.not_lt.1 hq | replace hq := Int.not_le.1 hq | replace hq := Nat.not_lt.1 hq | replace hq := Nat.not_le.1 hq); try (exfalso; omega))) | (refine plan_q rfl rfl ?_)))
      clear y_e_0 y_e_1 y_e_2
      clear y_q_a_0 y_q_a_1
      clear y_q_b_0 y_q_b_1
      all_goals refine plan_done ?_
      all_goals (try simp only [List.drop_succ_cons, List.drop_zero])
      all_goals (try go_wp2_with fail)
      all_goals refine NoPanic.normal ?_
      all_goals (try go_wp2_with fail)
      go_ret2
      exact ⟨ret_pair HP.out, after0 HB_w4 HW_w5⟩
    · rw [hf] at HP
      obtain ⟨k, hk, hfo, hkt⟩ := forI_found (vok HOB.out) hf
      rw [hfo] at HFOR
      obtain ⟨b2, off2, rfl, hb2, hrow2⟩ := HSB.out.get hk
      have HR2 := Lib.hid (hrow2 k hk)
      rw [hkt] at HR2
      clear hf hfo hrow2 hkt
      go_wp2_with fail
      have y_e_0 := cell_regrown e_0
      have y_e_1 := cell_regrown e_1
      have y_e_2 := cell_regrown e_2
      clear e_0 e_1 e_2
      have y_q_a_0 := cell_regrown q_a_0
      have y_q_a_1 := cell_regrown q_a_1
      clear q_a_0 q_a_1
      have y_q_b_0 := cell_regrown q_b_0
      have y_q_b_1 := cell_regrown q_b_1
      clear q_b_0 q_b_1
      refine wp_region_plan (C := fun w' => ∃ p : Regrown, w' = grow (redrawn w4 p.d) p.os) (.q 0 (.q 1 (.q 2 (.q 3 (.q 4 (.q 5 (.e 6 (.q 7 (.done))))))))) 8 (by kernel_rfl) (by kernel_rfl) (grew_drew _) ?_
      repeat (any_goals (first | (go_big_quiet_skip; refine wpQuiet_nil ?_) | (go_big_quiet_want; go_big_quiet_op; go_big_quiet_on; refine wpQuiet_nil ?_) | ((with_reducible apply q_split); exact rfl; intro q hq; cases q <;> (rw [hq]; (try first | replace hq := bnot_t hq | replace hq := bnot_f hq); (try first | replace hq := of_decide_eq_true hq | replace hq := of_decide_eq_false hq | replace hq := eq_of_beq hq); (try first | replace hq := Int.not_lt.1 hq | replace hq := Int.not_le.1 hq | replace hq := Nat.not_lt.1 hq | replace hq := Nat.not_le.1 hq); try (exfalso; omega))) | (refine plan_q rfl rfl ?_)))
      refine plan_e rfl ?_
      go_wp2_with fail
      refine (HFOR.out _ below_drew).mono ?_
      rintro e w5 ⟨rfl, hb_w5⟩
      have HW_w5 : Below w4.heap.size w4 w5 := below_undrew hb_w5
      clear hb_w5
      go_wp2_with fail
      refine MixPost.intro (grew_of_below HW_w5) ?_
      repeat (any_goals (first | (go_big_quiet_skip; refine wpQuiet_nil ?_) | (go_big_quiet_want; go_big_quiet_op; go_big_quiet_on; refine wpQuiet_nil ?_) | ((with_reducible apply q_split); exact rfl; intro q hq; cases q <;> (rw [hq]; (try first | replace hq := bnot_t hq | replace hq := bnot_f hq); (try first | replace hq := of_decide_eq_true hq | replace hq := of_decide_eq_false hq | replace hq := eq_of_beq hq); (try first | replace hq := Int.not_lt.1 hq | replace hq := Int.not_le.1 hq | replace hq := Nat.not_lt.1 hq | replace hq := Nat.not_le.1 hq); try (exfalso; omega))) | (refine plan_q rfl rfl ?_)))
      clear y_e_0 y_e_1 y_e_2
      clear y_q_a_0 y_q_a_1
      clear y_q_b_0 y_q_b_1
      obtain ⟨t_0, t_1, t_2⟩ := (HR2.out.below HW_w5 hb2).c3
      replace H_b := Lib.hid (H_b.out.below HW_w5)
      obtain ⟨q_b_0, q_b_1⟩ := H_b.out.c2
      all_goals refine plan_done ?_
      all_goals (try simp only [List.drop_succ_cons, List.drop_zero])
      all_goals (try go_wp2_with fail)
      all_goals refine NoPanic.normal ?_
      all_goals (try go_wp2_with fail)
      go_ret2
      exact ⟨ret_pair HP.out, after0 HB_w4 HW_w5⟩
end Go.Proofs.Ytmnlkndbdcdngaa
