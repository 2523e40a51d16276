/-
  The walk of 'NumberMatchesReference'.
-/
import Derived.Test.YtecnbfgacojpjaaNumX
import Derived.Test.YtecnbfgacojpjaaNumY
import Derived.Test.YtecnbfgacojpjaaNumV
import Derived.Test.YtecnbfgacojpjaaNumI
import Derived.Test.YtecnbfgacojpjaaStore
namespace Go.Proofs.Ytecnbfgacojpjaa
open Go.RowKit Nb Sk Go.Sort


theorem sl_owned {w : World} {base e : Nat} {ao : Option Addr} {n cap : Nat} {l : List Us} (h : w.ownsRow base e 5 (.slice ao n cap) n (l.flatMap cU)) (hl : l.length = n) : Sl w 5 cU ao n cap l := by
  obtain ⟨ao', cap', he, hs, _⟩ := Sl.of_owns cU_len h hl
  simp only [Value.slice.injEq] at he
  obtain ⟨rfl, _, rfl⟩ := he
  exact hs

set_option maxRecDepth 100000 in
set_option maxHeartbeats 8000000 in
theorem matches_walk (a b c : Int) (s : ByteArray) (ao : Option Addr) (m cap : Nat) (l : List Us) (now free lo hi : Int) (w : World) (hs : Sl w 5 cU ao m cap l) :
    Calls Try.prog 8 #[.agg #[.int .i64 a, .int .i64 b, .int .i64 c], .string s, .slice ao m cap, .int .i64 now, .int .i64 free, .agg #[.int .i64 lo, .int .i64 hi]] w (Ret w (.bool true)) := by
  have HS0 := Lib.hid hs
  obtain ⟨W0, hW0, HB_W0, hZ, hn, ht⟩ := boxes2 w [.int .i64 a, .int .i64 b, .int .i64 c] [.int .i64 lo, .int .i64 hi] 23 40
  have H_n := Lib.hid hn
  have H_t := Lib.hid ht
  have HSL := Lib.hid (hs.below HB_W0)
  clear hs hn ht hZ
  go_enter Try.func8, Try.ntmps8
  go_wp2_with fail
  obtain ⟨q_n_0, q_n_1, q_n_2⟩ := H_n.out.c3
  have y_q_n_0 := cell_regrown q_n_0
  have y_q_n_1 := cell_regrown q_n_1
  have y_q_n_2 := cell_regrown q_n_2
  clear q_n_0 q_n_1 q_n_2
  clear hW0
  have HV := Lib.hid (valid_any a b c)
  obtain ⟨vb, hvb⟩ : ∃ v, okN ⟨a, b, c⟩ = v := ⟨_, rfl⟩
  obtain ⟨rb, hrb⟩ : ∃ v, rows l = v := ⟨_, rfl⟩
  have HC1 := Lib.hid (show ∀ W, Calls Try.prog 14 #[.agg #[.int .i64 a, .int .i64 b, .int .i64 c]] W (Ret W (.bool vb)) from fun W => by have := valid_any a b c W; rwa [hvb] at this)
  have HC2 := Lib.hid (show ∀ W, Calls Try.prog 22 #[.agg #[.int .i64 a, .int .i64 b, .int .i64 c]] W (Ret W (.bool vb)) from fun W => by have := rvalid_any a b c W; rwa [hvb] at this)
  have HC3 := Lib.hid (show ∀ W, Below W0.heap.size W0 W → Calls Try.prog 20 #[.slice ao m cap] W (Ret W (.bool rb)) from fun W hW => by have := rows_any ao m cap l W (HSL.out.below hW); rwa [hrb] at this)
  have HC4 := Lib.hid (show ∀ W, Below W0.heap.size W0 W → Calls Try.prog 23 #[.slice ao m cap] W (Ret W (.bool rb)) from fun W hW => by have := rrows_any ao m cap l W (HSL.out.below hW); rwa [hrb] at this)
  clear hvb hrb HV
  refine wp_region_plan (C := fun w' => ∃ p : Regrown, w' = grow (redrawn W0 p.d) p.os) (.e 0 (.q 1 (.q 2 (.q 4 (.e 3 (.e 5 (.q 6 (.q 7 (.q 8 (.q 9 (.q 11 (.e 10 (.e 12 (.q 13 (.q 14 (.q 15 (.done))))))))))))))))) 16 (by kernel_rfl) (by kernel_rfl) (grew_drew _) ?_
  repeat (any_goals (first | (go_big_quiet_skip; refine wpQuiet_nil ?_) | (go_big_quiet_want; go_big_quiet_op; go_big_quiet_on; refine wpQuiet_nil ?_) | ((with_reducible apply q_split); exact rfl; intro q hq; cases q <;> (rw [hq]; (try first | replace hq := bnot_t hq | replace hq := bnot_f hq); (try first | replace hq := of_decide_eq_true hq | replace hq := of_decide_eq_false hq | replace hq := eq_of_beq hq); (try first | replace hq := Int.not_lt.1 hq | replace hq := Int.not_le.1 hq | replace hq := Nat.not_lt.1 hq | replace hq := Nat.not_le.1 hq); try (exfalso; omega))) | (refine plan_q rfl rfl ?_)))
  refine plan_e rfl ?_
  go_wp2_with fail
  refine (head_any _).mono ?_
  rintro e w1 ⟨rfl, hb_w1⟩
  have HW_w1 : Below W0.heap.size W0 w1 := below_undrew hb_w1
  clear hb_w1
  go_wp2_with fail
  refine MixPost.intro (grew_of_below HW_w1) ?_
  repeat (any_goals (first | (go_big_quiet_skip; refine wpQuiet_nil ?_) | (go_big_quiet_want; go_big_quiet_op; go_big_quiet_on; refine wpQuiet_nil ?_) | ((with_reducible apply q_split); exact rfl; intro q hq; cases q <;> (rw [hq]; (try first | replace hq := bnot_t hq | replace hq := bnot_f hq); (try first | replace hq := of_decide_eq_true hq | replace hq := of_decide_eq_false hq | replace hq := eq_of_beq hq); (try first | replace hq := Int.not_lt.1 hq | replace hq := Int.not_le.1 hq | replace hq := Nat.not_lt.1 hq | replace hq := Nat.not_le.1 hq); try (exfalso; omega))) | (refine plan_q rfl rfl ?_)))
  refine plan_e rfl ?_
  go_wp2_with fail
  refine (HC1.out _).mono ?_
  rintro e w2 ⟨rfl, hb_w2⟩
  have HW_w2 : Below W0.heap.size W0 w2 := after0 HW_w1 hb_w2
  clear hb_w2
  go_wp2_with fail
  refine MixPost.intro (grew_of_below HW_w2) ?_
  repeat (any_goals (first | (go_big_quiet_skip; refine wpQuiet_nil ?_) | (go_big_quiet_want; go_big_quiet_op; go_big_quiet_on; refine wpQuiet_nil ?_) | ((with_reducible apply q_split); exact rfl; intro q hq; cases q <;> (rw [hq]; (try first | replace hq := bnot_t hq | replace hq := bnot_f hq); (try first | replace hq := of_decide_eq_true hq | replace hq := of_decide_eq_false hq | replace hq := eq_of_beq hq); (try first | replace hq := Int.not_lt.1 hq | replace hq := Int.not_le.1 hq | replace hq := Nat.not_lt.1 hq | replace hq := Nat.not_le.1 hq); try (exfalso; omega))) | (refine plan_q rfl rfl ?_)))
  refine plan_e rfl ?_
  go_wp2_with fail
  refine (HC2.out _).mono ?_
  rintro e w3 ⟨rfl, hb_w3⟩
  have HW_w3 : Below W0.heap.size W0 w3 := after0 HW_w2 hb_w3
  clear hb_w3
  go_wp2_with fail
  refine MixPost.intro (grew_of_below HW_w3) ?_
  repeat (any_goals (first | (go_big_quiet_skip; refine wpQuiet_nil ?_) | (go_big_quiet_want; go_big_quiet_op; go_big_quiet_on; refine wpQuiet_nil ?_) | ((with_reducible apply q_split); exact rfl; intro q hq; cases q <;> (rw [hq]; (try first | replace hq := bnot_t hq | replace hq := bnot_f hq); (try first | replace hq := of_decide_eq_true hq | replace hq := of_decide_eq_false hq | replace hq := eq_of_beq hq); (try first | replace hq := Int.not_lt.1 hq | replace hq := Int.not_le.1 hq | replace hq := Nat.not_lt.1 hq | replace hq := Nat.not_le.1 hq); try (exfalso; omega))) | (refine plan_q rfl rfl ?_)))
  refine plan_e rfl ?_
  go_wp2_with fail
  refine (HC3.out _ HW_w3).mono ?_
  rintro e w4 ⟨rfl, hb_w4⟩
  have HW_w4 : Below W0.heap.size W0 w4 := after0 HW_w3 hb_w4
  clear hb_w4
  go_wp2_with fail
  refine MixPost.intro (grew_of_below HW_w4) ?_
  repeat (any_goals (first | (go_big_quiet_skip; refine wpQuiet_nil ?_) | (go_big_quiet_want; go_big_quiet_op; go_big_quiet_on; refine wpQuiet_nil ?_) | ((with_reducible apply q_split); exact rfl; intro q hq; cases q <;> (rw [hq]; (try first | replace hq := bnot_t hq | replace hq := bnot_f hq); (try first | replace hq := of_decide_eq_true hq | replace hq := of_decide_eq_false hq | replace hq := eq_of_beq hq); (try first | replace hq := Int.not_lt.1 hq | replace hq := Int.not_le.1 hq | replace hq := Nat.not_lt.1 hq | replace hq := Nat.not_le.1 hq); try (exfalso; omega))) | (refine plan_q rfl rfl ?_)))
  refine plan_e rfl ?_
  go_wp2_with fail
  refine (HC4.out _ HW_w4).mono ?_
  rintro e w5 ⟨rfl, hb_w5⟩
  have HW_w5 : Below W0.heap.size W0 w5 := after0 HW_w4 hb_w5
  clear hb_w5
  go_wp2_with fail
  refine MixPost.intro (grew_of_below HW_w5) ?_
  repeat (any_goals (first | (go_big_quiet_skip; refine wpQuiet_nil ?_) | (go_big_quiet_want; go_big_quiet_op; go_big_quiet_on; refine wpQuiet_nil ?_) | ((with_reducible apply q_split); exact rfl; intro q hq; cases q <;> (rw [hq]; (try first | replace hq := bnot_t hq | replace hq := bnot_f hq); (try first | replace hq := of_decide_eq_true hq | replace hq := of_decide_eq_false hq | replace hq := eq_of_beq hq); (try first | replace hq := Int.not_lt.1 hq | replace hq := Int.not_le.1 hq | replace hq := Nat.not_lt.1 hq | replace hq := Nat.not_le.1 hq); try (exfalso; omega))) | (refine plan_q rfl rfl ?_)))
  clear y_q_n_0 y_q_n_1 y_q_n_2
  have HB_w5 : Below w.heap.size w w5 := after0 HB_W0 HW_w5
  replace H_n := Lib.hid (H_n.out.below HW_w5)
  replace H_t := Lib.hid (H_t.out.below HW_w5)
  replace HSL := Lib.hid (HSL.out.below HW_w5)
  clear HC1 HC2 HC3 HC4 HW_w1 HW_w2 HW_w3 HW_w4 HW_w5
  obtain ⟨q_n_0, q_n_1, q_n_2⟩ := H_n.out.c3
  obtain ⟨q_t_0, q_t_1⟩ := H_t.out.c2
  all_goals refine plan_done ?_
  all_goals (try simp only [List.drop_succ_cons, List.drop_zero])
  all_goals (try go_wp2_with fail)
  all_goals refine NoPanic.normal ?_
  all_goals (try go_wp2_with fail)
  refine (text_any _ _ _ _).mono ?_
  rintro e wa ⟨rfl, hb_wa⟩
  have HB_wa : Below w.heap.size w wa := by first | exact after0 HB_w5 hb_wa | exact after1 HB_w5 hb_wa | exact after2 HB_w5 hb_wa | exact after3 HB_w5 hb_wa | exact after4 HB_w5 hb_wa | exact after5 HB_w5 hb_wa
  try clear q_n_0 q_n_1 q_n_2
  have H_n := Lib.hid (Box.below (by first | exact H_n.out | exact H_n.out.alloc _ | exact (H_n.out.alloc _).alloc _ | exact ((H_n.out.alloc _).alloc _).alloc _) hb_wa)
  obtain ⟨q_n_0, q_n_1, q_n_2⟩ := H_n.out.c3
  try clear q_t_0 q_t_1
  have H_t := Lib.hid (Box.below (by first | exact H_t.out | exact H_t.out.alloc _ | exact (H_t.out.alloc _).alloc _ | exact ((H_t.out.alloc _).alloc _).alloc _) hb_wa)
  obtain ⟨q_t_0, q_t_1⟩ := H_t.out.c2
  replace HSL := Lib.hid (show Sl wa _ _ _ _ _ _ by first | exact HSL.out.below hb_wa | exact (HSL.out.below (grew1 (Below.refl _ _))).below hb_wa | exact (HSL.out.below (grew2 (Below.refl _ _))).below hb_wa | exact (HSL.out.below (grew3 (Below.refl _ _))).below hb_wa)
  obtain ⟨⟨y1, y2⟩, hy⟩ : ∃ y, text ⟨a, b, c⟩ = y := ⟨_, rfl⟩
  have HY := Lib.hid hy
  rw [hy]
  dsimp only
  clear hy
  go_wp2_with fail
  refine (rtext_any _ _ _ _).mono ?_
  rintro e wb ⟨rfl, hb_wb⟩
  have HB_wb : Below w.heap.size w wb := by first | exact after0 HB_wa hb_wb | exact after1 HB_wa hb_wb | exact after2 HB_wa hb_wb | exact after3 HB_wa hb_wb | exact after4 HB_wa hb_wb | exact after5 HB_wa hb_wb
  try clear q_n_0 q_n_1 q_n_2
  have H_n := Lib.hid (Box.below (by first | exact H_n.out | exact H_n.out.alloc _ | exact (H_n.out.alloc _).alloc _ | exact ((H_n.out.alloc _).alloc _).alloc _) hb_wb)
  obtain ⟨q_n_0, q_n_1, q_n_2⟩ := H_n.out.c3
  try clear q_t_0 q_t_1
  have H_t := Lib.hid (Box.below (by first | exact H_t.out | exact H_t.out.alloc _ | exact (H_t.out.alloc _).alloc _ | exact ((H_t.out.alloc _).alloc _).alloc _) hb_wb)
  obtain ⟨q_t_0, q_t_1⟩ := H_t.out.c2
  replace HSL := Lib.hid (show Sl wb _ _ _ _ _ _ by first | exact HSL.out.below hb_wb | exact (HSL.out.below (grew1 (Below.refl _ _))).below hb_wb | exact (HSL.out.below (grew2 (Below.refl _ _))).below hb_wb | exact (HSL.out.below (grew3 (Below.refl _ _))).below hb_wb)
  rw [HY.out]
  dsimp only
  clear HY
  go_wp2_with fail
  refine (parse_any _ _).mono ?_
  rintro e wc ⟨rfl, hb_wc⟩
  have HB_wc : Below w.heap.size w wc := by first | exact after0 HB_wb hb_wc | exact after1 HB_wb hb_wc | exact after2 HB_wb hb_wc | exact after3 HB_wb hb_wc | exact after4 HB_wb hb_wc | exact after5 HB_wb hb_wc
  try clear q_n_0 q_n_1 q_n_2
  have H_n := Lib.hid (Box.below (by first | exact H_n.out | exact H_n.out.alloc _ | exact (H_n.out.alloc _).alloc _ | exact ((H_n.out.alloc _).alloc _).alloc _) hb_wc)
  obtain ⟨q_n_0, q_n_1, q_n_2⟩ := H_n.out.c3
  try clear q_t_0 q_t_1
  have H_t := Lib.hid (Box.below (by first | exact H_t.out | exact H_t.out.alloc _ | exact (H_t.out.alloc _).alloc _ | exact ((H_t.out.alloc _).alloc _).alloc _) hb_wc)
  obtain ⟨q_t_0, q_t_1⟩ := H_t.out.c2
  replace HSL := Lib.hid (show Sl wc _ _ _ _ _ _ by first | exact HSL.out.below hb_wc | exact (HSL.out.below (grew1 (Below.refl _ _))).below hb_wc | exact (HSL.out.below (grew2 (Below.refl _ _))).below hb_wc | exact (HSL.out.below (grew3 (Below.refl _ _))).below hb_wc)
  obtain ⟨⟨⟨z1, z2, z3⟩, z4⟩, hy⟩ : ∃ y, parse s = y := ⟨_, rfl⟩
  have HY := Lib.hid hy
  rw [hy]
  dsimp only
  clear hy
  obtain ⟨W1, hW1, hB_W1, hZ_W1, hb_W1⟩ := boxes1 wc [.int .i64 z1, .int .i64 z2, .int .i64 z3] 23
  obtain ⟨Nx, hNx⟩ : ∃ N, wc.heap.size = N := ⟨_, rfl⟩
  rw [hNx] at hb_W1
  have HN_x : w.heap.size + 1 < Nx := by
    have h1 := H_t.out.lt
    omega
  try (have HNX : Nx < Nx := by
         have h1 := H_x.out.lt
         omega)
  have H_x := Lib.hid hb_W1
  have HB_W1 : Below w.heap.size w W1 := after0 HB_wc hB_W1
  replace H_n := Lib.hid (H_n.out.below hB_W1)
  replace H_t := Lib.hid (H_t.out.below hB_W1)
  try (have H_x2 := Lib.hid (H_x.out.below hB_W1); clear H_x; have H_x := H_x2; clear H_x2)
  replace HSL := Lib.hid (HSL.out.below hB_W1)
  clear hb_W1 hB_W1 hZ_W1
  go_wp2_with fail
  refine (rparse_any _ _).mono ?_
  rintro e wd ⟨rfl, hb_wd⟩
  have HB_wd : Below w.heap.size w wd := by first | exact after0 HB_W1 hb_wd | exact after1 HB_W1 hb_wd | exact after2 HB_W1 hb_wd | exact after3 HB_W1 hb_wd | exact after4 HB_W1 hb_wd | exact after5 HB_W1 hb_wd
  try clear q_n_0 q_n_1 q_n_2
  have H_n := Lib.hid (Box.below (by first | exact H_n.out | exact H_n.out.alloc _ | exact (H_n.out.alloc _).alloc _ | exact ((H_n.out.alloc _).alloc _).alloc _) hb_wd)
  obtain ⟨q_n_0, q_n_1, q_n_2⟩ := H_n.out.c3
  try clear q_t_0 q_t_1
  have H_t := Lib.hid (Box.below (by first | exact H_t.out | exact H_t.out.alloc _ | exact (H_t.out.alloc _).alloc _ | exact ((H_t.out.alloc _).alloc _).alloc _) hb_wd)
  obtain ⟨q_t_0, q_t_1⟩ := H_t.out.c2
  try clear q_x_0 q_x_1 q_x_2
  have H_x := Lib.hid (Box.below (by first | exact H_x.out | exact H_x.out.alloc _ | exact (H_x.out.alloc _).alloc _ | exact ((H_x.out.alloc _).alloc _).alloc _) hb_wd)
  obtain ⟨q_x_0, q_x_1, q_x_2⟩ := H_x.out.c3
  replace HSL := Lib.hid (show Sl wd _ _ _ _ _ _ by first | exact HSL.out.below hb_wd | exact (HSL.out.below (grew1 (Below.refl _ _))).below hb_wd | exact (HSL.out.below (grew2 (Below.refl _ _))).below hb_wd | exact (HSL.out.below (grew3 (Below.refl _ _))).below hb_wd)
  clear hW1 hNx
  rw [HY.out]
  dsimp only
  clear HY
  obtain ⟨W2, hW2, hB_W2, hZ_W2, hb_W2⟩ := boxes1 wd [.int .i64 z1, .int .i64 z2, .int .i64 z3] 23
  obtain ⟨Ny, hNy⟩ : ∃ N, wd.heap.size = N := ⟨_, rfl⟩
  rw [hNy] at hb_W2
  have HN_y : w.heap.size + 1 < Ny := by
    have h1 := H_t.out.lt
    omega
  try (have HNX : Nx < Ny := by
         have h1 := H_x.out.lt
         omega)
  have H_y := Lib.hid hb_W2
  have HB_W2 : Below w.heap.size w W2 := after0 HB_wd hB_W2
  replace H_n := Lib.hid (H_n.out.below hB_W2)
  replace H_t := Lib.hid (H_t.out.below hB_W2)
  try (have H_x2 := Lib.hid (H_x.out.below hB_W2); clear H_x; have H_x := H_x2; clear H_x2)
  replace HSL := Lib.hid (HSL.out.below hB_W2)
  clear hb_W2 hB_W2 hZ_W2
  obtain ⟨q_n_0, q_n_1, q_n_2⟩ := H_n.out.c3
  obtain ⟨q_x_0, q_x_1, q_x_2⟩ := H_x.out.c3
  obtain ⟨q_y_0, q_y_1, q_y_2⟩ := H_y.out.c3
  go_wp2_with fail
  refine (next_any _ _ _ l _ _ _ _ (by first | exact HSL.out | exact HSL.out.below (grew1 (Below.refl _ _)) | exact HSL.out.below (grew2 (Below.refl _ _)) | exact HSL.out.below (grew3 (Below.refl _ _)))).mono ?_
  rintro e we ⟨rfl, hb_we⟩
  have HB_we : Below w.heap.size w we := by first | exact after0 HB_W2 hb_we | exact after1 HB_W2 hb_we | exact after2 HB_W2 hb_we | exact after3 HB_W2 hb_we | exact after4 HB_W2 hb_we | exact after5 HB_W2 hb_we
  try clear q_n_0 q_n_1 q_n_2
  have H_n := Lib.hid (Box.below (by first | exact H_n.out | exact H_n.out.alloc _ | exact (H_n.out.alloc _).alloc _ | exact ((H_n.out.alloc _).alloc _).alloc _) hb_we)
  obtain ⟨q_n_0, q_n_1, q_n_2⟩ := H_n.out.c3
  try clear q_t_0 q_t_1
  have H_t := Lib.hid (Box.below (by first | exact H_t.out | exact H_t.out.alloc _ | exact (H_t.out.alloc _).alloc _ | exact ((H_t.out.alloc _).alloc _).alloc _) hb_we)
  obtain ⟨q_t_0, q_t_1⟩ := H_t.out.c2
  try clear q_x_0 q_x_1 q_x_2
  have H_x := Lib.hid (Box.below (by first | exact H_x.out | exact H_x.out.alloc _ | exact (H_x.out.alloc _).alloc _ | exact ((H_x.out.alloc _).alloc _).alloc _) hb_we)
  obtain ⟨q_x_0, q_x_1, q_x_2⟩ := H_x.out.c3
  try clear q_y_0 q_y_1 q_y_2
  have H_y := Lib.hid (Box.below (by first | exact H_y.out | exact H_y.out.alloc _ | exact (H_y.out.alloc _).alloc _ | exact ((H_y.out.alloc _).alloc _).alloc _) hb_we)
  obtain ⟨q_y_0, q_y_1, q_y_2⟩ := H_y.out.c3
  replace HSL := Lib.hid (show Sl we _ _ _ _ _ _ by first | exact HSL.out.below hb_we | exact (HSL.out.below (grew1 (Below.refl _ _))).below hb_we | exact (HSL.out.below (grew2 (Below.refl _ _))).below hb_we | exact (HSL.out.below (grew3 (Below.refl _ _))).below hb_we)
  clear hW2 hNy
  obtain ⟨⟨⟨k1, k2, k3⟩, k4⟩, hy⟩ : ∃ y, next l a b now = y := ⟨_, rfl⟩
  have HY := Lib.hid hy
  rw [hy]
  dsimp only
  clear hy
  obtain ⟨W3, hW3, hB_W3, hx_W3, ho_W3⟩ := store3 we Nx (.int .i64 k1) (.int .i64 k2) (.int .i64 k3)
  have HB_W3 : Below w.heap.size w W3 := HB_we.trans (hB_W3 _ (by omega))
  have f_x := H_x.out.frozen
  replace H_x := Lib.hid (hx_W3 _ _ _ _ H_x.out)
  replace H_y := Lib.hid (ho_W3 _ _ _ (by omega) H_y.out)
  replace H_n := Lib.hid (ho_W3 _ _ _ (by omega) H_n.out)
  replace H_t := Lib.hid (ho_W3 _ _ _ (by omega) H_t.out)
  replace HSL := Lib.hid (HS0.out.below HB_W3)
  clear hB_W3 hx_W3 ho_W3
  obtain ⟨q_n_0, q_n_1, q_n_2⟩ := H_n.out.c3
  go_wp2_with fail
  clear f_x
  refine (rnext_any _ _ _ l _ _ _ _ (by first | exact HSL.out | exact HSL.out.below (grew1 (Below.refl _ _)) | exact HSL.out.below (grew2 (Below.refl _ _)) | exact HSL.out.below (grew3 (Below.refl _ _)))).mono ?_
  rintro e wf ⟨rfl, hb_wf⟩
  have HB_wf : Below w.heap.size w wf := by first | exact after0 HB_W3 hb_wf | exact after1 HB_W3 hb_wf | exact after2 HB_W3 hb_wf | exact after3 HB_W3 hb_wf | exact after4 HB_W3 hb_wf | exact after5 HB_W3 hb_wf
  try clear q_n_0 q_n_1 q_n_2
  have H_n := Lib.hid (Box.below (by first | exact H_n.out | exact H_n.out.alloc _ | exact (H_n.out.alloc _).alloc _ | exact ((H_n.out.alloc _).alloc _).alloc _) hb_wf)
  obtain ⟨q_n_0, q_n_1, q_n_2⟩ := H_n.out.c3
  try clear q_t_0 q_t_1
  have H_t := Lib.hid (Box.below (by first | exact H_t.out | exact H_t.out.alloc _ | exact (H_t.out.alloc _).alloc _ | exact ((H_t.out.alloc _).alloc _).alloc _) hb_wf)
  obtain ⟨q_t_0, q_t_1⟩ := H_t.out.c2
  try clear q_x_0 q_x_1 q_x_2
  have H_x := Lib.hid (Box.below (by first | exact H_x.out | exact H_x.out.alloc _ | exact (H_x.out.alloc _).alloc _ | exact ((H_x.out.alloc _).alloc _).alloc _) hb_wf)
  obtain ⟨q_x_0, q_x_1, q_x_2⟩ := H_x.out.c3
  try clear q_y_0 q_y_1 q_y_2
  have H_y := Lib.hid (Box.below (by first | exact H_y.out | exact H_y.out.alloc _ | exact (H_y.out.alloc _).alloc _ | exact ((H_y.out.alloc _).alloc _).alloc _) hb_wf)
  obtain ⟨q_y_0, q_y_1, q_y_2⟩ := H_y.out.c3
  replace HSL := Lib.hid (show Sl wf _ _ _ _ _ _ by first | exact HSL.out.below hb_wf | exact (HSL.out.below (grew1 (Below.refl _ _))).below hb_wf | exact (HSL.out.below (grew2 (Below.refl _ _))).below hb_wf | exact (HSL.out.below (grew3 (Below.refl _ _))).below hb_wf)
  clear hW3
  rw [HY.out]
  dsimp only
  clear HY
  obtain ⟨W4, hW4, hB_W4, hx_W4, ho_W4⟩ := store3 wf Ny (.int .i64 k1) (.int .i64 k2) (.int .i64 k3)
  have HB_W4 : Below w.heap.size w W4 := HB_wf.trans (hB_W4 _ (by omega))
  have f_y := H_y.out.frozen
  replace H_y := Lib.hid (hx_W4 _ _ _ _ H_y.out)
  replace H_x := Lib.hid (ho_W4 _ _ _ (by omega) H_x.out)
  replace H_n := Lib.hid (ho_W4 _ _ _ (by omega) H_n.out)
  replace H_t := Lib.hid (ho_W4 _ _ _ (by omega) H_t.out)
  replace HSL := Lib.hid (HS0.out.below HB_W4)
  clear hB_W4 hx_W4 ho_W4
  obtain ⟨q_n_0, q_n_1, q_n_2⟩ := H_n.out.c3
  obtain ⟨q_x_0, q_x_1, q_x_2⟩ := H_x.out.c3
  obtain ⟨q_y_0, q_y_1, q_y_2⟩ := H_y.out.c3
  go_wp2_with fail
  clear f_y
  obtain ⟨⟨lp, ⟨t1, t2, t3⟩, t4⟩, hy⟩ : ∃ y, take l a b now free = y := ⟨_, rfl⟩
  have HY := Lib.hid hy
  refine (take_any _ _ _ l a b now free _ (by first | exact HSL.out | exact HSL.out.below (grew1 (Below.refl _ _)) | exact HSL.out.below (grew2 (Below.refl _ _)) | exact HSL.out.below (grew3 (Below.refl _ _)))).mono ?_
  rintro e wg ⟨ao1, n1, cap1, rfl, hsl1, ho1, hb_wg⟩
  rw [hy] at hsl1 ho1 ⊢
  dsimp only at hsl1 ho1 ⊢
  have HB_wg : Below w.heap.size w wg := after0 HB_W4 hb_wg
  have HX4 := H_x.out.lt
  have HY4 := H_y.out.lt
  replace H_n := Lib.hid (H_n.out.below hb_wg)
  replace H_t := Lib.hid (H_t.out.below hb_wg)
  replace H_x := Lib.hid (H_x.out.below hb_wg)
  replace H_y := Lib.hid (H_y.out.below hb_wg)
  replace HSL := Lib.hid (HSL.out.below hb_wg)
  have HO1 := Lib.hid ho1
  have HL1 := Lib.hid hsl1.len
  clear hy hW4 hb_wg hsl1 ho1
  obtain ⟨q_x_0, q_x_1, q_x_2⟩ := H_x.out.c3
  obtain ⟨W5, hW5, hB_W5, hx_W5, ho_W5⟩ := store3 wg Nx (.int .i64 t1) (.int .i64 t2) (.int .i64 t3)
  have HB_W5 : Below w.heap.size w W5 := HB_wg.trans (hB_W5 _ (by omega))
  have f_x := H_x.out.frozen
  replace H_x := Lib.hid (hx_W5 _ _ _ _ H_x.out)
  replace H_y := Lib.hid (ho_W5 _ _ _ (by omega) H_y.out)
  replace H_n := Lib.hid (ho_W5 _ _ _ (by omega) H_n.out)
  replace H_t := Lib.hid (ho_W5 _ _ _ (by omega) H_t.out)
  replace HSL := Lib.hid (HS0.out.below HB_W5)
  clear hB_W5 hx_W5 ho_W5
  have HO2 := Lib.hid (show World.ownsRow W5 W4.heap.size 43 5 (.slice ao1 n1 cap1) n1 (lp.flatMap cU) from by rw [← hW5]; exact owns_setCell (owns_setCell (owns_setCell HO1.out HX4) HX4) HX4)
  clear HO1
  obtain ⟨q_n_0, q_n_1, q_n_2⟩ := H_n.out.c3
  go_wp2_with fail
  clear f_x q_x_0 q_x_1 q_x_2 hW5
  refine (rtake_any _ _ _ l a b now free _ (by first | exact HSL.out | exact HSL.out.below (grew1 (Below.refl _ _)) | exact HSL.out.below (grew2 (Below.refl _ _)) | exact HSL.out.below (grew3 (Below.refl _ _)))).mono ?_
  rintro e wh ⟨ao2, n2, cap2, rfl, hsl2, ho2, hb_wh⟩
  rw [HY.out] at hsl2 ho2 ⊢
  dsimp only at hsl2 ho2 ⊢
  have HB_wh : Below w.heap.size w wh := after0 HB_W5 hb_wh
  have HX5 := H_x.out.lt
  have HY5 := H_y.out.lt
  replace H_n := Lib.hid (H_n.out.below hb_wh)
  replace H_t := Lib.hid (H_t.out.below hb_wh)
  replace H_x := Lib.hid (H_x.out.below hb_wh)
  replace H_y := Lib.hid (H_y.out.below hb_wh)
  replace HSL := Lib.hid (HSL.out.below hb_wh)
  have HO3 := Lib.hid (owns_below HO2.out hb_wh)
  have HO4 := Lib.hid ho2
  have HL2 := Lib.hid hsl2.len
  clear HY hb_wh hsl2 ho2 HO2
  obtain ⟨q_y_0, q_y_1, q_y_2⟩ := H_y.out.c3
  obtain ⟨W6, hW6, hB_W6, hx_W6, ho_W6⟩ := store3 wh Ny (.int .i64 t1) (.int .i64 t2) (.int .i64 t3)
  have HB_W6 : Below w.heap.size w W6 := HB_wh.trans (hB_W6 _ (by omega))
  have f_y := H_y.out.frozen
  replace H_y := Lib.hid (hx_W6 _ _ _ _ H_y.out)
  replace H_x := Lib.hid (ho_W6 _ _ _ (by omega) H_x.out)
  replace H_n := Lib.hid (ho_W6 _ _ _ (by omega) H_n.out)
  replace H_t := Lib.hid (ho_W6 _ _ _ (by omega) H_t.out)
  replace HSL := Lib.hid (HS0.out.below HB_W6)
  clear hB_W6 hx_W6 ho_W6
  have HO5 := Lib.hid (show World.ownsRow W6 W4.heap.size 43 5 (.slice ao1 n1 cap1) n1 (lp.flatMap cU) from by rw [← hW6]; exact owns_setCell (owns_setCell (owns_setCell HO3.out HY4) HY4) HY4)
  have HO6 := Lib.hid (show World.ownsRow W6 W5.heap.size 43 5 (.slice ao2 n2 cap2) n2 (lp.flatMap cU) from by rw [← hW6]; exact owns_setCell (owns_setCell (owns_setCell HO4.out HY5) HY5) HY5)
  clear HO3 HO4
  obtain ⟨q_n_0, q_n_1, q_n_2⟩ := H_n.out.c3
  obtain ⟨q_x_0, q_x_1, q_x_2⟩ := H_x.out.c3
  obtain ⟨q_t_0, q_t_1⟩ := H_t.out.c2
  go_wp2_with fail
  clear f_y q_y_0 q_y_1 q_y_2
  have HS1 := Lib.hid (sl_owned HO5.out HL1.out)
  have HS2 := Lib.hid (sl_owned HO6.out HL2.out)
  refine (rsame_any _ _ _ _ _ _ lp lp _ HS1.out HS2.out).mono ?_
  rintro e wi ⟨rfl, hb_wi⟩
  rw [show decide (lp = lp) = true by simp]
  have HB_wi : Below w.heap.size w wi := after0 HB_W6 hb_wi
  replace H_n := Lib.hid (H_n.out.below hb_wi)
  replace H_t := Lib.hid (H_t.out.below hb_wi)
  replace H_x := Lib.hid (H_x.out.below hb_wi)
  replace H_y := Lib.hid (H_y.out.below hb_wi)
  replace HSL := Lib.hid (HSL.out.below hb_wi)
  clear hW6 HO5 HO6 HS1 HS2 HL1 HL2 q_n_0 q_n_1 q_n_2 q_x_0 q_x_1 q_x_2 q_t_0 q_t_1
  obtain ⟨q_n_0, q_n_1, q_n_2⟩ := H_n.out.c3
  obtain ⟨q_x_0, q_x_1, q_x_2⟩ := H_x.out.c3
  obtain ⟨q_y_0, q_y_1, q_y_2⟩ := H_y.out.c3
  obtain ⟨q_t_0, q_t_1⟩ := H_t.out.c2
  go_wp2_with fail
  refine (who_any _ _ _ l _ _ _ _ _ (by first | exact HSL.out | exact HSL.out.below (grew1 (Below.refl _ _)) | exact HSL.out.below (grew2 (Below.refl _ _)) | exact HSL.out.below (grew3 (Below.refl _ _)))).mono ?_
  rintro e wj ⟨rfl, hb_wj⟩
  have HB_wj : Below w.heap.size w wj := by first | exact after0 HB_wi hb_wj | exact after1 HB_wi hb_wj | exact after2 HB_wi hb_wj | exact after3 HB_wi hb_wj | exact after4 HB_wi hb_wj | exact after5 HB_wi hb_wj
  try clear q_n_0 q_n_1 q_n_2
  have H_n := Lib.hid (Box.below (by first | exact H_n.out | exact H_n.out.alloc _ | exact (H_n.out.alloc _).alloc _ | exact ((H_n.out.alloc _).alloc _).alloc _) hb_wj)
  obtain ⟨q_n_0, q_n_1, q_n_2⟩ := H_n.out.c3
  try clear q_t_0 q_t_1
  have H_t := Lib.hid (Box.below (by first | exact H_t.out | exact H_t.out.alloc _ | exact (H_t.out.alloc _).alloc _ | exact ((H_t.out.alloc _).alloc _).alloc _) hb_wj)
  obtain ⟨q_t_0, q_t_1⟩ := H_t.out.c2
  replace HSL := Lib.hid (show Sl wj _ _ _ _ _ _ by first | exact HSL.out.below hb_wj | exact (HSL.out.below (grew1 (Below.refl _ _))).below hb_wj | exact (HSL.out.below (grew2 (Below.refl _ _))).below hb_wj | exact (HSL.out.below (grew3 (Below.refl _ _))).below hb_wj)
  obtain ⟨⟨o1, o2⟩, hy⟩ : ∃ y, who l ⟨a, b, c⟩ now = y := ⟨_, rfl⟩
  have HY := Lib.hid hy
  rw [hy]
  dsimp only
  clear hy
  clear q_x_0 q_x_1 q_x_2 q_y_0 q_y_1 q_y_2 H_x H_y
  go_wp2_with fail
  refine (rwho_any _ _ _ l _ _ _ _ _ (by first | exact HSL.out | exact HSL.out.below (grew1 (Below.refl _ _)) | exact HSL.out.below (grew2 (Below.refl _ _)) | exact HSL.out.below (grew3 (Below.refl _ _)))).mono ?_
  rintro e wk ⟨rfl, hb_wk⟩
  have HB_wk : Below w.heap.size w wk := by first | exact after0 HB_wj hb_wk | exact after1 HB_wj hb_wk | exact after2 HB_wj hb_wk | exact after3 HB_wj hb_wk | exact after4 HB_wj hb_wk | exact after5 HB_wj hb_wk
  try clear q_n_0 q_n_1 q_n_2
  have H_n := Lib.hid (Box.below (by first | exact H_n.out | exact H_n.out.alloc _ | exact (H_n.out.alloc _).alloc _ | exact ((H_n.out.alloc _).alloc _).alloc _) hb_wk)
  obtain ⟨q_n_0, q_n_1, q_n_2⟩ := H_n.out.c3
  try clear q_t_0 q_t_1
  have H_t := Lib.hid (Box.below (by first | exact H_t.out | exact H_t.out.alloc _ | exact (H_t.out.alloc _).alloc _ | exact ((H_t.out.alloc _).alloc _).alloc _) hb_wk)
  obtain ⟨q_t_0, q_t_1⟩ := H_t.out.c2
  replace HSL := Lib.hid (show Sl wk _ _ _ _ _ _ by first | exact HSL.out.below hb_wk | exact (HSL.out.below (grew1 (Below.refl _ _))).below hb_wk | exact (HSL.out.below (grew2 (Below.refl _ _))).below hb_wk | exact (HSL.out.below (grew3 (Below.refl _ _))).below hb_wk)
  rw [HY.out]
  dsimp only
  clear HY
  go_wp2_with fail
  refine (sure_any _ _ _ l _ _ _ _ _ _ (by first | exact HSL.out | exact HSL.out.below (grew1 (Below.refl _ _)) | exact HSL.out.below (grew2 (Below.refl _ _)) | exact HSL.out.below (grew3 (Below.refl _ _)))).mono ?_
  rintro e wl ⟨rfl, hb_wl⟩
  have HB_wl : Below w.heap.size w wl := by first | exact after0 HB_wk hb_wl | exact after1 HB_wk hb_wl | exact after2 HB_wk hb_wl | exact after3 HB_wk hb_wl | exact after4 HB_wk hb_wl | exact after5 HB_wk hb_wl
  try clear q_n_0 q_n_1 q_n_2
  have H_n := Lib.hid (Box.below (by first | exact H_n.out | exact H_n.out.alloc _ | exact (H_n.out.alloc _).alloc _ | exact ((H_n.out.alloc _).alloc _).alloc _) hb_wl)
  obtain ⟨q_n_0, q_n_1, q_n_2⟩ := H_n.out.c3
  try clear q_t_0 q_t_1
  have H_t := Lib.hid (Box.below (by first | exact H_t.out | exact H_t.out.alloc _ | exact (H_t.out.alloc _).alloc _ | exact ((H_t.out.alloc _).alloc _).alloc _) hb_wl)
  obtain ⟨q_t_0, q_t_1⟩ := H_t.out.c2
  replace HSL := Lib.hid (show Sl wl _ _ _ _ _ _ by first | exact HSL.out.below hb_wl | exact (HSL.out.below (grew1 (Below.refl _ _))).below hb_wl | exact (HSL.out.below (grew2 (Below.refl _ _))).below hb_wl | exact (HSL.out.below (grew3 (Below.refl _ _))).below hb_wl)
  obtain ⟨⟨o3, o4⟩, hy⟩ : ∃ y, sure l ⟨a, b, c⟩ lo hi = y := ⟨_, rfl⟩
  have HY := Lib.hid hy
  rw [hy]
  dsimp only
  clear hy
  go_wp2_with fail
  refine (rsure_any _ _ _ l _ _ _ _ _ _ (by first | exact HSL.out | exact HSL.out.below (grew1 (Below.refl _ _)) | exact HSL.out.below (grew2 (Below.refl _ _)) | exact HSL.out.below (grew3 (Below.refl _ _)))).mono ?_
  rintro e wm ⟨rfl, hb_wm⟩
  have HB_wm : Below w.heap.size w wm := by first | exact after0 HB_wl hb_wm | exact after1 HB_wl hb_wm | exact after2 HB_wl hb_wm | exact after3 HB_wl hb_wm | exact after4 HB_wl hb_wm | exact after5 HB_wl hb_wm
  try clear q_n_0 q_n_1 q_n_2
  have H_n := Lib.hid (Box.below (by first | exact H_n.out | exact H_n.out.alloc _ | exact (H_n.out.alloc _).alloc _ | exact ((H_n.out.alloc _).alloc _).alloc _) hb_wm)
  obtain ⟨q_n_0, q_n_1, q_n_2⟩ := H_n.out.c3
  try clear q_t_0 q_t_1
  have H_t := Lib.hid (Box.below (by first | exact H_t.out | exact H_t.out.alloc _ | exact (H_t.out.alloc _).alloc _ | exact ((H_t.out.alloc _).alloc _).alloc _) hb_wm)
  obtain ⟨q_t_0, q_t_1⟩ := H_t.out.c2
  replace HSL := Lib.hid (show Sl wm _ _ _ _ _ _ by first | exact HSL.out.below hb_wm | exact (HSL.out.below (grew1 (Below.refl _ _))).below hb_wm | exact (HSL.out.below (grew2 (Below.refl _ _))).below hb_wm | exact (HSL.out.below (grew3 (Below.refl _ _))).below hb_wm)
  rw [HY.out]
  dsimp only
  clear HY
  go_wp2_with fail
  refine (room_any _ _ _ l _ _ _ _ (by first | exact HSL.out | exact HSL.out.below (grew1 (Below.refl _ _)) | exact HSL.out.below (grew2 (Below.refl _ _)) | exact HSL.out.below (grew3 (Below.refl _ _)))).mono ?_
  rintro e wn ⟨rfl, hb_wn⟩
  have HB_wn : Below w.heap.size w wn := by first | exact after0 HB_wm hb_wn | exact after1 HB_wm hb_wn | exact after2 HB_wm hb_wn | exact after3 HB_wm hb_wn | exact after4 HB_wm hb_wn | exact after5 HB_wm hb_wn
  try clear q_n_0 q_n_1 q_n_2
  have H_n := Lib.hid (Box.below (by first | exact H_n.out | exact H_n.out.alloc _ | exact (H_n.out.alloc _).alloc _ | exact ((H_n.out.alloc _).alloc _).alloc _) hb_wn)
  obtain ⟨q_n_0, q_n_1, q_n_2⟩ := H_n.out.c3
  try clear q_t_0 q_t_1
  have H_t := Lib.hid (Box.below (by first | exact H_t.out | exact H_t.out.alloc _ | exact (H_t.out.alloc _).alloc _ | exact ((H_t.out.alloc _).alloc _).alloc _) hb_wn)
  obtain ⟨q_t_0, q_t_1⟩ := H_t.out.c2
  replace HSL := Lib.hid (show Sl wn _ _ _ _ _ _ by first | exact HSL.out.below hb_wn | exact (HSL.out.below (grew1 (Below.refl _ _))).below hb_wn | exact (HSL.out.below (grew2 (Below.refl _ _))).below hb_wn | exact (HSL.out.below (grew3 (Below.refl _ _))).below hb_wn)
  obtain ⟨⟨o5, o6⟩, hy⟩ : ∃ y, room l a b now = y := ⟨_, rfl⟩
  have HY := Lib.hid hy
  rw [hy]
  dsimp only
  clear hy
  go_wp2_with fail
  refine (rroom_any _ _ _ l _ _ _ _ (by first | exact HSL.out | exact HSL.out.below (grew1 (Below.refl _ _)) | exact HSL.out.below (grew2 (Below.refl _ _)) | exact HSL.out.below (grew3 (Below.refl _ _)))).mono ?_
  rintro e wo ⟨rfl, hb_wo⟩
  have HB_wo : Below w.heap.size w wo := by first | exact after0 HB_wn hb_wo | exact after1 HB_wn hb_wo | exact after2 HB_wn hb_wo | exact after3 HB_wn hb_wo | exact after4 HB_wn hb_wo | exact after5 HB_wn hb_wo
  try clear q_n_0 q_n_1 q_n_2
  have H_n := Lib.hid (Box.below (by first | exact H_n.out | exact H_n.out.alloc _ | exact (H_n.out.alloc _).alloc _ | exact ((H_n.out.alloc _).alloc _).alloc _) hb_wo)
  obtain ⟨q_n_0, q_n_1, q_n_2⟩ := H_n.out.c3
  try clear q_t_0 q_t_1
  have H_t := Lib.hid (Box.below (by first | exact H_t.out | exact H_t.out.alloc _ | exact (H_t.out.alloc _).alloc _ | exact ((H_t.out.alloc _).alloc _).alloc _) hb_wo)
  obtain ⟨q_t_0, q_t_1⟩ := H_t.out.c2
  replace HSL := Lib.hid (show Sl wo _ _ _ _ _ _ by first | exact HSL.out.below hb_wo | exact (HSL.out.below (grew1 (Below.refl _ _))).below hb_wo | exact (HSL.out.below (grew2 (Below.refl _ _))).below hb_wo | exact (HSL.out.below (grew3 (Below.refl _ _))).below hb_wo)
  rw [HY.out]
  dsimp only
  clear HY
  go_wp2_with fail
  go_ret
  exact ⟨rfl, HB_wo⟩
end Go.Proofs.Ytecnbfgacojpjaa
