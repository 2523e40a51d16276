/-
  The reference functions of the layer 'clock' (R34): what each returns.
-/
import Derived.Test.YtpdecgbfnhaojaaGreatReuB
set_option linter.unusedVariables false
namespace Go.Proofs.YtpdecgbfnhaojaaGreat
open Go.RowKit Nb Sk Ck Go.Sort

theorem r34time_any (t : Int) (w : World) : Calls Tryz.prog 55 #[.int .i64 t] w (Ret w (.bool (tm t))) := by
  go_enter Tryz.func55, Tryz.ntmps55
  go_wp2
  all_goals
    go_ret
    refine ⟨ret_bool ?_, (Below.refl _ _)⟩
    simp [tm]; omega

theorem r34valid_any (c : Clk) (w : World) : Calls Tryz.prog 56 #[eC c] w (Ret w (.bool (okC c))) := by
  obtain ⟨a, b, d, e⟩ := c
  obtain ⟨W0, hW0, HB_W0, hZ, hn⟩ := boxes1 w [.int .i64 a, .int .i64 b, .int .i64 d, .int .i64 e] 27
  have H_n := Lib.hid hn
  clear hn hZ
  obtain ⟨q_n_0, q_n_1, q_n_2, q_n_3⟩ := H_n.out.c4
  go_enter Tryz.func56, Tryz.ntmps56
  go_wp2_with fail
  refine (r34time_any _ _).mono ?_
  rintro e wa ⟨rfl, hb_wa⟩
  have HB_wa : Below w.heap.size w wa := by first | exact after0 HB_W0 hb_wa | exact after1 HB_W0 hb_wa | exact after2 HB_W0 hb_wa | exact after3 HB_W0 hb_wa | exact after4 HB_W0 hb_wa | exact after5 HB_W0 hb_wa
  try clear q_n_0 q_n_1 q_n_2 q_n_3
  have H_n := Lib.hid (Box.below (by first | exact H_n.out | exact H_n.out.alloc _ | exact (H_n.out.alloc _).alloc _ | exact ((H_n.out.alloc _).alloc _).alloc _) hb_wa)
  obtain ⟨q_n_0, q_n_1, q_n_2, q_n_3⟩ := H_n.out.c4
  clear hW0
  obtain ⟨v, hv⟩ : ∃ v, tm a = v := ⟨_, rfl⟩
  have HV := Lib.hid hv
  rw [hv]
  clear hv
  cases v
  all_goals
    go_wp2_with fail
  all_goals
    go_ret
    refine ⟨ret_bool ?_, HB_wa⟩
    have := HV.out
    simp [tm] at this
    simp [okC]; omega

theorem r34reading_any (c : Clk) (r : Int) (w : World) : Calls Tryz.prog 82 #[eC c, .int .i64 r] w (Ret w (.bool (decide (c.at_ ≤ r ∧ r ≤ 10000000)))) := by
  obtain ⟨a, b, d, e⟩ := c
  go_enter Tryz.func82, Tryz.ntmps82
  go_wp2
  all_goals
    go_ret
    refine ⟨ret_bool ?_, grew1 (Below.refl _ _)⟩
    simp; try omega

theorem r34slip_any (c : Clk) (r : Int) (w : World) (h : okC c = true) (h1 : c.at_ ≤ r) (h2 : r ≤ 10000001) : Calls Tryz.prog 83 #[eC c, .int .i64 r] w (Ret w (.int .i64 (slip c r))) := by
  obtain ⟨b1, b2, b3, b4⟩ := slip_bd h h1 h2
  have ho := okC_iff.1 h
  obtain ⟨a, b, d, e⟩ := c
  dsimp only at *
  have HS := Lib.hid (show slip ⟨a, b, d, e⟩ r = e * (r - a) / 1000000 from rfl)
  generalize slip ⟨a, b, d, e⟩ r = s at *
  clear h
  go_enter Tryz.func83, Tryz.ntmps83
  go_wp2_with fail
  go_ret
  exact ⟨ret_int HS.out.symm, grew1 (Below.refl _ _)⟩


set_option maxRecDepth 100000 in
set_option maxHeartbeats 1000000 in
theorem r34low_any (c : Clk) (r : Int) (w : World) (h : okC c = true) (h1 : c.at_ ≤ r) (h2 : r ≤ 10000001) : Calls Tryz.prog 57 #[eC c, .int .i64 r] w (Ret w (.int .i64 (low c r))) := by
  obtain ⟨b1, b2, b3, b4⟩ := slip_bd h h1 h2
  have ho := okC_iff.1 h
  have HC := Lib.hid (fun W => r34slip_any c r W h h1 h2)
  obtain ⟨a, b, d, e⟩ := c
  dsimp only at *
  have HS := Lib.hid (show low ⟨a, b, d, e⟩ r = r + b - slip ⟨a, b, d, e⟩ r from rfl)
  generalize slip ⟨a, b, d, e⟩ r = s at *
  obtain ⟨W0, hW0, HB_W0, hZ, hn⟩ := boxes1 w [.int .i64 a, .int .i64 b, .int .i64 d, .int .i64 e] 27
  have H_n := Lib.hid hn
  clear hn hZ h b3 b4
  go_enter Tryz.func57, Tryz.ntmps57
  go_wp2_with fail
  obtain ⟨q_n_0, q_n_1, q_n_2, q_n_3⟩ := H_n.out.c4
  have y_q_n_0 := cell_regrown q_n_0
  have y_q_n_1 := cell_regrown q_n_1
  have y_q_n_2 := cell_regrown q_n_2
  have y_q_n_3 := cell_regrown q_n_3
  clear q_n_0 q_n_1 q_n_2 q_n_3
  clear hW0
  refine wp_region_plan (C := fun w' => ∃ p : Regrown, w' = grow (redrawn W0 p.d) p.os) (.q 0 (.q 1 (.q 2 (.q 3 (.q 4 (.q 5 (.q 6 (.e 7 (.q 8 (.q 9 (.done))))))))))) 10 (by kernel_rfl) (by kernel_rfl) (grew_drew _) ?_
  repeat (any_goals (first | (go_big_quiet_skip; refine wpQuiet_nil ?_) | (go_big_quiet_want; go_big_quiet_op; go_big_quiet_on; refine wpQuiet_nil ?_) | ((with_reducible apply q_split); exact rfl; intro q hq; cases q <;> (rw [hq]; (try first | replace hq := bnot_t hq | replace hq := bnot_f hq); (try first | replace hq := of_decide_eq_true hq | replace hq := of_decide_eq_false hq | replace hq := eq_of_beq hq); (try first | replace hq := Int.not_lt.1 hq | replace hq := Int.not_le.1 hq | replace hq := Nat.not_lt.1 hq | replace hq := Nat.not_le.1 hq); try (exfalso; omega))) | (refine plan_q rfl rfl ?_)))
  refine plan_e rfl ?_
  go_wp2_with fail
  refine (HC.out _).mono ?_
  rintro e w1 ⟨rfl, hb_w1⟩
  have HW_w1 : Below W0.heap.size W0 w1 := below_undrew hb_w1
  clear hb_w1
  go_wp2_with fail
  refine MixPost.intro (grew_of_below HW_w1) ?_
  repeat (any_goals (first | (go_big_quiet_skip; refine wpQuiet_nil ?_) | (go_big_quiet_want; go_big_quiet_op; go_big_quiet_on; refine wpQuiet_nil ?_) | ((with_reducible apply q_split); exact rfl; intro q hq; cases q <;> (rw [hq]; (try first | replace hq := bnot_t hq | replace hq := bnot_f hq); (try first | replace hq := of_decide_eq_true hq | replace hq := of_decide_eq_false hq | replace hq := eq_of_beq hq); (try first | replace hq := Int.not_lt.1 hq | replace hq := Int.not_le.1 hq | replace hq := Nat.not_lt.1 hq | replace hq := Nat.not_le.1 hq); try (exfalso; omega))) | (refine plan_q rfl rfl ?_)))
  clear y_q_n_0 y_q_n_1 y_q_n_2 y_q_n_3
  all_goals refine plan_done ?_
  all_goals (try simp only [List.drop_succ_cons, List.drop_zero])
  all_goals (try go_wp2_with fail)
  all_goals refine NoPanic.normal ?_
  all_goals (try go_wp2_with fail)
  go_ret
  exact ⟨ret_int HS.out.symm, after0 HB_W0 HW_w1⟩

set_option maxRecDepth 100000 in
set_option maxHeartbeats 1000000 in
theorem r34high_any (c : Clk) (r : Int) (w : World) (h : okC c = true) (h1 : c.at_ ≤ r) (h2 : r ≤ 10000001) : Calls Tryz.prog 58 #[eC c, .int .i64 r] w (Ret w (.int .i64 (high c r))) := by
  obtain ⟨b1, b2, b3, b4⟩ := slip_bd h h1 h2
  have ho := okC_iff.1 h
  have HC := Lib.hid (fun W => r34slip_any c r W h h1 h2)
  obtain ⟨a, b, d, e⟩ := c
  dsimp only at *
  have HS := Lib.hid (show high ⟨a, b, d, e⟩ r = r + d + slip ⟨a, b, d, e⟩ r from rfl)
  generalize slip ⟨a, b, d, e⟩ r = s at *
  obtain ⟨W0, hW0, HB_W0, hZ, hn⟩ := boxes1 w [.int .i64 a, .int .i64 b, .int .i64 d, .int .i64 e] 27
  have H_n := Lib.hid hn
  clear hn hZ h b3 b4
  go_enter Tryz.func58, Tryz.ntmps58
  go_wp2_with fail
  obtain ⟨q_n_0, q_n_1, q_n_2, q_n_3⟩ := H_n.out.c4
  have y_q_n_0 := cell_regrown q_n_0
  have y_q_n_1 := cell_regrown q_n_1
  have y_q_n_2 := cell_regrown q_n_2
  have y_q_n_3 := cell_regrown q_n_3
  clear q_n_0 q_n_1 q_n_2 q_n_3
  clear hW0
  refine wp_region_plan (C := fun w' => ∃ p : Regrown, w' = grow (redrawn W0 p.d) p.os) (.q 0 (.q 1 (.q 2 (.q 3 (.q 4 (.q 5 (.q 6 (.e 7 (.q 8 (.q 9 (.done))))))))))) 10 (by kernel_rfl) (by kernel_rfl) (grew_drew _) ?_
  repeat (any_goals (first | (go_big_quiet_skip; refine wpQuiet_nil ?_) | (go_big_quiet_want; go_big_quiet_op; go_big_quiet_on; refine wpQuiet_nil ?_) | ((with_reducible apply q_split); exact rfl; intro q hq; cases q <;> (rw [hq]; (try first | replace hq := bnot_t hq | replace hq := bnot_f hq); (try first | replace hq := of_decide_eq_true hq | replace hq := of_decide_eq_false hq | replace hq := eq_of_beq hq); (try first | replace hq := Int.not_lt.1 hq | replace hq := Int.not_le.1 hq | replace hq := Nat.not_lt.1 hq | replace hq := Nat.not_le.1 hq); try (exfalso; omega))) | (refine plan_q rfl rfl ?_)))
  refine plan_e rfl ?_
  go_wp2_with fail
  refine (HC.out _).mono ?_
  rintro e w1 ⟨rfl, hb_w1⟩
  have HW_w1 : Below W0.heap.size W0 w1 := below_undrew hb_w1
  clear hb_w1
  go_wp2_with fail
  refine MixPost.intro (grew_of_below HW_w1) ?_
  repeat (any_goals (first | (go_big_quiet_skip; refine wpQuiet_nil ?_) | (go_big_quiet_want; go_big_quiet_op; go_big_quiet_on; refine wpQuiet_nil ?_) | ((with_reducible apply q_split); exact rfl; intro q hq; cases q <;> (rw [hq]; (try first | replace hq := bnot_t hq | replace hq := bnot_f hq); (try first | replace hq := of_decide_eq_true hq | replace hq := of_decide_eq_false hq | replace hq := eq_of_beq hq); (try first | replace hq := Int.not_lt.1 hq | replace hq := Int.not_le.1 hq | replace hq := Nat.not_lt.1 hq | replace hq := Nat.not_le.1 hq); try (exfalso; omega))) | (refine plan_q rfl rfl ?_)))
  clear y_q_n_0 y_q_n_1 y_q_n_2 y_q_n_3
  all_goals refine plan_done ?_
  all_goals (try simp only [List.drop_succ_cons, List.drop_zero])
  all_goals (try go_wp2_with fail)
  all_goals refine NoPanic.normal ?_
  all_goals (try go_wp2_with fail)
  go_ret
  exact ⟨ret_int HS.out.symm, after0 HB_W0 HW_w1⟩


/-- what First returns -/
def isFst (c : Clk) (t : Int) (lo : Bool) (k : Int) : Prop := c.at_ ≤ k ∧ k ≤ 10000001 ∧ ∀ r, c.at_ ≤ r → r < 10000001 → (t ≤ (if lo then low c r else high c r) ↔ k ≤ r)

set_option maxRecDepth 100000 in
set_option maxHeartbeats 2000000 in
theorem r34first_any (c : Clk) (t k : Int) (lo : Bool) (w : World) (hc : okC c = true) (hk : isFst c t lo k) :
    Calls Tryz.prog 62 #[eC c, .int .i64 t, .bool lo] w (Ret w (.int .i64 k)) := by
  obtain ⟨b1, b2, _⟩ := okC_iff.1 hc
  obtain ⟨hk1, hk2, hk3⟩ := hk
  have HL := Lib.hid (fun r W h1 h2 => r34low_any c r W hc h1 h2)
  have HH := Lib.hid (fun r W h1 h2 => r34high_any c r W hc h1 h2)
  have HK := Lib.hid hk3
  clear hk3 hc
  obtain ⟨a, b, d, e⟩ := c
  dsimp only at *
  obtain ⟨L, hL⟩ : ∃ L, low ⟨a, b, d, e⟩ = L := ⟨_, rfl⟩
  obtain ⟨H, hH⟩ : ∃ H, high ⟨a, b, d, e⟩ = H := ⟨_, rfl⟩
  rw [hL] at HL HK
  rw [hH] at HH HK
  clear hL hH
  obtain ⟨W0, hW0, HB_W0, hZ, hn⟩ := boxes1 w [.int .i64 a, .int .i64 b, .int .i64 d, .int .i64 e] 27
  have H_n := Lib.hid hn
  clear hn hZ
  obtain ⟨q_n_0, q_n_1, q_n_2, q_n_3⟩ := H_n.out.c4
  go_enter Tryz.func62, Tryz.ntmps62
  go_wp2_with fail
  clear hW0 q_n_0 q_n_1 q_n_2 q_n_3
  go_loopw [7, 8] (fun i j wr => ∃ x y : Int, i = .int .i64 x ∧ j = .int .i64 y ∧ a - 1 ≤ x ∧ x < k ∧ k ≤ y ∧ y ≤ 10000001 ∧ Below W0.heap.size W0 wr) (fun i j _ => (match i, j with | .int _ x, .int _ y => (y - x).toNat | _, _ => 0))
  case atStart => exact ⟨a - 1, 10000001, rfl, rfl, by omega, by omega, hk2, by omega, Below.refl _ _⟩
  case round =>
    obtain ⟨x, y, rfl, rfl, hax, hxk, hky, hy, HB_wr⟩ := hrel
    have HB_wr' : Below w.heap.size w wr := after0 HB_W0 HB_wr
    by_cases hab : 1 < y - x
    · have h1 : x < (x + y) / 2 ∧ (x + y) / 2 < y := by omega
      obtain ⟨h1a, h1b⟩ := h1
      have HM := Lib.hid (HK.out ((x + y) / 2) (by omega) (by omega))
      have HH1 := Lib.hid (fun W => HH.out ((x + y) / 2) W (by omega) (by omega))
      have HL1 := Lib.hid (fun W => HL.out ((x + y) / 2) W (by omega) (by omega))
      replace H_n := Lib.hid (H_n.out.below HB_wr)
      clear HH HL HK
      obtain ⟨q_n_0, q_n_1, q_n_2, q_n_3⟩ := H_n.out.c4
      go_wp2_with fail
      refine (HH1.out _).mono ?_
      rintro e w2 ⟨rfl, hb2⟩
      have HB_w2 := after0 HB_wr hb2
      replace H_n := Lib.hid (H_n.out.below hb2)
      clear hb2 q_n_0 q_n_1 q_n_2 q_n_3
      obtain ⟨q_n_0, q_n_1, q_n_2, q_n_3⟩ := H_n.out.c4
      generalize (x + y) / 2 = m at *
      generalize H m = hm at *
      generalize L m = lm at *
      cases lo
      · have HM2 := Lib.hid (show t ≤ hm ↔ k ≤ m from HM.out)
        by_cases hh : t ≤ hm
        · have hkm := HM2.out.1 hh
          go_wp2_with fail
          go_roundw
          case rel => exact ⟨x, m, rfl, rfl, by omega, by omega, by omega, by omega, HB_w2⟩
          case measure => simp; omega
        · have hkm : m < k := by have := HM2.out; omega
          replace hh := Int.not_le.1 hh
          go_wp2_with fail
          go_roundw
          case rel => exact ⟨m, y, rfl, rfl, by omega, by omega, by omega, by omega, HB_w2⟩
          case measure => simp; omega
      · have HM2 := Lib.hid (show t ≤ lm ↔ k ≤ m from HM.out)
        go_wp2_with fail
        refine (HL1.out _).mono ?_
        rintro e w3 ⟨rfl, hb3⟩
        have HB_w3 := after0 HB_w2 hb3
        clear hb3 q_n_0 q_n_1 q_n_2 q_n_3
        by_cases hh : t ≤ lm
        · have hkm := HM2.out.1 hh
          go_wp2_with fail
          go_roundw
          case rel => exact ⟨x, m, rfl, rfl, by omega, by omega, by omega, by omega, HB_w3⟩
          case measure => simp; omega
        · have hkm : m < k := by have := HM2.out; omega
          replace hh := Int.not_le.1 hh
          go_wp2_with fail
          go_roundw
          case rel => exact ⟨m, y, rfl, rfl, by omega, by omega, by omega, by omega, HB_w3⟩
          case measure => simp; omega
    · have h1 : k = y := by omega
      subst h1
      go_wp2_with fail
      go_ret
      exact ⟨rfl, HB_wr'⟩
end Go.Proofs.YtpdecgbfnhaojaaGreat
